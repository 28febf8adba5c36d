/-
  The clean machine, and what the law's functions do in it: part I of this claim's own texts. No conditions.
-/
import Derived.Test.YtncmoaggkdlkhaaGreatCmH
import Derived.Test.YtncmoaggkdlkhaaGreatCmF
namespace Go.Proofs.YtncmoaggkdlkhaaGreat.Cm
open Go.RowKit Go.IntWalk
attribute [local irreducible] Heap.set Heap.new Heap.kill Heap.get Heap.room Cal WP
theorem hmay_cal {va vm vk : CVal} {A : List Int} {M K : List (List Int)} {h : Heap} {Q : CVal → Heap → Prop} (ha : RIn h va A) (hm : RRows h vm M) (hk : RRows h vk K) (la : A.length ≤ 1000000000) (k : Q (.bool (rowsU A M K)) h) : Cal tt 59 [va, vm, vk] h Q := by
 refine Cal.run rfl rfl rfl rfl ?_
 by_cases h6 : A.length ≤ 6
 rotate_left
 ·rw [show rowsU A M K = false by simp [rowsU, h6]] at k
  (repeat' first | refine go ?_ | refine idxS_ fun _ _ _ => ?_ | refine sp (fun _ => ?_) fun _ => ?_ | fail)
  exact k
 cases mA : mayU A
 ·rw [show rowsU A M K = false by simp [rowsU, mA]] at k
  (repeat' first | refine go ?_ | (refine CALLN.of (is_cal ha la ?_)) | (refine BC.no (by rw [mA, Bool.and_false]) ?_) | refine idxS_ fun _ _ _ => ?_ | refine sp (fun _ => ?_) fun _ => ?_ | fail)
  exact k
 by_cases hl : M.length = K.length
 rotate_left
 ·rw [show rowsU A M K = false by simp [rowsU, hl]] at k
  (repeat' first | refine go ?_ | (refine CALLN.of (is_cal ha la ?_)) | (refine BC.yes (by rw [mA, Bool.and_true]; exact decide_eq_true (by omega)) ?_) | (refine hm.lenS ?_) | (refine hk.lenS ?_) | refine idxS_ fun _ _ _ => ?_ | refine sp (fun _ => ?_) fun _ => ?_ | fail)
  exact k
 by_cases h32 : M.length ≤ 32
 rotate_left
 ·rw [show rowsU A M K = false by simp [rowsU, hl]; intro _ _ h; omega] at k
  (repeat' first | refine go ?_ | (refine CALLN.of (is_cal ha la ?_)) | (refine BC.yes (by rw [mA, Bool.and_true]; exact decide_eq_true (by omega)) ?_) | (refine hm.lenS ?_) | (refine hk.lenS ?_) | refine idxS_ fun _ _ _ => ?_ | refine sp (fun _ => ?_) fun _ => ?_ | fail)
  exact k
 rw [show rowsU A M K = allJ M.length fun j => rowOk A.length (rowU M j) && rowOk A.length (rowU K j) by simp [rowsU, h6, mA, hl, show K.length ≤ 32 by omega]] at k
 (repeat' first | refine go ?_ | (refine CALLN.of (is_cal ha la ?_)) | (refine BC.yes (by rw [mA, Bool.and_true]; exact decide_eq_true (by omega)) ?_) | (refine hm.lenS ?_) | (refine hk.lenS ?_) | refine idxS_ fun _ _ _ => ?_ | refine sp (fun _ => ?_) fun _ => ?_ | fail)
 refine loopC (fun j : Nat => [(1, vm), (2, vk), (7, .int .i64 A.length), (32, .int .i64 M.length), (33, .int .i64 j)]) (fun j h' => h' = h ∧ j ≤ M.length ∧ ∀ p, p < j → (rowOk A.length (rowU M p) && rowOk A.length (rowU K p)) = true) (fun j => M.length - j) 0 ⟨rfl, rfl, rfl, rfl, rfl, trivial⟩ ⟨rfl, Nat.zero_le _, fun p hp => by omega⟩ ?_
 rintro j ρ h' ⟨rfl, hj, hx⟩
 by_cases hjl : j < M.length
 rotate_left
 ·rw [allJ_iff.2 fun p hp => hx p (by omega)] at k
  (repeat' first | refine go ?_ | refine idxS_ fun _ _ _ => ?_ | refine sp (fun _ => ?_) fun _ => ?_ | fail)
  exact k
 have l4 := hm.row hjl
 have l5 := hk.row (j := j) (by omega)
 have ej : (j : Int).toNat = j := Int.toNat_natCast j
 (repeat' first | refine go ?_ | ((refine hm.idxS (by omega) fun b o w r4 g4 => ?_; rw [ej] at r4)) | refine idxS_ fun _ _ _ => ?_ | refine sp (fun _ => ?_) fun _ => ?_ | fail)
 refine CALLN.of (is_cal r4 l4 ?_)
 cases c1 : rowOk A.length (rowU M j)
 ·rw [allJ_no hjl (by rw [c1, Bool.false_and])] at k
  (repeat' first | refine go ?_ | (refine BC.no (by rw [rowOk_int (m := A.length) (by omega)]; exact c1) ?_) | refine idxS_ fun _ _ _ => ?_ | refine sp (fun _ => ?_) fun _ => ?_ | fail)
  exact k
 (repeat' first | refine go ?_ | (refine BC.yes (by rw [rowOk_int (m := A.length) (by omega)]; exact c1) ?_) | ((refine hk.idxS (by omega) fun b o w r5 g5 => ?_; rw [ej] at r5)) | refine idxS_ fun _ _ _ => ?_ | refine sp (fun _ => ?_) fun _ => ?_ | fail)
 refine CALLN.of (is_cal r5 l5 ?_)
 cases c2 : rowOk A.length (rowU K j)
 ·rw [allJ_no hjl (by rw [c2, Bool.and_false])] at k
  (repeat' first | refine go ?_ | (refine BC.no (by rw [rowOk_int (m := A.length) (by omega)]; exact c2) ?_) | refine idxS_ fun _ _ _ => ?_ | refine sp (fun _ => ?_) fun _ => ?_ | fail)
  exact k
 (repeat' first | refine go ?_ | (refine BC.yes (by rw [rowOk_int (m := A.length) (by omega)]; exact c2) ?_) | refine idxS_ fun _ _ _ => ?_ | refine sp (fun _ => ?_) fun _ => ?_ | fail)
 exact ⟨rfl, j + 1, ⟨rfl, rfl, rfl, rfl, rfl, trivial⟩, ⟨rfl, by omega, fun p h1 => by
  rcases Nat.lt_or_ge p j with h4 | h4
  ·exact hx p h4
  ·obtain rfl : p = j := by omega
   rw [c1, c2]; rfl⟩, by omega⟩
theorem hadd_cal {h₀ h : Heap} {vt w : CVal} {W R : List Int} {n : Nat} {Q : CVal → Heap → Prop} (x : Exd h₀ h) (t : WSl h₀ h vt W) (r : RIn h₀ w R) (hl : R.length = W.length) (lw : W.length ≤ 6) (mr : mayU R = true) (wd : Wide W n) (hn : n ≤ 1000)
 (k : ∀ h', Exd h₀ h' → WSl h₀ h' vt (addU W R) → Upd (isB vt) h h' → Q (.tuple []) h') : Cal tt 62 [vt, w] h Q := by
 refine Cal.run rfl rfl rfl rfl ?_
 (repeat' first | refine go ?_ | refine idxS_ fun _ _ _ => ?_ | refine sp (fun _ => ?_) fun _ => ?_ | fail)
 refine loopC (fun j : Nat => [(0, vt), (6, w), (7, .int .i64 R.length), (8, .int .i64 j)]) (fun j h' => Exd h₀ h' ∧ Upd (isB vt) h h' ∧ j ≤ W.length ∧ WSl h₀ h' vt (ofJ W.length (upTo j (fun p => atU W p + atU R p) (atU W)))) (fun j => W.length - j) 0 ⟨rfl, rfl, rfl, rfl, trivial⟩ ⟨x, Upd.refl _ _, Nat.zero_le _, by rw [upTo_zero, ofJ_atU]; exact t⟩ ?_
 rintro j ρ h' ⟨x0, u, hj, hw⟩
 have lw' : (ofJ W.length (upTo j (fun p => atU W p + atU R p) (atU W))).length = W.length := ofJ_length _ _
 by_cases hjl : j < W.length
 rotate_left
 ·obtain rfl : j = W.length := by omega
  rw [upTo_all] at hw
  (repeat' first | refine go ?_ | refine idxS_ fun _ _ _ => ?_ | refine sp (fun _ => ?_) fun _ => ?_ | fail)
  exact k _ x0 hw u
 have b2 := mayU_atU mr j
 have b3 := wd j
 have r1' := r.exd x0
 have gj : ∀ R : List Int, R.getD (j : Int).toNat 0 = atU R j := fun R => by rw [Int.toNat_natCast]; rfl
 have au := atU_upTo (f := fun p => atU W p + atU R p) (g := atU W) hjl
 have aj := at_atU (W := ofJ W.length (upTo j (fun p => atU W p + atU R p) (atU W))) (j := j) (by omega)
 rw [au] at aj
 (repeat' first | refine go ?_ | ((refine WSl.idxS hw rfl (by omega) fun b opn e s2 s3 g r => ?_)) | ((refine RIn.idxS r1' (by omega) fun b o g => ?_; rw [gj] at g)) | (refine AT.of aj ?_) | refine idxS_ fun _ _ _ => ?_ | refine sp (fun _ => ?_) fun _ => ?_ | fail)
 refine ⟨rfl, j + 1, ⟨rfl, rfl, rfl, rfl, trivial⟩, ⟨Exd.set x0 (by omega), Upd.set u (.inl ⟨_, _, _, by assumption⟩), by omega, ?_⟩, by omega⟩
 rw [← ofJ_set hjl]
 exact WSl.put (by assumption) (by assumption) (by assumption) (by assumption)
def OutR (h : Heap) (v : CVal) (L : List Int) : Prop :=
 (v = .nilSlice ∧ L = []) ∨ ∃ b c cs opn, v = .slice b 0 L.length c ∧ L.length ≤ c ∧ cs.length = c ∧ cs.take L.length = L.map (.int .i64) ∧ h.get b = some (.cells cs true opn) ∧ (opn = none ∨ opn = some 1)
theorem OutR.rin {h : Heap} {v : CVal} {L : List Int} (s : OutR h v L) (hb : ∀ b, isB v b → b < h.next) : RIn h v L := by
 rcases s with s | ⟨b, c, cs, opn, rfl, h1, h2, h3, g, _⟩
 ·exact .inl s
 ·refine .inr ⟨b, 0, c, rfl, hb b (isB_slice.2 rfl), .inr ⟨cs, _, _, g, fun j hj => ?_⟩⟩
  have := congrArg (fun l : List CVal => l[j]?) h3
  simpa [List.getElem?_take, hj] using this
theorem OutR.one {h : Heap} {v : CVal} {L : List Int} (s : OutR h v L) : v.one = true := by
 rcases s with ⟨rfl, _⟩ | ⟨b, c, cs, opn, rfl, _⟩ <;> rfl
theorem OutR.frame {h h' : Heap} {v : CVal} {L : List Int} (s : OutR h v L) (e : ∀ b, isB v b → h'.get b = h.get b) : OutR h' v L := by
 rcases s with s | ⟨b, c, cs, opn, rfl, h1, h2, h3, g, r⟩
 ·exact .inl s
 ·exact .inr ⟨b, c, cs, opn, rfl, h1, h2, h3, (e b (isB_slice.2 rfl)).trans g, r⟩
theorem OutR.push {h : Heap} {v src : CVal} {L : List Int} {x : Int} {N : Nat} (s : OutR h v L) (hb : ∀ b, isB v b → b < h.next) (hx : srcC h 1 src = some (1, [.int .i64 x])) (hl : L.length ≤ 1000000) (hN : h.next = N) :
 ∃ v' h2, appendC h 1 8 v src = some (v', h2) ∧ Upd (isB v) h h2 ∧ h2.next ≤ N + 1 ∧ OutR h2 v' (L ++ [x]) ∧ ∀ b, isB v' b → (isB v b ∨ b = N) ∧ b < h2.next := by
 subst hN
 rcases s with ⟨rfl, rfl⟩ | ⟨b, c, cs, opn, rfl, h1, h2, h3, g, r⟩
 ·refine ⟨.slice h.next 0 1 1, h.new (.cells [.int .i64 x] true (some 1)), ?_, Upd.new (Upd.refl _ _), by rw [Heap.next_new]; omega, .inr ⟨h.next, 1, _, _, rfl, Nat.le_refl _, rfl, rfl, Heap.new_at rfl rfl, .inr rfl⟩, fun b hb => by rw [isB_slice] at hb; rw [Heap.next_new]; exact ⟨.inr hb, by omega⟩⟩
  unfold appendC
  simp [hx, CVal.one]
 ·by_cases hc : L.length + 1 ≤ c
  ·refine ⟨.slice b 0 (L.length + 1) c, h.set b (.cells (putCells cs L.length [.int .i64 x]) true opn), ?_, Upd.set (Upd.refl _ _) (.inl (isB_slice.2 rfl)), by rw [Heap.next_set]; omega, .inr ⟨b, c, _, opn, by simp, by simpa using hc, by rw [putCells_length]; exact h2, ?_, Heap.set_at rfl, r⟩, fun b' hb' => ?_⟩
   ·unfold appendC
    simp only [hx, List.all_cons, List.all_nil, CVal.one, Bool.and_self, if_true, g]
    rw [if_neg (by omega), if_pos hc, if_pos ⟨trivial, by omega⟩]
    simp
   ·simp only [putCells, List.length_append, List.length_singleton, List.map_append, List.map_cons, List.map_nil]
    rw [List.take_add_one, List.take_set_of_le (Nat.le_refl _), h3, List.getElem?_set]
    simp [h2]; omega
   ·rw [isB_slice] at hb' ⊢
    rw [Heap.next_set]
    exact ⟨.inl hb', by rw [hb']; exact hb b (isB_slice.2 rfl)⟩
  ·have hcl : c = L.length := by omega
   subst hcl
   have e : cs = L.map (.int .i64) := by rw [← h3, ← h2, List.take_length]
   subst e
   obtain ⟨h5, ea, en, eg, ef⟩ := appendC_sl (h := h) (v := .slice b 0 L.length L.length) (sz := 1) (bytes := 8) (m := L.length) (cs := L.map (.int .i64)) (.inr ⟨b, true, opn, rfl, by simp, g, r.imp id fun e => ⟨e, rfl⟩⟩) hx (by omega) rfl (by omega)
   refine ⟨_, _, ea, ⟨by omega, fun i hi hs => ef i hi fun o l c e => hs ⟨o, l, c, e⟩⟩, by omega, .inr ⟨h.next, L.length + 1, L.map (.int .i64) ++ [.int .i64 x], some 1, by simp, by simp, by simp, ?_, eg, .inr rfl⟩, fun b' hb' => ?_⟩
   ·rw [List.take_of_length_le (by simp)]; simp
   ·rw [isB_slice] at hb'; exact ⟨.inr hb', by omega⟩
theorem OPN.clearN {N : Nat} {ρ : Env} {h : Heap} {zero : List CVal} {X : CX} {K : CVal → Heap → Prop} (hx : X.on N ρ = .nilSlice) (k : K .un h) : OPN N (.clear zero X) ρ h K := .mk (v := .un) (h' := h) (by simp only [cop, CX.on_ev, hx]) k
theorem OPN.clear0 {N : Nat} {ρ : Env} {h : Heap} {zero : List CVal} {X : CX} {b o c : Nat} {K : CVal → Heap → Prop} (hx : X.on N ρ = .slice b o 0 c) (k : K .un h) : OPN N (.clear zero X) ρ h K := .mk (v := .un) (h' := h) (by simp only [cop, CX.on_ev, hx, if_true]) k
theorem OPN.clearS {N : Nat} {ρ : Env} {h : Heap} {zero : List CVal} {X : CX} {b o l c : Nat} {vs : List CVal} {opn : Option Nat} {K : CVal → Heap → Prop} (hx : X.on N ρ = .slice b o l c) (hl : 0 < l) (g : h.get b = some (.cells vs true opn)) (ho : o + l * zero.length ≤ vs.length) (k : K .un (h.set b (.cells (putCells vs o (repC l zero)) true opn))) : OPN N (.clear zero X) ρ h K :=
 .mk (v := .un) (h' := h.set b (.cells (putCells vs o (repC l zero)) true opn)) (by simp only [cop, CX.on_ev, hx, if_neg (Nat.ne_of_gt hl), g, if_pos ho]) k
theorem OutR.clear {N : Nat} {ρ : Env} {h : Heap} {X : CX} {v : CVal} {L : List Int} {K : CVal → Heap → Prop} (s : OutR h v L) (hx : X.on N ρ = v) (k : ∀ h' L', L'.length = L.length → OutR h' v L' → Upd (isB v) h h' → h'.next = h.next → K .un h') : OPN N (.clear [.int .i64 0] X) ρ h K := by
 have s' := s
 rcases s with ⟨rfl, rfl⟩ | ⟨b, c, cs, opn, rfl, h1, h2, h3, g, r⟩
 ·exact OPN.clearN hx (k h [] rfl s' (Upd.refl _ _) rfl)
 ·by_cases hl : L.length = 0
  ·rw [hl] at hx
   exact OPN.clear0 hx (k h L rfl s' (Upd.refl _ _) rfl)
  ·refine OPN.clearS hx (by omega) g (by simp; omega) (k _ (ofJ L.length fun _ => 0) (ofJ_length _ _) ?_ (Upd.set (Upd.refl _ _) (.inl (isB_slice.2 rfl))) (Heap.next_set ..))
   refine .inr ⟨b, c, _, opn, by rw [ofJ_length], by rw [ofJ_length]; exact h1, by rw [putCells_length]; exact h2, ?_, Heap.set_at rfl, r⟩
   rw [repC_int, ofJ_length]
   have : ∀ (us vs : List CVal) (o : Nat), o + us.length ≤ vs.length → (putCells vs o us).take (o + us.length) = vs.take o ++ us := by
    intro us
    induction us with
    | nil => intro vs o h; simp [putCells]
    | cons u us ih =>
      intro vs o h
      rw [List.length_cons] at h
      rw [putCells, List.length_cons, show o + (us.length + 1) = o + 1 + us.length by omega, ih _ _ (by rw [List.length_set]; omega)]
      rw [List.take_add_one, List.take_set_of_le (Nat.le_refl _), List.getElem?_set]
      simp [show o < vs.length by omega]
   have := this ((ofJ L.length fun _ => 0).map (.int .i64)) cs 0 (by rw [List.length_map, ofJ_length]; omega)
   rw [List.length_map, ofJ_length, Nat.zero_add] at this
   rw [this]; simp
structure RI where
 po : Nat
 ph : Nat
 pl : Nat
 pk : Nat
 pt : Nat
 pr : Nat
 ml : Nat
def RI.caps (I : RI) : List CVal := [.ptr I.po 0, .ptr I.ph 0, .ptr I.pl 0, .ptr I.pk 0, .ptr I.pt 0, .ptr I.pr 0]
structure RS (h₀ h : Heap) (I : RI) (vm vk vt vo : CVal) (n : Nat) (W : List Int) (G : List Nat) (O : List Nat) (LL : List (Int × CVal)) : Prop where
 x : Exd h₀ h
 o : h₀.next ≤ I.ph ∧ I.ph < I.pk ∧ I.pk < I.pt ∧ I.pt < I.ml ∧ I.ml < I.pl ∧ I.pl < I.po ∧ I.po < I.pr ∧ I.pr < h.next
 vtb : ∀ b, isB vt b → I.pk < b ∧ b < I.pt
 vob : ∀ b, isB vo b → I.pr < b ∧ b < h.next
 gh : h.get I.ph = some (.cells [vm] true none)
 gk : h.get I.pk = some (.cells [vk] true none)
 gt : h.get I.pt = some (.cells [vt] true none)
 gl : h.get I.pl = some (.cells [.map I.ml] true none)
 go : h.get I.po = some (.cells [vo] true none)
 gr : h.get I.pr = some (.cells [.func 60 [] I.caps] true none)
 t : WSl h₀ h vt W
 m : MapAt h I.ml keyI LL
 l : ∀ i : Nat, i < n → lookA (i : Int) LL = some (.bool (!G.contains i))
 u : OutR h vo (nats O)
theorem RS.upd {h₀ h h' : Heap} {I : RI} {vm vk vt vo : CVal} {n : Nat} {W : List Int} {G O : List Nat} {LL : List (Int × CVal)} (R : RS h₀ h I vm vk vt vo n W G O LL) {S : Nat → Prop} (u : Upd S h h') (hs : ∀ i, ¬ S i) : RS h₀ h' I vm vk vt vo n W G O LL := by
 have e : ∀ i, i < h.next → h'.get i = h.get i := fun i hi => u.get i hi (hs i)
 obtain ⟨x, o, vtb, vob, gh, gk, gt, gl, go, gr, t, m, l, uu⟩ := R
 exact ⟨x.trans ⟨u.le, e⟩, ⟨o.1, o.2.1, o.2.2.1, o.2.2.2.1, o.2.2.2.2.1, o.2.2.2.2.2.1, o.2.2.2.2.2.2.1, Nat.lt_of_lt_of_le o.2.2.2.2.2.2.2 u.le⟩, vtb, fun b hb => ⟨(vob b hb).1, Nat.lt_of_lt_of_le (vob b hb).2 u.le⟩, (e _ (by omega)).trans gh, (e _ (by omega)).trans gk, (e _ (by omega)).trans gt, (e _ (by omega)).trans gl, (e _ (by omega)).trans go, (e _ (by omega)).trans gr, t.exd ⟨u.le, e⟩, m.of_get (e _ (by omega)), l, uu.frame fun b hb => e b (vob b hb).2⟩
theorem nats_append (D : List Nat) (i : Nat) : nats (D ++ [i]) = nats D ++ [(i : Int)] := by simp [nats]
theorem leftU_succ {j : Nat} {G : List Nat} : leftU (j + 1) G = if G.contains j = true then leftU j G else leftU j G ++ [j] := by
 rw [leftU, List.range_succ, List.filter_append]
 cases h : G.contains j
 ·rw [List.filter_cons, h]; simp [leftU]
 ·rw [List.filter_cons, h]; simp [leftU]
theorem leftU_push {j i : Nat} {G : List Nat} (h : j ≤ i) : leftU j (G ++ [i]) = leftU j G := by
 refine List.filter_congr fun p hp => ?_
 have := List.mem_range.1 hp
 have : p ≠ i := by omega
 simp [List.contains_eq_mem, this]
theorem leftU_len {j : Nat} {G : List Nat} : (leftU j G).length ≤ j := by
 have := List.length_filter_le (fun i => !G.contains i) (List.range j)
 simpa [leftU] using this
set_option maxHeartbeats 4000000 in
theorem reduce_cal {h₀ : Heap} {I : RI} {vm vk : CVal} {H Aq : List (List Int)} (hm : RRows h₀ vm H) (hk : RRows h₀ vk Aq) {N : Nat} (h6 : N ≤ 6) (h32 : H.length ≤ 32) (hq : Aq.length = H.length) (hr : ∀ j, j < H.length → rowOk N (rowU H j) = true ∧ rowOk N (rowU Aq j) = true) :
 ∀ {m : Nat} {h : Heap} {vt vo : CVal} {W : List Int} {G O : List Nat} {LL : List (Int × CVal)} {Q : CVal → Heap → Prop}, RS h₀ h I vm vk vt vo H.length W G O LL → W.length = N → G.Nodup → (∀ g ∈ G, g < H.length) → Wide W G.length → H.length + 1 ≤ G.length + m →
  (∀ h' vo', Exd h₀ h' → h'.get I.po = some (.cells [vo'] true none) → (∀ b, isB vo' b → I.pr < b ∧ b < h'.next) → OutR h' vo' (nats (leftU H.length (goneU H Aq H.length m W G))) → Q (.tuple []) h') → Cal tt 60 I.caps h Q
 | 0, h, vt, vo, W, G, O, LL, Q, R, lw, nd, hg, wd, hm', k => by
   have := nodup_lt nd hg
   omega
 | m + 1, h, vt, vo, W, G, O, LL, Q, R, lw, nd, hg, wd, hm', k => by
   have R' := R
   obtain ⟨x, o, hvt, hvo, gh, gk, gt, gl, go_, gr, t, mm, l, u⟩ := R
   refine Cal.run rfl rfl rfl rfl ?_
   (repeat' first | refine go ?_ | refine idxS_ fun _ _ _ => ?_ | refine sp (fun _ => ?_) fun _ => ?_ | fail)
   refine u.clear rfl fun h1 L1 e1 u1 x1 n1 => ?_
   have e1 : ∀ i, i ≤ I.pr → h1.get i = h.get i := fun i hi => x1.get i (by omega) fun hb => by have := hvo i hb; omega
   have go1 := (e1 I.po (by omega)).trans go_
   have gh1 := (e1 I.ph (by omega)).trans gh
   obtain ⟨v2, u2, b2, hv2⟩ : ∃ v2, OutR h1 v2 [] ∧ (∀ b, isB v2 b ↔ isB vo b) ∧ ∀ K : CVal → Prop, K v2 → slcS 1 vo none (some (.int .i64 0)) K := by
    obtain ⟨v2, a1, a2, a3⟩ : ∃ v2, OutR h1 v2 [] ∧ (∀ b, isB v2 b ↔ isB vo b) ∧ ∀ K : CVal → Prop, K v2 → slcS 1 vo none (some (.int .i64 0)) K := by
     rcases u1 with ⟨rfl, rfl⟩ | ⟨b, c, cs, opn, rfl, h1, h2, h3, g, r⟩
     ·exact ⟨_, .inl ⟨rfl, rfl⟩, fun _ => Iff.rfl, fun K q => .mk (bounds0 (q := 0) rfl (Nat.zero_le _)) q⟩
     ·exact ⟨_, .inr ⟨b, c, cs, opn, rfl, Nat.zero_le _, h2, by simp, g, r⟩, fun i => by rw [isB_slice, isB_slice], fun K q => .mk (bounds0 (q := 0) rfl (Nat.zero_le _)) q⟩
    exact ⟨v2, a1, a2, a3⟩
   have o2 := u2.one
   (repeat' first | refine go ?_ | (refine hv2 _ ?_) | refine idxS_ fun _ _ _ => ?_ | refine sp (fun _ => ?_) fun _ => ?_ | fail)
   have x01 : Exd h₀ h1 := ⟨by rw [n1]; exact x.le, fun i hi => (e1 i (by omega)).trans (x.get i hi)⟩
   have R2 : RS h₀ (h1.set I.po (.cells [v2] true none)) I vm vk vt v2 H.length W G [] LL := by
    have e2 : ∀ i, i ≤ I.pr → i ≠ I.po → (h1.set I.po (.cells [v2] true none)).get i = h.get i := fun i hi hne => (Heap.get_set_ne _ _ _ _ hne).trans (e1 i hi)
    refine ⟨Exd.set x01 (by omega), ⟨o.1, o.2.1, o.2.2.1, o.2.2.2.1, o.2.2.2.2.1, o.2.2.2.2.2.1, o.2.2.2.2.2.2.1, by rw [Heap.next_set]; omega⟩, hvt, fun b hb => by rw [Heap.next_set, n1]; exact hvo b ((b2 b).1 hb), (e2 _ (by omega) (by omega)).trans gh, (e2 _ (by omega) (by omega)).trans gk, (e2 _ (by omega) (by omega)).trans gt, (e2 _ (by omega) (by omega)).trans gl, Heap.set_at rfl, (e2 _ (by omega) (by omega)).trans gr, ?_, mm.of_get (e2 _ (by omega) (by omega)), l, u2.frame fun b hb => Heap.get_set_ne _ _ _ _ (by have := hvo b ((b2 b).1 hb); omega)⟩
    exact t.frame (by rw [Heap.next_set]; omega) fun i o hb g _ => (e2 i (by have := hvt i hb; omega) (by have := hvt i hb; omega)).trans g
   (repeat' first | refine go ?_ | (refine hm.lenS ?_) | refine idxS_ fun _ _ _ => ?_ | refine sp (fun _ => ?_) fun _ => ?_ | fail)
   refine loopC (fun y : Nat × CVal × List Int × List Nat × List (Int × CVal) => [(0, .ptr I.po 0), (1, .ptr I.ph 0), (2, .ptr I.pl 0), (3, .ptr I.pk 0), (4, .ptr I.pt 0), (5, .ptr I.pr 0), (6, .bool (decide (G.length < y.2.2.2.1.length))), (12, .int .i64 H.length), (13, .int .i64 y.1)]) (fun y h' => RS h₀ h' I vm vk vt y.2.1 H.length y.2.2.1 y.2.2.2.1 (leftU y.1 y.2.2.2.1) y.2.2.2.2 ∧ y.1 ≤ H.length ∧ passU H Aq H.length (H.length - y.1) y.2.2.1 y.2.2.2.1 = passU H Aq H.length H.length W G ∧ y.2.2.2.1.Nodup ∧ (∀ g ∈ y.2.2.2.1, g < H.length) ∧ Wide y.2.2.1 y.2.2.2.1.length ∧ y.2.2.1.length = N ∧ G.length ≤ y.2.2.2.1.length) (fun y => H.length - y.1) (0, v2, W, G, LL) ⟨rfl, rfl, rfl, rfl, rfl, rfl, by rw [decide_eq_false (Nat.lt_irrefl _)]; rfl, rfl, rfl, trivial⟩ ⟨R2, Nat.zero_le _, rfl, nd, hg, wd, lw, Nat.le_refl _⟩ ?_
   rintro ⟨j, vo', W', G', LL'⟩ ρ h' ⟨R3, hj, hp, nd', hg', wd', lw', hG⟩
   simp only at R3 hj hp nd' hg' wd' lw' hG ⊢
   have R3' := R3
   obtain ⟨x3, o3, hvt3, hvo3, gh3, gk3, gt3, gl3, go3, gr3, t3, mm3, l3, u3⟩ := R3
   have g32 := nodup_lt nd' hg'
   by_cases hjl : j < H.length
   rotate_left
   ·obtain rfl : j = H.length := by omega
    rw [Nat.sub_self] at hp
    have hp' : passU H Aq H.length H.length W G = (W', G') := hp.symm
    by_cases hsame : G.length < G'.length
    ·rw [goneU_more (by rw [hp']; show G'.length ≠ G.length; omega), hp'] at k
     (repeat' first | refine go ?_ | (refine BC.yes (decide_eq_true hsame) ?_) | refine idxS_ fun _ _ _ => ?_ | refine sp (fun _ => ?_) fun _ => ?_ | fail)
     refine CALLN.of (reduce_cal (m := m) hm hk h6 h32 hq hr R3' lw' nd' hg' wd' (by omega) fun h4 vo4 a1 a2 a3 a4 => ?_)
     (repeat' first | refine go ?_ | refine idxS_ fun _ _ _ => ?_ | refine sp (fun _ => ?_) fun _ => ?_ | fail)
     exact k h4 vo4 a1 a2 a3 a4
    ·have hp2 := (passU_gone (H := H) (Q := Aq) (n := H.length) (k := H.length) (W := W) (G := G) (Nat.le_refl _)).2.2.2.2.2 (by rw [hp']; show G'.length = G.length; omega)
     rw [hp'] at hp2
     simp only [Prod.mk.injEq] at hp2
     obtain ⟨rfl, rfl⟩ := hp2
     rw [goneU_same (by rw [hp'])] at k
     (repeat' first | refine go ?_ | (refine BC.no (decide_eq_false hsame) ?_) | refine idxS_ fun _ _ _ => ?_ | refine sp (fun _ => ?_) fun _ => ?_ | fail)
     exact k h' vo' x3 go3 hvo3 u3
   have lj := l3 j hjl
   obtain ⟨rj1, rj2⟩ := hr j hjl
   obtain ⟨q1, q2⟩ := rowOk_iff rj1
   obtain ⟨q3, q4⟩ := rowOk_iff rj2
   have ej : (j : Int).toNat = j := Int.toNat_natCast j
   have hps := passU_step (H := H) (Q := Aq) (n := H.length) (i := j) (W := W') (G := G') hjl
   rw [hp] at hps
   obtain ⟨st3, gm3, s3, nm3⟩ := mm3
   cases hc : G'.contains j
   rotate_left
   ·rw [hc] at lj
    rw [hc, if_neg (by simp)] at hps
    (repeat' first | refine go ?_ | (refine lkF KeyE.int lj ?_) | refine idxS_ fun _ _ _ => ?_ | refine sp (fun _ => ?_) fun _ => ?_ | fail)
    exact ⟨rfl, (j + 1, vo', W', G', LL'), ⟨rfl, rfl, rfl, rfl, rfl, rfl, rfl, rfl, rfl, trivial⟩, ⟨by rw [leftU_succ, if_pos hc]; exact R3', by show j + 1 ≤ H.length; omega, hps.symm, nd', hg', wd', lw', hG⟩, by simp only; omega⟩
   rw [hc] at lj
   rw [hc] at hps
   have hm3 := hm.exd x3
   have hk3 := hk.exd x3
   have lk := hk.row (j := j) (by omega)
   (repeat' first | refine go ?_ | (refine lkF KeyE.int lj ?_) | ((refine hk3.idxS (by omega) fun b o w r4 g4 => ?_; rw [ej] at r4)) | refine idxS_ fun _ _ _ => ?_ | refine sp (fun _ => ?_) fun _ => ?_ | fail)
   refine CALLN.of (fits_cal r4 t3.rin lk (by omega) fun h4 x4 => ?_)
   have R4 := R3'.upd x4.upd (S := fun _ => False) fun _ f => f
   obtain ⟨x04, o4, hvt4, hvo4, gh4, gk4, gt4, gl4, go4, gr4, t4, mm4, l4, u4⟩ := R4
   cases hf : fitsU (rowU Aq j) W'
   ·rw [hf, if_neg (by simp)] at hps
    obtain ⟨N4, hN4⟩ : ∃ N, h4.next = N := ⟨_, rfl⟩
    have src : srcC (h4.new (.cells [.int .i64 j] true none)) 1 (.slice N4 0 1 1) = some (1, [.int .i64 j]) := src_one (by exact get_) rfl rfl
    have lo := leftU_len (j := j) (G := G')
    obtain ⟨vo5, h5, ea, u5, n5, O5, hb5⟩ := (u4.frame (h' := h4.new (.cells [.int .i64 j] true none)) fun b hb => Heap.get_new_ne _ _ _ (by have := hvo4 b hb; omega)).push (fun b hb => by rw [Heap.next_new]; have := hvo4 b hb; omega) src (by rw [nats_length]; omega) rfl
    have o5 := O5.one
    have e5 : ∀ i, i ≤ I.pr → h5.get i = h4.get i := fun i hi => (u5.get i (by rw [Heap.next_new]; omega) fun hb => by have := hvo4 i hb; omega).trans (Heap.get_new_ne _ _ _ (by omega))
    have l5 := u5.le
    rw [Heap.next_new] at l5
    have go5 := (e5 I.po (by omega)).trans go4
    (repeat' first | refine go ?_ | (refine SOMEN.mk ea ?_) | refine idxS_ fun _ _ _ => ?_ | refine sp (fun _ => ?_) fun _ => ?_ | fail)
    refine ⟨rfl, (j + 1, vo5, W', G', LL'), ⟨rfl, rfl, rfl, rfl, rfl, rfl, rfl, rfl, rfl, trivial⟩, ⟨(?_ : RS h₀ (h5.set I.po (.cells [vo5] true none)) I vm vk vt vo5 H.length W' G' (leftU (j + 1) G') LL'), by show j + 1 ≤ H.length; omega, hps.symm, nd', hg', wd', lw', hG⟩, by simp only; omega⟩
    have e6 : ∀ i, i ≤ I.pr → i ≠ I.po → (h5.set I.po (.cells [vo5] true none)).get i = h4.get i := fun i hi hne => (Heap.get_set_ne _ _ _ _ hne).trans (e5 i hi)
    rw [leftU_succ, if_neg (by rw [hc]; simp)]
    refine ⟨Exd.set ⟨by have := x04.le; omega, fun i hi => (e5 i (by omega)).trans (x04.get i hi)⟩ (by omega), ⟨o4.1, o4.2.1, o4.2.2.1, o4.2.2.2.1, o4.2.2.2.2.1, o4.2.2.2.2.2.1, o4.2.2.2.2.2.2.1, by rw [Heap.next_set]; omega⟩, hvt4, fun b hb => ?_, (e6 _ (by omega) (by omega)).trans gh4, (e6 _ (by omega) (by omega)).trans gk4, (e6 _ (by omega) (by omega)).trans gt4, (e6 _ (by omega) (by omega)).trans gl4, Heap.set_at rfl, (e6 _ (by omega) (by omega)).trans gr4, ?_, mm4.of_get (e6 _ (by omega) (by omega)), l4, ?_⟩
    ·obtain ⟨h1, h2⟩ := hb5 b hb
     rw [Heap.next_set]
     rcases h1 with h1 | h1
     ·have := hvo4 b h1; omega
     ·rw [Heap.next_new] at h1; omega
    ·exact t4.frame (by rw [Heap.next_set]; omega) fun i o hb g _ => (e6 i (by have := hvt4 i hb; omega) (by have := hvt4 i hb; omega)).trans g
    ·rw [nats_append]
     refine O5.frame fun b hb => Heap.get_set_ne _ _ _ _ ?_
     obtain ⟨h1, h2⟩ := hb5 b hb
     rcases h1 with h1 | h1
     ·have := hvo4 b h1; omega
     ·rw [Heap.next_new] at h1; omega
   ·rw [hf, if_pos (by simp)] at hps
    obtain ⟨w, b, o, r5, g5, hw5⟩ : ∃ w b o, RIn h₀ w (rowU H j) ∧ At1 h₀ b o w ∧ ∀ K : Nat → Nat → Prop, K b o → idxS 1 vm (j : Int) K := by
     obtain ⟨b, o, c, cs, wr, opn, w, e, hb, g, a, r, _⟩ := hm.cell hjl
     exact ⟨w, b, o + j, r, ⟨hb, cs, wr, opn, g, a⟩, fun K q => by subst e; exact ⟨by omega, by rw [ej, Nat.mul_one]; exact q⟩⟩
    have g5' := g5.exd x04
    (repeat' first | refine go ?_ | (refine hw5 _ ?_) | refine idxS_ fun _ _ _ => ?_ | refine sp (fun _ => ?_) fun _ => ?_ | fail)
    refine CALLN.of (hadd_cal (n := G'.length) x04 t4 r5 (by omega) (by omega) q2 wd' (by omega) fun h5 x5 t5 u5 => ?_)
    have e5 : ∀ i, i ≤ I.pr → ¬ (I.pk < i ∧ i < I.pt) → h5.get i = h4.get i := fun i hi hne => u5.get i (by omega) fun hb => hne (hvt4 i hb)
    have l5 := u5.le
    have gl5 := (e5 I.pl (by omega) (by omega)).trans gl4
    obtain ⟨st5, gm5, s5, nm5⟩ := mm4.of_get (e5 I.ml (by omega) (by omega))
    (repeat' first | refine go ?_ | (refine MapAt.upn KeyE.int s5 fun st6 s6 => ?_) | refine idxS_ fun _ _ _ => ?_ | refine sp (fun _ => ?_) fun _ => ?_ | fail)
    refine ⟨rfl, (j + 1, vo', addU W' (rowU H j), G' ++ [j], setA (j : Int) (.bool false) LL'), ⟨rfl, rfl, rfl, rfl, rfl, rfl, ?_, rfl, rfl, trivial⟩, ⟨(?_ : RS h₀ (h5.set I.ml (.map (mapE keyI (setA (j : Int) (.bool false) LL')) true st6)) I vm vk vt vo' H.length (addU W' (rowU H j)) (G' ++ [j]) (leftU (j + 1) (G' ++ [j])) (setA (j : Int) (.bool false) LL')), by show j + 1 ≤ H.length; omega, hps.symm, ?_, ?_, ?_, (addU_len _ _).trans lw', ?_⟩, by simp only; omega⟩
    ·show CVal.bool true = CVal.bool (decide (G.length < (G' ++ [j]).length))
     exact congrArg CVal.bool (decide_eq_true (by rw [List.length_append, List.length_singleton]; omega)).symm
    ·have e6 : ∀ i, i ≤ I.pr → i ≠ I.ml → ¬ (I.pk < i ∧ i < I.pt) → (h5.set I.ml (.map (mapE keyI (setA (j : Int) (.bool false) LL')) true st6)).get i = h4.get i := fun i hi hne hn => (Heap.get_set_ne _ _ _ _ hne).trans (e5 i hi hn)
     rw [leftU_succ, if_pos (by simp), leftU_push (Nat.le_refl _)]
     refine ⟨Exd.set x5 (by omega), ⟨o4.1, o4.2.1, o4.2.2.1, o4.2.2.2.1, o4.2.2.2.2.1, o4.2.2.2.2.2.1, o4.2.2.2.2.2.2.1, by rw [Heap.next_set]; omega⟩, hvt4, fun b hb => by rw [Heap.next_set]; have := hvo4 b hb; omega, (e6 _ (by omega) (by omega) (by omega)).trans gh4, (e6 _ (by omega) (by omega) (by omega)).trans gk4, (e6 _ (by omega) (by omega) (by omega)).trans gt4, (e6 _ (by omega) (by omega) (by omega)).trans gl4, (e6 _ (by omega) (by omega) (by omega)).trans go4, (e6 _ (by omega) (by omega) (by omega)).trans gr4, ?_, ⟨_, Heap.set_at rfl, s6, keys_setA_nodup nm5⟩, fun i hi => ?_, ?_⟩
     ·exact t5.frame (by rw [Heap.next_set]; omega) fun i o hb g _ => (Heap.get_set_ne _ _ _ _ (by have := hvt4 i hb; omega)).trans g
     ·rw [lookA_setA]
      by_cases e : i = j
      ·subst e
       rw [if_pos rfl]
       simp
      ·rw [if_neg (show ¬ (i : Int) = j by omega), l4 i hi]
       simp [List.contains_eq_mem, e]
     ·exact u4.frame fun b hb => by
       have := hvo4 b hb
       rw [Heap.get_set_ne _ _ _ _ (by omega)]
       exact u5.get b (by omega) fun hb' => by have := hvt4 b hb'; omega
    ·refine List.nodup_append.2 ⟨nd', by simp, fun x hx y hy => ?_⟩
     simp only [List.mem_singleton] at hy
     subst hy
     intro e
     subst e
     simp [List.contains_eq_mem, hx] at hc
    ·intro g hg2
     rcases List.mem_append.1 hg2 with h | h
     ·exact hg' g h
     ·simp only [List.mem_singleton] at h; omega
    ·show Wide (addU W' (rowU H j)) (G' ++ [j]).length
     rw [List.length_append, List.length_singleton]
     exact wd'.add q2
    ·show G.length ≤ (G' ++ [j]).length
     rw [List.length_append]; omega
theorem hstuck_cal {va vm vk : CVal} {A : List Int} {M K : List (List Int)} {h : Heap} {Q : CVal → Heap → Prop} (ha : RIn h va A) (hm : RRows h vm M) (hk : RRows h vk K) (la : A.length ≤ 1000000000) (k : ∀ v h', Exd h h' → RIn h' v (nats (stuckU A M K)) → Q v h') : Cal tt 32 [va, vm, vk] h Q := by
 obtain ⟨N, hN⟩ : ∃ N, h.next = N := ⟨_, rfl⟩
 refine Cal.run rfl rfl rfl rfl ?_
 have o1 := hm.one
 have o2 := hk.one
 cases hb : rowsU A M K
 ·rw [show stuckU A M K = [] by rw [stuckU, hb]; rfl] at k
  (repeat' first | refine go ?_ | refine idxS_ fun _ _ _ => ?_ | refine sp (fun _ => ?_) fun _ => ?_ | fail)
  refine CALLN.of (hmay_cal (ha.exd exd_) (hm.exd exd_) (hk.exd exd_) la ?_)
  rw [hb]
  (repeat' first | refine go ?_ | refine idxS_ fun _ _ _ => ?_ | refine sp (fun _ => ?_) fun _ => ?_ | fail)
  exact k _ _ exd_ (.inl ⟨rfl, rfl⟩)
 rw [show stuckU A M K = leftU M.length (goneU M K M.length (M.length + 1) A []) by rw [stuckU, hb]; rfl] at k
 obtain ⟨hl, h32, h6, mA, hro⟩ := rowsU_len hb
 (repeat' first | refine go ?_ | refine idxS_ fun _ _ _ => ?_ | refine sp (fun _ => ?_) fun _ => ?_ | fail)
 refine CALLN.of (hmay_cal (ha.exd exd_) (hm.exd exd_) (hk.exd exd_) la ?_)
 rw [hb]
 (repeat' first | refine go ?_ | refine idxS_ fun _ _ _ => ?_ | refine sp (fun _ => ?_) fun _ => ?_ | fail)
 refine CALLN.of (cloneW_cal (ha.exd exd_) la fun vt h1 x1 t1 => ?_)
 obtain ⟨N1, hN1⟩ : ∃ N, h1.next = N := ⟨_, rfl⟩
 have l1 := x1.le
 simp only [Heap.next_new] at l1
 have x01 : Exd h h1 := Exd.trans exd_ x1
 have gh1 : h1.get N = some (.cells [vm] true none) := x1.skip (by exact lt_) (by exact get_)
 have gk1 : h1.get (N + 1) = some (.cells [vk] true none) := x1.skip (by exact lt_) (by exact get_)
 have ot := t1.one
 have tb : ∀ b, isB vt b → N + 1 < b ∧ b < N1 := fun b hb => by
  rcases t1 with ⟨rfl, _⟩ | ⟨b', e, h2, h3, _⟩
  ·exact (isB_nil hb).elim
  ·rw [e, isB_slice] at hb
   simp only [Heap.next_new] at h2
   omega
 have t1' : WSl h h1 vt A := by
  rcases t1 with t1 | ⟨b, e1, e2, e3, e4⟩
  ·exact .inl t1
  ·simp only [Heap.next_new] at e2
   exact .inr ⟨b, e1, by omega, e3, e4⟩
 (repeat' first | refine go ?_ | (refine hm.lenS ?_) | refine idxS_ fun _ _ _ => ?_ | refine sp (fun _ => ?_) fun _ => ?_ | fail)
 refine loopC (fun y : Nat × List (Int × CVal) => [(4, .ptr N 0), (5, .ptr (N + 1) 0), (7, .ptr N1 0), (8, .ptr (N1 + 2) 0), (21, .int .i64 M.length), (22, .int .i64 y.1)]) (fun y h' => Exd h h' ∧ h'.next = N1 + 3 ∧ h'.get N = some (.cells [vm] true none) ∧ h'.get (N + 1) = some (.cells [vk] true none) ∧ h'.get N1 = some (.cells [vt] true none) ∧ h'.get (N1 + 2) = some (.cells [.map (N1 + 1)] true none) ∧ WSl h h' vt A ∧ MapAt h' (N1 + 1) keyI y.2 ∧ y.1 ≤ M.length ∧ ∀ i : Nat, i < y.1 → lookA (i : Int) y.2 = some (.bool true)) (fun y => M.length - y.1) (0, []) ⟨rfl, rfl, rfl, rfl, rfl, rfl, trivial⟩ ⟨by exact exd_, by simp only [Heap.next_set, Heap.next_new]; omega, by exact get_, by exact get_, by exact get_, by exact get_, t1'.frame (by simp only [Heap.next_set, Heap.next_new]; omega) fun i o hb g _ => by have := tb i hb; exact get_, ⟨_, by exact get_, StOk.empty, List.nodup_nil⟩, Nat.zero_le _, fun i hi => absurd hi (Nat.not_lt_zero _)⟩ ?_
 rintro ⟨j, LL⟩ ρ h' ⟨xk, hn, g1, g2, g3, g4, hw, hM, hj, hL⟩
 simp only at hM hj hL ⊢
 by_cases hjl : j < M.length
 ·obtain ⟨st, gm, s, nm⟩ := hM
  (repeat' first | refine go ?_ | (refine MapAt.upn KeyE.int s fun st6 s6 => ?_) | refine idxS_ fun _ _ _ => ?_ | refine sp (fun _ => ?_) fun _ => ?_ | fail)
  refine ⟨rfl, (j + 1, setA (j : Int) (.bool true) LL), ⟨rfl, rfl, rfl, rfl, rfl, rfl, trivial⟩, ⟨by exact exd_, by rw [Heap.next_set]; exact hn, by exact get_, by exact get_, by exact get_, by exact get_, hw.frame (by rw [Heap.next_set]; exact Nat.le_refl _) fun i o hb g _ => by have := tb i hb; exact get_, ⟨_, by exact get_, s6, keys_setA_nodup nm⟩, by show j + 1 ≤ M.length; omega, fun i hi => ?_⟩, by simp only; omega⟩
  simp only at hi ⊢
  rw [lookA_setA]
  by_cases e : i = j
  ·subst e; rw [if_pos rfl]
  ·rw [if_neg (show ¬ (i : Int) = j by omega)]; exact hL i (by omega)
 ·obtain rfl : j = M.length := by omega
  (repeat' first | refine go ?_ | refine idxS_ fun _ _ _ => ?_ | refine sp (fun _ => ?_) fun _ => ?_ | fail)
  refine CALLN.of (reduce_cal (h₀ := h) (I := ⟨N1 + 3, N, N1 + 2, N + 1, N1, N1 + 4, N1 + 1⟩) (vo := .nilSlice) (vt := vt) (W := A) (G := []) (O := []) (LL := LL) (m := M.length + 1) hm hk h6 h32 hl.symm hro ⟨by exact exd_, by simp only [Heap.next_set, Heap.next_new]; omega, tb, fun b hb => (isB_nil hb).elim, by dsimp only; exact get_, by dsimp only; exact get_, by dsimp only; exact get_, by dsimp only; exact get_, by dsimp only; exact get_, by dsimp only; exact get_, hw.exd (by exact exd_), hM.of_get (by exact get_), fun i hi => by rw [hL i hi]; rfl, .inl ⟨rfl, rfl⟩⟩ rfl List.nodup_nil (fun _ h => by simp at h) (Wide.zero mA) (by simp) fun h4 vo4 x4 g4 b4 O4 => ?_)
  have o4 := O4.one
  have g4 : h4.get (N1 + 3) = _ := g4
  (repeat' first | refine go ?_ | refine idxS_ fun _ _ _ => ?_ | refine sp (fun _ => ?_) fun _ => ?_ | fail)
  exact k vo4 h4 x4 (O4.rin fun b hb => (b4 b hb).2)
theorem mayAskR_cal {va vm vk : CVal} {A : List Int} {M K : List (List Int)} {h : Heap} {Q : CVal → Heap → Prop} (ha : RIn h va A) (hm : RRows h vm M) (hk : RRows h vk K) (la : A.length ≤ 1000000000) (k : Q (.bool (rowsU A M K)) h) : Cal tt 93 [va, vm, vk] h Q := by
 refine Cal.run rfl rfl rfl rfl ?_
 (repeat' first | refine go ?_ | refine idxS_ fun _ _ _ => ?_ | refine sp (fun _ => ?_) fun _ => ?_ | fail)
 refine CALLN.of (rowsR_cal ha hm hk la ?_)
 (repeat' first | refine go ?_ | refine idxS_ fun _ _ _ => ?_ | refine sp (fun _ => ?_) fun _ => ?_ | fail)
 exact k
def gb (n : Nat) (G : List Nat) : List CVal := (List.range n).map fun i => .bool (G.contains i)
theorem gb_nil (n : Nat) : repC n [.bool false] = gb n [] := by
 induction n with
 | zero => rfl
 | succ n ih => rw [repC, ih, gb, gb, List.range_succ_eq_map]; simp
theorem gb_at {n i : Nat} {G : List Nat} (hi : i < n) : (gb n G)[i]? = some (.bool (G.contains i)) := by simp [gb, hi]
theorem gb_len {n : Nat} {G : List Nat} : (gb n G).length = n := by simp [gb]
theorem gb_set {n i : Nat} {G : List Nat} : putCells (gb n G) i [.bool true] = gb n (G ++ [i]) := by
 simp only [putCells]
 refine List.ext_getElem? fun p => ?_
 rw [List.getElem?_set]
 by_cases hp : p < n
 ·rw [gb_at hp, gb_at hp, gb_len]
  by_cases e : i = p
  ·subst e; simp [hp]
  ·rw [if_neg e]
   have : p ≠ i := fun h => e h.symm
   simp [List.contains_eq_mem, this]
 ·rw [List.getElem?_eq_none (by rw [gb_len]; omega), List.getElem?_eq_none (by rw [gb_len]; omega), gb_len]
  split
  ·rw [if_neg (by omega)]
  ·rfl
theorem SETN.gb {h : Heap} {N n o j : Nat} {G : List Nat} {K : Heap → Prop} (g : h.get N = some (.cells (gb n G) true none)) (e : o = j) (hj : j < n) (k : K (h.set N (.cells (gb n (G ++ [j])) true none))) : SETN h N o 1 [.bool true] K := by
 subst e
 refine .mk g rfl (by rw [gb_len]; omega) ?_
 rw [gb_set]
 exact k
set_option maxHeartbeats 1000000 in
theorem stuckR_cal {va vm vk : CVal} {A : List Int} {M K : List (List Int)} {h : Heap} {Q : CVal → Heap → Prop} (ha : RIn h va A) (hm : RRows h vm M) (hk : RRows h vk K) (la : A.length ≤ 1000000000) (k : ∀ v h', Exd h h' → RIn h' v (nats (stuckU A M K)) → Q v h') : Cal tt 63 [va, vm, vk] h Q := by
 obtain ⟨N, hN⟩ : ∃ N, h.next = N := ⟨_, rfl⟩
 refine Cal.run rfl rfl rfl rfl ?_
 cases hb : rowsU A M K
 ·rw [show stuckU A M K = [] by rw [stuckU, hb]; rfl] at k
  (repeat' first | refine go ?_ | ((refine CALLN.of (mayAskR_cal ha hm hk la ?_); rw [hb])) | refine idxS_ fun _ _ _ => ?_ | refine sp (fun _ => ?_) fun _ => ?_ | fail)
  exact k _ _ (Exd.refl _) (.inl ⟨rfl, rfl⟩)
 rw [show stuckU A M K = leftU M.length (goneU M K M.length (M.length + 1) A []) by rw [stuckU, hb]; rfl] at k
 obtain ⟨hl, h32, h6, mA, hro⟩ := rowsU_len hb
 have l1 : (M.length : Int) * 1 ≤ 1099511627776 := by omega
 (repeat' first | refine go ?_ | ((refine CALLN.of (mayAskR_cal ha hm hk la ?_); rw [hb])) | (refine hm.lenS ?_) | refine idxS_ fun _ _ _ => ?_ | refine sp (fun _ => ?_) fun _ => ?_ | fail)
 rw [show ((M.length : Int)).toNat = M.length from Int.toNat_natCast _, gb_nil]
 refine loopC (fun y : Bool × CVal × List Int × List Nat × Nat => [(0, va), (1, vm), (2, vk), (7, .slice N 0 M.length M.length), (8, y.2.1), (9, .bool y.1)]) (fun y h' => Exd h h' ∧ N < h'.next ∧ h'.get N = some (.cells (gb M.length y.2.2.2.1) true none) ∧ RIn h' y.2.1 y.2.2.1 ∧ (∀ b, isB y.2.1 b → b ≠ N) ∧ y.2.2.1.length = A.length ∧ y.2.2.2.1.Nodup ∧ (∀ g ∈ y.2.2.2.1, g < M.length) ∧ Wide y.2.2.1 y.2.2.2.1.length ∧ (y.1 = true → M.length + 1 ≤ y.2.2.2.1.length + y.2.2.2.2) ∧ (if y.1 = true then goneU M K M.length y.2.2.2.2 y.2.2.1 y.2.2.2.1 else y.2.2.2.1) = goneU M K M.length (M.length + 1) A []) (fun y => if y.1 = true then y.2.2.2.2 else 0) (true, va, A, [], M.length + 1) ⟨rfl, rfl, rfl, rfl, rfl, rfl, trivial⟩ ⟨by exact exd_, by exact lt_, by exact get_, ha.exd exd_, fun b hb => by
  rcases ha with ⟨rfl, _⟩ | ⟨_, _, _, rfl, hi, _⟩
  ·exact (isB_nil hb).elim
  ·rw [isB_slice] at hb; omega, rfl, List.nodup_nil, fun _ h => by simp at h, Wide.zero mA, fun _ => by simp, rfl⟩ ?_
 rintro ⟨again, vw, W, G, m⟩ ρ h' ⟨xk, nl, gN, rw', vwN, lw, nd, hg, wd, hf, hG⟩
 simp only at gN rw' vwN lw nd hg wd hf hG ⊢
 have g32 := nodup_lt nd hg
 cases again
 ·
  simp only [Bool.false_eq_true, if_false] at hG
  rw [← hG] at k
  obtain ⟨N5, hN5⟩ : ∃ N, h'.next = N := ⟨_, rfl⟩
  (repeat' first | refine go ?_ | refine idxS_ fun _ _ _ => ?_ | refine sp (fun _ => ?_) fun _ => ?_ | fail)
  refine loopC (fun y : Nat × CVal => [(7, .slice N 0 M.length M.length), (11, y.2), (12, .int .i64 y.1)]) (fun y h2 => Exd h h2 ∧ N < h2.next ∧ h2.get N = some (.cells (gb M.length G) true none) ∧ y.1 ≤ M.length ∧ GSl (fun _ => False) intE h2 y.2 (nats (leftU y.1 G)) ∧ ∀ b, isB y.2 b → N < b) (fun y => M.length - y.1) (0, .slice N5 0 0 0) ⟨rfl, rfl, rfl, trivial⟩ ⟨by exact exd_, by exact lt_, by exact get_, Nat.zero_le _, GSl.new (wr := true) (by exact get_) (by exact lt_), fun b hb => by rw [isB_slice] at hb; omega⟩ ?_
  rintro ⟨j, vo⟩ ρ2 h2 ⟨x2, nl2, gN2, hj, G2, hvo⟩
  simp only at hj G2 hvo ⊢
  have o2 := G2.one
  by_cases hjl : j < M.length
  ·have ga := gb_at (G := G) hjl
   have lo := leftU_len (j := j) (G := G)
   have e9 : 0 + ((j : Nat) : Int).toNat * 1 = j := by omega
   cases hc : G.contains j
   ·rw [hc] at ga
    obtain ⟨N4, hN4⟩ : ∃ N, h2.next = N := ⟨_, rfl⟩
    have src : srcC (h2.new (.cells [.int .i64 j] true none)) 1 (.slice N4 0 1 1) = some (1, [.int .i64 j]) := src_one (by exact get_) rfl rfl
    obtain ⟨h5, ea, u5, n5, G5⟩ := (G2.exd (Exd.new (Exd.refl _))).push1 (bytes := 8) (a := (j : Int)) src (by rw [nats_length]; omega) rfl rfl
    (repeat' first | refine go ?_ | (refine AT.of (by rw [e9]; exact ga) ?_) | (refine SOMEN.mk ea ?_) | refine idxS_ fun _ _ _ => ?_ | refine sp (fun _ => ?_) fun _ => ?_ | fail)
    refine ⟨rfl, (j + 1, _), ⟨rfl, rfl, rfl, trivial⟩, ⟨(?_ : Exd h h5), by show N < h5.next; rw [n5, Heap.next_new]; omega, ?_, by show j + 1 ≤ M.length; omega, ?_, fun b hb => ?_⟩, by simp only; omega⟩
    ·exact ⟨by rw [n5, Heap.next_new]; have := x2.le; omega, fun i hi => (u5.get i (by rw [Heap.next_new]; have := x2.le; omega) fun hb => by have := hvo i hb; omega).trans ((Heap.get_new_ne _ _ _ (by have := x2.le; omega)).trans (x2.get i hi))⟩
    ·show h5.get N = _
     rw [u5.get N (by rw [Heap.next_new]; omega) fun hb => by have := hvo N hb; omega]
     exact get_
    ·show GSl (fun _ => False) intE h5 _ (nats (leftU (j + 1) G))
     rw [leftU_succ, if_neg (by rw [hc]; simp), nats_append]
     exact G5
    ·rw [isB_slice, Heap.next_new] at hb; omega
   ·rw [hc] at ga
    (repeat' first | refine go ?_ | (refine AT.of (by rw [e9]; exact ga) ?_) | refine idxS_ fun _ _ _ => ?_ | refine sp (fun _ => ?_) fun _ => ?_ | fail)
    exact ⟨rfl, (j + 1, vo), ⟨rfl, rfl, rfl, trivial⟩, ⟨x2, nl2, gN2, by show j + 1 ≤ M.length; omega, by show GSl _ _ _ _ (nats (leftU (j + 1) G)); rw [leftU_succ, if_pos hc]; exact G2, hvo⟩, by simp only; omega⟩
  ·obtain rfl : j = M.length := by omega
   (repeat' first | refine go ?_ | refine idxS_ fun _ _ _ => ?_ | refine sp (fun _ => ?_) fun _ => ?_ | fail)
   exact k _ _ x2 G2.ints
 ·simp only [if_true] at hG
  have hf := hf rfl
  cases m with
  | zero => omega
  | succ m =>
    have hm' := hm.exd xk
    (repeat' first | refine go ?_ | refine idxS_ fun _ _ _ => ?_ | refine sp (fun _ => ?_) fun _ => ?_ | fail)
    refine loopC (fun y : Nat × CVal × List Int × List Nat => [(0, va), (1, vm), (2, vk), (7, .slice N 0 M.length M.length), (8, y.2.1), (9, .bool (decide (G.length < y.2.2.2.length))), (10, .int .i64 y.1)]) (fun y h2 => Exd h h2 ∧ N < h2.next ∧ h2.get N = some (.cells (gb M.length y.2.2.2) true none) ∧ RIn h2 y.2.1 y.2.2.1 ∧ (∀ b, isB y.2.1 b → b ≠ N) ∧ y.2.2.1.length = A.length ∧ y.2.2.2.Nodup ∧ (∀ g ∈ y.2.2.2, g < M.length) ∧ Wide y.2.2.1 y.2.2.2.length ∧ y.1 ≤ M.length ∧ passU M K M.length (M.length - y.1) y.2.2.1 y.2.2.2 = passU M K M.length M.length W G ∧ G.length ≤ y.2.2.2.length) (fun y => M.length - y.1) (0, vw, W, G) ⟨rfl, rfl, rfl, rfl, rfl, by rw [decide_eq_false (Nat.lt_irrefl _)]; rfl, rfl, trivial⟩ ⟨xk, nl, gN, rw', vwN, lw, nd, hg, wd, Nat.zero_le _, rfl, Nat.le_refl _⟩ ?_
    rintro ⟨j, vw', W', G'⟩ ρ2 h2 ⟨x2, nl2, gN2, rw2, vwN2, lw2, nd2, hg2, wd2, hj, hp, hG2⟩
    simp only at gN2 rw2 vwN2 lw2 nd2 hg2 wd2 hj hp hG2 ⊢
    have g322 := nodup_lt nd2 hg2
    have o2 := rw2.one
    by_cases hjl : j < M.length
    rotate_left
    ·obtain rfl : j = M.length := by omega
     rw [Nat.sub_self] at hp
     have hp' : passU M K M.length M.length W G = (W', G') := hp.symm
     (repeat' first | refine go ?_ | (refine hm.lenS ?_) | refine idxS_ fun _ _ _ => ?_ | refine sp (fun _ => ?_) fun _ => ?_ | fail)
     refine ⟨rfl, (decide (G.length < G'.length), vw', W', G', m), ⟨rfl, rfl, rfl, rfl, rfl, rfl, trivial⟩, ⟨x2, nl2, gN2, rw2, vwN2, lw2, nd2, hg2, wd2, ?_, ?_⟩, ?_⟩
     ·intro e
      have := of_decide_eq_true e
      show M.length + 1 ≤ G'.length + m
      omega
     ·by_cases hs : G.length < G'.length
      ·simp only [decide_eq_true hs, if_true]
       rw [← hG, goneU_more (by rw [hp']; show G'.length ≠ G.length; omega), hp']
      ·simp only [decide_eq_false hs, Bool.false_eq_true, if_false]
       have hp2 := (passU_gone (H := M) (Q := K) (n := M.length) (k := M.length) (W := W) (G := G) (Nat.le_refl _)).2.2.2.2.2 (by rw [hp']; show G'.length = G.length; omega)
       rw [hp'] at hp2
       simp only [Prod.mk.injEq] at hp2
       obtain ⟨rfl, rfl⟩ := hp2
       rw [← hG, goneU_same (by rw [hp'])]
     ·simp only [if_true]
      split <;> omega
    obtain ⟨rj1, rj2⟩ := hro j hjl
    obtain ⟨q1, q2⟩ := rowOk_iff rj1
    obtain ⟨q3, q4⟩ := rowOk_iff rj2
    have ej : (j : Int).toNat = j := Int.toNat_natCast j
    have hps := passU_step (H := M) (Q := K) (n := M.length) (i := j) (W := W') (G := G') hjl
    rw [hp] at hps
    have ga := gb_at (G := G') hjl
    have e9 : 0 + ((j : Nat) : Int).toNat * 1 = j := by omega
    cases hc : G'.contains j
    rotate_left
    ·rw [hc] at ga
     rw [hc, if_neg (by simp)] at hps
     (repeat' first | refine go ?_ | (refine hm.lenS ?_) | (refine AT.of (by rw [e9]; exact ga) ?_) | refine idxS_ fun _ _ _ => ?_ | refine sp (fun _ => ?_) fun _ => ?_ | fail)
     exact ⟨rfl, (j + 1, vw', W', G'), ⟨rfl, rfl, rfl, rfl, rfl, rfl, rfl, trivial⟩, ⟨x2, nl2, gN2, rw2, vwN2, lw2, nd2, hg2, wd2, by show j + 1 ≤ M.length; omega, hps.symm, hG2⟩, by simp only; omega⟩
    rw [hc] at ga hps
    have hk2 := hk.exd x2
    have hm2 := hm.exd x2
    have lk := hk.row (j := j) (by omega)
    cases hf : fitsU (rowU K j) W'
    ·rw [hf, if_neg (by simp)] at hps
     (repeat' first | refine go ?_ | (refine hm.lenS ?_) | (refine AT.of (by rw [e9]; exact ga) ?_) | ((refine hk2.idxS (by omega) fun b o w r4 g4 => ?_; rw [ej] at r4)) | ((refine CALLN.of (fitsR_cal (by assumption) rw2 lk ?_); rw [hf])) | refine idxS_ fun _ _ _ => ?_ | refine sp (fun _ => ?_) fun _ => ?_ | fail)
     exact ⟨rfl, (j + 1, vw', W', G'), ⟨rfl, rfl, rfl, rfl, rfl, rfl, rfl, trivial⟩, ⟨x2, nl2, gN2, rw2, vwN2, lw2, nd2, hg2, wd2, by show j + 1 ≤ M.length; omega, hps.symm, hG2⟩, by simp only; omega⟩
    ·rw [hf, if_pos (by simp)] at hps
     have rw3 : RIn (h2.set N (.cells (gb M.length (G' ++ [j])) true none)) vw' W' := rw2.frame fun a o l c e ha => ⟨by rw [Heap.next_set]; exact ha, Heap.get_set_ne _ _ _ _ (vwN2 a ⟨_, _, _, e⟩)⟩
     have x3 : Exd h (h2.set N (.cells (gb M.length (G' ++ [j])) true none)) := Exd.set x2 (by omega)
     have hm3 := hm.exd x3
     have wb : ∀ j, -1000000000 ≤ atU W' j ∧ atU W' j ≤ 1000000000 := fun j => by have := wd2 j; omega
     have rb : ∀ p, -1000000000 ≤ atU (rowU M j) p ∧ atU (rowU M j) p ≤ 1000000000 := fun p => by have := mayU_atU q2 p; omega
     (repeat' first | refine go ?_ | (refine hm.lenS ?_) | (refine AT.of (by rw [e9]; exact ga) ?_) | ((refine hk2.idxS (by omega) fun b o w r4 g4 => ?_; rw [ej] at r4)) | ((refine CALLN.of (fitsR_cal (by assumption) rw2 lk ?_); rw [hf])) | (refine SETN.gb gN2 e9 hjl ?_) | ((refine hm3.idxS (by omega) fun b o w r5 g5 => ?_; rw [ej] at r5)) | refine idxS_ fun _ _ _ => ?_ | refine sp (fun _ => ?_) fun _ => ?_ | fail)
     refine CALLN.of (moreR_cal rw3 (by assumption) (by omega) (by omega) wb rb fun p h6 x6 O6 => ?_)
     have g6 : h6.get N = some (.cells (gb M.length (G' ++ [j])) true none) := x6.skip (by rw [Heap.next_set]; exact nl2) (by exact get_)
     (repeat' first | refine go ?_ | refine idxS_ fun _ _ _ => ?_ | refine sp (fun _ => ?_) fun _ => ?_ | fail)
     refine ⟨rfl, (j + 1, _, addU W' (rowU M j), G' ++ [j]), ⟨rfl, rfl, rfl, rfl, rfl, ?_, rfl, trivial⟩, ⟨x3.trans x6, by have := x6.le; rw [Heap.next_set] at this; omega, g6, by rw [← addU_len W' (rowU M j)]; exact O6.rin rfl, fun b hb => ?_, (addU_len _ _).trans lw2, ?_, ?_, ?_, by show j + 1 ≤ M.length; omega, hps.symm, ?_⟩, by simp only; omega⟩
     ·show CVal.bool true = CVal.bool (decide (G.length < (G' ++ [j]).length))
      exact congrArg CVal.bool (decide_eq_true (by rw [List.length_append, List.length_singleton]; omega)).symm
     ·rw [isB_slice] at hb
      have := O6.1
      rw [Heap.next_set] at this
      omega
     ·refine List.nodup_append.2 ⟨nd2, by simp, fun x hx y hy => ?_⟩
      simp only [List.mem_singleton] at hy
      subst hy
      intro e
      subst e
      simp [List.contains_eq_mem, hx] at hc
     ·intro g hg3
      rcases List.mem_append.1 hg3 with h | h
      ·exact hg2 g h
      ·simp only [List.mem_singleton] at h; omega
     ·show Wide (addU W' (rowU M j)) (G' ++ [j]).length
      rw [List.length_append, List.length_singleton]
      exact wd2.add q2
     ·show G.length ≤ (G' ++ [j]).length
      rw [List.length_append]; omega
abbrev rowE : El (List Int) := slE intE
abbrev askE : El (Int × List Int) := npE intE
theorem RSl.rrows {Z : Nat → Prop} {h : Heap} {v : CVal} {M : List (List Int)} (s : RSl Z rowE h v M) (hl : ∀ R ∈ M, R.length ≤ 1000000000) : RRows h v M := by
 rcases s with s | ⟨i, o, c, s1, _, s2, _, s4⟩
 ·exact .inl s
 ·refine .inr ⟨i, o, c, s1, s2, s4.imp id fun ⟨cs, wr, opn, g, a⟩ => ⟨cs, wr, opn, g, fun j hj => ?_⟩⟩
  obtain ⟨w, e, r⟩ := a j hj
  have e2 : (cs.drop (o + j * 1)).take 1 = [w] := e
  have e3 := congrArg (fun l : List CVal => l[0]?) e2
  rw [rowU_at hj]
  exact ⟨w, by simpa [List.getElem?_take, List.getElem?_drop] using e3, r.rin, hl _ (List.getElem_mem hj)⟩
structure RV (Z : Nat → Prop) (h : Heap) (q : Nat) (S : AS) (vT vA vP vH vC vW : CVal) : Prop where
 zq : Z q
 zl : ∀ i, Z i → i < h.next
 g : h.get q = some (.cells [vT, vA, .bool S.cl, vP, vH, vC, vW] true none)
 T : RSl Z intE h vT S.T
 A : RSl Z intE h vA S.A
 P : RSl Z intE h vP S.P
 H : RSl Z rowE h vH S.H
 C : RSl Z rowE h vC S.C
 W : RSl Z askE h vW S.W
def RR (Z : Nat → Prop) (h : Heap) (q : Nat) (S : AS) : Prop := ∃ vT vA vP vH vC vW, RV Z h q S vT vA vP vH vC vW
section
variable {Z Z' : Nat → Prop} {h h' : Heap} {q : Nat} {S : AS} {vT vA vP vH vC vW : CVal}
theorem RV.lt (R : RV Z h q S vT vA vP vH vC vW) : q < h.next := R.zl q R.zq
theorem RV.frame {U : Nat → Prop} (R : RV Z h q S vT vA vP vH vC vW) (u : Upd U h h') (hu : ∀ i, i < h.next → U i → Z i ∧ i ≠ q) (hz : ∀ i, i < h.next → Z' i → Z i) (hq : Z' q) (hl : ∀ i, Z' i → i < h'.next) : RV Z' h' q S vT vA vP vH vC vW := by
 have u' : Upd (fun i => Z i ∨ Z' i) h h' := u.sub fun i hi h1 => .inl (hu i hi h1).1
 have f : ∀ {α : Type} {E : El α} {v : CVal} {L : List α}, RSl Z E h v L → RSl Z' E h' v L := fun s => ((s.sub (Z' := fun i => Z i ∨ Z' i) fun i hi h1 => h1.elim id (hz i hi)).upd u').sub fun i _ h1 => .inr h1
 exact ⟨hq, hl, (u.get q R.lt fun h1 => (hu q R.lt h1).2 rfl).trans R.g, f R.T, f R.A, f R.P, f R.H, f R.C, f R.W⟩
theorem RV.exd (R : RV Z h q S vT vA vP vH vC vW) (x : Exd h h') : RV Z h' q S vT vA vP vH vC vW :=
 R.frame (U := fun _ => False) ⟨x.le, fun i hi _ => x.get i hi⟩ (fun _ _ f => f.elim) (fun _ _ h => h) R.zq fun i hi => Nat.lt_of_lt_of_le (R.zl i hi) x.le
end
theorem GoodS.lenH {S : AS} (G : GoodS S) : ∀ R ∈ S.H, R.length ≤ 1000000000 := fun R hR => by have := (G.h R hR).1; have := G.t6; omega
theorem GoodS.lenC {S : AS} (G : GoodS S) : ∀ R ∈ S.C, R.length ≤ 1000000000 := fun R hR => by have := (rowOk_iff (G.c R hR)).1; have := G.t6; omega
theorem atA_cal {Z : Nat → Prop} {h : Heap} {q : Nat} {S : AS} {vT vA vP vH vC vW : CVal} {x : Int} {Q : CVal → Heap → Prop} (R : RV Z h q S vT vA vP vH vC vW) (hl : S.P.length ≤ 1000) (k : Q (.int .i64 (posN (posI S.P x))) h) : Cal tt 75 [.ptr q 0, .int .i64 x] h Q := by
 refine Cal.run rfl rfl rfl rfl ?_
 have g := R.g
 have rP := R.P.rin
 (repeat' first | refine go ?_ | refine idxS_ fun _ _ _ => ?_ | refine sp (fun _ => ?_) fun _ => ?_ | fail)
 refine loopC (fun j : Nat => [(0, .ptr q 0), (1, .int .i64 x), (5, .int .i64 j)]) (fun j h' => h' = h ∧ j ≤ S.P.length ∧ ∀ p, p < j → S.P.getD p 0 ≠ x) (fun j => S.P.length - j) 0 ⟨rfl, rfl, rfl, trivial⟩ ⟨rfl, Nat.zero_le _, fun p hp => absurd hp (Nat.not_lt_zero _)⟩ ?_
 rintro j ρ h' ⟨rfl, hj, hno⟩
 have gj : ∀ R : List Int, R.getD (j : Int).toNat 0 = R.getD j 0 := fun R => by rw [Int.toNat_natCast]
 by_cases hjl : j < S.P.length
 rotate_left
 ·rw [posI_none fun p hp => hno p (by omega)] at k
  (repeat' first | refine go ?_ | refine idxS_ fun _ _ _ => ?_ | refine sp (fun _ => ?_) fun _ => ?_ | fail)
  exact k
 by_cases hx : S.P.getD j 0 = x
 ·rw [posI_some hjl hx hno] at k
  (repeat' first | refine go ?_ | ((refine RIn.idxS rP (by omega) fun b o g => ?_; rw [gj] at g)) | refine idxS_ fun _ _ _ => ?_ | refine sp (fun _ => ?_) fun _ => ?_ | fail)
  exact k
 ·(repeat' first | refine go ?_ | ((refine RIn.idxS rP (by omega) fun b o g => ?_; rw [gj] at g)) | refine idxS_ fun _ _ _ => ?_ | refine sp (fun _ => ?_) fun _ => ?_ | fail)
  exact ⟨rfl, j + 1, ⟨rfl, rfl, rfl, trivial⟩, ⟨rfl, by omega, fun p hp => by
   rcases Nat.lt_or_ge p j with h1 | h1
   ·exact hno p h1
   ·obtain rfl : p = j := by omega
    exact hx⟩, by omega⟩
theorem getD_fst (W : List (Int × List Int)) (j : Nat) : (W.map (·.1)).getD j 0 = (W.getD j (0, [])).1 := by
 simp only [List.getD_eq_getElem?_getD, List.getElem?_map]
 cases W[j]? <;> rfl
theorem waitA_cal {Z : Nat → Prop} {h : Heap} {q : Nat} {S : AS} {vT vA vP vH vC vW : CVal} {x : Int} {Q : CVal → Heap → Prop} (R : RV Z h q S vT vA vP vH vC vW) (hl : S.W.length ≤ 1000) (k : Q (.int .i64 (posN (posW S.W x))) h) : Cal tt 77 [.ptr q 0, .int .i64 x] h Q := by
 refine Cal.run rfl rfl rfl rfl ?_
 have g := R.g
 have rW := R.W
 (repeat' first | refine go ?_ | refine idxS_ fun _ _ _ => ?_ | refine sp (fun _ => ?_) fun _ => ?_ | fail)
 refine loopC (fun j : Nat => [(0, .ptr q 0), (1, .int .i64 x), (5, .int .i64 j)]) (fun j h' => h' = h ∧ j ≤ S.W.length ∧ ∀ p, p < j → (S.W.map (·.1)).getD p 0 ≠ x) (fun j => S.W.length - j) 0 ⟨rfl, rfl, rfl, trivial⟩ ⟨rfl, Nat.zero_le _, fun p hp => absurd hp (Nat.not_lt_zero _)⟩ ?_
 rintro j ρ h' ⟨rfl, hj, hno⟩
 have ej : (j : Int).toNat = j := Int.toNat_natCast j
 by_cases hjl : j < S.W.length
 rotate_left
 ·rw [posW, posI_none fun p hp => hno p (by rw [List.length_map] at hp; omega)] at k
  (repeat' first | refine go ?_ | (refine rW.lenS ?_) | refine idxS_ fun _ _ _ => ?_ | refine sp (fun _ => ?_) fun _ => ?_ | fail)
  exact k
 by_cases hx : (S.W.map (·.1)).getD j 0 = x
 ·rw [posW, posI_some (by rw [List.length_map]; exact hjl) hx hno] at k
  rw [getD_fst] at hx
  (repeat' first | refine go ?_ | (refine rW.lenS ?_) | ((refine rW.pairS (by omega) fun b o w a1 a2 a3 a4 => ?_; rw [ej] at a2)) | refine idxS_ fun _ _ _ => ?_ | refine sp (fun _ => ?_) fun _ => ?_ | fail)
  exact k
 ·have hx' := hx
  rw [getD_fst] at hx'
  (repeat' first | refine go ?_ | (refine rW.lenS ?_) | ((refine rW.pairS (by omega) fun b o w a1 a2 a3 a4 => ?_; rw [ej] at a2)) | refine idxS_ fun _ _ _ => ?_ | refine sp (fun _ => ?_) fun _ => ?_ | fail)
  exact ⟨rfl, j + 1, ⟨rfl, rfl, rfl, trivial⟩, ⟨rfl, by omega, fun p hp => by
   rcases Nat.lt_or_ge p j with h1 | h1
   ·exact hno p h1
   ·obtain rfl : p = j := by omega
    exact hx⟩, by omega⟩
theorem RSl.row1 {Z : Nat → Prop} {h : Heap} {v : CVal} {M : List (List Int)} {i : Int} {j : Nat} {K : Nat → Nat → Prop} (s : RSl Z rowE h v M) (hi : i = j) (hj : j < M.length) (k : ∀ b o w, RSl Z intE h w (rowU M j) → At1 h b o w → K b o) : Cm.idxS 1 v i K := by
 subst hi
 refine s.rowS (by omega) fun b o w r a => k b o w ?_ a
 rw [Int.toNat_natCast] at r
 exact r
theorem grantsA_cal {Z : Nat → Prop} {h : Heap} {q : Nat} {S : AS} {vT vA vP vH vC vW vu : CVal} {x : Int} {u : List Int} {first : Bool} {Q : CVal → Heap → Prop} (R : RV Z h q S vT vA vP vH vC vW) (G : GoodS S) (hx : x ∈ S.P) (ru : RIn h vu u) (hu : rowOk S.T.length u = true)
 (k : ∀ h', Exd h h' → Q (.bool (grantsS S (x, u) first)) h') : Cal tt 95 [.ptr q 0, .agg [.int .i64 x, vu], .bool first] h Q := by
 obtain ⟨N, hN⟩ : ∃ N, h.next = N := ⟨_, rfl⟩
 refine Cal.run rfl rfl rfl rfl ?_
 have ou := ru.one
 have hq := R.lt
 obtain ⟨kk, ek, k1, k2, k3⟩ := G.pos hx
 obtain ⟨q1, q2⟩ := rowOk_split hu
 have t6 := G.t6
 have p32 := G.p32
 have x1 : Exd h (h.new (.cells [.int .i64 x, vu] true none)) := Exd.new (Exd.refl _)
 have R1 := R.exd x1
 have g1 := R.g
 (repeat' first | refine go ?_ | refine idxS_ fun _ _ _ => ?_ | refine sp (fun _ => ?_) fun _ => ?_ | fail)
 refine CALLN.of (atA_cal R1 (by omega) ?_)
 rw [ek]
 have ru1 := ru.exd x1
 have rA1 := R1.A.rin
 have lA := G.a
 (repeat' first | refine go ?_ | refine idxS_ fun _ _ _ => ?_ | refine sp (fun _ => ?_) fun _ => ?_ | fail)
 refine CALLN.of (fitsR_cal ru1 rA1 (by omega) ?_)
 cases hf : fitsU u S.A
 ·rw [show grantsS S (x, u) first = false by simp only [grantsS, ek, hf, Bool.false_and]] at k
  (repeat' first | refine go ?_ | refine idxS_ fun _ _ _ => ?_ | refine sp (fun _ => ?_) fun _ => ?_ | fail)
  exact k _ x1
 cases hcl : S.cl
 ·rw [show grantsS S (x, u) first = true by simp only [grantsS, ek, hf, hcl]; rfl] at k
  rw [hcl] at g1
  (repeat' first | refine go ?_ | refine idxS_ fun _ _ _ => ?_ | refine sp (fun _ => ?_) fun _ => ?_ | fail)
  exact k _ x1
 rw [hcl] at g1
 have hR := rowU_mem k2
 have lR := G.lenH _ hR
 (repeat' first | refine go ?_ | (refine RSl.row1 R1.H rfl k2 fun b o w r a => ?_) | refine idxS_ fun _ _ _ => ?_ | refine sp (fun _ => ?_) fun _ => ?_ | fail)
 refine CALLN.of (noneR_cal (by assumption : RSl Z intE _ _ (rowU S.H kk)).rin lR ?_)
 have key : grantsS S (x, u) first = (!(noneU (rowU S.H kk) && !first) && safeU (subU S.A u) (S.H.set kk (addU (rowU S.H kk) u)) S.C) := by simp only [grantsS, ek, hf, hcl]; rfl
 rw [key] at k
 by_cases hn : noneU (rowU S.H kk) = true ∧ first = false
 ·obtain ⟨hn1, rfl⟩ := hn
  rw [hn1] at k
  (repeat' first | refine go ?_ | refine idxS_ fun _ _ _ => ?_ | refine sp (fun _ => ?_) fun _ => ?_ | fail)
  exact k _ x1
 have hn' : (!(noneU (rowU S.H kk) && !first)) = true := by
  cases h1 : noneU (rowU S.H kk) <;> cases first <;> simp_all
 rw [hn', Bool.true_and] at k
 have fin : ∀ (h6 : Heap), Exd h h6 → Q (.bool (safeU (subU S.A u) (S.H.set kk (addU (rowU S.H kk) u)) S.C)) h6 := k
 clear k key
 obtain ⟨N1, hN1⟩ : ∃ N, (h.new (.cells [.int .i64 x, vu] true none)).next = N := ⟨_, rfl⟩
 have gx : (h.new (.cells [.int .i64 x, vu] true none)).get N = some (.cells [.int .i64 x, vu] true none) := by exact get_
 have g2 := R1.g
 rw [hcl] at g2
 have nl : N < N1 := by rw [Heap.next_new] at hN1; omega
 have ql : q < N1 := by rw [Heap.next_new] at hN1; omega
 generalize h.new (.cells [.int .i64 x, vu] true none) = h1 at *
 have l01 := x1.le
 cases hnn : noneU (rowU S.H kk) <;> cases first
 case true.false => exact absurd ⟨hnn, rfl⟩ hn
 all_goals
  (repeat' first | refine go ?_ | refine idxS_ fun _ _ _ => ?_ | refine sp (fun _ => ?_) fun _ => ?_ | fail)
  refine CALLN.of (lessR_cal rA1 ru1 (by omega) (by omega) (fun e => by rw [G.less hu hf] at e; simp at e) fun _ p2 h2 x2 O2 => ?_)
  have l2 := x2.le
  have g3 := x2.skip (by omega) g2
  have gx3 := x2.skip (by omega) gx
  have R2 := R1.exd x2
  obtain ⟨N2, hN2⟩ : ∃ N, h2.next = N := ⟨_, rfl⟩
  obtain ⟨vh, h3, ea, x3, GW, hvh, l3, l3'⟩ := append_copy (bytes := 24) R2.H hN2 (by have := G.hl; omega)
  have g4 := x3.skip (by omega) g3
  have gx4 := x3.skip (by omega) gx3
  have R3 := R2.exd x3
  have rh3 := R3.H
  have ov := GW.1.one
  have rb : ∀ p, -1000000000 ≤ atU (rowU S.H kk) p ∧ atU (rowU S.H kk) p ≤ 1000000000 := fun p => by have := G.atH hR p; omega
  have ub : ∀ p, -1000000000 ≤ atU u p ∧ atU u p ≤ 1000000000 := fun p => by have := mayU_atU q2 p; omega
  have ru3 := (ru1.exd x2).exd x3
  have lRk := (G.h _ hR).1
  (repeat' first | refine go ?_ | (refine SOMEN.mk ea ?_) | (refine RSl.row1 rh3 rfl k2 fun b o w r a => ?_) | refine idxS_ fun _ _ _ => ?_ | refine sp (fun _ => ?_) fun _ => ?_ | fail)
  refine CALLN.of (moreR_cal (by assumption : RSl Z intE h3 _ (rowU S.H kk)).rin ru3 lR (by omega) rb ub fun p4 h4 x4 O4 => ?_)
  have x4 : Exd h3 h4 := x4
  have O4 : OwnW h3 h4 p4 _ := O4
  have GW4 := GW.exd x4
  have zl := R.zl
  have he : rowE.ok (fun i => Z i ∨ isB vh i) h4 [.slice p4 0 (rowU S.H kk).length (rowU S.H kk).length] (addU (rowU S.H kk) u) := slE.ok ((by rw [← addU_len (rowU S.H kk) u]; exact O4.rin rfl : RIn h4 _ _).rsl (fun i hi => by
   rw [isB_slice] at hi
   subst hi
   have := O4.1
   exact fun h => h.elim (fun h => by have := zl _ h; omega) fun h => by have := hvh _ h; omega) fun _ _ _ _ e => by simp only [CVal.slice.injEq] at e; omega)
  (repeat' first | refine go ?_ | (refine GSl.idxS GW4.1 rfl k2 rfl fun b hb => ?_) | refine idxS_ fun _ _ _ => ?_ | refine sp (fun _ => ?_) fun _ => ?_ | fail)
  refine GSlW.store GW4 (by assumption) k2 rfl rfl he fun h5 GW5 u5 n5 => ?_
  have x5 : Exd h2 h5 := ⟨by have := x3.le; have := x4.le; omega, fun i hi => (u5.get i (by have := x3.le; have := x4.le; omega) fun hb => by have := hvh i hb; omega).trans ((x3.trans x4).get i hi)⟩
  have g5 := x5.skip (by omega) g3
  have R5 := R2.exd x5
  (repeat' first | refine go ?_ | refine idxS_ fun _ _ _ => ?_ | refine sp (fun _ => ?_) fun _ => ?_ | fail)
  refine CALLN.of (safeR_cal (A := subU S.A u) (by have := (O2.exd x5).rin (subU_len S.A u); exact this) ((GW5.1.read fun i hi => fun h => by have := hvh i hi; have := zl i h; omega).rrows fun R hR' => ?_) (R5.C.rrows G.lenC) (by rw [subU_len]; omega) fun h6 x6 => ?_)
  ·rcases List.mem_or_eq_of_mem_set hR' with h7 | h7
   ·exact G.lenH R h7
   ·rw [h7, addU_len]; exact lR
  ·(repeat' first | refine go ?_ | refine idxS_ fun _ _ _ => ?_ | refine sp (fun _ => ?_) fun _ => ?_ | fail)
   exact fin _ (x1.trans (x2.trans (x5.trans x6)))
theorem GSlW.upd {α : Type} {Z S : Nat → Prop} {E : El α} {h h' : Heap} {v : CVal} {L : List α} (s : GSlW Z E h v L) (u : Upd S h h') (hs : ∀ i, i < h.next → S i → Z i ∧ ¬ isB v i) : GSlW Z E h' v L := ⟨s.1.upd u hs, fun b hb => by
 obtain ⟨cs, opn, g⟩ := s.2 b hb
 have := s.1.1 b hb
 exact ⟨cs, opn, (u.get b this fun h => (hs b this h).2 hb).trans g⟩⟩
theorem RV.put {Z : Nat → Prop} {h : Heap} {q : Nat} {S S' : AS} {vT vA vP vH vC vW vT' vA' vP' vH' vC' vW' : CVal} (R : RV Z h q S vT vA vP vH vC vW) (hcl : S'.cl = S.cl) (T : RSl Z intE h vT' S'.T) (A : RSl Z intE h vA' S'.A) (P : RSl Z intE h vP' S'.P) (H : RSl Z rowE h vH' S'.H) (C : RSl Z rowE h vC' S'.C) (W : RSl Z askE h vW' S'.W) :
 RV Z (h.set q (.cells [vT', vA', .bool S.cl, vP', vH', vC', vW'] true none)) q S' vT' vA' vP' vH' vC' vW' := by
 have u : Upd Z h (h.set q (.cells [vT', vA', .bool S.cl, vP', vH', vC', vW'] true none)) := Upd.set (Upd.refl _ _) (.inl R.zq)
 exact ⟨R.zq, fun i hi => by rw [Heap.next_set]; exact R.zl i hi, by rw [hcl]; exact Heap.set_at rfl, T.upd u, A.upd u, P.upd u, H.upd u, C.upd u, W.upd u⟩
theorem OwnW.rsl {Z : Nat → Prop} {h₀ h : Heap} {p m : Nat} {R : List Int} (O : OwnW h₀ h p (R.map (.int .i64))) (hm : R.length = m) (hz : ∀ i, Z i → i < h₀.next) : RSl Z intE h (.slice p 0 m m) R := (O.rin hm).rsl (fun i hi h => by
 rw [isB_slice] at hi
 subst hi
 have := O.1
 have := hz _ h
 omega) fun _ _ _ _ e => by simp only [CVal.slice.injEq] at e; omega
section
variable {Z : Nat → Prop} {h : Heap} {q : Nat} {S : AS} {vT vA vP vH vC vW : CVal} {K : Heap → Prop}
theorem RV.setA {A' : List Int} {vA' : CVal} (R : RV Z h q S vT vA vP vH vC vW) (A : RSl Z intE h vA' A') (k : ∀ h', Upd (fun p => p = q) h h' → h'.next = h.next → RV Z h' q { S with A := A' } vT vA' vP vH vC vW → K h') : SETN h q 1 1 [vA'] K :=
 SETN.mk R.g rfl (by simp) (k _ (Upd.set (Upd.refl _ _) (.inl rfl)) (Heap.next_set ..) (R.put (S' := { S with A := A' }) rfl R.T A R.P R.H R.C R.W))
theorem RV.setP {P' : List Int} {vP' : CVal} (R : RV Z h q S vT vA vP vH vC vW) (P : RSl Z intE h vP' P') (k : ∀ h', Upd (fun p => p = q) h h' → h'.next = h.next → RV Z h' q { S with P := P' } vT vA vP' vH vC vW → K h') : SETN h q 3 1 [vP'] K :=
 SETN.mk R.g rfl (by simp) (k _ (Upd.set (Upd.refl _ _) (.inl rfl)) (Heap.next_set ..) (R.put (S' := { S with P := P' }) rfl R.T R.A P R.H R.C R.W))
theorem RV.setH {H' : List (List Int)} {vH' : CVal} (R : RV Z h q S vT vA vP vH vC vW) (H : RSl Z rowE h vH' H') (k : ∀ h', Upd (fun p => p = q) h h' → h'.next = h.next → RV Z h' q { S with H := H' } vT vA vP vH' vC vW → K h') : SETN h q 4 1 [vH'] K :=
 SETN.mk R.g rfl (by simp) (k _ (Upd.set (Upd.refl _ _) (.inl rfl)) (Heap.next_set ..) (R.put (S' := { S with H := H' }) rfl R.T R.A R.P H R.C R.W))
theorem RV.setC {C' : List (List Int)} {vC' : CVal} (R : RV Z h q S vT vA vP vH vC vW) (C : RSl Z rowE h vC' C') (k : ∀ h', Upd (fun p => p = q) h h' → h'.next = h.next → RV Z h' q { S with C := C' } vT vA vP vH vC' vW → K h') : SETN h q 5 1 [vC'] K :=
 SETN.mk R.g rfl (by simp) (k _ (Upd.set (Upd.refl _ _) (.inl rfl)) (Heap.next_set ..) (R.put (S' := { S with C := C' }) rfl R.T R.A R.P R.H C R.W))
theorem RV.setW {W' : List (Int × List Int)} {vW' : CVal} (R : RV Z h q S vT vA vP vH vC vW) (W : RSl Z askE h vW' W') (k : ∀ h', Upd (fun p => p = q) h h' → h'.next = h.next → RV Z h' q { S with W := W' } vT vA vP vH vC vW' → K h') : SETN h q 6 1 [vW'] K :=
 SETN.mk R.g rfl (by simp) (k _ (Upd.set (Upd.refl _ _) (.inl rfl)) (Heap.next_set ..) (R.put (S' := { S with W := W' }) rfl R.T R.A R.P R.H R.C W))
end
theorem grantM {S : AS} {x : Int × List Int} {k : Nat} (e : posI S.P x.1 = some k) : grantS S x = { S with A := subU S.A x.2, H := S.H.set k (addU (rowU S.H k) x.2) } := by rw [grantS, e]
theorem RSl.atE {α : Type} {Z : Nat → Prop} {E : El α} {h : Heap} {v : CVal} {L : List α} {j : Nat} (s : RSl Z E h v L) (hj : j < L.length) : ∃ b o xs, E.ok Z h xs L[j] ∧ AtN h b o xs ∧ ∀ K : Nat → Nat → Prop, K b o → Cm.idxS E.sz v (j : Int) K := by
 rcases s with ⟨rfl, rfl⟩ | ⟨b, o, c, rfl, hc, hb, _, ra⟩
 ·simp at hj
 ·rcases ra with rfl | ⟨cs, wr, opn, g, a⟩
  ·simp at hj
  ·have := a j hj
   have hl : (chunk E.sz o cs j).length = E.sz := E.len this
   exact ⟨b, o + j * E.sz, _, this, ⟨hb, cs, wr, opn, g, by rw [hl]; rfl⟩, fun K q => ⟨by omega, by rw [Int.toNat_natCast]; exact q⟩⟩
theorem RSl.pairE {α : Type} {Z : Nat → Prop} {E : El α} {h : Heap} {v : CVal} {M : List (Int × List α)} {j : Nat} {p : Int} {us : List α} (s : RSl Z (npE E) h v M) (e : M[j]? = some (p, us)) : ∃ b o w, RSl Z E h w us ∧ AtN h b o [.int .i64 p, w] ∧ ∀ K : Nat → Nat → Prop, K b o → Cm.idxS 2 v (j : Int) K := by
 obtain ⟨hj, e⟩ := List.getElem?_eq_some_iff.1 e
 obtain ⟨b, o, xs, ⟨c, d, e1, e2, w, e3, r⟩, a, q⟩ := s.atE hj
 rw [e] at e2 r
 have e2 : c = [.int .i64 p] := e2
 subst e1 e2 e3
 exact ⟨b, o, w, r, a, q⟩
theorem RSl.rowE {Z : Nat → Prop} {h : Heap} {v : CVal} {M : List (List Int)} {j : Nat} (s : RSl Z (slE intE) h v M) (hj : j < M.length) : ∃ b o w, RSl Z intE h w (rowU M j) ∧ At1 h b o w ∧ ∀ K : Nat → Nat → Prop, K b o → Cm.idxS 1 v (j : Int) K := by
 obtain ⟨b, o, xs, ⟨w, e, r⟩, a, q⟩ := s.atE hj
 subst e
 rw [← rowU_at hj] at r
 exact ⟨b, o, w, r, by simpa using a.at (j := 0) rfl, q⟩
theorem GSl.ints_any {Z Z' : Nat → Prop} {h : Heap} {v : CVal} {R : List Int} (s : GSl Z intE h v R) : GSl Z' intE h v R := s
theorem GSl.ints_upd {Z S : Nat → Prop} {h h' : Heap} {v : CVal} {R : List Int} (s : GSl Z intE h v R) (u : Upd S h h') (hs : ∀ i, S i → ¬ isB v i) : GSl Z intE h' v R :=
 (GSl.upd (Z := S) (s : GSl S intE h v R) u fun i _ h => ⟨h, hs i h⟩ : GSl S intE h' v R)
structure ScanI (Z : Nat → Prop) (h₀ h : Heap) (q : Nat) (S S' : AS) (vT vP vC vW vl vo : CVal) (i : Nat) (left : List (Int × List Int)) (out : List Int) : Prop where
 u : Upd (fun p => p = q) h₀ h
 R : ∃ vA vH, RV (fun p => Z p ∨ isB vl p ∨ isB vo p) h q S' vT vA vP vH vC vW
 l : GSl (fun p => Z p ∨ isB vo p) askE h vl left
 o : GSl Z intE h vo out
 lb : ∀ b, isB vl b → h₀.next ≤ b
 ob : ∀ b, isB vo b → h₀.next ≤ b
 ne : ∀ b, isB vl b → ¬ isB vo b
 s : scanL (S.W.drop i) S' left out = scanS S
 G : GoodS S'
 eP : S'.P = S.P
 eT : S'.T = S.T
 eW : S'.W = S.W
 il : i ≤ S.W.length
 ll : left.length ≤ i
 lo : out.length ≤ i
theorem nodup_sub : ∀ {l P : List Int}, l.Nodup → (∀ x ∈ l, x ∈ P) → l.length ≤ P.length
 | [], _, _, _ => Nat.zero_le _
 | x :: l, P, nd, h => by
   obtain ⟨n1, n2⟩ := List.nodup_cons.1 nd
   have hx := h x (List.mem_cons_self ..)
   have := nodup_sub (l := l) (P := P.erase x) n2 fun y hy => (List.mem_erase_of_ne (fun e => n1 (by rw [← e]; exact hy))).2 (h y (List.mem_cons_of_mem _ hy))
   rw [List.length_erase_of_mem hx] at this
   have := List.length_pos_of_mem hx
   rw [List.length_cons]
   omega
theorem GoodS.wl {S : AS} (G : GoodS S) : S.W.length ≤ 32 := by
 have := nodup_sub G.wd fun x hx => by
  obtain ⟨y, hy, rfl⟩ := List.mem_map.1 hx
  exact (G.w y hy).1
 rw [List.length_map] at this
 exact Nat.le_trans this G.p32
set_option maxHeartbeats 2000000 in
theorem scanA_cal {Z : Nat → Prop} {h : Heap} {q : Nat} {S : AS} {vT vA vP vH vC vW : CVal} {Q : CVal → Heap → Prop} (R : RV Z h q S vT vA vP vH vC vW) (G : GoodS S) (hw : S.W.length ≤ 100)
 (k : ∀ v h', Upd (fun p => p = q) h h' → RR Z h' q (scanS S).1 → RIn h' v (scanS S).2 → (∀ b, isB v b → h.next ≤ b) → Q v h') : Cal tt 79 [.ptr q 0] h Q := by
 obtain ⟨N, hN⟩ : ∃ N, h.next = N := ⟨_, rfl⟩
 refine Cal.run rfl rfl rfl rfl ?_
 have hq := R.lt
 have g := R.g
 have zl := R.zl
 have x0 : Exd h ((h.new (.cells [] true none)).new (.cells [] true none)) := Exd.new (Exd.new (Exd.refl _))
 have I0 : ScanI Z h ((h.new (.cells [] true none)).new (.cells [] true none)) q S S vT vP vC vW (.slice (N + 1) 0 0 0) (.slice N 0 0 0) 0 [] [] := by
  refine ⟨x0.upd, ⟨vA, vH, R.frame (U := fun _ => False) ⟨x0.le, fun i hi _ => x0.get i hi⟩ (fun _ _ f => f.elim) (fun i hi h1 => ?_) (.inl R.zq) fun i h1 => ?_⟩, GSl.new (wr := true) (by exact get_) (by exact lt_), GSl.new (wr := true) (by exact get_) (by exact lt_), fun b hb => by rw [isB_slice] at hb; omega, fun b hb => by rw [isB_slice] at hb; omega, fun b hb h2 => by rw [isB_slice] at hb h2; omega, rfl, G, rfl, rfl, rfl, Nat.zero_le _, Nat.le_refl _, Nat.le_refl _⟩
  ·rw [isB_slice, isB_slice] at h1
   rcases h1 with h1 | h1 | h1
   ·exact h1
   ·omega
   ·omega
  ·rw [isB_slice, isB_slice] at h1
   simp only [Heap.next_new]
   rcases h1 with h1 | h1 | h1
   ·have := zl i h1; omega
   ·omega
   ·omega
 have hw := G.wl
 (repeat' first | refine go ?_ | refine idxS_ fun _ _ _ => ?_ | refine sp (fun _ => ?_) fun _ => ?_ | fail)
 refine loopC (fun y : Nat × AS × CVal × CVal × List (Int × List Int) × List Int => [(0, .ptr q 0), (3, y.2.2.2.1), (4, y.2.2.1), (5, .int .i64 y.1)]) (fun y h' => ScanI Z h h' q S y.2.1 vT vP vC vW y.2.2.1 y.2.2.2.1 y.1 y.2.2.2.2.1 y.2.2.2.2.2) (fun y => S.W.length - y.1) (0, S, .slice (N + 1) 0 0 0, .slice N 0 0 0, [], []) ⟨rfl, rfl, rfl, rfl, trivial⟩ I0 ?_
 rintro ⟨j, S', vl, vo, left, out⟩ ρ h' ⟨u, ⟨vA', vH', R'⟩, Gl, Go, lb, ob, ne, es, G', eP, eT, eW, il, ll, lo⟩
 simp only at u R' Gl Go lb ob ne es G' eP eT eW il ll lo ⊢
 have g' := R'.g
 have W' := R'.W
 rw [eW] at W'
 have q' := R'.lt
 have ol := Gl.one
 have oo := Go.one
 have ul := u.le
 have ej : (j : Int).toNat = j := Int.toNat_natCast j
 by_cases hjl : j < S.W.length
 rotate_left
 ·
  rw [List.drop_eq_nil_of_le (by omega)] at es
  have es' : scanS S = ({ S' with W := left }, out) := es.symm
  rw [es'] at k
  (repeat' first | refine go ?_ | (refine W'.lenS ?_) | refine idxS_ fun _ _ _ => ?_ | refine sp (fun _ => ?_) fun _ => ?_ | fail)
  have lz : ∀ b, isB vl b → ¬ Z b := fun b hb h => by have := lb b hb; have := zl b h; omega
  have Rz : RV Z h' q S' vT vA' vP vH' vC vW := R'.frame (U := fun _ => False) (Upd.refl _ _) (fun _ _ f => f.elim) (fun i _ h => .inl h) R.zq fun i hi => Nat.lt_of_lt_of_le (zl i hi) ul
  refine k vo _ (Upd.set u (.inl rfl)) ⟨vT, vA', vP, vH', vC, vl, Rz.put (S' := { S' with W := left }) rfl Rz.T Rz.A Rz.P Rz.H Rz.C ((Gl.sub (Z' := Z) fun i _ h => .inl h).read lz)⟩ ?_ ob
  exact ((Go.ints_upd (S := fun p => p = q) (Upd.set (Upd.refl _ _) (.inl rfl)) fun i hi hb => by have := ob i hb; omega)).ints
 obtain ⟨x, ex⟩ : ∃ x, S.W[j]? = some x := ⟨_, List.getElem?_eq_getElem hjl⟩
 have exd : S.W.getD j (0, []) = x := by rw [List.getD_eq_getElem?_getD, ex]; rfl
 have hxm : x ∈ S.W := List.mem_of_getElem? ex
 have hdrop : S.W.drop j = x :: S.W.drop (j + 1) := by
  rw [List.drop_eq_getElem_cons hjl]
  rw [List.getElem?_eq_getElem hjl, Option.some.injEq] at ex
  rw [ex]
 rw [hdrop, scanL] at es
 obtain ⟨hxP, hxu⟩ := G'.w x (by rw [eW]; exact hxm)
 obtain ⟨pid, us⟩ := x
 simp only at hxP hxu
 obtain ⟨N1, hN1⟩ : ∃ N, h'.next = N := ⟨_, rfl⟩
 obtain ⟨fb, hfb⟩ : ∃ fb, left.isEmpty = fb := ⟨_, rfl⟩
 rw [hfb] at es
 have hq1 : q < N1 := by omega
 obtain ⟨kk, ek, k1, k2, k3⟩ := G'.pos hxP
 have hl0 : (left.length = 0 ∧ fb = true) ∨ (¬ left.length = 0 ∧ fb = false) := by
  subst hfb
  cases left <;> simp
 have t6 := G'.t6
 rcases hl0 with ⟨hl0, rfl⟩ | ⟨hl0, rfl⟩
 all_goals
  obtain ⟨b0, o0, w, a1, a4, hidx⟩ := W'.pairE ex
  have ow := a1.one
  (repeat' first | refine go ?_ | (refine W'.lenS ?_) | (refine hidx _ ?_) | (refine AtN.get a4 rfl ?_) | ((refine Gl.lenS ?_)) | refine idxS_ fun _ _ _ => ?_ | refine sp (fun _ => ?_) fun _ => ?_ | fail)
  refine CALLN.of (grantsA_cal (R'.exd exd_) G' hxP (a1.rin.exd exd_) hxu fun h2 x2 => ?_)
  have x02 : Exd h' h2 := Exd.trans exd_ x2
  have gN1 : h2.get N1 = some (.cells [.int .i64 pid, w] true none) := x2.skip (by exact lt_) (by exact get_)
  have nN1 : N1 < h2.next := by have := x2.le; simp only [Heap.next_set, Heap.next_new] at this; omega
  clear x2
  have R2 := R'.exd x02
  have a1' := a1.exd x02
  have g2 := R2.g
  have l02 := x02.le
  obtain ⟨N2, hN2⟩ : ∃ N, h2.next = N := ⟨_, rfl⟩
  cases hg : grantsS S' (pid, us) _
  ·rw [hg] at es
   simp only [Bool.false_eq_true, if_false] at es
   have x23 : Exd h2 (h2.new (.cells [.int .i64 pid, w] true none)) := Exd.new (Exd.refl _)
   have src : srcC (h2.new (.cells [.int .i64 pid, w] true none)) 2 (.slice N2 0 1 1) = some (1, [.int .i64 pid, w]) := src_one (by exact get_) rfl rfl
   have hel : askE.ok (fun i => (Z i ∨ isB vo i) ∨ isB vl i) (h2.new (.cells [.int .i64 pid, w] true none)) [.int .i64 pid, w] (pid, us) := npE.ok (p := (pid, us)) ((a1'.exd x23).sub fun i hi h => by
    rcases h with (h | h) | h
    ·exact .inl h
    ·exact .inr (.inr h)
    ·exact .inr (.inl h))
   obtain ⟨h4, ea, u4, n4, G4⟩ := (Gl.exd (x02.trans x23)).push1 (bytes := 32) (a := (pid, us)) src (by omega) hel rfl
   have u04 : Upd (isB vl) h' h4 := (x02.trans x23).upd.trans u4
   (repeat' first | refine go ?_ | (refine SOMEN.mk ea ?_) | refine idxS_ fun _ _ _ => ?_ | refine sp (fun _ => ?_) fun _ => ?_ | fail)
   refine ⟨rfl, (j + 1, S', _, vo, left ++ [(pid, us)], out), ⟨rfl, rfl, rfl, rfl, trivial⟩, (?_ : ScanI Z h h4 q S S' vT vP vC vW (.slice (h2.new (.cells [.int .i64 pid, w] true none)).next 0 (left.length + 1) (left.length + 1)) vo (j + 1) (left ++ [(pid, us)]) out), by simp only; omega⟩
   have l4 := u04.le
   refine ⟨⟨by omega, fun i hi hs => (u04.get i (by omega) fun hb => by have := lb i hb; omega).trans (u.get i hi hs)⟩, ⟨vA', vH', R'.frame u04 (fun i hi hb => ⟨.inr (.inl hb), fun e => by have := lb i hb; omega⟩) (fun i hi hz => ?_) (.inl R.zq) fun i hz => ?_⟩, G4, Go.ints_upd u04 fun i hb => ne i hb, fun b hb => ?_, ob, fun b hb hb2 => ?_, es, G', eP, eT, eW, by omega, by rw [List.length_append, List.length_singleton]; omega, by omega⟩
   ·rcases hz with h | h | h
    ·exact .inl h
    ·rw [isB_slice, Heap.next_new] at h; omega
    ·exact .inr (.inr h)
   ·rcases hz with h | h | h
    ·have := zl i h; omega
    ·rw [isB_slice, Heap.next_new] at h
     rw [n4, Heap.next_new]; omega
    ·have := Go.1 i h; omega
   ·rw [isB_slice, Heap.next_new] at hb; omega
   ·rw [isB_slice, Heap.next_new] at hb
    have := Go.1 b hb2
    omega
  ·rw [hg, if_pos rfl] at es
   have hf := grantsS_fits hg
   (repeat' first | refine go ?_ | refine idxS_ fun _ _ _ => ?_ | refine sp (fun _ => ?_) fun _ => ?_ | fail)
   refine CALLN.of (atA_cal R2 (by have := G'.p32; omega) ?_)
   rw [ek]
   have rA2 := R2.A.rin
   have lA := G'.a
   obtain ⟨q1, q2⟩ := rowOk_split hxu
   (repeat' first | refine go ?_ | refine idxS_ fun _ _ _ => ?_ | refine sp (fun _ => ?_) fun _ => ?_ | fail)
   refine CALLN.of (lessR_cal rA2 a1'.rin (by omega) (by omega) (fun e => by rw [G'.less hxu hf] at e; simp at e) fun _ p3 h3 x3 O3 => ?_)
   have R3 := R2.exd x3
   have A3 : RSl (fun p => Z p ∨ isB vl p ∨ isB vo p) intE h3 (.slice p3 0 S'.A.length S'.A.length) (subU S'.A us) := O3.rsl (subU_len _ _) R2.zl
   have nl3 := x3.le
   have gN3 := x3.skip nN1 gN1
   (repeat' first | refine goS ?_ | refine idxS_ fun _ _ _ => ?_ | refine sp (fun _ => ?_) fun _ => ?_ | fail)
   refine R3.setA A3 fun h5 u5 n5 R5 => ?_
   have g5 := R5.g
   have gN5 : h5.get N1 = _ := (u5.get N1 (by omega) (by omega)).trans gN3
   obtain ⟨N5, hN5⟩ : ∃ N, h5.next = N := ⟨_, rfl⟩
   obtain ⟨vh, h6, ea, x6, GW, hvh, l6, l6'⟩ := append_copy (bytes := 24) R5.H hN5 (by have := G'.hl; have := G'.p32; show S'.H.length * 24 ≤ _; omega)
   have og := GW.1.one
   have R6 := R5.exd x6
   have g6 := R6.g
   have zl5 := R5.zl
   have H6 : RSl (fun p => Z p ∨ isB vl p ∨ isB vo p) rowE h6 vh S'.H := GW.1.read fun b hb h => by have := hvh b hb; have := zl5 b h; omega
   have q5 : q < N5 := by have := R5.lt; omega
   (repeat' first | refine goS ?_ | (refine SOMEN.mk ea ?_) | refine idxS_ fun _ _ _ => ?_ | refine sp (fun _ => ?_) fun _ => ?_ | fail)
   refine R6.setH H6 fun h7 u7 n7 R7 => ?_
   have g7 := R7.g
   have gN7 : h7.get N1 = _ := (u7.get N1 (by omega) (by omega)).trans (x6.skip (by omega) gN5)
   have GW7 := GW.upd u7 fun i _ e => ⟨by rw [e]; exact .inl R.zq, fun hb => by have := hvh i hb; omega⟩
   obtain ⟨b7, o7, w7, r7, a7, hidx7⟩ := (show RSl (fun p => Z p ∨ isB vl p ∨ isB vo p) rowE h7 vh S'.H from R7.H).rowE k2
   have hRm := rowU_mem k2
   have rb : ∀ p, -1000000000 ≤ atU (rowU S'.H kk) p ∧ atU (rowU S'.H kk) p ≤ 1000000000 := fun p => by have := G'.atH hRm p; omega
   have ub : ∀ p, -1000000000 ≤ atU us p ∧ atU us p ≤ 1000000000 := fun p => by have := mayU_atU q2 p; omega
   have u27 : Upd (fun p => p = q) h2 h7 := ((x3.upd.trans u5).trans x6.upd).trans u7
   have ru7 : RIn h7 w us := (a1'.upd (u27.sub fun i _ e => by rw [e]; exact .inl R.zq)).rin
   have lRk := (G'.h _ hRm).1
   (repeat' first | refine goS ?_ | (refine hidx7 _ ?_) | refine idxS_ fun _ _ _ => ?_ | refine sp (fun _ => ?_) fun _ => ?_ | fail)
   refine CALLN.of (moreR_cal r7.rin ru7 (G'.lenH _ hRm) (by omega) rb ub fun p8 h8 x8 O8 => ?_)
   have GW8 := GW7.exd x8
   have g8 := (R7.exd x8).g
   have gN8 := x8.skip (by omega) gN7
   have he : rowE.ok (fun i => (Z i ∨ isB vl i ∨ isB vo i) ∨ isB vh i) h8 [.slice p8 0 (rowU S'.H kk).length (rowU S'.H kk).length] (addU (rowU S'.H kk) us) := slE.ok (O8.rsl (addU_len _ _) fun i h => h.elim (fun h => R7.zl i h) fun h => by have := hvh i h; omega)
   (repeat' first | refine goS ?_ | (refine GSl.idxS GW8.1 rfl k2 rfl fun b hb => ?_) | refine idxS_ fun _ _ _ => ?_ | refine sp (fun _ => ?_) fun _ => ?_ | fail)
   refine GSlW.store GW8 (by assumption) k2 rfl rfl he fun h9 GW9 u9 n9 => ?_
   have l7 : h2.next ≤ h7.next := u27.le
   have l8 := x8.le
   obtain ⟨N9, hN9⟩ : ∃ N, h9.next = N := ⟨_, rfl⟩
   have gN9 : h9.get N1 = _ := (u9.get N1 (by omega) fun hb => by have := hvh _ hb; omega).trans gN8
   have g9 : h9.get q = _ := (u9.get q (by omega) fun hb => by have := hvh _ hb; omega).trans g8
   have u09 : Upd (fun i => i = q ∨ h'.next ≤ i) h' h9 := (((x02.upd (S := fun i => i = q ∨ h'.next ≤ i)).trans (u27.sub fun _ _ e => .inl e)).trans x8.upd).trans (u9.sub fun i _ hb => .inr (by have := hvh i hb; omega))
   have Go9 : GSl Z intE h9 vo out := Go.ints_upd u09 fun i hi hb => hi.elim (fun e => by have := ob i hb; omega) fun e => by have := Go.1 i hb; omega
   have x9 : Exd h9 (h9.new (.cells [.int .i64 pid] true none)) := Exd.new (Exd.refl _)
   have src9 : srcC (h9.new (.cells [.int .i64 pid] true none)) 1 (.slice N9 0 1 1) = some (1, [.int .i64 pid]) := src_one (by exact get_) rfl rfl
   obtain ⟨h11, eb, u11, n11, Go11⟩ := (Go9.exd x9).push1 (bytes := 8) (a := pid) (N := N9 + 1) src9 (by omega) rfl (by rw [Heap.next_new, hN9])
   (repeat' first | refine go ?_ | (refine SOMEN.mk eb ?_) | refine idxS_ fun _ _ _ => ?_ | refine sp (fun _ => ?_) fun _ => ?_ | fail)
   refine ⟨rfl, (j + 1, grantS S' (pid, us), vl, .slice (N9 + 1) 0 (out.length + 1) (out.length + 1), left, out ++ [pid]), ⟨rfl, rfl, rfl, rfl, trivial⟩, (?_ : ScanI Z h h11 q S (grantS S' (pid, us)) vT vP vC vW vl (.slice (N9 + 1) 0 (out.length + 1) (out.length + 1)) (j + 1) left (out ++ [pid])), by simp only; omega⟩
   have eg := grantM (x := (pid, us)) ek
   obtain ⟨p1, p2, p3', p4, p5⟩ := grantS_P S' (pid, us)
   have l9 := u09.le
   have nv : ∀ b, isB vo b → b < h'.next := Go.1
   have nvl : ∀ b, isB vl b → b < h'.next := Gl.1
   have u911 : Upd (isB vo) h9 h11 := x9.upd.trans u11
   have u011 : Upd (fun i => (i = q ∨ h'.next ≤ i) ∨ isB vo i) h' h11 := (u09.sub fun _ _ e => .inl e).trans (u911.sub fun _ _ e => .inr e)
   have u511 : Upd (fun i => (Z i ∨ isB vl i ∨ isB vo i) ∨ N5 ≤ i) h5 h11 := ((((x6.upd (S := fun i => (Z i ∨ isB vl i ∨ isB vo i) ∨ N5 ≤ i)).trans (u7.sub fun i _ e => .inl (by rw [e]; exact .inl R.zq))).trans x8.upd).trans (u9.sub fun i _ hb => .inr (hvh i hb).1)).trans (u911.sub fun i _ e => .inl (.inr (.inr e)))
   have fz : ∀ {α : Type} {E : El α} {v : CVal} {L : List α}, RSl (fun p => Z p ∨ isB vl p ∨ isB vo p) E h5 v L → RSl (fun p => Z p ∨ isB vl p ∨ isB (.slice (N9 + 1) 0 (out.length + 1) (out.length + 1)) p) E h11 v L := fun s => ((s.sub (Z' := fun i => (Z i ∨ isB vl i ∨ isB vo i) ∨ N5 ≤ i) fun i hi h => h.elim id fun h => by omega).upd u511).sub fun i _ h => by
    rcases h with h | h | h
    ·exact .inl (.inl h)
    ·exact .inl (.inr (.inl h))
    ·rw [isB_slice] at h; exact .inr (by omega)
   have g11 : h11.get q = _ := (u911.get q (by omega) fun hb => by have := ob q hb; omega).trans g9
   refine ⟨⟨by omega, fun i hi hs => (u011.get i (by omega) fun e => by
    rcases e with (e | e) | e
    ·exact hs e
    ·omega
    ·have := ob i e; omega).trans (u.get i hi hs)⟩, ⟨.slice p3 0 S'.A.length S'.A.length, vh, ⟨.inl R.zq, fun i h => ?_, by rw [p5]; exact g11, by rw [p2]; exact fz R5.T, by rw [eg]; exact fz R5.A, by rw [p1]; exact fz R5.P, ?_, by rw [p4]; exact fz R5.C, by rw [p3']; exact fz R5.W⟩⟩, ?_, Go11, lb, fun b hb => by rw [isB_slice] at hb; omega, fun b hb h => by rw [isB_slice] at h; have := nvl b hb; omega, es, G'.grant hxP hxu hf, p1.trans eP, p2.trans eT, p3'.trans eW, by omega, by omega, by rw [List.length_append, List.length_singleton]; omega⟩
   ·rcases h with h | h | h
    ·have := zl i h; omega
    ·have := nvl i h; omega
    ·rw [isB_slice] at h; omega
   ·rw [eg]
    refine GSl.read (((GW9.1.sub (Z' := fun i => (Z i ∨ isB vl i ∨ isB vo i) ∨ N9 ≤ i) fun i hi h => h.elim id fun h => by omega).upd u911 fun i hi hb => ⟨.inl (.inr (.inr hb)), fun h => by have := hvh i h; have := nv i hb; omega⟩).sub fun i hi h => ?_) fun b hb h => ?_
    ·rcases h with h | h | h
     ·exact .inl (.inl h)
     ·exact .inl (.inr (.inl h))
     ·rw [isB_slice] at h; exact .inr (by omega)
    ·have := hvh b hb
     rcases h with h | h | h
     ·have := zl b h; omega
     ·have := nvl b h; omega
     ·rw [isB_slice] at h; omega
   ·refine ((Gl.sub (Z' := fun i => (Z i ∨ isB vo i) ∨ h'.next ≤ i) fun i hi h => h.elim id fun h => by omega).upd u011 fun i hi e => ?_).sub fun i hi h => ?_
    ·rcases e with (e | e) | e
     ·rw [e]
      exact ⟨.inl (.inl R.zq), fun h => by have := lb q h; omega⟩
     ·omega
     ·exact ⟨.inl (.inr e), fun h => ne i h e⟩
    ·rcases h with h | h
     ·exact .inl (.inl h)
     ·rw [isB_slice] at h; exact .inr (by omega)
theorem GoodS.ask {S : AS} (G : GoodS S) {pid : Int} {u : List Int} (hp : pid ∈ S.P) (hu : rowOk S.T.length u = true) (hw : posW S.W pid = none) : GoodS { S with W := S.W ++ [(pid, u)] } := by
 refine G.withW (fun x hx => ?_) ?_
 ·rcases List.mem_append.1 hx with h | h
  ·exact G.w x h
  ·simp only [List.mem_singleton] at h
   subst h
   exact ⟨hp, hu⟩
 ·rw [List.map_append]
  refine List.nodup_append.2 ⟨G.wd, by simp, fun a ha b hb => ?_⟩
  simp only [List.map_cons, List.map_nil, List.mem_singleton] at hb
  subst hb
  exact fun e => posI_mem.1 hw (e ▸ ha)
theorem Exd.nx {h h' : Heap} (_ : Exd h h') : ∃ N, h'.next = N := ⟨_, rfl⟩
set_option maxHeartbeats 1000000 in
theorem askA_cal {Z : Nat → Prop} {h : Heap} {q : Nat} {S : AS} {x : Int} {vu : CVal} {u : List Int} {Q : CVal → Heap → Prop} (R : RR Z h q S) (G : GoodS S) (ru : RIn h vu u) (lu : u.length ≤ 1000000000)
 (k : ∀ v h', Upd (fun p => p = q) h h' → RR Z h' q (askS S x u).1 → RIn h' v (askS S x u).2.1 → Q (.tuple [v, .int .i64 (askS S x u).2.2]) h') : Cal tt 45 [.ptr q 0, .int .i64 x, vu] h Q := by
 obtain ⟨vT, vA, vP, vH, vC, vW, R⟩ := R
 refine Cal.run rfl rfl rfl rfl ?_
 have ou := ru.one
 have hq := R.lt
 have g := R.g
 have zl := R.zl
 have t6 := G.t6
 have p32 := G.p32
 have wl := G.wl
 have rT := R.T.rin
 have pw : posN (none : Option Nat) = -1 := rfl
 (repeat' first | refine go ?_ | refine idxS_ fun _ _ _ => ?_ | refine sp (fun _ => ?_) fun _ => ?_ | fail)
 refine CALLN.of (atA_cal R (by omega) ?_)
 cases hk : posI S.P x with
 | none =>
   rw [show askS S x u = (S, [], 3) by rw [askS, hk]] at k
   (repeat' first | refine go ?_ | refine idxS_ fun _ _ _ => ?_ | refine sp (fun _ => ?_) fun _ => ?_ | fail)
   exact k _ _ (Upd.refl _ _) ⟨_, _, _, _, _, _, R⟩ (.inl ⟨rfl, rfl⟩)
 | some kk =>
 have hxP : x ∈ S.P := Classical.byContradiction fun h => by rw [posI_mem.2 h] at hk; simp at hk
 have k1 := (posI_at hk).1
 have k2 : kk < S.H.length := by rw [G.hl]; exact k1
 have k3 : kk < S.C.length := by rw [G.cl]; exact k1
 have pk : (0 : Int) ≤ posN (some kk) := by show (0 : Int) ≤ (kk : Int); omega
 (repeat' first | refine go ?_ | refine idxS_ fun _ _ _ => ?_ | refine sp (fun _ => ?_) fun _ => ?_ | fail)
 refine CALLN.of (isR_cal ru lu ?_)
 rw [rowOk_int (m := S.T.length) rfl]
 cases hu : rowOk S.T.length u
 ·rw [show askS S x u = (S, [], 1) by simp only [askS, hk, hu]; rfl] at k
  (repeat' first | refine go ?_ | refine idxS_ fun _ _ _ => ?_ | refine sp (fun _ => ?_) fun _ => ?_ | fail)
  exact k _ _ (Upd.refl _ _) ⟨_, _, _, _, _, _, R⟩ (.inl ⟨rfl, rfl⟩)
 (repeat' first | refine go ?_ | refine idxS_ fun _ _ _ => ?_ | refine sp (fun _ => ?_) fun _ => ?_ | fail)
 refine CALLN.of (waitA_cal R (by omega) ?_)
 cases hw : posW S.W x with
 | some w =>
   rw [show askS S x u = (S, [], 4) by simp only [askS, hk, hu, hw]; rfl] at k
   have pw : (0 : Int) ≤ posN (some w) := by show (0 : Int) ≤ (w : Int); omega
   (repeat' first | refine go ?_ | refine idxS_ fun _ _ _ => ?_ | refine sp (fun _ => ?_) fun _ => ?_ | fail)
   exact k _ _ (Upd.refl _ _) ⟨_, _, _, _, _, _, R⟩ (.inl ⟨rfl, rfl⟩)
 | none =>
 obtain ⟨q1, q2⟩ := rowOk_split hu
 have G2 := G.ask hxP hu hw
 have hRm := rowU_mem k2
 by_cases hc : S.cl = true ∧ fitsU (addU (rowU S.H kk) u) (rowU S.C kk) = false
 ·rw [show askS S x u = (S, [], 35) by simp only [askS, hk, hu, hw]; simp [hc]] at k
  obtain ⟨hcl, hf⟩ := hc
  rw [hcl] at g
  obtain ⟨b1, o1, w1, r1, a1, hi1⟩ := R.H.rowE k2
  obtain ⟨b2, o2, w2, r2, a2, hi2⟩ := R.C.rowE k3
  have rb : ∀ p, -1000000000 ≤ atU (rowU S.H kk) p ∧ atU (rowU S.H kk) p ≤ 1000000000 := fun p => by have := G.atH hRm p; omega
  have ub : ∀ p, -1000000000 ≤ atU u p ∧ atU u p ≤ 1000000000 := fun p => by have := mayU_atU q2 p; omega
  have lRk := (G.h _ hRm).1
  (repeat' first | refine go ?_ | (refine hi1 _ ?_) | refine idxS_ fun _ _ _ => ?_ | refine sp (fun _ => ?_) fun _ => ?_ | fail)
  refine CALLN.of (moreR_cal r1.rin ru (by omega) (by omega) rb ub fun p3 h3 x3 O3 => ?_)
  have g3 := (R.exd x3).g
  rw [hcl] at g3
  have a2' := a2.exd x3
  (repeat' first | refine go ?_ | (refine hi2 _ ?_) | refine idxS_ fun _ _ _ => ?_ | refine sp (fun _ => ?_) fun _ => ?_ | fail)
  refine CALLN.of (fitsR_cal (A := addU (rowU S.H kk) u) (by have := O3.rin (addU_len (rowU S.H kk) u); exact this) (r2.exd x3).rin (by rw [addU_len]; omega) ?_)
  rw [hf]
  (repeat' first | refine go ?_ | refine idxS_ fun _ _ _ => ?_ | refine sp (fun _ => ?_) fun _ => ?_ | fail)
  exact k _ _ x3.upd ⟨_, _, _, _, _, _, R.exd x3⟩ (.inl ⟨rfl, rfl⟩)
 rw [show askS S x u = ((scanS { S with W := S.W ++ [(x, u)] }).1, (scanS { S with W := S.W ++ [(x, u)] }).2, 0) by simp only [askS, hk, hu, hw]; simp [hc]] at k
 cases hcl : S.cl
 ·rw [hcl] at g
  obtain ⟨N2, hN2⟩ : ∃ N, h.next = N := ⟨_, rfl⟩
  obtain ⟨vw', h3, ea, x3, GW, hvw, l3, l3'⟩ := append_copy (bytes := 32) R.W hN2 (by omega)
  have R3 := R.exd x3
  have g3 := R3.g
  have ov := GW.1.one
  (repeat' first | refine goS ?_ | (refine SOMEN.mk ea ?_) | refine idxS_ fun _ _ _ => ?_ | refine sp (fun _ => ?_) fun _ => ?_ | fail)
  refine CALLN.of (copyW_cal (ru.exd x3) lu fun p4 h4 x4 O4 => ?_)
  have x4 : Exd h3 h4 := x4
  have O4 : OwnW h3 h4 p4 _ := O4
  have g4 := (R3.exd x4).g
  obtain ⟨N4, hN4⟩ := x4.nx
  have l4 := x4.le
  have x45 : Exd h4 (h4.new (.cells [.int .i64 x, .slice p4 0 u.length u.length] true none)) := Exd.new (Exd.refl _)
  have src : srcC (h4.new (.cells [.int .i64 x, .slice p4 0 u.length u.length] true none)) 2 (.slice N4 0 1 1) = some (1, [.int .i64 x, .slice p4 0 u.length u.length]) := src_one (by exact get_) rfl rfl
  have he : askE.ok (fun i => Z i ∨ isB vw' i) (h4.new (.cells [.int .i64 x, .slice p4 0 u.length u.length] true none)) [.int .i64 x, .slice p4 0 u.length u.length] (x, u) := npE.ok (p := (x, u)) ((O4.rsl (m := u.length) rfl fun i h => h.elim (fun h => R3.zl i h) fun h => (hvw i h).2).exd x45)
  obtain ⟨h5, eb, u5, n5, G5⟩ := (GW.1.exd (x4.trans x45)).push1 (bytes := 32) (N := N4 + 1) src (by omega) he (by rw [Heap.next_new, hN4])
  have l3b := x3.le
  have x25 : Exd h h5 := ⟨by omega, fun i hi => (u5.get i (by rw [Heap.next_new]; omega) fun hb => by have := hvw i hb; omega).trans ((x3.trans (x4.trans x45)).get i hi)⟩
  have R5 := R.exd x25
  have W5 : RSl Z askE h5 _ (S.W ++ [(x, u)]) := G5.read fun b hb h => by rw [isB_slice] at hb; have := R3.zl b h; omega
  clear x25
  (repeat' first | refine goS ?_ | (refine SOMEN.mk eb ?_) | refine idxS_ fun _ _ _ => ?_ | refine sp (fun _ => ?_) fun _ => ?_ | fail)
  refine R5.setW W5 fun h6 u6 n6 R6 => ?_
  have u26 : Upd (fun p => p = q) h h6 := Upd.trans ⟨by omega, fun i hi _ => (u5.get i (by rw [Heap.next_new]; omega) fun hb => by have := hvw i hb; omega).trans ((x3.trans (x4.trans x45)).get i hi)⟩ u6
  (repeat' first | refine go ?_ | refine idxS_ fun _ _ _ => ?_ | refine sp (fun _ => ?_) fun _ => ?_ | fail)
  refine CALLN.of (scanA_cal R6 G2 (by have := G2.wl; omega) fun v h7 u7 RR7 r7 b7 => ?_)
  have o7 := r7.one
  (repeat' first | refine go ?_ | refine idxS_ fun _ _ _ => ?_ | refine sp (fun _ => ?_) fun _ => ?_ | fail)
  exact k v h7 ((u26.trans u7)) RR7 r7
 ·rw [hcl] at g
  have hf : fitsU (addU (rowU S.H kk) u) (rowU S.C kk) = true := by
   cases h : fitsU (addU (rowU S.H kk) u) (rowU S.C kk)
   ·exact absurd ⟨hcl, h⟩ hc
   ·rfl
  obtain ⟨b1, o1, w1, r1, a1, hi1⟩ := R.H.rowE k2
  obtain ⟨b2, o2, w2, r2, a2, hi2⟩ := R.C.rowE k3
  have rb : ∀ p, -1000000000 ≤ atU (rowU S.H kk) p ∧ atU (rowU S.H kk) p ≤ 1000000000 := fun p => by have := G.atH hRm p; omega
  have ub : ∀ p, -1000000000 ≤ atU u p ∧ atU u p ≤ 1000000000 := fun p => by have := mayU_atU q2 p; omega
  have lRk := (G.h _ hRm).1
  (repeat' first | refine go ?_ | (refine hi1 _ ?_) | refine idxS_ fun _ _ _ => ?_ | refine sp (fun _ => ?_) fun _ => ?_ | fail)
  refine CALLN.of (moreR_cal r1.rin ru (by omega) (by omega) rb ub fun p0 h2 x2 O2 => ?_)
  have R2 := R.exd x2
  have g2 := R2.g
  rw [hcl] at g2
  have a2' := a2.exd x2
  have lx2 := x2.le
  (repeat' first | refine go ?_ | (refine hi2 _ ?_) | refine idxS_ fun _ _ _ => ?_ | refine sp (fun _ => ?_) fun _ => ?_ | fail)
  refine CALLN.of (fitsR_cal (A := addU (rowU S.H kk) u) (by have := O2.rin (addU_len (rowU S.H kk) u); exact this) (r2.exd x2).rin (by rw [addU_len]; omega) ?_)
  rw [hf]
  obtain ⟨N2, hN2⟩ : ∃ N, h2.next = N := ⟨_, rfl⟩
  obtain ⟨vw', h3, ea, x3, GW, hvw, l3, l3'⟩ := append_copy (bytes := 32) R2.W hN2 (by omega)
  have R3 := R2.exd x3
  have g3 := R3.g
  have ov := GW.1.one
  (repeat' first | refine goS ?_ | (refine SOMEN.mk ea ?_) | refine idxS_ fun _ _ _ => ?_ | refine sp (fun _ => ?_) fun _ => ?_ | fail)
  refine CALLN.of (copyW_cal ((ru.exd x2).exd x3) lu fun p4 h4 x4 O4 => ?_)
  have x4 : Exd h3 h4 := x4
  have O4 : OwnW h3 h4 p4 _ := O4
  have g4 := (R3.exd x4).g
  obtain ⟨N4, hN4⟩ := x4.nx
  have l4 := x4.le
  have x45 : Exd h4 (h4.new (.cells [.int .i64 x, .slice p4 0 u.length u.length] true none)) := Exd.new (Exd.refl _)
  have src : srcC (h4.new (.cells [.int .i64 x, .slice p4 0 u.length u.length] true none)) 2 (.slice N4 0 1 1) = some (1, [.int .i64 x, .slice p4 0 u.length u.length]) := src_one (by exact get_) rfl rfl
  have he : askE.ok (fun i => Z i ∨ isB vw' i) (h4.new (.cells [.int .i64 x, .slice p4 0 u.length u.length] true none)) [.int .i64 x, .slice p4 0 u.length u.length] (x, u) := npE.ok (p := (x, u)) ((O4.rsl (m := u.length) rfl fun i h => h.elim (fun h => R3.zl i h) fun h => (hvw i h).2).exd x45)
  obtain ⟨h5, eb, u5, n5, G5⟩ := (GW.1.exd (x4.trans x45)).push1 (bytes := 32) (N := N4 + 1) src (by omega) he (by rw [Heap.next_new, hN4])
  have l3b := x3.le
  have x25 : Exd h2 h5 := ⟨by omega, fun i hi => (u5.get i (by rw [Heap.next_new]; omega) fun hb => by have := hvw i hb; omega).trans ((x3.trans (x4.trans x45)).get i hi)⟩
  have R5 := R2.exd x25
  have W5 : RSl Z askE h5 _ (S.W ++ [(x, u)]) := G5.read fun b hb h => by rw [isB_slice] at hb; have := R3.zl b h; omega
  clear x25
  (repeat' first | refine goS ?_ | (refine SOMEN.mk eb ?_) | refine idxS_ fun _ _ _ => ?_ | refine sp (fun _ => ?_) fun _ => ?_ | fail)
  refine R5.setW W5 fun h6 u6 n6 R6 => ?_
  have u26 : Upd (fun p => p = q) h2 h6 := Upd.trans ⟨by omega, fun i hi _ => (u5.get i (by rw [Heap.next_new]; omega) fun hb => by have := hvw i hb; omega).trans ((x3.trans (x4.trans x45)).get i hi)⟩ u6
  (repeat' first | refine go ?_ | refine idxS_ fun _ _ _ => ?_ | refine sp (fun _ => ?_) fun _ => ?_ | fail)
  refine CALLN.of (scanA_cal R6 G2 (by have := G2.wl; omega) fun v h7 u7 RR7 r7 b7 => ?_)
  have o7 := r7.one
  (repeat' first | refine go ?_ | refine idxS_ fun _ _ _ => ?_ | refine sp (fun _ => ?_) fun _ => ?_ | fail)
  exact k v h7 (x2.upd.trans (u26.trans u7)) RR7 r7
theorem GoodS.give {S : AS} (G : GoodS S) {k : Nat} {u : List Int} (hk : k < S.H.length) (hu : rowOk S.T.length u = true) (hf : fitsU u (rowU S.H k) = true) : GoodS { S with A := addU S.A u, H := S.H.set k (subU (rowU S.H k) u) } := by
 obtain ⟨q1, q2⟩ := rowOk_split hu
 obtain ⟨q3, q4⟩ := fitsU_iff.1 hf
 have hm := rowU_mem hk
 refine G.move hk (by rw [addU_len]; exact G.a) (by rw [subU_len]; exact (G.h _ hm).1) (fun j => ?_) (fun j => ?_) fun j hj => ?_
 ·by_cases hj : j < S.A.length
  ·rw [atU_add hj]
   have := mayU_atU q2 j
   have := G.a0 j
   omega
  ·rw [atU_out (by rw [addU_len]; exact hj)]; omega
 ·by_cases hj : j < (rowU S.H k).length
  ·rw [atU_sub hj]
   have := q4 j (by omega)
   omega
  ·rw [atU_out (by rw [subU_len]; exact hj)]; omega
 ·rw [atU_add (by rw [G.a]; exact hj), atU_sub (by rw [(G.h _ hm).1]; exact hj)]
  omega
set_option maxHeartbeats 1000000 in
theorem giveA_cal {Z : Nat → Prop} {h : Heap} {q : Nat} {S : AS} {x : Int} {vu : CVal} {u : List Int} {Q : CVal → Heap → Prop} (R : RR Z h q S) (G : GoodS S) (rs : RSl Z intE h vu u) (lu : u.length ≤ 1000000000)
 (k : ∀ v h', Upd (fun p => p = q) h h' → RR Z h' q (giveS S x u).1 → RIn h' v (giveS S x u).2.1 → Q (.tuple [v, .int .i64 (giveS S x u).2.2]) h') : Cal tt 46 [.ptr q 0, .int .i64 x, vu] h Q := by
 obtain ⟨vT, vA, vP, vH, vC, vW, R⟩ := R
 refine Cal.run rfl rfl rfl rfl ?_
 have ru := rs.rin
 have ou := ru.one
 have hq := R.lt
 have g := R.g
 have zl := R.zl
 have t6 := G.t6
 have p32 := G.p32
 have wl := G.wl
 have rT := R.T.rin
 have pw : posN (none : Option Nat) = -1 := rfl
 (repeat' first | refine go ?_ | refine idxS_ fun _ _ _ => ?_ | refine sp (fun _ => ?_) fun _ => ?_ | fail)
 refine CALLN.of (atA_cal R (by omega) ?_)
 cases hk : posI S.P x with
 | none =>
   rw [show giveS S x u = (S, [], 3) by rw [giveS, hk]] at k
   (repeat' first | refine go ?_ | refine idxS_ fun _ _ _ => ?_ | refine sp (fun _ => ?_) fun _ => ?_ | fail)
   exact k _ _ (Upd.refl _ _) ⟨_, _, _, _, _, _, R⟩ (.inl ⟨rfl, rfl⟩)
 | some kk =>
 have hxP : x ∈ S.P := Classical.byContradiction fun h => by rw [posI_mem.2 h] at hk; simp at hk
 have k1 := (posI_at hk).1
 have k2 : kk < S.H.length := by rw [G.hl]; exact k1
 have pk : (0 : Int) ≤ posN (some kk) := by show (0 : Int) ≤ (kk : Int); omega
 (repeat' first | refine go ?_ | refine idxS_ fun _ _ _ => ?_ | refine sp (fun _ => ?_) fun _ => ?_ | fail)
 refine CALLN.of (isR_cal ru lu ?_)
 rw [rowOk_int (m := S.T.length) rfl]
 cases hu : rowOk S.T.length u
 ·rw [show giveS S x u = (S, [], 1) by simp only [giveS, hk, hu]; rfl] at k
  (repeat' first | refine go ?_ | refine idxS_ fun _ _ _ => ?_ | refine sp (fun _ => ?_) fun _ => ?_ | fail)
  exact k _ _ (Upd.refl _ _) ⟨_, _, _, _, _, _, R⟩ (.inl ⟨rfl, rfl⟩)
 obtain ⟨q1, q2⟩ := rowOk_split hu
 obtain ⟨b1, o1, w1, r1, a1, hi1⟩ := R.H.rowE k2
 have hRm := rowU_mem k2
 (repeat' first | refine go ?_ | (refine hi1 _ ?_) | refine idxS_ fun _ _ _ => ?_ | refine sp (fun _ => ?_) fun _ => ?_ | fail)
 refine CALLN.of (fitsR_cal ru r1.rin lu ?_)
 cases hf : fitsU u (rowU S.H kk)
 ·rw [show giveS S x u = (S, [], 36) by simp only [giveS, hk, hu, hf]; rfl] at k
  (repeat' first | refine go ?_ | refine idxS_ fun _ _ _ => ?_ | refine sp (fun _ => ?_) fun _ => ?_ | fail)
  exact k _ _ (Upd.refl _ _) ⟨_, _, _, _, _, _, R⟩ (.inl ⟨rfl, rfl⟩)
 rw [show giveS S x u = ((scanS { S with A := addU S.A u, H := S.H.set kk (subU (rowU S.H kk) u) }).1, (scanS { S with A := addU S.A u, H := S.H.set kk (subU (rowU S.H kk) u) }).2, 0) by simp only [giveS, hk, hu, hf]; rfl] at k
 have lA := G.a
 have rb : ∀ p, -1000000000 ≤ atU S.A p ∧ atU S.A p ≤ 1000000000 := fun p => by have := G.a0 p; have := G.atA p; omega
 have ub : ∀ p, -1000000000 ≤ atU u p ∧ atU u p ≤ 1000000000 := fun p => by have := mayU_atU q2 p; omega
 have rA := R.A.rin
 have lRk := (G.h _ hRm).1
 (repeat' first | refine go ?_ | refine idxS_ fun _ _ _ => ?_ | refine sp (fun _ => ?_) fun _ => ?_ | fail)
 refine CALLN.of (moreR_cal rA ru (by omega) (by omega) rb ub fun p3 h3 x3 O3 => ?_)
 have R3 := R.exd x3
 have A3 : RSl Z intE h3 (.slice p3 0 S.A.length S.A.length) (addU S.A u) := O3.rsl (addU_len _ _) zl
 have l3 := x3.le
 have g3 := R3.g
 (repeat' first | refine goS ?_ | refine idxS_ fun _ _ _ => ?_ | refine sp (fun _ => ?_) fun _ => ?_ | fail)
 refine R3.setA A3 fun h5 u5 n5 R5 => ?_
 have g5 := R5.g
 obtain ⟨N5, hN5⟩ : ∃ N, h5.next = N := ⟨_, rfl⟩
 obtain ⟨vh, h6, ea, x6, GW, hvh, l6, l6'⟩ := append_copy (bytes := 24) R5.H hN5 (by have := G.hl; show S.H.length * 24 ≤ _; omega)
 have og := GW.1.one
 have R6 := R5.exd x6
 have g6 := R6.g
 have zl5 := R5.zl
 have H6 : RSl Z rowE h6 vh S.H := GW.1.read fun b hb h => by have := hvh b hb; have := zl5 b h; omega
 have q5 : q < N5 := by omega
 (repeat' first | refine goS ?_ | (refine SOMEN.mk ea ?_) | refine idxS_ fun _ _ _ => ?_ | refine sp (fun _ => ?_) fun _ => ?_ | fail)
 refine R6.setH H6 fun h7 u7 n7 R7 => ?_
 have g7 := R7.g
 have GW7 := GW.upd u7 fun i _ e => ⟨by rw [e]; exact R.zq, fun hb => by have := hvh i hb; omega⟩
 obtain ⟨b7, o7, w7, r7, a7, hidx7⟩ := (show RSl Z rowE h7 vh S.H from R7.H).rowE k2
 have u07 : Upd (fun p => p = q) h h7 := ((x3.upd.trans u5).trans x6.upd).trans u7
 have ru7 : RIn h7 vu u := (rs.upd (u07.sub fun i _ e => by rw [e]; exact R.zq)).rin
 (repeat' first | refine goS ?_ | (refine hidx7 _ ?_) | refine idxS_ fun _ _ _ => ?_ | refine sp (fun _ => ?_) fun _ => ?_ | fail)
 refine CALLN.of (lessR_cal r7.rin ru7 (G.lenH _ hRm) lu (fun e => by rw [G.lessH hRm hu hf] at e; simp at e) fun _ p8 h8 x8 O8 => ?_)
 have GW8 := GW7.exd x8
 have g8 := (R7.exd x8).g
 have he : rowE.ok (fun i => Z i ∨ isB vh i) h8 [.slice p8 0 (rowU S.H kk).length (rowU S.H kk).length] (subU (rowU S.H kk) u) := slE.ok (O8.rsl (subU_len _ _) fun i h => h.elim (fun h => R7.zl i h) fun h => by have := hvh i h; omega)
 (repeat' first | refine goS ?_ | (refine GSl.idxS GW8.1 rfl k2 rfl fun b hb => ?_) | refine idxS_ fun _ _ _ => ?_ | refine sp (fun _ => ?_) fun _ => ?_ | fail)
 refine GSlW.store GW8 (by assumption) k2 rfl rfl he fun h9 GW9 u9 n9 => ?_
 have l8 := x8.le
 have u59 : Upd (fun i => Z i ∨ N5 ≤ i) h5 h9 := (((x6.upd (S := fun i => Z i ∨ N5 ≤ i)).trans (u7.sub fun i _ e => .inl (by rw [e]; exact R.zq))).trans x8.upd).trans (u9.sub fun i _ hb => .inr (hvh i hb).1)
 have fz : ∀ {α : Type} {E : El α} {v : CVal} {L : List α}, RSl Z E h5 v L → RSl Z E h9 v L := fun s => ((s.sub (Z' := fun i => Z i ∨ N5 ≤ i) fun i hi h => h.elim id fun h => by omega).upd u59).sub fun i _ h => .inl h
 have g9 : h9.get q = _ := (u9.get q (by omega) fun hb => by have := hvh _ hb; omega).trans g8
 have R9 : RV Z h9 q { S with A := addU S.A u, H := S.H.set kk (subU (rowU S.H kk) u) } vT (.slice p3 0 S.A.length S.A.length) vP vh vC vW := ⟨R.zq, fun i hi => by have := zl i hi; omega, g9, fz R5.T, fz R5.A, fz R5.P, GW9.1.read fun b hb h => by have := hvh b hb; have := zl5 b h; omega, fz R5.C, fz R5.W⟩
 (repeat' first | refine go ?_ | refine idxS_ fun _ _ _ => ?_ | refine sp (fun _ => ?_) fun _ => ?_ | fail)
 refine CALLN.of (scanA_cal R9 (G.give k2 hu hf) (by show S.W.length ≤ 100; omega) fun v h10 u10 RR10 r10 b10 => ?_)
 have o10 := r10.one
 (repeat' first | refine go ?_ | refine idxS_ fun _ _ _ => ?_ | refine sp (fun _ => ?_) fun _ => ?_ | fail)
 refine k v h10 (Upd.trans ⟨by have := u07.le; omega, fun i hi hs => ?_⟩ u10) RR10 r10
 rw [u9.get i (by have := u07.le; omega) fun hb => by have := hvh i hb; have := u5.le; omega, x8.get i (by have := u07.le; omega)]
 exact u07.get i hi hs
end Go.Proofs.YtncmoaggkdlkhaaGreat.Cm
namespace Go.Proofs.YtncmoaggkdlkhaaGreat.Cm
open Go.RowKit Go.IntWalk
section
variable {α : Type} {Z : Nat → Prop} {E : El α} {h : Heap} {v : CVal} {L : List α}
theorem RSl.uptoE {sz n : Nat} (s : RSl Z E h v L) (hz : E.sz = sz) (hn : n ≤ L.length) : ∃ w, RSl Z E h w (L.take n) ∧ ∀ K : CVal → Prop, K w → slcS sz v none (some (.int .i64 n)) K := by
 subst hz
 rcases s with ⟨rfl, rfl⟩ | ⟨b, o, c, rfl, hc, h1, h2, h3⟩
 ·exact ⟨.nilSlice, .inl ⟨rfl, by simp⟩, fun K q => .mk (bounds0 rfl (by simpa using hn)) q⟩
 ·refine ⟨.slice b (o + 0 * E.sz) (n - 0) (c - 0), .inr ⟨b, o, c, by simp [Nat.min_eq_left hn], by rw [List.length_take]; omega, h1, h2, ?_⟩, fun K q => .mk (bounds0 rfl (by omega)) q⟩
  rcases h3 with rfl | ⟨cs, wr, opn, g, a⟩
  ·exact .inl (by simp)
  ·exact .inr ⟨cs, wr, opn, g, fun j hj => by
    rw [List.length_take] at hj
    rw [List.getElem_take]
    exact a j (by omega)⟩
theorem RSl.fromE {sz n : Nat} {i : Int} (s : RSl Z E h v L) (hz : E.sz = sz) (hi : i = n) (hn : n ≤ L.length) : ∃ w, RSl Z E h w (L.drop n) ∧ ∀ K : CVal → Prop, K w → slcS sz v (some (.int .i64 i)) none K := by
 subst hz
 rcases s with ⟨rfl, rfl⟩ | ⟨b, o, c, rfl, hc, h1, h2, h3⟩
 ·exact ⟨.nilSlice, .inl ⟨rfl, by simp⟩, fun K q => .mk (bounds1 hi (by simpa using hn) (Nat.le_refl _)) q⟩
 ·refine ⟨.slice b (o + n * E.sz) (L.length - n) (c - n), .inr ⟨b, o + n * E.sz, c - n, by simp, by rw [List.length_drop]; omega, h1, h2, ?_⟩, fun K q => .mk (bounds1 hi hn hc) q⟩
  rcases h3 with rfl | ⟨cs, wr, opn, g, a⟩
  ·exact .inl (by simp)
  ·exact .inr ⟨cs, wr, opn, g, fun j hj => by
    rw [List.length_drop] at hj
    rw [List.getElem_drop]
    have := a (n + j) (by omega)
    rw [chunk, Nat.add_mul, ← Nat.add_assoc] at this
    exact this⟩
theorem cutS {sz bytes n N : Nat} (s : RSl Z E h v L) (hz : E.sz = sz) (hn : n < L.length) (zl : ∀ i, Z i → i < h.next) (hN : h.next = N) (hb : L.length * bytes ≤ 1099511627776) :
 ∃ w1 w2 v1 h1 v2 h2, w1.one = true ∧ w2.one = true ∧ v1.one = true ∧ v2.one = true ∧ (∀ K : CVal → Prop, K w1 → slcS sz v none (some (.int .i64 n)) K) ∧ (∀ K : CVal → Prop, K w2 → slcS sz v (some (.int .i64 ((n : Int) + 1))) none K) ∧
  appendC (h.new (.cells [] true none)) sz bytes (.slice N 0 0 0) w1 = some (v1, h1) ∧ Exd h h1 ∧ appendC h1 sz bytes v1 w2 = some (v2, h2) ∧ Exd h h2 ∧ RSl Z E h2 v2 (L.eraseIdx n) := by
 obtain ⟨w1, r1, q1⟩ := s.uptoE hz (n := n) (by omega)
 obtain ⟨w2, r2, q2⟩ := s.fromE hz (n := n + 1) (i := (n : Int) + 1) (by omega) (by omega)
 have tl : (L.take n).length ≤ L.length := by rw [List.length_take]; omega
 have hb1 : (L.take n).length * bytes ≤ 1099511627776 := Nat.le_trans (Nat.mul_le_mul_right _ tl) hb
 obtain ⟨v1, h1, ea, x1, G1, hv1, l1, _⟩ := append_copy (bytes := bytes) r1 hN hb1
 have r2' : RSl (fun i => Z i ∨ isB v1 i) E h1 w2 (L.drop (n + 1)) := (((r2.sub (Z' := fun i => Z i ∨ h.next ≤ i) fun i hi h => h.elim id fun h => by omega).exd x1).sub fun i _ h => h.imp id fun h => by have := hv1 i h; omega)
 have hb2 : ((L.take n).length + (L.drop (n + 1)).length) * bytes ≤ 1099511627776 := Nat.le_trans (Nat.mul_le_mul_right _ (by rw [List.length_take, List.length_drop]; omega)) hb
 obtain ⟨v2, h2, eb, u2, l2, G2, hv2⟩ := G1.1.pushR (bytes := bytes) r2' hb2
 have x2 : Exd h h2 := ⟨by have := x1.le; omega, fun i hi => (u2.get i (by have := x1.le; omega) fun hb => by have := hv1 i hb; omega).trans (x1.get i hi)⟩
 subst hz
 refine ⟨w1, w2, v1, h1, v2, h2, r1.one, r2.one, G1.1.one, G2.one, q1, q2, ea, x1, eb, x2, ?_⟩
 rw [List.eraseIdx_eq_take_drop_succ]
 exact G2.read fun b hb h => by
  have := zl b h
  rcases (hv2 b hb).1 with h' | h'
  ·have := hv1 b h'; omega
  ·have := x1.le; omega
theorem OwnW.gsl {h₀ : Heap} {p m : Nat} {R : List Int} (O : OwnW h₀ h p (R.map (.int .i64))) (hm : R.length = m) : GSl Z intE h (.slice p 0 m m) R := by
 subst hm
 obtain ⟨h1, h2, opn, g, r⟩ := O
 refine ⟨fun i hi => by rw [isB_slice] at hi; omega, _, .inr ⟨p, true, opn, rfl, by simp [intE], g, r.imp id fun e => ⟨e, rfl⟩⟩, fun j hj => ?_⟩
 show chunk 1 0 _ j = [.int .i64 R[j]]
 refine List.ext_getElem? fun q => ?_
 rw [chunk, List.getElem?_take, List.getElem?_drop, List.getElem?_map]
 cases q with
 | zero => simp [hj]
 | succ q => simp
end
end Go.Proofs.YtncmoaggkdlkhaaGreat.Cm
namespace Go.Proofs.YtncmoaggkdlkhaaGreat.Cm
open Go.RowKit Go.IntWalk
attribute [local irreducible] Heap.set Heap.new Heap.kill Heap.get Heap.room Cal WP
theorem mem_cutW {W : List (Int × List Int)} {pid : Int} {x : Int × List Int} (nd : (W.map (·.1)).Nodup) (h : x ∈ cutW W pid) : x ∈ W ∧ x.1 ≠ pid := by
 unfold cutW at h
 cases hw : posW W pid with
 | none =>
   rw [hw] at h
   exact ⟨h, fun e => posI_mem.1 hw (List.mem_map.2 ⟨x, h, e⟩)⟩
 | some w =>
   rw [hw] at h
   obtain ⟨h1, h2⟩ := posI_at hw
   rw [List.length_map] at h1
   obtain ⟨i, hi, hne, e⟩ := List.mem_eraseIdx_iff_getElem.1 h
   refine ⟨by rw [← e]; exact List.getElem_mem _, fun ep => hne ?_⟩
   refine (List.getElem?_inj (l := W.map (·.1)) (by rw [List.length_map]; exact hi) nd).1 ?_
   rw [getD_fst] at h2
   rw [List.getElem?_map, List.getElem?_map, List.getElem?_eq_getElem hi, List.getElem?_eq_getElem h1]
   rw [List.getD_eq_getElem?_getD, List.getElem?_eq_getElem h1] at h2
   simp only [Option.getD_some] at h2
   simp only [Option.map_some, Option.some.injEq]
   rw [e, ep, h2]
theorem cutW_sub {W : List (Int × List Int)} {pid : Int} : (cutW W pid).Sublist W := by
 unfold cutW
 split
 ·exact List.Sublist.refl _
 ·exact List.eraseIdx_sublist ..
def goneS (S : AS) (pid : Int) (k : Nat) : AS := { S with A := addU S.A (rowU S.H k), W := cutW S.W pid, P := S.P.eraseIdx k, H := S.H.eraseIdx k, C := S.C.eraseIdx k }
theorem GoodS.gone {S : AS} (G : GoodS S) {pid : Int} {k : Nat} (hk : posI S.P pid = some k) : GoodS (goneS S pid k) := by
 have k1 := (posI_at hk).1
 have k2 : k < S.H.length := by rw [G.hl]; exact k1
 have k3 : k < S.C.length := by rw [G.cl]; exact k1
 have hm := rowU_mem k2
 obtain ⟨t6, tm, a, a0, hl, cl, p32, ps, p1, h, c, sum, w, wd⟩ := G
 have hmH : ∀ R ∈ S.H.eraseIdx k, R ∈ S.H := fun R hR => (List.eraseIdx_sublist ..).subset hR
 refine ⟨t6, tm, (addU_len _ _).trans a, fun j => ?_, ?_, ?_, ?_, ps.sublist (List.eraseIdx_sublist ..), fun p hp => p1 p ((List.eraseIdx_sublist ..).subset hp), fun R hR => h R (hmH R hR), fun R hR => c R ((List.eraseIdx_sublist ..).subset hR), fun j hj => ?_, fun x hx => ?_, wd.sublist (cutW_sub.map _)⟩
 ·show 0 ≤ atU (addU S.A (rowU S.H k)) j
  by_cases hj : j < S.A.length
  ·rw [atU_add hj]
   have := a0 j
   have := (h _ hm).2 j
   omega
  ·rw [atU_out (by rw [addU_len]; exact hj)]; omega
 ·show (S.H.eraseIdx k).length = (S.P.eraseIdx k).length
  rw [List.length_eraseIdx, List.length_eraseIdx, if_pos k1, if_pos k2, hl]
 ·show (S.C.eraseIdx k).length = (S.P.eraseIdx k).length
  rw [List.length_eraseIdx, List.length_eraseIdx, if_pos k1, if_pos k3, cl]
 ·show (S.P.eraseIdx k).length ≤ 32
  rw [List.length_eraseIdx, if_pos k1]
  omega
 ·show atU (addU S.A (rowU S.H k)) j + sumJ (S.H.eraseIdx k) j = atU S.T j
  rw [sumJ_erase k2, atU_add (by rw [a]; exact hj)]
  have := sum j hj
  omega
 ·obtain ⟨hx1, hx2⟩ := mem_cutW wd hx
  refine ⟨?_, (w x hx1).2⟩
  show x.1 ∈ S.P.eraseIdx k
  obtain ⟨i, hi, e⟩ := List.getElem_of_mem (w x hx1).1
  refine List.mem_eraseIdx_iff_getElem.2 ⟨i, hi, fun e2 => hx2 ?_, e⟩
  subst e2
  have := (posI_at hk).2
  rw [List.getD_eq_getElem?_getD, List.getElem?_eq_getElem hi] at this
  rw [← e]
  simpa using this
theorem leaveS_some {S : AS} {pid : Int} {k : Nat} (hk : posI S.P pid = some k) : leaveS S pid = ((scanS (goneS S pid k)).1, (scanS (goneS S pid k)).2, true) := by
 rw [leaveS, hk]; rfl
set_option maxHeartbeats 4000000 in
theorem leaveA_cal {Z : Nat → Prop} {h : Heap} {q : Nat} {S : AS} {x : Int} {Q : CVal → Heap → Prop} (R : RR Z h q S) (G : GoodS S)
 (k : ∀ v h', Upd (fun p => p = q) h h' → RR Z h' q (leaveS S x).1 → RIn h' v (leaveS S x).2.1 → Q (.tuple [v, .bool (leaveS S x).2.2]) h') : Cal tt 47 [.ptr q 0, .int .i64 x] h Q := by
 obtain ⟨vT, vA, vP, vH, vC, vW, R⟩ := R
 refine Cal.run rfl rfl rfl rfl ?_
 have hq := R.lt
 have g := R.g
 have zl := R.zl
 have t6 := G.t6
 have p32 := G.p32
 have hlH := G.hl
 have hlC := G.cl
 have wl := G.wl
 have pw : posN (none : Option Nat) = -1 := rfl
 (repeat' first | refine go ?_ | refine idxS_ fun _ _ _ => ?_ | refine sp (fun _ => ?_) fun _ => ?_ | fail)
 refine CALLN.of (atA_cal R (by omega) ?_)
 cases hk : posI S.P x with
 | none =>
   rw [show leaveS S x = (S, [], false) by rw [leaveS, hk]] at k
   (repeat' first | refine go ?_ | refine idxS_ fun _ _ _ => ?_ | refine sp (fun _ => ?_) fun _ => ?_ | fail)
   exact k _ _ (Upd.refl _ _) ⟨_, _, _, _, _, _, R⟩ (.inl ⟨rfl, rfl⟩)
 | some kk =>
 rw [leaveS_some hk] at k
 have G2 := G.gone hk
 have k1 := (posI_at hk).1
 have k2 : kk < S.H.length := by rw [G.hl]; exact k1
 have k3 : kk < S.C.length := by rw [G.cl]; exact k1
 have pk : posN (some kk) = (kk : Int) := rfl
 obtain ⟨b1, o1, w1, r1, a1, hi1⟩ := R.H.rowE k2
 have hRm := rowU_mem k2
 have lA := G.a
 have lRk := (G.h _ hRm).1
 have rb : ∀ p, -1000000000 ≤ atU S.A p ∧ atU S.A p ≤ 1000000000 := fun p => by have := G.a0 p; have := G.atA p; omega
 have ub : ∀ p, -1000000000 ≤ atU (rowU S.H kk) p ∧ atU (rowU S.H kk) p ≤ 1000000000 := fun p => by have := G.atH hRm p; omega
 have rA := R.A.rin
 (repeat' first | refine go ?_ | (refine hi1 _ ?_) | refine idxS_ fun _ _ _ => ?_ | refine sp (fun _ => ?_) fun _ => ?_ | fail)
 refine CALLN.of (moreR_cal rA r1.rin (by omega) (by omega) rb ub fun p3 h3 x3 O3 => ?_)
 have R3 := R.exd x3
 have A3 : RSl Z intE h3 (.slice p3 0 S.A.length S.A.length) (addU S.A (rowU S.H kk)) := O3.rsl (addU_len _ _) zl
 have l3 := x3.le
 have g3 := R3.g
 (repeat' first | refine goS ?_ | refine idxS_ fun _ _ _ => ?_ | refine sp (fun _ => ?_) fun _ => ?_ | fail)
 refine R3.setA A3 fun h5 u5 n5 R5 => ?_
 have g5 := R5.g
 (repeat' first | refine goS ?_ | refine idxS_ fun _ _ _ => ?_ | refine sp (fun _ => ?_) fun _ => ?_ | fail)
 refine CALLN.of (waitA_cal R5 (by show S.W.length ≤ 1000; omega) ?_)
 rw [show posW ({ S with A := addU S.A (rowU S.H kk) } : AS).W x = posW S.W x from rfl]
 cases hpw : posW S.W x with
 | none =>
   have ecut : cutW S.W x = S.W := by rw [cutW, hpw]
   have R5' : RV Z h5 q { S with A := addU S.A (rowU S.H kk), W := cutW S.W x } vT (.slice p3 0 S.A.length S.A.length) vP vH vC vW := by rw [ecut]; exact R5
   have zlnp := R5'.zl
   have qnp := R5'.lt
   obtain ⟨anp, ranp, sanp⟩ := (show RSl Z intE h5 vP S.P from R5'.P).uptoE (sz := 1) rfl (n := kk) (by omega)
   obtain ⟨cnp, rcnp, scnp⟩ := (show RSl Z intE h5 vP S.P from R5'.P).fromE (sz := 1) (i := (kk : Int) + 1) rfl (n := kk + 1) (by omega) (by omega)
   have oanp := ranp.one
   have ocnp := rcnp.one
   have gnp := R5'.g
   (repeat' first | refine goS ?_ | (refine sanp _ ?_) | refine idxS_ fun _ _ _ => ?_ | refine sp (fun _ => ?_) fun _ => ?_ | fail)
   refine CALLN.of (copyW_cal ranp.rin (by rw [List.length_take]; omega) fun pnp enp xnp Onp => ?_)
   have Gnp := Onp.gsl rfl (Z := Z)
   have lpnp := xnp.le
   have rcnq : RSl (fun i => Z i ∨ isB (.slice pnp 0 (S.P.take kk).length (S.P.take kk).length) i) intE enp cnp (S.P.drop (kk + 1)) := ((rcnp.sub (Z' := fun i => Z i ∨ h5.next ≤ i) fun i hi h => h.elim id fun h => by omega).exd xnp).sub fun i _ h => h.imp id fun h => by rw [isB_slice] at h; have := Onp.1; omega
   obtain ⟨vnp, fnp, ebnp, ubnp, lbnp, Gnq, hvnp⟩ := Gnp.pushR (bytes := 8) rcnq (by rw [List.length_take, List.length_drop]; omega)
   have ovnp := Gnq.one
   have xbnp : Exd h5 fnp := ⟨by omega, fun i hi => (ubnp.get i (by omega) fun hb => by rw [isB_slice] at hb; have := Onp.1; omega).trans (xnp.get i hi)⟩
   have rrnp : RSl Z intE fnp vnp (S.P.eraseIdx kk) := by
    rw [List.eraseIdx_eq_take_drop_succ]
    exact Gnq.read fun b hb h => by
     have := zlnp b h
     have := Onp.1
     rcases (hvnp b hb).1 with h' | h'
     ·rw [isB_slice] at h'; omega
     ·omega
   have gnp1 := (R5'.exd xnp).g
   have gnp2 := (R5'.exd xbnp).g
   (repeat' first | refine goS ?_ | (refine scnp _ ?_) | (refine SOMEN.mk ebnp ?_) | refine idxS_ fun _ _ _ => ?_ | refine sp (fun _ => ?_) fun _ => ?_ | fail)
   refine (R5'.exd xbnp).setP rrnp fun hnp unp nnp Rnp => ?_
   have lnp := xbnp.le
   have zlnh := Rnp.zl
   have qnh := Rnp.lt
   obtain ⟨Nnh, hNnh⟩ : ∃ N, hnp.next = N := ⟨_, rfl⟩
   obtain ⟨anh, cnh, vnh, enh, wnh, fnh, oanh, ocnh, ovnh, ownh, sanh, scnh, eanh, xanh, ebnh, xbnh, rrnh⟩ := cutS (sz := 1) (bytes := 24) (n := kk) Rnp.H rfl (by show _ < S.H.length; omega) zlnh hNnh (by show S.H.length * 24 ≤ _; omega)
   have gnh0 := Rnp.g
   have gnh1 := (Rnp.exd xanh).g
   have gnh2 := (Rnp.exd xbnh).g
   (repeat' first | refine goS ?_ | (refine sanh _ ?_) | (refine scnh _ ?_) | (refine SOMEN.mk eanh ?_) | (refine SOMEN.mk ebnh ?_) | refine idxS_ fun _ _ _ => ?_ | refine sp (fun _ => ?_) fun _ => ?_ | fail)
   refine (Rnp.exd xbnh).setH rrnh fun hnh unh nnh Rnh => ?_
   have lnh := xbnh.le
   have zlnc := Rnh.zl
   have qnc := Rnh.lt
   obtain ⟨Nnc, hNnc⟩ : ∃ N, hnh.next = N := ⟨_, rfl⟩
   obtain ⟨anc, cnc, vnc, enc, wnc, fnc, oanc, ocnc, ovnc, ownc, sanc, scnc, eanc, xanc, ebnc, xbnc, rrnc⟩ := cutS (sz := 1) (bytes := 24) (n := kk) Rnh.C rfl (by show _ < S.C.length; omega) zlnc hNnc (by show S.C.length * 24 ≤ _; omega)
   have gnc0 := Rnh.g
   have gnc1 := (Rnh.exd xanc).g
   have gnc2 := (Rnh.exd xbnc).g
   (repeat' first | refine goS ?_ | (refine sanc _ ?_) | (refine scnc _ ?_) | (refine SOMEN.mk eanc ?_) | (refine SOMEN.mk ebnc ?_) | refine idxS_ fun _ _ _ => ?_ | refine sp (fun _ => ?_) fun _ => ?_ | fail)
   refine (Rnh.exd xbnc).setC rrnc fun hnc unc nnc Rnc => ?_
   have lnc := xbnc.le
   (repeat' first | refine go ?_ | refine idxS_ fun _ _ _ => ?_ | refine sp (fun _ => ?_) fun _ => ?_ | fail)
   refine CALLN.of (scanA_cal Rnc (S := goneS S x kk) G2 (by have := G2.wl; omega) fun v h10 u10 RR10 r10 b10 => ?_)
   have o10 := r10.one
   (repeat' first | refine go ?_ | refine idxS_ fun _ _ _ => ?_ | refine sp (fun _ => ?_) fun _ => ?_ | fail)
   exact k v h10 (((((((x3.upd.trans u5).trans xbnp.upd).trans unp).trans xbnh.upd).trans unh).trans xbnc.upd).trans unc |>.trans u10) RR10 r10
 | some w =>
   obtain ⟨w1', w2'⟩ := posI_at hpw
   rw [List.length_map] at w1'
   have ecut : cutW S.W x = S.W.eraseIdx w := by rw [cutW, hpw]
   have pw2 : posN (some w) = (w : Int) := rfl
   have zlw := R5.zl
   have qw := R5.lt
   obtain ⟨Nw, hNw⟩ : ∃ N, h5.next = N := ⟨_, rfl⟩
   obtain ⟨aw, cw, vw, ew, ww, fw, oaw, ocw, ovw, oww, saw, scw, eaw, xaw, ebw, xbw, rrw⟩ := cutS (sz := 2) (bytes := 32) (n := w) R5.W rfl (by show _ < S.W.length; omega) zlw hNw (by show S.W.length * 32 ≤ _; omega)
   have gw0 := R5.g
   have gw1 := (R5.exd xaw).g
   have gw2 := (R5.exd xbw).g
   (repeat' first | refine goS ?_ | (refine saw _ ?_) | (refine scw _ ?_) | (refine SOMEN.mk eaw ?_) | (refine SOMEN.mk ebw ?_) | refine idxS_ fun _ _ _ => ?_ | refine sp (fun _ => ?_) fun _ => ?_ | fail)
   refine (R5.exd xbw).setW rrw fun hw uw nw Rw => ?_
   have lw := xbw.le
   have R5' : RV Z hw q { S with A := addU S.A (rowU S.H kk), W := cutW S.W x } vT (.slice p3 0 S.A.length S.A.length) vP vH vC ww := by rw [ecut]; exact Rw
   have zlsp := R5'.zl
   have qsp := R5'.lt
   obtain ⟨asp, rasp, sasp⟩ := (show RSl Z intE hw vP S.P from R5'.P).uptoE (sz := 1) rfl (n := kk) (by omega)
   obtain ⟨csp, rcsp, scsp⟩ := (show RSl Z intE hw vP S.P from R5'.P).fromE (sz := 1) (i := (kk : Int) + 1) rfl (n := kk + 1) (by omega) (by omega)
   have oasp := rasp.one
   have ocsp := rcsp.one
   have gsp := R5'.g
   (repeat' first | refine goS ?_ | (refine sasp _ ?_) | refine idxS_ fun _ _ _ => ?_ | refine sp (fun _ => ?_) fun _ => ?_ | fail)
   refine CALLN.of (copyW_cal rasp.rin (by rw [List.length_take]; omega) fun psp esp xsp Osp => ?_)
   have Gsp := Osp.gsl rfl (Z := Z)
   have lpsp := xsp.le
   have rcsq : RSl (fun i => Z i ∨ isB (.slice psp 0 (S.P.take kk).length (S.P.take kk).length) i) intE esp csp (S.P.drop (kk + 1)) := ((rcsp.sub (Z' := fun i => Z i ∨ hw.next ≤ i) fun i hi h => h.elim id fun h => by omega).exd xsp).sub fun i _ h => h.imp id fun h => by rw [isB_slice] at h; have := Osp.1; omega
   obtain ⟨vsp, fsp, ebsp, ubsp, lbsp, Gsq, hvsp⟩ := Gsp.pushR (bytes := 8) rcsq (by rw [List.length_take, List.length_drop]; omega)
   have ovsp := Gsq.one
   have xbsp : Exd hw fsp := ⟨by omega, fun i hi => (ubsp.get i (by omega) fun hb => by rw [isB_slice] at hb; have := Osp.1; omega).trans (xsp.get i hi)⟩
   have rrsp : RSl Z intE fsp vsp (S.P.eraseIdx kk) := by
    rw [List.eraseIdx_eq_take_drop_succ]
    exact Gsq.read fun b hb h => by
     have := zlsp b h
     have := Osp.1
     rcases (hvsp b hb).1 with h' | h'
     ·rw [isB_slice] at h'; omega
     ·omega
   have gsp1 := (R5'.exd xsp).g
   have gsp2 := (R5'.exd xbsp).g
   (repeat' first | refine goS ?_ | (refine scsp _ ?_) | (refine SOMEN.mk ebsp ?_) | refine idxS_ fun _ _ _ => ?_ | refine sp (fun _ => ?_) fun _ => ?_ | fail)
   refine (R5'.exd xbsp).setP rrsp fun hsp usp nsp Rsp => ?_
   have lsp := xbsp.le
   have zlsh := Rsp.zl
   have qsh := Rsp.lt
   obtain ⟨Nsh, hNsh⟩ : ∃ N, hsp.next = N := ⟨_, rfl⟩
   obtain ⟨ash, csh, vsh, esh, wsh, fsh, oash, ocsh, ovsh, owsh, sash, scsh, eash, xash, ebsh, xbsh, rrsh⟩ := cutS (sz := 1) (bytes := 24) (n := kk) Rsp.H rfl (by show _ < S.H.length; omega) zlsh hNsh (by show S.H.length * 24 ≤ _; omega)
   have gsh0 := Rsp.g
   have gsh1 := (Rsp.exd xash).g
   have gsh2 := (Rsp.exd xbsh).g
   (repeat' first | refine goS ?_ | (refine sash _ ?_) | (refine scsh _ ?_) | (refine SOMEN.mk eash ?_) | (refine SOMEN.mk ebsh ?_) | refine idxS_ fun _ _ _ => ?_ | refine sp (fun _ => ?_) fun _ => ?_ | fail)
   refine (Rsp.exd xbsh).setH rrsh fun hsh ush nsh Rsh => ?_
   have lsh := xbsh.le
   have zlsc := Rsh.zl
   have qsc := Rsh.lt
   obtain ⟨Nsc, hNsc⟩ : ∃ N, hsh.next = N := ⟨_, rfl⟩
   obtain ⟨asc, csc, vsc, esc, wsc, fsc, oasc, ocsc, ovsc, owsc, sasc, scsc, easc, xasc, ebsc, xbsc, rrsc⟩ := cutS (sz := 1) (bytes := 24) (n := kk) Rsh.C rfl (by show _ < S.C.length; omega) zlsc hNsc (by show S.C.length * 24 ≤ _; omega)
   have gsc0 := Rsh.g
   have gsc1 := (Rsh.exd xasc).g
   have gsc2 := (Rsh.exd xbsc).g
   (repeat' first | refine goS ?_ | (refine sasc _ ?_) | (refine scsc _ ?_) | (refine SOMEN.mk easc ?_) | (refine SOMEN.mk ebsc ?_) | refine idxS_ fun _ _ _ => ?_ | refine sp (fun _ => ?_) fun _ => ?_ | fail)
   refine (Rsh.exd xbsc).setC rrsc fun hsc usc nsc Rsc => ?_
   have lsc := xbsc.le
   (repeat' first | refine go ?_ | refine idxS_ fun _ _ _ => ?_ | refine sp (fun _ => ?_) fun _ => ?_ | fail)
   refine CALLN.of (scanA_cal Rsc (S := goneS S x kk) G2 (by have := G2.wl; omega) fun v h10 u10 RR10 r10 b10 => ?_)
   have o10 := r10.one
   (repeat' first | refine go ?_ | refine idxS_ fun _ _ _ => ?_ | refine sp (fun _ => ?_) fun _ => ?_ | fail)
   exact k v h10 ((((((((x3.upd.trans u5).trans xbw.upd |>.trans uw).trans xbsp.upd).trans usp).trans xbsh.upd).trans ush).trans xbsc.upd).trans usc |>.trans u10) RR10 r10
theorem Exd.roomR {h : Heap} {n : Nat} : Exd h (h.room n) := ⟨by rw [Heap.nx_room rfl]; omega, fun i _ => Heap.room_get rfl⟩
theorem takeWhile_at {P : List Int} {x : Int} {j : Nat} (hj : j ≤ P.length) (h1 : ∀ p, p < j → P.getD p 0 < x) (h2 : j < P.length → x ≤ P.getD j 0) : (P.takeWhile fun p => decide (p < x)).length = j := by
 induction P generalizing j with
 | nil => simp at hj; subst hj; rfl
 | cons a P ih =>
   cases j with
   | zero =>
     have := h2 (by simp)
     simp only [List.getD_cons_zero] at this
     rw [List.takeWhile_cons, if_neg (by simp; omega)]; rfl
   | succ j =>
     have := h1 0 (by omega)
     simp only [List.getD_cons_zero] at this
     rw [List.takeWhile_cons, if_pos (by simpa using this), List.length_cons, ih (j := j) (by simpa using hj) (fun p hp => by simpa using h1 (p + 1) (by omega)) (fun h => by simpa using h2 (by simpa using h))]
def inS (S : AS) (pid : Int) (c : List Int) (n : Nat) : AS := { S with P := S.P.take n ++ pid :: S.P.drop n, H := S.H.take n ++ ofJ S.T.length (fun _ => 0) :: S.H.drop n, C := S.C.take n ++ c :: S.C.drop n }
theorem mem_ins {α : Type} {L : List α} {n : Nat} {x y : α} : y ∈ L.take n ++ x :: L.drop n ↔ y = x ∨ y ∈ L := by
 constructor
 ·intro h
  rcases List.mem_append.1 h with h | h
  ·exact .inr (List.mem_of_mem_take h)
  ·rcases List.mem_cons.1 h with h | h
   ·exact .inl h
   ·exact .inr (List.mem_of_mem_drop h)
 ·rintro (rfl | h)
  ·exact List.mem_append_right _ (List.mem_cons_self ..)
  ·rw [← List.take_append_drop n L] at h
   rcases List.mem_append.1 h with h | h
   ·exact List.mem_append_left _ h
   ·exact List.mem_append_right _ (List.mem_cons_of_mem _ h)
theorem len_ins {α : Type} {L : List α} {n : Nat} {x : α} (hn : n ≤ L.length) : (L.take n ++ x :: L.drop n).length = L.length + 1 := by
 rw [List.length_append, List.length_cons, List.length_take, List.length_drop]; omega
theorem GoodS.into {S : AS} (G : GoodS S) {pid : Int} {c : List Int} {n : Nat} (hp : 1 ≤ pid ∧ pid ≤ 9223372036854775807) (hc : rowOk S.T.length c = true) (hl : S.P.length < 32) (hn : n ≤ S.P.length) (h1 : ∀ p, p < n → S.P.getD p 0 < pid) (h2 : ∀ p, n ≤ p → p < S.P.length → pid < S.P.getD p 0) : GoodS (inS S pid c n) := by
 obtain ⟨t6, tm, a, a0, hl', cl, p32, ps, p1, h, cc, sum, w, wd⟩ := G
 refine ⟨t6, tm, a, a0, ?_, ?_, ?_, ?_, fun p hp' => ?_, fun R hR => ?_, fun R hR => ?_, fun j hj => ?_, fun x hx => ⟨mem_ins.2 (.inr (w x hx).1), (w x hx).2⟩, wd⟩
 ·show (S.H.take n ++ _ :: S.H.drop n).length = (S.P.take n ++ _ :: S.P.drop n).length
  rw [len_ins (by omega), len_ins hn, hl']
 ·show (S.C.take n ++ _ :: S.C.drop n).length = (S.P.take n ++ _ :: S.P.drop n).length
  rw [len_ins (by omega), len_ins hn, cl]
 ·show (S.P.take n ++ _ :: S.P.drop n).length ≤ 32
  rw [len_ins hn]; omega
 ·show (S.P.take n ++ pid :: S.P.drop n).Pairwise (· < ·)
  rw [← List.take_append_drop n S.P, List.pairwise_append] at ps
  refine List.pairwise_append.2 ⟨ps.1, List.pairwise_cons.2 ⟨fun y hy => ?_, ps.2.1⟩, fun y hy z hz => ?_⟩
  ·obtain ⟨i, hi, rfl⟩ := List.getElem_of_mem hy
   rw [List.length_drop] at hi
   rw [List.getElem_drop]
   have := h2 (n + i) (by omega) (by omega)
   rwa [List.getD_eq_getElem?_getD, List.getElem?_eq_getElem (by omega)] at this
  ·rcases List.mem_cons.1 hz with rfl | hz
   ·obtain ⟨i, hi, rfl⟩ := List.getElem_of_mem hy
    rw [List.length_take] at hi
    rw [List.getElem_take]
    have := h1 i (by omega)
    rwa [List.getD_eq_getElem?_getD, List.getElem?_eq_getElem (by omega)] at this
   ·exact ps.2.2 y hy z hz
 ·rcases mem_ins.1 hp' with rfl | h
  ·exact hp
  ·exact p1 p h
 ·rcases mem_ins.1 hR with rfl | h'
  ·refine ⟨ofJ_length _ _, fun j => ?_⟩
   by_cases hj : j < S.T.length
   ·rw [atU_ofJ hj]; omega
   ·rw [atU_out (by rw [ofJ_length]; exact hj)]; omega
  ·exact h R h'
 ·rcases mem_ins.1 hR with rfl | h'
  ·exact hc
  ·exact cc R h'
 ·show atU S.A j + sumJ (S.H.take n ++ _ :: S.H.drop n) j = atU S.T j
  have hj : j < S.T.length := hj
  rw [sumJ_ins, atU_ofJ hj]
  have := sum j hj
  omega
theorem CODEN.mono {T : Tab} {N : Nat} {c : CCode} {ρ : Env} {ds : DS} {h : Heap} {Q Q' : QT} (k : CODEN T N c ρ ds h Q) (m : ∀ e ρ ds h, Q e ρ ds h → Q' e ρ ds h) : CODEN T N c ρ ds h Q' := by
 obtain ⟨k⟩ := k
 refine ⟨k.mono ?_⟩
 rintro e a h' ⟨ρ', ds', rfl, q⟩
 exact ⟨ρ', ds', rfl, m _ _ _ _ q⟩
theorem admitS_in {S : AS} {pid : Int} {c : List Int} (h1 : 1 ≤ pid) (h2 : rowOk S.T.length c = true) (h3 : posI S.P pid = none) (h4 : S.P.length < 32) (h5 : ¬ (S.cl = true ∧ fitsU c S.T = false)) {n : Nat} (hn : (S.P.takeWhile fun p => decide (p < pid)).length = n) : admitS S pid c = (inS S pid c n, 0) := by
 subst hn
 rw [admitS, if_neg (by rw [h2]; simp; omega), if_neg (by rw [h3]; simp), if_neg (by omega), if_neg h5]
 rfl
set_option maxHeartbeats 4000000 in
theorem admitA_cal {Z : Nat → Prop} {h : Heap} {q : Nat} {S : AS} {x : Int} {vu : CVal} {u : List Int} {Q : CVal → Heap → Prop} (R : RR Z h q S) (G : GoodS S) (rs : RSl Z intE h vu u) (lu : u.length ≤ 1000000000) (hx64 : x ≤ 9223372036854775807)
 (k : ∀ h', Upd (fun p => p = q) h h' → RR Z h' q (admitS S x u).1 → Q (.int .i64 (admitS S x u).2) h') : Cal tt 44 [.ptr q 0, .int .i64 x, vu] h Q := by
 have RR0 := R
 obtain ⟨vT, vA, vP, vH, vC, vW, R⟩ := R
 obtain ⟨N, hN⟩ : ∃ N, h.next = N := ⟨_, rfl⟩
 refine Cal.run rfl rfl rfl rfl ?_
 have ru := rs.rin
 have ou := ru.one
 have hq := R.lt
 have g := R.g
 have zl := R.zl
 have t6 := G.t6
 have p32 := G.p32
 have hlH := G.hl
 have hlC := G.cl
 have rT := R.T.rin
 have rP := R.P.rin
 have pw : posN (none : Option Nat) = -1 := rfl
 by_cases h1 : x < 1
 ·rw [show admitS S x u = (S, 1) by rw [admitS, if_pos (.inl h1)]] at k
  (repeat' first | refine go ?_ | refine idxS_ fun _ _ _ => ?_ | refine sp (fun _ => ?_) fun _ => ?_ | fail)
  exact k _ (Upd.refl _ _) RR0
 cases hu : rowOk S.T.length u
 ·rw [show admitS S x u = (S, 1) by rw [admitS, if_pos (.inr hu)]] at k
  (repeat' first | refine go ?_ | refine idxS_ fun _ _ _ => ?_ | refine sp (fun _ => ?_) fun _ => ?_ | fail)
  refine CALLN.of (isR_cal ru lu ?_)
  rw [rowOk_int (m := S.T.length) rfl, hu]
  (repeat' first | refine go ?_ | refine idxS_ fun _ _ _ => ?_ | refine sp (fun _ => ?_) fun _ => ?_ | fail)
  exact k _ (Upd.refl _ _) RR0
 (repeat' first | refine go ?_ | refine idxS_ fun _ _ _ => ?_ | refine sp (fun _ => ?_) fun _ => ?_ | fail)
 refine CALLN.of (isR_cal ru lu ?_)
 rw [rowOk_int (m := S.T.length) rfl, hu]
 (repeat' first | refine go ?_ | refine idxS_ fun _ _ _ => ?_ | refine sp (fun _ => ?_) fun _ => ?_ | fail)
 refine CALLN.of (atA_cal R (by omega) ?_)
 have n1 : ¬ (x < 1 ∨ rowOk S.T.length u = false) := by rw [hu]; simp; omega
 cases hk : posI S.P x with
 | some kk =>
   have pk : posN (some kk) = (kk : Int) := rfl
   rw [show admitS S x u = (S, 4) by rw [admitS, if_neg n1, if_pos (by rw [hk]; rfl)]] at k
   (repeat' first | refine go ?_ | refine idxS_ fun _ _ _ => ?_ | refine sp (fun _ => ?_) fun _ => ?_ | fail)
   exact k _ (Upd.refl _ _) RR0
 | none =>
 by_cases h32 : 32 ≤ S.P.length
 ·rw [show admitS S x u = (S, 1) by rw [admitS, if_neg n1, if_neg (by rw [hk]; simp), if_pos h32]] at k
  (repeat' first | refine go ?_ | refine idxS_ fun _ _ _ => ?_ | refine sp (fun _ => ?_) fun _ => ?_ | fail)
  exact k _ (Upd.refl _ _) RR0
 by_cases hc : S.cl = true ∧ fitsU u S.T = false
 ·rw [show admitS S x u = (S, 35) by rw [admitS, if_neg n1, if_neg (by rw [hk]; simp), if_neg h32, if_pos hc]] at k
  rw [hc.1] at g
  (repeat' first | refine go ?_ | refine idxS_ fun _ _ _ => ?_ | refine sp (fun _ => ?_) fun _ => ?_ | fail)
  refine CALLN.of (fitsR_cal ru rT lu ?_)
  rw [hc.2]
  (repeat' first | refine go ?_ | refine idxS_ fun _ _ _ => ?_ | refine sp (fun _ => ?_) fun _ => ?_ | fail)
  exact k _ (Upd.refl _ _) RR0
 have hf : S.cl = true → fitsU u S.T = true := fun e => by
  cases h : fitsU u S.T
  ·exact absurd ⟨e, h⟩ hc
  ·rfl
 refine (fun (key : ∀ ρ : Env, ρ.Has [(0, .ptr q 0), (1, .int .i64 x), (2, vu), (7, .int .i64 0)] → CODEN tt 131 (.loop ?cx) ρ [] h ?cQ) => ?main) ?key
 case main =>
  cases hcl : S.cl
  all_goals
   rw [hcl] at g
   (repeat' first | refine go ?_ | ((refine CALLN.of (fitsR_cal ru rT lu ?_); rw [hf hcl])) | refine idxS_ fun _ _ _ => ?_ | refine sp (fun _ => ?_) fun _ => ?_ | fail)
   (conv => whnf)
   refine key _ ?_
   exact ⟨rfl, rfl, rfl, rfl, trivial⟩
 intro ρ0 hρ0
 refine CODEN.mono (Q := fun e ρ ds h1 => e = .exit 0 ∧ ds = [] ∧ h1 = h ∧ ∃ j : Nat, ρ.Has [(0, .ptr q 0), (1, .int .i64 x), (2, vu), (7, .int .i64 j)] ∧ j ≤ S.P.length ∧ (∀ p, p < j → S.P.getD p 0 < x) ∧ (j < S.P.length → x ≤ S.P.getD j 0)) ?_ ?_
 ·refine loopC (fun j : Nat => [(0, .ptr q 0), (1, .int .i64 x), (2, vu), (7, .int .i64 j)]) (fun j h' => h' = h ∧ j ≤ S.P.length ∧ ∀ p, p < j → S.P.getD p 0 < x) (fun j => S.P.length - j) 0 hρ0 ⟨rfl, Nat.zero_le _, fun p hp => absurd hp (Nat.not_lt_zero _)⟩ ?_
  rintro j ρ h' ⟨rfl, hj, hlt⟩
  have gj : ∀ R : List Int, R.getD (j : Int).toNat 0 = R.getD j 0 := fun R => by rw [Int.toNat_natCast]
  by_cases hjl : j < S.P.length
  ·by_cases hjx : S.P.getD j 0 < x
   ·(repeat' first | refine go ?_ | ((refine RIn.idxS rP (by omega) fun b o g => ?_; rw [gj] at g)) | refine idxS_ fun _ _ _ => ?_ | refine sp (fun _ => ?_) fun _ => ?_ | fail)
    exact ⟨rfl, j + 1, ⟨rfl, rfl, rfl, rfl, trivial⟩, ⟨rfl, by omega, fun p hp => by
     rcases Nat.lt_or_ge p j with h1 | h1
     ·exact hlt p h1
     ·obtain rfl : p = j := by omega
      exact hjx⟩, by omega⟩
   ·(repeat' first | refine go ?_ | ((refine RIn.idxS rP (by omega) fun b o g => ?_; rw [gj] at g)) | refine idxS_ fun _ _ _ => ?_ | refine sp (fun _ => ?_) fun _ => ?_ | fail)
    exact ⟨rfl, rfl, rfl, j, ⟨rfl, rfl, rfl, rfl, trivial⟩, hj, hlt, fun _ => by omega⟩
  ·(repeat' first | refine go ?_ | refine idxS_ fun _ _ _ => ?_ | refine sp (fun _ => ?_) fun _ => ?_ | fail)
   exact ⟨rfl, rfl, rfl, j, ⟨rfl, rfl, rfl, rfl, trivial⟩, hj, hlt, fun h => absurd h hjl⟩
 rintro e ρ ds h' ⟨rfl, rfl, rfl, j, hρ, hj, hlt, hge⟩
 rw [← hρ.eq]
 clear hρ
 have htw := takeWhile_at hj hlt hge
 have hgt : ∀ p, j ≤ p → p < S.P.length → x < S.P.getD p 0 := fun p hp hpl => by
  have e1 : S.P.getD p 0 = S.P[p] := by rw [List.getD_eq_getElem?_getD, List.getElem?_eq_getElem hpl]; rfl
  have e2 : S.P.getD j 0 = S.P[j] := by rw [List.getD_eq_getElem?_getD, List.getElem?_eq_getElem (by omega)]; rfl
  have h3 := hge (by omega)
  have h4 : x ≠ S.P[p] := fun e => posI_mem.1 hk (e ▸ List.getElem_mem hpl)
  rw [e1]
  rw [e2] at h3
  rcases Nat.lt_or_ge j p with h5 | h5
  ·have := List.pairwise_iff_getElem.1 G.ps j p (by omega) hpl h5
   omega
  ·obtain rfl : p = j := by omega
   omega
 have GI := G.into (pid := x) (c := u) ⟨by omega, hx64⟩ hu (by omega) hj hlt hgt
 rw [admitS_in (by omega) hu hk (by omega) hc htw] at k
 obtain ⟨a, ra, sa⟩ := R.P.uptoE (sz := 1) rfl (n := j) hj
 obtain ⟨c, rc, sc⟩ := R.P.fromE (sz := 1) (i := (j : Int)) rfl rfl hj
 have oa := ra.one
 have oc := rc.one
 (repeat' first | refine goS ?_ | (refine sa _ ?_) | refine idxS_ fun _ _ _ => ?_ | refine sp (fun _ => ?_) fun _ => ?_ | fail)
 refine CALLN.of (copyW_cal ((ra.exd Exd.roomR).rin) (by rw [List.length_take]; omega) fun p1 h1 x1 O1 => ?_)
 have x01 : Exd h' h1 := Exd.roomR.trans x1
 have l1 : N + 1 ≤ h1.next := by have := x1.le; rw [Heap.nx_room rfl] at this; omega
 have p1l : N + 1 ≤ p1 := by have := O1.1; rw [Heap.nx_room rfl] at this; omega
 have g1 : h1.get q = _ := x01.skip hq g
 obtain ⟨N2, hN2⟩ : ∃ N, h1.next = N := ⟨_, rfl⟩
 have G1 : GSl Z intE (h1.set N (.cells [.int .i64 x] true none)) (.slice p1 0 (S.P.take j).length (S.P.take j).length) (S.P.take j) := (O1.gsl rfl).ints_upd (S := fun i => i = N) (Upd.set (Upd.refl _ _) (.inl rfl)) fun i e hb => by rw [isB_slice] at hb; omega
 have src1 : srcC (h1.set N (.cells [.int .i64 x] true none)) 1 (.slice N 0 1 1) = some (1, [.int .i64 x]) := src_one (Heap.set_at rfl) rfl rfl
 obtain ⟨h2, eb, u2, n2, G2⟩ := G1.push1 (bytes := 8) (N := N2) src1 (by rw [List.length_take]; omega) rfl (by rw [Heap.next_set]; exact hN2)
 have x2 : Exd h' h2 := ⟨by omega, fun i hi => (u2.get i (by rw [Heap.next_set]; omega) fun hb => by rw [isB_slice] at hb; omega).trans ((Heap.get_set_ne _ _ _ _ (by omega)).trans (x01.get i hi))⟩
 have g2 : h2.get q = _ := x2.skip hq g
 have rc2 : RSl (fun i => Z i ∨ isB (.slice N2 0 ((S.P.take j).length + 1) ((S.P.take j).length + 1)) i) intE h2 c (S.P.drop j) := ((rc.sub (Z' := fun i => Z i ∨ h'.next ≤ i) fun i hi h => h.elim id fun h => by omega).exd x2).sub fun i _ h => h.imp id fun h => by rw [isB_slice] at h; omega
 obtain ⟨v3, h3, ec, u3, l3, G3, hv3⟩ := G2.pushR (bytes := 8) rc2 (by rw [List.length_append, List.length_take, List.length_drop, List.length_singleton]; omega)
 have x3 : Exd h' h3 := ⟨by omega, fun i hi => (u3.get i (by omega) fun hb => by rw [isB_slice] at hb; omega).trans (x2.get i hi)⟩
 have g3 : h3.get q = _ := x3.skip hq g
 have o3 := G3.one
 have r3 : RSl Z intE h3 v3 (S.P.take j ++ x :: S.P.drop j) := by
  have := G3.read fun b hb h => by
   have := zl b h
   rcases (hv3 b hb).1 with h' | h'
   ·rw [isB_slice] at h'; omega
   ·omega
  rw [List.append_assoc] at this
  exact this
 (repeat' first | refine goS ?_ | (refine NUMN.mk (Nat.add_zero _) ?_) | (refine sc _ ?_) | (refine SOMEN.mk eb ?_) | (refine SOMEN.mk ec ?_) | refine idxS_ fun _ _ _ => ?_ | refine sp (fun _ => ?_) fun _ => ?_ | fail)
 refine (R.exd x3).setP r3 fun h4 u4 n4 R4 => ?_
 have g4 := R4.g
 have zl4 := R4.zl
 have q4 := R4.lt
 obtain ⟨N4, hN4⟩ : ∃ N, h4.next = N := ⟨_, rfl⟩
 obtain ⟨aH, raH, saH⟩ := (show RSl Z rowE h4 vH S.H from R4.H).uptoE (sz := 1) rfl (n := j) (by omega)
 obtain ⟨cH, rcH, scH⟩ := (show RSl Z rowE h4 vH S.H from R4.H).fromE (sz := 1) (i := (j : Int)) rfl rfl (by omega)
 have oaH := raH.one
 have ocH := rcH.one
 have raH' : RSl (fun i => Z i ∨ i = N4 ∨ i = N4 + 1) rowE (h4.room 2) aH (S.H.take j) := (raH.sub (Z' := fun i => Z i ∨ i = N4 ∨ i = N4 + 1) fun i hi h => h.elim id fun h => by omega).exd Exd.roomR
 obtain ⟨v5, h5, e5, x5, G5, hv5, l5, l5'⟩ := append_copy (bytes := 24) raH' (by rw [Heap.nx_room rfl, hN4] : (h4.room 2).next = N4 + 2) (by rw [List.length_take]; omega)
 have x45 : Exd h4 h5 := Exd.roomR.trans x5
 have g5 : h5.get q = _ := x45.skip q4 g4
 have o5 := G5.1.one
 obtain ⟨N5, hN5⟩ : ∃ N, h5.next = N := ⟨_, rfl⟩
 have G6 : GSl Z rowE ((h5.set N4 (.cells (repC S.T.length [.int .i64 0]) true none)).set (N4 + 1) (.cells [.slice N4 0 S.T.length S.T.length] true none)) v5 (S.H.take j) := (G5.1.upd (S := fun i => i = N4 ∨ i = N4 + 1) (Upd.set (Upd.set (Upd.refl _ _) (.inl (.inl rfl))) (.inl (.inr rfl))) fun i hi h => ⟨.inr h, fun hb => by have := hv5 i hb; omega⟩).sub fun i _ h => .inl h
 have z6 : RIn ((h5.set N4 (.cells (repC S.T.length [.int .i64 0]) true none)).set (N4 + 1) (.cells [.slice N4 0 S.T.length S.T.length] true none)) (.slice N4 0 S.T.length S.T.length) (ofJ S.T.length fun _ => 0) := by
  refine .inr ⟨N4, 0, _, by rw [ofJ_length], by simp only [Heap.next_set]; omega, .inr ⟨_, _, _, by exact get_, fun p hp => ?_⟩⟩
  rw [repC_int, Nat.zero_add, List.getElem?_map, List.getElem?_eq_getElem hp]; rfl
 have he6 : rowE.ok (fun i => Z i ∨ isB v5 i) ((h5.set N4 (.cells (repC S.T.length [.int .i64 0]) true none)).set (N4 + 1) (.cells [.slice N4 0 S.T.length S.T.length] true none)) [.slice N4 0 S.T.length S.T.length] (ofJ S.T.length fun _ => 0) := slE.ok (z6.rsl (fun i hi h => by
  rw [isB_slice] at hi
  subst hi
  rcases h with h | h
  ·have := zl4 _ h; omega
  ·have := hv5 _ h; omega) fun _ _ _ _ e => by simp only [CVal.slice.injEq] at e; omega)
 obtain ⟨h7, e7, u7, n7, G7⟩ := G6.push1 (bytes := 24) (N := N5) (src := .slice (N4 + 1) 0 1 1) (src_one (by exact get_) rfl rfl) (by rw [List.length_take]; omega) he6 (by simp only [Heap.next_set]; exact hN5)
 have x47 : Exd h4 h7 := ⟨by omega, fun i hi => (u7.get i (by simp only [Heap.next_set]; omega) fun hb => by have := hv5 i hb; omega).trans ((Heap.get_set_ne _ _ _ _ (by omega)).trans ((Heap.get_set_ne _ _ _ _ (by omega)).trans (x45.get i hi)))⟩
 have g7 : h7.get q = _ := x47.skip q4 g4
 have rc7 : RSl (fun i => Z i ∨ isB (.slice N5 0 ((S.H.take j).length + 1) ((S.H.take j).length + 1)) i) rowE h7 cH (S.H.drop j) := ((rcH.sub (Z' := fun i => Z i ∨ h4.next ≤ i) fun i hi h => h.elim id fun h => by omega).exd x47).sub fun i _ h => h.imp id fun h => by rw [isB_slice] at h; omega
 obtain ⟨v8, h8, e8, u8, l8, G8, hv8⟩ := G7.pushR (bytes := 24) rc7 (by rw [List.length_append, List.length_take, List.length_drop, List.length_singleton]; omega)
 have x48 : Exd h4 h8 := ⟨by omega, fun i hi => (u8.get i (by omega) fun hb => by rw [isB_slice] at hb; omega).trans (x47.get i hi)⟩
 have g8 : h8.get q = _ := x48.skip q4 g4
 have o8 := G8.one
 have r8 : RSl Z rowE h8 v8 (S.H.take j ++ (ofJ S.T.length fun _ => 0) :: S.H.drop j) := by
  have := G8.read fun b hb h => by
   have := zl4 b h
   rcases (hv8 b hb).1 with h' | h'
   ·rw [isB_slice] at h'; omega
   ·omega
  rw [List.append_assoc] at this
  exact this
 (repeat' first | refine goS ?_ | (refine NUMN.mk (Nat.add_zero _) ?_) | (refine NUMN.mk rfl ?_) | (refine saH _ ?_) | (refine scH _ ?_) | (refine SOMEN.mk e5 ?_) | (refine SOMEN.mk e7 ?_) | (refine SOMEN.mk e8 ?_) | (refine rT.lenS ?_) | refine idxS_ fun _ _ _ => ?_ | refine sp (fun _ => ?_) fun _ => ?_ | fail)
 refine (R4.exd x48).setH r8 fun h9 u9 n9 R9 => ?_
 have g9 := R9.g
 have zl9 := R9.zl
 have q9 := R9.lt
 obtain ⟨N9, hN9⟩ : ∃ N, h9.next = N := ⟨_, rfl⟩
 obtain ⟨aC, raC, saC⟩ := (show RSl Z rowE h9 vC S.C from R9.C).uptoE (sz := 1) rfl (n := j) (by omega)
 obtain ⟨cC, rcC, scC⟩ := (show RSl Z rowE h9 vC S.C from R9.C).fromE (sz := 1) (i := (j : Int)) rfl rfl (by omega)
 have oaC := raC.one
 have ocC := rcC.one
 obtain ⟨v10, h10, e10, x10, G10, hv10, l10, l10'⟩ := append_copy (bytes := 24) raC hN9 (by rw [List.length_take]; omega)
 have g10 := (R9.exd x10).g
 have o10 := G10.1.one
 have u09 : Upd (fun p => p = q) h' h9 := ((x3.upd.trans u4).trans x48.upd).trans u9
 have ru10 : RIn h10 vu u := ((rs.upd (u09.sub fun i _ e => by rw [e]; exact R.zq)).exd x10).rin
 (repeat' first | refine goS ?_ | (refine saC _ ?_) | (refine SOMEN.mk e10 ?_) | refine idxS_ fun _ _ _ => ?_ | refine sp (fun _ => ?_) fun _ => ?_ | fail)
 refine CALLN.of (copyW_cal ru10 lu fun p11 h11 x11 O11 => ?_)
 have x11 : Exd h10 h11 := x11
 have O11 : OwnW h10 h11 p11 _ := O11
 have l11 := x11.le
 have g11 := ((R9.exd x10).exd x11).g
 obtain ⟨N11, hN11⟩ : ∃ N, h11.next = N := ⟨_, rfl⟩
 have x11n : Exd h11 (h11.new (.cells [.slice p11 0 u.length u.length] true none)) := Exd.new (Exd.refl _)
 have he11 : rowE.ok (fun i => Z i ∨ isB v10 i) (h11.new (.cells [.slice p11 0 u.length u.length] true none)) [.slice p11 0 u.length u.length] u := slE.ok ((O11.rsl (m := u.length) rfl fun i h => h.elim (fun h => by have := zl9 i h; have := x10.le; omega) fun h => (hv10 i h).2).exd x11n)
 obtain ⟨h12, e12, u12, n12, G12⟩ := (G10.1.exd (x11.trans x11n)).push1 (bytes := 24) (N := N11 + 1) (src := .slice N11 0 1 1) (src_one (by exact get_) rfl rfl) (by rw [List.length_take]; omega) he11 (by rw [Heap.next_new, hN11])
 have l10b := x10.le
 have x9c : Exd h9 h12 := ⟨by omega, fun i hi => (u12.get i (by rw [Heap.next_new]; omega) fun hb => by have := hv10 i hb; omega).trans ((x10.trans (x11.trans x11n)).get i hi)⟩
 have g12 := (R9.exd x9c).g
 have rc12 : RSl (fun i => Z i ∨ isB (.slice (N11 + 1) 0 ((S.C.take j).length + 1) ((S.C.take j).length + 1)) i) rowE h12 cC (S.C.drop j) := ((rcC.sub (Z' := fun i => Z i ∨ h9.next ≤ i) fun i hi h => h.elim id fun h => by omega).exd x9c).sub fun i _ h => h.imp id fun h => by rw [isB_slice] at h; omega
 obtain ⟨v13, h13, e13, u13, l13, G13, hv13⟩ := G12.pushR (bytes := 24) rc12 (by rw [List.length_append, List.length_take, List.length_drop, List.length_singleton]; omega)
 have x9d : Exd h9 h13 := ⟨by omega, fun i hi => (u13.get i (by omega) fun hb => by rw [isB_slice] at hb; omega).trans (x9c.get i hi)⟩
 have g13 := (R9.exd x9d).g
 have o13 := G13.one
 have r13 : RSl Z rowE h13 v13 (S.C.take j ++ u :: S.C.drop j) := by
  have := G13.read fun b hb h => by
   have := zl9 b h
   rcases (hv13 b hb).1 with h' | h'
   ·rw [isB_slice] at h'; omega
   ·omega
  rw [List.append_assoc] at this
  exact this
 (repeat' first | refine goS ?_ | (refine scC _ ?_) | (refine SOMEN.mk e12 ?_) | (refine SOMEN.mk e13 ?_) | refine idxS_ fun _ _ _ => ?_ | refine sp (fun _ => ?_) fun _ => ?_ | fail)
 refine (R9.exd x9d).setC r13 fun h14 u14 n14 R14 => ?_
 (repeat' first | refine go ?_ | refine idxS_ fun _ _ _ => ?_ | refine sp (fun _ => ?_) fun _ => ?_ | fail)
 exact k h14 ((u09.trans x9d.upd).trans u14) ⟨_, _, _, _, _, _, R14⟩
theorem safeA_cal {Z : Nat → Prop} {h : Heap} {q : Nat} {S : AS} {vT vA vP vH vC vW : CVal} {Q : CVal → Heap → Prop} (R : RV Z h q S vT vA vP vH vC vW) (G : GoodS S) (k : ∀ h', Exd h h' → Q (.bool (safeS S)) h') : Cal tt 48 [.ptr q 0] h Q := by
 refine Cal.run rfl rfl rfl rfl ?_
 have g := R.g
 have lA := G.a
 have t6 := G.t6
 (repeat' first | refine go ?_ | refine idxS_ fun _ _ _ => ?_ | refine sp (fun _ => ?_) fun _ => ?_ | fail)
 refine CALLN.of (safeR_cal R.A.rin (R.H.rrows G.lenH) (R.C.rrows G.lenC) (by omega) fun h1 x1 => ?_)
 (repeat' first | refine go ?_ | refine idxS_ fun _ _ _ => ?_ | refine sp (fun _ => ?_) fun _ => ?_ | fail)
 exact k _ x1
def askOf (S : AS) (p : Int) : List Int := match posW S.W p with
 | none => ofJ S.T.length fun _ => 0
 | some w => (S.W.getD w (0, [])).2
theorem asksS_map (S : AS) : asksS S = S.P.map (askOf S) := rfl
set_option maxHeartbeats 1000000 in
theorem asksA_cal {Z : Nat → Prop} {h : Heap} {q : Nat} {S : AS} {vT vA vP vH vC vW : CVal} {Q : CVal → Heap → Prop} (R : RV Z h q S vT vA vP vH vC vW) (G : GoodS S) (k : ∀ v h', Exd h h' → RSl Z rowE h' v (asksS S) → Q v h') : Cal tt 64 [.ptr q 0] h Q := by
 obtain ⟨N, hN⟩ : ∃ N, h.next = N := ⟨_, rfl⟩
 refine Cal.run rfl rfl rfl rfl ?_
 have g := R.g
 have zl := R.zl
 have hq := R.lt
 have t6 := G.t6
 have p32 := G.p32
 have wl := G.wl
 (repeat' first | refine go ?_ | refine idxS_ fun _ _ _ => ?_ | refine sp (fun _ => ?_) fun _ => ?_ | fail)
 refine loopC (fun y : Nat × CVal => [(0, .ptr q 0), (3, y.2), (4, .int .i64 y.1)]) (fun y h' => Exd h h' ∧ N < h'.next ∧ y.1 ≤ S.P.length ∧ GSl Z rowE h' y.2 ((S.P.take y.1).map (askOf S)) ∧ ∀ b, isB y.2 b → h.next ≤ b) (fun y => S.P.length - y.1) (0, .slice N 0 0 0) ⟨rfl, rfl, rfl, trivial⟩ ⟨by exact exd_, by exact lt_, Nat.zero_le _, GSl.new (wr := true) (by exact get_) (by exact lt_), fun b hb => by rw [isB_slice] at hb; omega⟩ ?_
 rintro ⟨j, vo⟩ ρ h' ⟨xk, hn, hj, Go, ob⟩
 simp only at hj Go ob ⊢
 have oo := Go.one
 have R' := R.exd xk
 have g' := R'.g
 have rP := R'.P.rin
 have rT := R'.T.rin
 by_cases hjl : j < S.P.length
 rotate_left
 ·obtain rfl : j = S.P.length := by omega
  rw [List.take_length, ← asksS_map] at Go
  (repeat' first | refine go ?_ | refine idxS_ fun _ _ _ => ?_ | refine sp (fun _ => ?_) fun _ => ?_ | fail)
  exact k _ _ xk (Go.read fun b hb h => by have := ob b hb; have := zl b h; omega)
 have gj : ∀ R : List Int, R.getD (j : Int).toNat 0 = R.getD j 0 := fun R => by rw [Int.toNat_natCast]
 have lx := xk.le
 obtain ⟨N1, hN1⟩ : ∃ N, h'.next = N := ⟨_, rfl⟩
 have hpj : S.P.take (j + 1) = S.P.take j ++ [S.P.getD j 0] := by
  rw [List.take_add_one, List.getD_eq_getElem?_getD, List.getElem?_eq_getElem hjl]; rfl
 have l8 : (S.T.length : Int) * 8 ≤ 1099511627776 := by omega
 (repeat' first | refine go ?_ | ((refine RIn.idxS rP (by omega) fun b o gA => ?_; rw [gj] at gA)) | refine idxS_ fun _ _ _ => ?_ | refine sp (fun _ => ?_) fun _ => ?_ | fail)
 rw [show ((S.T.length : Nat) : Int).toNat = S.T.length from Int.toNat_natCast _]
 have x1 : Exd h' (h'.new (.cells (repC S.T.length [.int .i64 0]) true none)) := Exd.new (Exd.refl _)
 have R1 := R'.exd x1
 refine CALLN.of (waitA_cal R1 (by omega) ?_)
 have pn : posN (none : Option Nat) = -1 := rfl
 have z1 : RIn (h'.new (.cells (repC S.T.length [.int .i64 0]) true none)) (.slice N1 0 S.T.length S.T.length) (ofJ S.T.length fun _ => 0) := by
  refine .inr ⟨N1, 0, _, by rw [ofJ_length], by rw [Heap.next_new]; omega, .inr ⟨_, _, _, by exact get_, fun p hp => ?_⟩⟩
  rw [repC_int, Nat.zero_add, List.getElem?_map, List.getElem?_eq_getElem hp]; rfl
 have xh1 : Exd h (h'.new (.cells (repC S.T.length [.int .i64 0]) true none)) := xk.trans x1
 have g1 := R1.g
 have nx1 : (h'.new (.cells (repC S.T.length [.int .i64 0]) true none)).next = N1 + 1 := by rw [Heap.next_new, hN1]
 have Go1 := Go.exd x1
 generalize h'.new (.cells (repC S.T.length [.int .i64 0]) true none) = h1 at *
 have fin : ∀ (w : CVal), w.one = true → RSl (fun i => Z i ∨ isB vo i) intE h1 w (askOf S (S.P.getD j 0)) → ∃ h3, appendC (h1.new (.cells [w] true none)) 1 24 vo (.slice (N1 + 1) 0 1 1) = some (.slice (N1 + 2) 0 (((S.P.take j).map (askOf S)).length + 1) (((S.P.take j).map (askOf S)).length + 1), h3) ∧ (Exd h h3 ∧ N < h3.next ∧ j + 1 ≤ S.P.length ∧ GSl Z rowE h3 (.slice (N1 + 2) 0 (((S.P.take j).map (askOf S)).length + 1) (((S.P.take j).map (askOf S)).length + 1)) ((S.P.take (j + 1)).map (askOf S)) ∧ ∀ b, isB (.slice (N1 + 2) 0 (((S.P.take j).map (askOf S)).length + 1) (((S.P.take j).map (askOf S)).length + 1)) b → h.next ≤ b) := by
  intro w ow r
  have x2 : Exd h1 (h1.new (.cells [w] true none)) := Exd.new (Exd.refl _)
  obtain ⟨h3, ea, u3, n3, G3⟩ := (Go1.exd x2).push1 (bytes := 24) (a := askOf S (S.P.getD j 0)) (N := N1 + 2) (src := .slice (N1 + 1) 0 1 1) (src_one (by exact get_) rfl rfl) (by rw [List.length_map, List.length_take]; omega) (slE.ok (r.exd x2)) (by rw [Heap.next_new, nx1])
  refine ⟨h3, ea, ⟨by have := xh1.le; omega, fun i hi => (u3.get i (by rw [Heap.next_new]; have := xh1.le; omega) fun hb => by have := ob i hb; omega).trans ((xh1.trans x2).get i hi)⟩, by omega, by omega, by rw [hpj, List.map_append]; exact G3, fun b hb => by rw [isB_slice] at hb; omega⟩
 cases hw : posW S.W (S.P.getD j 0) with
 | none =>
   obtain ⟨h3, ea, f3⟩ := fin (.slice N1 0 S.T.length S.T.length) rfl (by
    rw [show askOf S (S.P.getD j 0) = ofJ S.T.length fun _ => 0 by rw [askOf, hw]]
    exact z1.rsl (fun i hi h => by
     rw [isB_slice] at hi
     subst hi
     rcases h with h | h
     ·have := zl _ h; omega
     ·have := Go.1 _ h; omega) fun _ _ _ _ e => by simp only [CVal.slice.injEq] at e; omega)
   (repeat' first | refine go ?_ | (refine SOMEN.mk ea ?_) | refine idxS_ fun _ _ _ => ?_ | refine sp (fun _ => ?_) fun _ => ?_ | fail)
   exact ⟨rfl, (j + 1, _), ⟨rfl, rfl, rfl, trivial⟩, f3, by simp only; omega⟩
 | some w =>
   have pw : posN (some w) = (w : Int) := rfl
   obtain ⟨w1, w2⟩ := posI_at hw
   rw [List.length_map] at w1
   obtain ⟨b0, o0, v0, r0, a0, hi0⟩ := ((R.W.sub (Z' := fun i => Z i ∨ h.next ≤ i) fun i hi h => h.elim id fun h => by omega).exd xh1).pairE (j := w) (p := (S.W.getD w (0, [])).1) (us := (S.W.getD w (0, [])).2) (by rw [List.getD_eq_getElem?_getD, List.getElem?_eq_getElem w1]; rfl)
   have a1 : At1 h1 b0 (o0 + 1) v0 := a0.at (j := 1) rfl
   have ov := r0.one
   obtain ⟨h3, ea, f3⟩ := fin v0 ov (by
    rw [show askOf S (S.P.getD j 0) = (S.W.getD w (0, [])).2 by rw [askOf, hw]]
    exact r0.sub fun i _ h => h.imp id (ob i))
   (repeat' first | refine go ?_ | (refine hi0 _ ?_) | (refine SOMEN.mk ea ?_) | refine idxS_ fun _ _ _ => ?_ | refine sp (fun _ => ?_) fun _ => ?_ | fail)
   exact ⟨rfl, (j + 1, _), ⟨rfl, rfl, rfl, trivial⟩, f3, by simp only; omega⟩
theorem askOf_len {S : AS} (G : GoodS S) (p : Int) : (askOf S p).length = S.T.length ∧ mayU (askOf S p) = true := by
 unfold askOf
 split
 ·refine ⟨ofJ_length _ _, mayU_of fun j hj => ?_⟩
  rw [ofJ_length] at hj
  rw [atU_ofJ hj]; omega
 ·next w hw =>
  obtain ⟨w1, _⟩ := posI_at hw
  rw [List.length_map] at w1
  rw [List.getD_eq_getElem?_getD, List.getElem?_eq_getElem w1]
  exact rowOk_split (G.w _ (List.getElem_mem w1)).2
theorem GoodS.lenAsks {S : AS} (G : GoodS S) : ∀ R ∈ asksS S, R.length ≤ 1000000000 := fun R hR => by
 rw [asksS_map] at hR
 obtain ⟨p, _, rfl⟩ := List.mem_map.1 hR
 have := (askOf_len G p).1
 have := G.t6
 omega
theorem stuckU_lt {A : List Int} {H Q : List (List Int)} : ∀ i ∈ stuckU A H Q, i < H.length := fun i hi => by
 unfold stuckU at hi
 split at hi
 ·exact List.mem_range.1 (List.mem_filter.1 hi).1
 ·simp at hi
theorem stuckU_len {A : List Int} {H Q : List (List Int)} : (stuckU A H Q).length ≤ H.length := by
 unfold stuckU
 split
 ·exact leftU_len
 ·simp
theorem stuckA_cal {Z : Nat → Prop} {h : Heap} {q : Nat} {S : AS} {vT vA vP vH vC vW : CVal} {Q : CVal → Heap → Prop} (R : RV Z h q S vT vA vP vH vC vW) (G : GoodS S) (k : ∀ v h', Exd h h' → RIn h' v (stuckS S) → Q v h') : Cal tt 33 [.ptr q 0] h Q := by
 refine Cal.run rfl rfl rfl rfl ?_
 have g := R.g
 have zl := R.zl
 have hq := R.lt
 have t6 := G.t6
 have p32 := G.p32
 have hl := G.hl
 have lA := G.a
 (repeat' first | refine go ?_ | refine idxS_ fun _ _ _ => ?_ | refine sp (fun _ => ?_) fun _ => ?_ | fail)
 refine CALLN.of (asksA_cal R G fun va h1 x1 ra => ?_)
 have R1 := R.exd x1
 have g1 := R1.g
 (repeat' first | refine go ?_ | refine idxS_ fun _ _ _ => ?_ | refine sp (fun _ => ?_) fun _ => ?_ | fail)
 refine CALLN.of (stuckR_cal R1.A.rin (R1.H.rrows G.lenH) (ra.rrows G.lenAsks) (by omega) fun vs h2 x2 rs => ?_)
 have x02 := x1.trans x2
 have os := rs.one
 have sl := stuckU_len (A := S.A) (H := S.H) (Q := asksS S)
 have slt := stuckU_lt (A := S.A) (H := S.H) (Q := asksS S)
 rw [show stuckS S = (stuckU S.A S.H (asksS S)).map fun i => S.P.getD i 0 from rfl] at k
 generalize stuckU S.A S.H (asksS S) = U at *
 have nl := nats_length U
 obtain ⟨N, hN⟩ : ∃ N, h2.next = N := ⟨_, rfl⟩
 have l02 := x02.le
 clear x1 x2 g1 R1
 (repeat' first | refine go ?_ | refine idxS_ fun _ _ _ => ?_ | refine sp (fun _ => ?_) fun _ => ?_ | fail)
 refine loopC (fun y : Nat × CVal => [(0, .ptr q 0), (3, vs), (4, y.2), (5, .int .i64 y.1)]) (fun y h' => Exd h2 h' ∧ y.1 ≤ U.length ∧ GSl (fun _ => False) intE h' y.2 ((U.take y.1).map fun i => S.P.getD i 0) ∧ ∀ b, isB y.2 b → N ≤ b) (fun y => U.length - y.1) (0, .slice N 0 0 0) ⟨rfl, rfl, rfl, rfl, trivial⟩ ⟨by exact exd_, Nat.zero_le _, GSl.new (wr := true) (by exact get_) (by exact lt_), fun b hb => by rw [isB_slice] at hb; omega⟩ ?_
 rintro ⟨j, vo⟩ ρ h' ⟨xk, hj, Go, ob⟩
 simp only at hj Go ob ⊢
 have oo := Go.one
 have R' := R.exd (x02.trans xk)
 have g' := R'.g
 have rP := R'.P.rin
 have rs' := rs.exd xk
 by_cases hjl : j < U.length
 rotate_left
 ·obtain rfl : j = U.length := by omega
  rw [List.take_length] at Go
  (repeat' first | refine go ?_ | refine idxS_ fun _ _ _ => ?_ | refine sp (fun _ => ?_) fun _ => ?_ | fail)
  exact k _ _ (x02.trans xk) Go.ints
 have hu : U[j] < S.H.length := slt _ (List.getElem_mem hjl)
 have gj : (nats U).getD (j : Int).toNat 0 = ((U[j] : Nat) : Int) := by rw [Int.toNat_natCast, nats, List.getD_eq_getElem?_getD, List.getElem?_map, List.getElem?_eq_getElem hjl]; rfl
 have gp : ∀ L : List Int, L.getD ((U[j] : Nat) : Int).toNat 0 = L.getD U[j] 0 := fun L => by rw [Int.toNat_natCast]
 have hpj : U.take (j + 1) = U.take j ++ [U[j]] := by
  rw [List.take_add_one, List.getElem?_eq_getElem hjl]; rfl
 have lx := xk.le
 obtain ⟨N1, hN1⟩ : ∃ N, h'.next = N := ⟨_, rfl⟩
 have x2 : Exd h' (h'.new (.cells [.int .i64 (S.P.getD U[j] 0)] true none)) := Exd.new (Exd.refl _)
 have src : srcC (h'.new (.cells [.int .i64 (S.P.getD U[j] 0)] true none)) 1 (.slice N1 0 1 1) = some (1, [.int .i64 (S.P.getD U[j] 0)]) := src_one (by exact get_) rfl rfl
 obtain ⟨h3, ea, u3, n3, G3⟩ := (Go.exd x2).push1 (bytes := 8) (a := S.P.getD U[j] 0) src (by rw [List.length_map, List.length_take]; omega) rfl rfl
 (repeat' first | refine go ?_ | ((refine RIn.idxS rs' (by omega) fun b o gA => ?_; rw [gj] at gA)) | ((refine RIn.idxS rP (by omega) fun b o gB => ?_; rw [gp] at gB)) | (refine SOMEN.mk ea ?_) | refine idxS_ fun _ _ _ => ?_ | refine sp (fun _ => ?_) fun _ => ?_ | fail)
 refine ⟨rfl, (j + 1, _), ⟨rfl, rfl, rfl, rfl, trivial⟩, ⟨(?_ : Exd h2 h3), by show j + 1 ≤ U.length; omega, by show GSl _ _ h3 _ ((U.take (j + 1)).map _); rw [hpj, List.map_append]; exact G3, fun b hb => by rw [isB_slice, Heap.next_new] at hb; omega⟩, by simp only; omega⟩
 exact ⟨by rw [n3, Heap.next_new]; omega, fun i hi => (u3.get i (by rw [Heap.next_new]; omega) fun hb => by have := ob i hb; omega).trans ((x2.get i (by omega)).trans (xk.get i hi))⟩
def totU (R : List Int) : Bool := decide (R.length ≤ 6) && mayU R && !decide ((0 : Int) ∈ R)
def newS (T : List Int) (cl : Bool) : AS := ⟨T, T, cl, [], [], [], []⟩
theorem GoodS.new {T : List Int} {cl : Bool} (h : totU T = true) : GoodS (newS T cl) := by
 simp only [totU, Bool.and_eq_true, decide_eq_true_eq] at h
 refine ⟨h.1.1, h.1.2, rfl, fun j => (mayU_atU h.1.2 j).1, rfl, rfl, Nat.zero_le _, .nil, fun _ h => by simp [newS] at h, fun _ h => by simp [newS] at h, fun _ h => by simp [newS] at h, fun j _ => ?_, fun _ h => by simp [newS] at h, by simp [newS]⟩
 simp [newS, sumJ]
theorem anewR_cal {v : CVal} {T : List Int} {cl : Bool} {h : Heap} {Q : CVal → Heap → Prop} (hr : RIn h v T) (hl : T.length ≤ 1000000000) (k0 : totU T = false → Q (.tuple [.nilPtr, .int .i64 1]) h)
 (k1 : totU T = true → ∀ q h', Exd h h' → h.next ≤ q → (∀ Z : Nat → Prop, Z q → (∀ i, Z i → i < h.next ∨ i = q) → RR Z h' q (newS T cl)) → Q (.tuple [.ptr q 0, .int .i64 0]) h') : Cal tt 12 [v, .bool cl] h Q := by
 refine Cal.run rfl rfl rfl rfl ?_
 have ov := hr.one
 by_cases l6 : T.length ≤ 6
 rotate_left
 ·(repeat' first | refine go ?_ | refine idxS_ fun _ _ _ => ?_ | refine sp (fun _ => ?_) fun _ => ?_ | fail)
  exact k0 (by simp [totU, l6])
 cases hm : mayU T
 ·(repeat' first | refine go ?_ | (refine CALLN.of (isR_cal hr hl ?_)) | (refine BC.no (by rw [hm, Bool.and_false]) ?_) | refine idxS_ fun _ _ _ => ?_ | refine sp (fun _ => ?_) fun _ => ?_ | fail)
  exact k0 (by simp [totU, hm])
 by_cases hz : (0 : Int) ∈ T
 ·(repeat' first | refine go ?_ | (refine CALLN.of (isR_cal hr hl ?_)) | (refine CALLN.of (hasR_cal hr hl ?_)) | (refine BC.yes (by rw [hm, Bool.and_true]; exact decide_eq_true (by omega)) ?_) | (refine BC.yes (decide_eq_true hz) ?_) | refine idxS_ fun _ _ _ => ?_ | refine sp (fun _ => ?_) fun _ => ?_ | fail)
  exact k0 (by simp [totU, hz])
 have ht : totU T = true := by simp [totU, l6, hm, hz]
 (repeat' first | refine go ?_ | (refine CALLN.of (isR_cal hr hl ?_)) | (refine CALLN.of (hasR_cal hr hl ?_)) | (refine BC.yes (by rw [hm, Bool.and_true]; exact decide_eq_true (by omega)) ?_) | (refine BC.no (decide_eq_false hz) ?_) | refine idxS_ fun _ _ _ => ?_ | refine sp (fun _ => ?_) fun _ => ?_ | fail)
 refine CALLN.of (copyW_cal hr hl fun p1 h1 x1 O1 => ?_)
 (repeat' first | refine go ?_ | refine idxS_ fun _ _ _ => ?_ | refine sp (fun _ => ?_) fun _ => ?_ | fail)
 refine CALLN.of (copyW_cal (hr.exd x1) hl fun p2 h2 x2 O2 => ?_)
 obtain ⟨N, hN⟩ : ∃ N, h2.next = N := ⟨_, rfl⟩
 have x3 : Exd h2 (h2.new (.cells [.slice p1 0 T.length T.length, .slice p2 0 T.length T.length, .bool cl, .nilSlice, .nilSlice, .nilSlice, .nilSlice] true none)) := Exd.new (Exd.refl _)
 have l1 := x1.le
 have l2 := x2.le
 have b1 := O1.2.1
 have b2 := O2.2.1
 (repeat' first | refine go ?_ | refine idxS_ fun _ _ _ => ?_ | refine sp (fun _ => ?_) fun _ => ?_ | fail)
 refine k1 ht _ _ ((x1.trans x2).trans x3) (by omega) fun Z zq zl => ⟨_, _, _, _, _, _, zq, fun i hi => by rw [Heap.next_new]; have := zl i hi; omega, Heap.new_at rfl hN.symm, ?_, ?_, .nil, .nil, .nil, .nil⟩
 ·exact (((O1.exd x2).exd x3).rin rfl).rsl (fun i hi h => by rw [isB_slice] at hi; have := zl i h; have := O1.1; omega) fun _ _ _ _ e => by simp only [CVal.slice.injEq] at e; omega
 ·exact ((O2.exd x3).rin rfl).rsl (fun i hi h => by rw [isB_slice] at hi; have := zl i h; have := O2.1; omega) fun _ _ _ _ e => by simp only [CVal.slice.injEq] at e; omega
end Go.Proofs.YtncmoaggkdlkhaaGreat.Cm
