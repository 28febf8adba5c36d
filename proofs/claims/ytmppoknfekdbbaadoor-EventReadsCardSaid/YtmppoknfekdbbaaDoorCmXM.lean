/-
  The clean machine, part M: what the function gives for an operation is sound.
-/
import Derived.Test.YtmppoknfekdbbaaDoorCmXL
namespace Go.Proofs.YtmppoknfekdbbaaDoor.Cm
open Go.RowKit

theorem mem_ops1 {op : Op} {x : Operand} {t : Nat} (ho : op.operands = #[x]) (e : x = .tmp t) : Operand.tmp t ∈ op.operands.toList := by rw [ho, e]; simp

theorem compOp_good {P : Program} {glb : Gl} {o : Oper} {co : COp} (h : compOp P glb o.op = some co) : Good P glb o co := by
  cases ho : o.op with
  | move x =>
    rw [ho] at h; simp only [compOp] at h
    obtain ⟨x', hx, rfl⟩ := Option.map_eq_some_iff.1 h
    exact SoundQ.good fun K ι hp w a A hk H R r h' e => sim_move H (compG_ev H hk hx (fun t e => R t (by rw [ho, e]; simp [Op.operands]))) (.inl ho) e
  | assign x =>
    rw [ho] at h; simp only [compOp] at h
    obtain ⟨x', hx, rfl⟩ := Option.map_eq_some_iff.1 h
    exact SoundQ.good fun K ι hp w a A hk H R r h' e => sim_move H (compG_ev H hk hx (fun t e => R t (by rw [ho, e]; simp [Op.operands]))) (.inr ho) e
  | pick c x y =>
    rw [ho] at h; simp only [compOp] at h
    split at h
    · next c' x' y' hc hx hy =>
      simp at h; subst h
      exact SoundQ.good fun K ι hp w a A hk H R r h' e => sim_pick H (compG_ev H hk hc (fun t e => R t (by rw [ho, e]; simp [Op.operands]))) (compG_ev H hk hx (fun t e => R t (by rw [ho, e]; simp [Op.operands]))) (compG_ev H hk hy (fun t e => R t (by rw [ho, e]; simp [Op.operands]))) ho e
    · simp at h
  | alloc t =>
    rw [ho] at h; simp only [compOp] at h
    obtain ⟨zero, hz, rfl⟩ := Option.map_eq_some_iff.1 h
    obtain ⟨i, zv, hi, hzv, hsz, h1, R0, hrun⟩ := tyZero_spec hz
    exact SoundA.good (fun K ι hp w a A hk H R id v obj e => sim_new H (hrun w) (R0 ι) h1 ho e)
  | box t x =>
    rw [ho] at h; simp only [compOp] at h
    obtain ⟨x', hx, rfl⟩ := Option.map_eq_some_iff.1 h
    exact SoundA.good (fun K ι hp w a A hk H R id v obj e => sim_box H (compG_ev H hk hx (fun t e => R t (by rw [ho, e]; simp [Op.operands]))) ho e)
  | build t parts => rw [ho] at h; exact compBuild_good h ho
  | buildSlice t len parts =>
    rw [ho] at h; simp only [compOp] at h
    split at h
    · next el hu =>
      split at h
      · next zero sz hz hsz =>
        split at h
        · next hs =>
          obtain ⟨qs, hqs, rfl⟩ := Option.map_eq_some_iff.1 h
          obtain ⟨i, zv, hi, hzv, hzs, h1, R0, hrun⟩ := tyZero_spec hz
          refine SoundA.good (fun K ι hp w a A hk H R id v obj e => ?_)
          have hp := partsG_rel H hk hqs (fun t' ht => R t' (by rw [ho]; simpa [Op.operands] using ht))
          have hsz' : i.size = sz := by unfold tySize at hsz; rw [hi] at hsz; simpa using hsz
          exact sim_buildSlice H hu (tySize_run hsz w) hs (hrun w) (R0 ι) (hzs.trans hsz') hp ho e
        · simp at h
      · simp at h
    · simp at h
  | insert t m k v =>
    rw [ho] at h; simp only [compOp] at h
    split at h
    · next m' k' v' kt el hm hkk hv hu =>
      obtain ⟨kc, hkc, rfl⟩ := Option.map_eq_some_iff.1 h
      refine Sound.good (fun K ι hp w a A hk H R r h' e _ => ?_) rfl
      exact sim_mapUpdate H hu (tyKey_fits hkc) (compG_ev H hk hm (fun t e => R t (by rw [ho, e]; simp [Op.operands]))) (compG_ev H hk hkk (fun t e => R t (by rw [ho, e]; simp [Op.operands]))) (compG_ev H hk hv (fun t e => R t (by rw [ho, e]; simp [Op.operands]))) (.inr ho) e
    · simp at h
  | load t x =>
    rw [ho] at h; simp only [compOp] at h
    split at h
    · next agg n x' hag hn hx =>
      simp at h; subst h
      exact SoundQ.good fun K ι hp w a A hk H R r h' e => sim_load H (tyAgg_run hag w) (fun _ => tySize_run hn w) (compG_ev H hk hx (fun t e => R t (by rw [ho, e]; simp [Op.operands]))) ho e
    · simp at h
  | store t p x =>
    rw [ho] at h; simp only [compOp] at h
    split at h
    · next n p' x' hn hpp hx =>
      simp at h; subst h
      exact Sound.good (fun K ι hp w a A hk H R r h' e _ => sim_store H (tySize_run hn w) (compG_ev H hk hpp (fun t e => R t (by rw [ho, e]; simp [Op.operands]))) (compG_ev H hk hx (fun t e => R t (by rw [ho, e]; simp [Op.operands]))) ho e) rfl
    · simp at h
  | nilCheck x =>
    rw [ho] at h; simp only [compOp] at h
    obtain ⟨x', hx, rfl⟩ := Option.map_eq_some_iff.1 h
    exact SoundQ.good fun K ι hp w a A hk H R r h' e => sim_nilCheck H (compG_ev H hk hx (fun t e => R t (by rw [ho, e]; simp [Op.operands]))) ho e
  | binOp op t x y t' => rw [ho] at h; exact (compBin_sound h ho).good (compBin_isA h)
  | unOp op t x =>
    rw [ho] at h; simp only [compOp] at h
    obtain ⟨x', hx, rfl⟩ := Option.map_eq_some_iff.1 h
    exact SoundQ.good fun K ι hp w a A hk H R r h' e => sim_un H (compG_ev H hk hx (fun t e => R t (by rw [ho, e]; simp [Op.operands]))) ho e
  | convert s d x => rw [ho] at h; exact compConv_good h ho
  | makeInterface t x =>
    rw [ho] at h; simp only [compOp] at h
    split at h
    · simp at h
    · simp at h
    · next d hne hu =>
      obtain ⟨x', hx, rfl⟩ := Option.map_eq_some_iff.1 h
      exact SoundQ.good fun K ι hp w a A hk H R r h' e => sim_iface H ⟨d, hu, fun ms e1 => hne ms e1⟩ (compG_ev H hk hx (fun t e => R t (by rw [ho, e]; simp [Op.operands]))) ho e
  | makeFunc fn first cap =>
    rw [ho] at h
    cases fn with
    | func f =>
      simp only [compOp] at h
      split at h
      · next fs cs hf hc =>
        simp at h; subst h
        exact SoundQ.good fun K ι hp w a A hk H R r h' e => sim_func H (compGs_ev H hk hf (fun t ht => R t (by rw [ho]; simp [Op.operands] at ht ⊢; exact .inl ht))) (compGs_ev H hk hc (fun t ht => R t (by rw [ho]; simp [Op.operands] at ht ⊢; exact .inr ht))) ho e
      · simp at h
    | _ => simp [compOp] at h
  | makeMap t r =>
    rw [ho] at h; simp only [compOp] at h
    split at h
    · simp at h; subst h
      exact SoundA.good (fun K ι hp w a A hk H R id v obj e => sim_newMap (t := t) (R := none) H trivial ho e)
    · next k n x y hu =>
      simp at h; subst h
      exact SoundA.good (fun K ι hp w a A hk H R id v obj e => sim_newMap (t := t) (R := some (.const (.int k n))) H (show ∃ _ _, _ from ⟨k, n, rfl, x, y, hu⟩) ho e)
    · simp at h
  | makeSlice t l c =>
    rw [ho] at h; simp only [compOp] at h
    split at h
    · next el hu =>
      split at h
      · next i zero l' c' hi hz hl hc =>
        simp at h; subst h
        obtain ⟨i', zv, hi', hzv, hzs, h1, R0, hrun⟩ := tyZero_spec hz
        rw [hi] at hi'; simp at hi'; subst hi'
        exact SoundA.good (fun K ι hp w a A hk H R id v obj e => sim_makeSlice H hu hi hzv (R0 ι) hzs h1 (compG_ev H hk hl (fun t e => R t (by rw [ho, e]; simp [Op.operands]))) (compG_ev H hk hc (fun t e => R t (by rw [ho, e]; simp [Op.operands]))) ho e)
      · simp at h
    · simp at h
  | slice t x lo hi mx =>
    rw [ho] at h; simp only [compOp] at h
    split at h
    · next x' lo' hi' hx hlo hhi hmx hu =>
      simp at h; subst h
      refine SoundQ.good fun K ι hp w a A hk H R r h' e => ?_
      have hm : mx = none := by
        cases mx with
        | none => rfl
        | some m => unfold compGo at hmx; split at hmx <;> simp [compXo] at hmx
      subst hm
      exact sim_sliceStr H hu (compG_ev H hk hx (fun t e => R t (by rw [ho, e]; simp [Op.operands]))) (compGo_ev H hk hlo (fun t e => R t (by rw [ho, e]; simp [Op.operands]))) (compGo_ev H hk hhi (fun t e => R t (by rw [ho, e]; simp [Op.operands]))) ho e
    · next x' lo' hi' mx' el hx hlo hhi hmx hu =>
      obtain ⟨sz, hsz, rfl⟩ := Option.map_eq_some_iff.1 h
      exact SoundQ.good fun K ι hp w a A hk H R r h' e => sim_slice H hu (tySize_run hsz w) (compG_ev H hk hx (fun t e => R t (by rw [ho, e]; simp [Op.operands]))) (compGo_ev H hk hlo (fun t e => R t (by rw [ho, e]; simp [Op.operands]))) (compGo_ev H hk hhi (fun t e => R t (by rw [ho, e]; simp [Op.operands]))) (compGo_ev H hk hmx (fun t e => R t (by rw [ho, e]; simp [Op.operands]))) ho e
    · next x' lo' hi' mx' n el hx hlo hhi hmx hu =>
      obtain ⟨sz, hsz, rfl⟩ := Option.map_eq_some_iff.1 h
      exact SoundQ.good fun K ι hp w a A hk H R r h' e => sim_sliceArr H hu (tySize_run hsz w) (compG_ev H hk hx (fun t e => R t (by rw [ho, e]; simp [Op.operands]))) (compGo_ev H hk hlo (fun t e => R t (by rw [ho, e]; simp [Op.operands]))) (compGo_ev H hk hhi (fun t e => R t (by rw [ho, e]; simp [Op.operands]))) (compGo_ev H hk hmx (fun t e => R t (by rw [ho, e]; simp [Op.operands]))) ho e
    · simp at h
  | fieldAddr s x k =>
    rw [ho] at h; simp only [compOp] at h
    split at h
    · next fields hu =>
      split at h
      · next f hf =>
        split at h
        · next n x' hn hx =>
          split at h
          · simp at h
          · next h0 =>
            simp at h; subst h
            exact SoundQ.good fun K ι hp w a A hk H R r h' e => sim_fieldAddr H hu hf (tySize_run hn w) h0 (compG_ev H hk hx (fun t e => R t (by rw [ho, e]; simp [Op.operands]))) ho e
        · simp at h
      · simp at h
    · simp at h
  | field s x k =>
    rw [ho] at h; simp only [compOp] at h
    split at h
    · next fields hu =>
      split at h
      · next f hf =>
        split at h
        · next agg n x' hag hn hx =>
          simp at h; subst h
          exact SoundQ.good fun K ι hp w a A hk H R r h' e => sim_field H hu hf (tyAgg_run hag w) (fun _ => tySize_run hn w) (compG_ev H hk hx (fun t e => R t (by rw [ho, e]; simp [Op.operands]))) ho e
        · simp at h
      · simp at h
    · simp at h
  | indexAddr t x i =>
    rw [ho] at h; simp only [compOp] at h
    split at h
    · next x' i' el hx hi hu =>
      obtain ⟨sz, hsz, rfl⟩ := Option.map_eq_some_iff.1 h
      exact SoundQ.good fun K ι hp w a A hk H R r h' e => sim_indexAddr H hu (tySize_run hsz w) (compG_ev H hk hx (fun t e => R t (by rw [ho, e]; simp [Op.operands]))) (compG_ev H hk hi (fun t e => R t (by rw [ho, e]; simp [Op.operands]))) ho e
    · next x' i' n el hx hi hu =>
      obtain ⟨sz, hsz, rfl⟩ := Option.map_eq_some_iff.1 h
      exact SoundQ.good fun K ι hp w a A hk H R r h' e => sim_indexAddrArr H hu (tySize_run hsz w) (compG_ev H hk hx (fun t e => R t (by rw [ho, e]; simp [Op.operands]))) (compG_ev H hk hi (fun t e => R t (by rw [ho, e]; simp [Op.operands]))) ho e
    · simp at h
  | index t x i =>
    rw [ho] at h; simp only [compOp] at h
    split at h
    · next x' i' hx hi hu =>
      simp at h; subst h
      exact SoundQ.good fun K ι hp w a A hk H R r h' e => sim_indexStr H hu (compG_ev H hk hx (fun t e => R t (by rw [ho, e]; simp [Op.operands]))) (compG_ev H hk hi (fun t e => R t (by rw [ho, e]; simp [Op.operands]))) ho e
    · next x' i' n el hx hi hu =>
      split at h
      · next agg sz hag hsz =>
        simp at h; subst h
        exact SoundQ.good fun K ι hp w a A hk H R r h' e => sim_indexArr H hu (tyAgg_run hag w) (tySize_run hsz w) (compG_ev H hk hx (fun t e => R t (by rw [ho, e]; simp [Op.operands]))) (compG_ev H hk hi (fun t e => R t (by rw [ho, e]; simp [Op.operands]))) ho e
      · simp at h
    · simp at h
  | lookup t m k ok =>
    rw [ho] at h; simp only [compOp] at h
    split at h
    · next m' k' kt el hm hkk hu =>
      split at h
      · next kc zero hkc hz =>
        simp at h; subst h
        obtain ⟨zv, R0, hrun⟩ := tyZeroV_spec hz
        exact SoundQ.good fun K ι hp w a A hk H R r h' e => sim_lookup H hu (tyKey_fits hkc) (hrun w) (R0 ι) (compG_ev H hk hm (fun t e => R t (by rw [ho, e]; simp [Op.operands]))) (compG_ev H hk hkk (fun t e => R t (by rw [ho, e]; simp [Op.operands]))) ho e
      · simp at h
    · simp at h
  | mapUpdate t m k v =>
    rw [ho] at h; simp only [compOp] at h
    split at h
    · next m' k' v' kt el hm hkk hv hu =>
      obtain ⟨kc, hkc, rfl⟩ := Option.map_eq_some_iff.1 h
      refine Sound.good (fun K ι hp w a A hk H R r h' e _ => ?_) rfl
      exact sim_mapUpdate H hu (tyKey_fits hkc) (compG_ev H hk hm (fun t e => R t (by rw [ho, e]; simp [Op.operands]))) (compG_ev H hk hkk (fun t e => R t (by rw [ho, e]; simp [Op.operands]))) (compG_ev H hk hv (fun t e => R t (by rw [ho, e]; simp [Op.operands]))) (.inl ho) e
    · simp at h
  | extract x i =>
    rw [ho] at h; simp only [compOp] at h
    obtain ⟨x', hx, rfl⟩ := Option.map_eq_some_iff.1 h
    exact SoundQ.good fun K ι hp w a A hk H R r h' e => sim_extract H (compG_ev H hk hx (fun t e => R t (by rw [ho, e]; simp [Op.operands]))) ho e
  | range t x =>
    rw [ho] at h; simp only [compOp] at h
    split at h
    · next hu =>
      obtain ⟨x', hx, rfl⟩ := Option.map_eq_some_iff.1 h
      exact Sound.good (fun K ι hp w a A hk H R r h' e _ => sim_rangeStr H hu (compG_ev H hk hx (fun t e => R t (by rw [ho, e]; simp [Op.operands]))) ho e) rfl
    · simp at h
  | next x b =>
    rw [ho] at h
    cases b with
    | false => simp [compOp] at h
    | true =>
      simp only [compOp] at h
      obtain ⟨x', hx, rfl⟩ := Option.map_eq_some_iff.1 h
      exact Sound.good (fun K ι hp w a A hk H R r h' e _ => sim_nextStr H (compG_ev H hk hx (fun t e => R t (by rw [ho, e]; simp [Op.operands]))) ho e) rfl
  | call c =>
    rw [ho] at h
    obtain ⟨callee, args, ats⟩ := c
    cases callee with
    | builtin b => exact compBuiltin_good h ho
    | value f =>
      simp only [compOp] at h
      split at h
      · next f' xs hf hxs =>
        simp at h; subst h
        exact Sound.good (fun K ι hp w a A hk H R r h' e hb => sim_call H (compG_ev H hk hf (fun t e => R t (by rw [ho, e]; simp [Op.operands, Call.operands]))) (compGs_ev H hk hxs (fun t ht => R t (by rw [ho]; simp [Op.operands, Call.operands] at ht ⊢; exact .inr ht))) ho e hb) rfl
      · simp at h
    | invoke r m => simp [compOp] at h
  | defer c =>
    rw [ho] at h
    obtain ⟨callee, args, ats⟩ := c
    cases callee with
    | value f =>
      simp only [compOp] at h
      split at h
      · next f' xs hf hxs =>
        simp at h; subst h
        exact Sound.good (fun K ι hp w a A hk H R r h' e _ => sim_defer H (compG_ev H hk hf (fun t e => R t (by rw [ho, e]; simp [Op.operands, Call.operands]))) (compGs_ev H hk hxs (fun t ht => R t (by rw [ho]; simp [Op.operands, Call.operands] at ht ⊢; exact .inr ht))) ho e) rfl
      · simp at h
    | builtin b => simp [compOp] at h
    | invoke r m => simp [compOp] at h
  | _ => rw [ho] at h; simp [compOp] at h

end Go.Proofs.YtmppoknfekdbbaaDoor.Cm
