/-
  Short names of rules that most texts name.
-/
import Derived.Test.YtlggkknkbbhooaaGreatCmE
namespace Go.Proofs.YtlggkknkbbhooaaGreat.Cm
abbrev Z1 := @Heap.nx_set
abbrev Z2 := @Heap.nx_new
abbrev Z3 := @Heap.nx_kill
abbrev Z4 := @Heap.nx_room
abbrev Z5 := @Heap.room_get
abbrev Z6 := @Heap.set_skip
abbrev Z7 := @Heap.new_skip
abbrev Z8 := @Exd.skip
abbrev Z9 := @Heap.set_at
abbrev Z0 := @Heap.new_at
abbrev ZA := @LTN.yes
abbrev ZB := @LTN.no
abbrev ZC := @LTN.mk
abbrev ZD := @EQN.yes
abbrev ZE := @EQN.no
abbrev ZF := @EQN.mk
abbrev ZG := @EQSN.yes
abbrev ZH := @EQSN.no
abbrev ZI := @EQSN.mk
abbrev ZJ := @ARN.in
abbrev ZK := @ARN.fits
abbrev ZL := @QUON.pos
abbrev ZM := @REMN.pos
abbrev ZN := @REMN.mk
abbrev ZO := @GETN.mk
abbrev ZP := @GETM.mk
abbrev ZQ := @SETN.mk
abbrev ZR := @LOOKN.mk
abbrev ZS := @NEWN.mk
abbrev ZT := @DOESN.mk
abbrev ZU := @BC.yes
abbrev ZV := @BC.no
abbrev ZW := @BC.split
abbrev ZX := @SOMEN.mk
abbrev ZY := @NUMN.mk
abbrev ZZ {T : Tab} {N n : Nat} {its : List DIt} {ρ : Env} {ds : DS} {h : Heap} {Q : QT} := @drawC0 T N n its ρ ds h Q (fun _ => Heap.empty 0)
abbrev Zz {T : Tab} {N n k : Nat} {its : List DIt} {ρ : Env} {ds : DS} {h : Heap} {Q : QT} := @drawC T N n k its ρ ds h Q (fun _ => Heap.empty 0)
abbrev Za := @CALLN.of
end Go.Proofs.YtlggkknkbbhooaaGreat.Cm
