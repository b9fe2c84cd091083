/-
  Parts of a proof: KD XA XB XC X1 X2.
-/
import Derived.Test.YtdpbgcmfeajigaaGreatDoorZ21
import Derived.Test.YtdpbgcmfeajigaaGreatDoorZ18
import Derived.Test.YtdpbgcmfeajigaaGreatDoorZ20
import Derived.WalkMore
import Derived.Test.YtdpbgcmfeajigaaGreatDoorZ04
set_option linter.unusedSimpArgs false
set_option linter.unusedVariables false
set_option maxHeartbeats 8000000
set_option maxRecDepth 100000
namespace Go.Proofs.YtdpbgcmfeajigaaGreatDoor
open Go.RowKit Go.Shelf
attribute [local go_sem] qab
theorem rnodes_any (f:Fm) : ∀ {D:Dom} (v:Value) (w:World) (h:qbj w D v f) (hz:f.size≤1000000),Calls Tryz.prog 48 #[v] w fun e w'=>e = .returned (.bool (qcv f))∧Below w.heap.size w w':=by
 refine Fm.induct (P:=fun f => ∀ {D:Dom} (v:Value) (w:World) (h:qbj w D v f) (hz:f.size≤1000000),Calls Tryz.prog 48 #[v] w fun e w'=>e = .returned (.bool (qcv f))∧Below w.heap.size w w') ?_ f
 intro f ih D v w h hz
 have HIH:=hid ih
 have HFL:=hid (show qcv f=(qaz f && qky f.args.length fun i=>qcv (f.args.getD i default)) from qeh qaz f)
 obtain ⟨A,c,rfl,ha⟩:=h
 have HA:=hid ha.old
 have hal:=ha.len.1
 clear ih ha
 go_enter Tryz.func48,Tryz.ntmps48
 go_upto_region 1 with (fail)
 refine qai fun W hW => ?_
 have hbx:qcj W w.heap.size f A c:=by rw [hW];exact qcj.new w f A c
 have HBX:=hid hbx
 have HBW:=hid (show Below w.heap.size w W by rw [hW];go_grown)
 obtain ⟨x0,x1,x2,x3,x4,xl⟩:=hbx.cells
 clear hW hbx
 have HZ:=hid hz
 have HND:=hid (rnode_any f (.agg #[.int .i64 f.op,.string f.name,.int .i64 f.val,.int .i64 f.bound,.slice A f.args.length c]) W ⟨A,c,rfl,HA.out.keep (Keeps.of_below HBW.out fun _ h=>h)⟩ (by have:=qdd f.args;have:=Fm.size_eq f;unfold manyN;omega))
 clear hz
 cases hs:qaz f
 ·have HR:=hid (show qcv f=false by rw [HFL.out,hs];rfl)
  rw [hs] at HND
  clear hs
  go_wp2_with (first | (go_at_call 92;(with_reducible refine HND.out.mono ?_);rintro e w1 ⟨rfl,hb⟩))
  go_ret
  exact ⟨qah HR.out.symm,HBW.out.trans (hb.mono HBW.out.size)⟩
 have HP:=hid hs
 rw [hs] at HND
 clear hs
 go_upto_region 3 with (first | (go_at_call 92;(with_reducible refine HND.out.mono ?_);rintro e W1 ⟨rfl,hb⟩))
 replace HBX:=hid (HBX.out.below hb)
 replace HBW:=hid (HBW.out.trans (hb.mono HBW.out.size))
 clear hb HND x0 x1 x2 x3 x4 xl
 rename World=>W
 go_wp2_with fail
 go_loopw [3] (fun q wr => ∃ i:Nat,i≤f.args.length∧q = .int .i64 (i:Int)∧Below W.heap.size W wr∧qct i (fun j=>qcv (f.args.getD j default))) (fun q _=>f.args.length - (intOf q).toNat)
 case atStart=>exact ⟨0,Nat.zero_le _,rfl,Below.refl _ _,qct.zero _⟩
 case round =>
  obtain ⟨i,hi,rfl,hb,hsf⟩:=hrel
  obtain ⟨x0,x1,x2,x3,x4,xl⟩:=(HBX.out.below hb).cells
  have HB:=hid hb
  have HBR:=hid (HBW.out.trans (hb.mono HBW.out.size))
  have HSF:=hid hsf
  clear hb hsf
  by_cases hlt:i < f.args.length
  ·have hii:(i:Int) < f.args.length:=by omega
   obtain ⟨b,o,A',c',g,heq,HG,hg⟩:=(HA.out.keep (Keeps.of_below HBR.out fun _ h=>h)).get hlt
   cases heq
   obtain ⟨gd,gl,g0,g1,g2,g3,g4,ga⟩:=hg
   have hcall:=HIH.out i hlt (D:=(· < w.heap.size)) (.agg #[.int .i64 g.op,.string g.name,.int .i64 g.val,.int .i64 g.bound,.slice A' g.args.length c']) wr (by rw [HG.out];exact ⟨A',c',rfl,ga⟩) (by have:=arg_size hlt;have:=HZ.out;omega)
   rw [HG.out] at hcall
   cases hq:qcv g
   ·rw [hq] at hcall
    have HR:=hid (show qcv f=false by rw [HFL.out];rw [qay (j:=i) hlt (by rw [HG.out];exact hq),Bool.and_false])
    have HCALL:=hid hcall
    clear hcall ga hq
    go_wp2_with fail
    refine HCALL.out.mono ?_
    rintro e w1 ⟨rfl,hb1⟩
    have HB1:=hid (HBR.out.trans (hb1.mono HBR.out.size))
    clear hb1
    go_wp2_with fail
    go_ret
    exact ⟨qah HR.out.symm,HB1.out⟩
   ·rw [hq] at hcall
    have HQ:=hid (show qcv (f.args.getD i default)=true by rw [HG.out];exact hq)
    have HCALL:=hid hcall
    clear hcall ga hq
    go_wp2_with fail
    refine HCALL.out.mono ?_
    rintro e w1 ⟨rfl,hb1⟩
    have HB1:=hid (HB.out.trans (hb1.mono HB.out.size))
    clear hb1
    go_wp2_with fail
    go_roundw
    case rel=>exact ⟨i+1,by omega,by go_num,HB1.out,HSF.out.succ HQ.out⟩
    case measure=>simp [intOf];omega
  ·have hii : ¬ (i:Int) < f.args.length:=by omega
   have HR:=hid (show qcv f=true by rw [HFL.out];rw [HP.out,Bool.true_and];exact HSF.out.all (by omega))
   go_wp2_with fail
   go_ret
   exact ⟨qah HR.out.symm,HBR.out⟩
section
variable {D:Dom} {v:Value} {f:Fm} {w:World}
theorem qhb (m:Nat) (l:Int) (hl:l=(m:Int)) (hm:m≤1000000) (r:Bool) (hr:decide (f.size≤m)=r) (h:qbj w D v f):Calls Tryz.prog 9 #[v,.int .i64 l] w fun e w'=>e = .returned (.bool r)∧Below w.heap.size w w':=by
 subst hl
 rw [←hr];exact rsmall_any f _ m w h hm
theorem qko (r:Bool) (hr:qcv f=r) (hz:f.size≤1000000) (h:qbj w D v f):Calls Tryz.prog 48 #[v] w fun e w'=>e = .returned (.bool r)∧Below w.heap.size w w':=by
 rw [←hr];exact rnodes_any f v w h hz
theorem rcore_r (r:Bool) (hr:qbp f=r) (hn:qcv f=true) (h:qbj w D v f):Calls Tryz.prog 49 #[v] w fun e w'=>e = .returned (.bool r)∧Below w.heap.size w w':=by
 rw [←hr];exact rcore_any f v w h hn
theorem rlay_r (r:Bool) (hr:layL f=r) (h:qbj w D v f):Calls Tryz.prog 50 #[v] w fun e w'=>e = .returned (.bool r)∧Below w.heap.size w w':=by
 rw [←hr];exact rlayered_any f v w h
end
def qe4 (f:Fm):Bool:=decide (f.size≤400) && decide (f.depth≤60) && qcv f && qbp f && layL f
theorem rloose_any {D:Dom} (f:Fm) (v:Value) (w:World) (h:qbj w D v f):Calls Tryz.prog 11 #[v] w fun e w'=>e = .returned (.bool (qe4 f))∧Below w.heap.size w w':=by
 obtain ⟨A,c,rfl,ha⟩:=h
 have HA:=hid ha.old
 clear ha
 go_enter Tryz.func11,Tryz.ntmps11
 go_upto_region 1 with (fail)
 refine qai fun W hW => ?_
 have hbx:qcj W w.heap.size f A c:=by rw [hW];exact qcj.new w f A c
 have HBX:=hid hbx
 have HBW:=hid (show Below w.heap.size w W by rw [hW];go_grown)
 have HV:Hid (qbj W qbi (.agg #[.int .i64 f.op,.string f.name,.int .i64 f.val,.int .i64 f.bound,.slice A f.args.length c]) f):=hid ⟨A,c,rfl,(HA.out.keep (Keeps.of_below HBW.out fun _ h=>h)).mono fun _ _ _=>trivial⟩
 obtain ⟨x0,x1,x2,x3,x4,xl⟩:=hbx.cells
 clear hW hbx HA
 by_cases c0:f.size≤400
 rotate_left
 ·have hc0:=hid (decide_eq_false c0)
  have HR:=hid (show qe4 f=false by unfold qe4;rw [hc0.out];rfl)
  go_wp2_with (go_at_call 9;(with_reducible refine (qhb (D:=qbi) (f:=f) 400 400 rfl ?_ false ?_ ?_).mono ?_);decide;exact hc0.out;exact HV.out;rintro e U ⟨rfl,hb⟩;clear x0 x1 x2 x3 x4 xl;replace HV:=hid (HV.out.any hb);replace HBX:=hid (HBX.out.below hb);replace HBW:=hid (HBW.out.trans (hb.mono HBW.out.size));obtain ⟨x0,x1,x2,x3,x4,xl⟩:=HBX.out.cells;clear hb)
  go_ret
  exact ⟨qah HR.out.symm,HBW.out⟩
 have hc0:=hid (decide_eq_true c0)
 have HSZ:=hid c0
 by_cases c1:f.depth≤60
 rotate_left
 ·have hc1:=hid (decide_eq_false c1)
  have e1:decide ((f.depth:Int)≤60)=false:=decide_eq_false (by omega)
  have k1 : ¬ (f.depth:Int)≤60:=by omega
  clear c0 c1
  have HR:=hid (show qe4 f=false by unfold qe4;rw [hc0.out,hc1.out];rfl)
  go_wp2_with (first | (go_at_call 9;(with_reducible refine (qhb (D:=qbi) (f:=f) 400 400 rfl ?_ true ?_ ?_).mono ?_);decide;exact hc0.out;exact HV.out;rintro e U ⟨rfl,hb⟩;clear x0 x1 x2 x3 x4 xl;replace HV:=hid (HV.out.any hb);replace HBX:=hid (HBX.out.below hb);replace HBW:=hid (HBW.out.trans (hb.mono HBW.out.size));obtain ⟨x0,x1,x2,x3,x4,xl⟩:=HBX.out.cells;clear hb) | (go_at_call 47;(with_reducible refine (qfh f _ _ HV.out ?_).mono ?_);(have:=qey f;have:=HSZ.out;omega);rintro e U ⟨rfl,hb⟩;clear x0 x1 x2 x3 x4 xl;replace HV:=hid (HV.out.any hb);replace HBX:=hid (HBX.out.below hb);replace HBW:=hid (HBW.out.trans (hb.mono HBW.out.size));obtain ⟨x0,x1,x2,x3,x4,xl⟩:=HBX.out.cells;clear hb))
  go_ret
  exact ⟨qah HR.out.symm,HBW.out⟩
 have hc1:=hid (decide_eq_true c1)
 have e1:decide ((f.depth:Int)≤60)=true:=decide_eq_true (by omega)
 have k1:(f.depth:Int)≤60:=by omega
 clear c0 c1
 cases c2:qcv f
 ·have hc2:=hid c2
  clear c2
  have HR:=hid (show qe4 f=false by unfold qe4;rw [hc0.out,hc1.out,hc2.out];rfl)
  go_wp2_with (first | (go_at_call 9;(with_reducible refine (qhb (D:=qbi) (f:=f) 400 400 rfl ?_ true ?_ ?_).mono ?_);decide;exact hc0.out;exact HV.out;rintro e U ⟨rfl,hb⟩;clear x0 x1 x2 x3 x4 xl;replace HV:=hid (HV.out.any hb);replace HBX:=hid (HBX.out.below hb);replace HBW:=hid (HBW.out.trans (hb.mono HBW.out.size));obtain ⟨x0,x1,x2,x3,x4,xl⟩:=HBX.out.cells;clear hb) | (go_at_call 47;(with_reducible refine (qfh f _ _ HV.out ?_).mono ?_);(have:=qey f;have:=HSZ.out;omega);rintro e U ⟨rfl,hb⟩;clear x0 x1 x2 x3 x4 xl;replace HV:=hid (HV.out.any hb);replace HBX:=hid (HBX.out.below hb);replace HBW:=hid (HBW.out.trans (hb.mono HBW.out.size));obtain ⟨x0,x1,x2,x3,x4,xl⟩:=HBX.out.cells;clear hb) | (go_at_call 48;(with_reducible refine (qko (D:=qbi) (f:=f) false ?_ ?_ ?_).mono ?_);exact hc2.out;(have:=HSZ.out;omega);exact HV.out;rintro e U ⟨rfl,hb⟩;clear x0 x1 x2 x3 x4 xl;replace HV:=hid (HV.out.any hb);replace HBX:=hid (HBX.out.below hb);replace HBW:=hid (HBW.out.trans (hb.mono HBW.out.size));obtain ⟨x0,x1,x2,x3,x4,xl⟩:=HBX.out.cells;clear hb))
  go_ret
  exact ⟨qah HR.out.symm,HBW.out⟩
 have hc2:=hid c2
 clear c2
 cases c3:qbp f
 ·have hc3:=hid c3
  clear c3
  have HR:=hid (show qe4 f=false by unfold qe4;rw [hc0.out,hc1.out,hc2.out,hc3.out];rfl)
  go_wp2_with (first | (go_at_call 9;(with_reducible refine (qhb (D:=qbi) (f:=f) 400 400 rfl ?_ true ?_ ?_).mono ?_);decide;exact hc0.out;exact HV.out;rintro e U ⟨rfl,hb⟩;clear x0 x1 x2 x3 x4 xl;replace HV:=hid (HV.out.any hb);replace HBX:=hid (HBX.out.below hb);replace HBW:=hid (HBW.out.trans (hb.mono HBW.out.size));obtain ⟨x0,x1,x2,x3,x4,xl⟩:=HBX.out.cells;clear hb) | (go_at_call 47;(with_reducible refine (qfh f _ _ HV.out ?_).mono ?_);(have:=qey f;have:=HSZ.out;omega);rintro e U ⟨rfl,hb⟩;clear x0 x1 x2 x3 x4 xl;replace HV:=hid (HV.out.any hb);replace HBX:=hid (HBX.out.below hb);replace HBW:=hid (HBW.out.trans (hb.mono HBW.out.size));obtain ⟨x0,x1,x2,x3,x4,xl⟩:=HBX.out.cells;clear hb) | (go_at_call 48;(with_reducible refine (qko (D:=qbi) (f:=f) true ?_ ?_ ?_).mono ?_);exact hc2.out;(have:=HSZ.out;omega);exact HV.out;rintro e U ⟨rfl,hb⟩;clear x0 x1 x2 x3 x4 xl;replace HV:=hid (HV.out.any hb);replace HBX:=hid (HBX.out.below hb);replace HBW:=hid (HBW.out.trans (hb.mono HBW.out.size));obtain ⟨x0,x1,x2,x3,x4,xl⟩:=HBX.out.cells;clear hb) | (go_at_call 49;(with_reducible refine (rcore_r (D:=qbi) (f:=f) false ?_ ?_ ?_).mono ?_);exact hc3.out;exact hc2.out;exact HV.out;rintro e U ⟨rfl,hb⟩;clear x0 x1 x2 x3 x4 xl;replace HV:=hid (HV.out.any hb);replace HBX:=hid (HBX.out.below hb);replace HBW:=hid (HBW.out.trans (hb.mono HBW.out.size));obtain ⟨x0,x1,x2,x3,x4,xl⟩:=HBX.out.cells;clear hb))
  go_ret
  exact ⟨qah HR.out.symm,HBW.out⟩
 have hc3:=hid c3
 clear c3
 cases c4:layL f
 ·have hc4:=hid c4
  clear c4
  have HR:=hid (show qe4 f=false by unfold qe4;rw [hc0.out,hc1.out,hc2.out,hc3.out,hc4.out];rfl)
  go_wp2_with (first | (go_at_call 9;(with_reducible refine (qhb (D:=qbi) (f:=f) 400 400 rfl ?_ true ?_ ?_).mono ?_);decide;exact hc0.out;exact HV.out;rintro e U ⟨rfl,hb⟩;clear x0 x1 x2 x3 x4 xl;replace HV:=hid (HV.out.any hb);replace HBX:=hid (HBX.out.below hb);replace HBW:=hid (HBW.out.trans (hb.mono HBW.out.size));obtain ⟨x0,x1,x2,x3,x4,xl⟩:=HBX.out.cells;clear hb) | (go_at_call 47;(with_reducible refine (qfh f _ _ HV.out ?_).mono ?_);(have:=qey f;have:=HSZ.out;omega);rintro e U ⟨rfl,hb⟩;clear x0 x1 x2 x3 x4 xl;replace HV:=hid (HV.out.any hb);replace HBX:=hid (HBX.out.below hb);replace HBW:=hid (HBW.out.trans (hb.mono HBW.out.size));obtain ⟨x0,x1,x2,x3,x4,xl⟩:=HBX.out.cells;clear hb) | (go_at_call 48;(with_reducible refine (qko (D:=qbi) (f:=f) true ?_ ?_ ?_).mono ?_);exact hc2.out;(have:=HSZ.out;omega);exact HV.out;rintro e U ⟨rfl,hb⟩;clear x0 x1 x2 x3 x4 xl;replace HV:=hid (HV.out.any hb);replace HBX:=hid (HBX.out.below hb);replace HBW:=hid (HBW.out.trans (hb.mono HBW.out.size));obtain ⟨x0,x1,x2,x3,x4,xl⟩:=HBX.out.cells;clear hb) | (go_at_call 49;(with_reducible refine (rcore_r (D:=qbi) (f:=f) true ?_ ?_ ?_).mono ?_);exact hc3.out;exact hc2.out;exact HV.out;rintro e U ⟨rfl,hb⟩;clear x0 x1 x2 x3 x4 xl;replace HV:=hid (HV.out.any hb);replace HBX:=hid (HBX.out.below hb);replace HBW:=hid (HBW.out.trans (hb.mono HBW.out.size));obtain ⟨x0,x1,x2,x3,x4,xl⟩:=HBX.out.cells;clear hb) | (go_at_call 50;(with_reducible refine (rlay_r (D:=qbi) (f:=f) false ?_ ?_).mono ?_);exact hc4.out;exact HV.out;rintro e U ⟨rfl,hb⟩;clear x0 x1 x2 x3 x4 xl;replace HV:=hid (HV.out.any hb);replace HBX:=hid (HBX.out.below hb);replace HBW:=hid (HBW.out.trans (hb.mono HBW.out.size));obtain ⟨x0,x1,x2,x3,x4,xl⟩:=HBX.out.cells;clear hb))
  go_ret
  exact ⟨qah HR.out.symm,HBW.out⟩
 have hc4:=hid c4
 clear c4
 have HR:=hid (show qe4 f=true by unfold qe4;rw [hc0.out,hc1.out,hc2.out,hc3.out,hc4.out];rfl)
 go_wp2_with (first | (go_at_call 9;(with_reducible refine (qhb (D:=qbi) (f:=f) 400 400 rfl ?_ true ?_ ?_).mono ?_);decide;exact hc0.out;exact HV.out;rintro e U ⟨rfl,hb⟩;clear x0 x1 x2 x3 x4 xl;replace HV:=hid (HV.out.any hb);replace HBX:=hid (HBX.out.below hb);replace HBW:=hid (HBW.out.trans (hb.mono HBW.out.size));obtain ⟨x0,x1,x2,x3,x4,xl⟩:=HBX.out.cells;clear hb) | (go_at_call 47;(with_reducible refine (qfh f _ _ HV.out ?_).mono ?_);(have:=qey f;have:=HSZ.out;omega);rintro e U ⟨rfl,hb⟩;clear x0 x1 x2 x3 x4 xl;replace HV:=hid (HV.out.any hb);replace HBX:=hid (HBX.out.below hb);replace HBW:=hid (HBW.out.trans (hb.mono HBW.out.size));obtain ⟨x0,x1,x2,x3,x4,xl⟩:=HBX.out.cells;clear hb) | (go_at_call 48;(with_reducible refine (qko (D:=qbi) (f:=f) true ?_ ?_ ?_).mono ?_);exact hc2.out;(have:=HSZ.out;omega);exact HV.out;rintro e U ⟨rfl,hb⟩;clear x0 x1 x2 x3 x4 xl;replace HV:=hid (HV.out.any hb);replace HBX:=hid (HBX.out.below hb);replace HBW:=hid (HBW.out.trans (hb.mono HBW.out.size));obtain ⟨x0,x1,x2,x3,x4,xl⟩:=HBX.out.cells;clear hb) | (go_at_call 49;(with_reducible refine (rcore_r (D:=qbi) (f:=f) true ?_ ?_ ?_).mono ?_);exact hc3.out;exact hc2.out;exact HV.out;rintro e U ⟨rfl,hb⟩;clear x0 x1 x2 x3 x4 xl;replace HV:=hid (HV.out.any hb);replace HBX:=hid (HBX.out.below hb);replace HBW:=hid (HBW.out.trans (hb.mono HBW.out.size));obtain ⟨x0,x1,x2,x3,x4,xl⟩:=HBX.out.cells;clear hb) | (go_at_call 50;(with_reducible refine (rlay_r (D:=qbi) (f:=f) true ?_ ?_).mono ?_);exact hc4.out;exact HV.out;rintro e U ⟨rfl,hb⟩;clear x0 x1 x2 x3 x4 xl;replace HV:=hid (HV.out.any hb);replace HBX:=hid (HBX.out.below hb);replace HBW:=hid (HBW.out.trans (hb.mono HBW.out.size));obtain ⟨x0,x1,x2,x3,x4,xl⟩:=HBX.out.cells;clear hb))
 go_ret
 exact ⟨qah HR.out.symm,HBW.out⟩
theorem rloose_r {D:Dom} {v:Value} {f:Fm} {w:World} (r:Bool) (hr:qe4 f=r) (h:qbj w D v f):Calls Tryz.prog 11 #[v] w fun e w'=>e = .returned (.bool r)∧Below w.heap.size w w':=by
 rw [←hr];exact rloose_any f v w h
end Go.Proofs.YtdpbgcmfeajigaaGreatDoor
namespace Go.Proofs.YtdpbgcmfeajigaaGreatDoor
structure Sg where
 name:ByteArray
 inp:Bool
 size:Int
instance:Inhabited Sg:=⟨⟨⟨#[]⟩,false,0⟩⟩
def qfq (s:ByteArray):List ByteArray→Nat
 | []=>0
 | a :: l=>if a=s then 0 else qfq s l+1
theorem firstN_at {s:ByteArray} : ∀ {l:List ByteArray},qfq s l < l.length→l.getD (qfq s l) ⟨#[]⟩=s
 | [],h=>by simp [qfq] at h
 | a :: l,h=>by
  rw [qfq] at h ⊢
  by_cases e:a=s
  ·rw [if_pos e];exact e
  ·rw [if_neg e] at h ⊢
   rw [List.getD_cons_succ]
   exact firstN_at (by simpa using h)
theorem qjp {s:ByteArray} : ∀ {l:List ByteArray} {k:Nat},k < qfq s l→l.getD k ⟨#[]⟩≠s
 | [],k,h=>by simp [qfq] at h
 | a :: l,k,h=>by
  rw [qfq] at h
  by_cases e:a=s
  ·rw [if_pos e] at h;omega
  ·rw [if_neg e] at h
   cases k with
   | zero=>exact e
   | succ k=>rw [List.getD_cons_succ];exact qjp (by omega)
theorem firstN_of {s:ByteArray} {l:List ByteArray} {k:Nat} (hk:k < l.length) (h:l.getD k ⟨#[]⟩=s):qfq s l≤k:=by
 by_cases hl:k < qfq s l
 ·exact absurd h (qjp hl)
 ·omega
theorem firstN_ge {s:ByteArray} {l:List ByteArray} {k:Nat} (hk:k≤l.length):k≤qfq s l ↔ ∀ j,j < k→l.getD j ⟨#[]⟩≠s:=by
 constructor
 ·intro h j hj;exact qjp (by omega)
 ·intro h
  rcases Nat.lt_or_ge (qfq s l) k with hl | hl
  ·exact absurd (firstN_at (by omega)) (h _ hl)
  ·exact hl
def sgNames (l:List Sg):List ByteArray:=l.map Sg.name
theorem sgNames_len (l:List Sg):(sgNames l).length=l.length:=List.length_map ..
theorem sgNames_at {l:List Sg} (k:Nat) (hk:k < l.length):(sgNames l).getD k ⟨#[]⟩=(l.getD k default).name:=by
 simp [sgNames,List.getD,hk]
def qdn (l:List Sg) (s:ByteArray):Nat:=qfq s (sgNames l)
def qgi (l:List Sg) (s:ByteArray):Int:=if qdn l s < l.length then (qdn l s:Int) else -1
def qgh:List Sg→Int
 | []=>1
 | a :: l=>a.size * qgh l
theorem qgn : ∀ l m:List Sg,qgh (l ++ m)=qgh l * qgh m
 | [],m=>by simp [qgh]
 | a :: l,m=>by simp only [List.cons_append,qgh,qgn l m,Int.mul_assoc]
def sgOk (l:List Sg) (i:Nat):Bool:=nameB (l.getD i default).name && decide (2≤(l.getD i default).size) && decide ((l.getD i default).size≤4) && decide (i≤qdn l (l.getD i default).name)
def qce (l:List Sg):Bool:=decide (1≤l.length) && decide (l.length≤6) && qky l.length (sgOk l) && decide (qgh l≤64)
def pastOp (o:Int):Bool:=decide (15≤o) && decide (o≤19)
def qbo (l:List Sg) (f:Fm):Int :=
 if f.op=3 then (if qdn l f.name < l.length then (if (l.getD (qdn l f.name) default).size≤f.val then 71 else 0) else 70)
 else if pastOp f.op then (if f.args.all (allB qci) then 0 else 72) else 0
def errL (l:List Sg):List (Fm × Bool)→Int
 | []=>0
 | x :: r=>if qbo l x.1=0 then errL l r else qbo l x.1
def qek (l:List Sg) (f:Fm):Int :=
 if qce l then (if qem f then (if errL l (qdg false f)=0 then (if (qcc f).2=0 then 0 else 2) else errL l (qdg false f)) else 30) else 1
structure Rq where
 part:ByteArray
 name:ByteArray
 kind:Int
 f:Fm
instance:Inhabited Rq:=⟨⟨⟨#[]⟩,⟨#[]⟩,0,default⟩⟩
def errQ (l:List Sg) (x:Fm × Bool):Bool:=decide (qbo l x.1=0)
theorem errL_zero (l:List Sg) : ∀ L:List (Fm × Bool),errL l L=0 ↔ L.all (errQ l)=true
 | []=>by simp [errL]
 | x :: r=>by
  rw [errL,List.all_cons,Bool.and_eq_true,←errL_zero l r]
  unfold errQ
  by_cases h:qbo l x.1=0
  ·simp [h]
  ·simp [h]
theorem all_flag {q:Fm × Bool→Bool} (hq : ∀ g a b,q (g,a)=q (g,b)) {a b:Bool} {f:Fm} (h:(qdg a f).all q=true):(qdg b f).all q=true:=by
 have hless : ∀ x,q (x,true)=true→q (x,false)=true:=fun x h=>by rw [hq x false true];exact h
 have key : ∀ f:Fm,(qdg false f).all q=true→(qdg true f).all q=true:=by
  intro f
  refine Fm.induct (P:=fun f=>(qdg false f).all q=true→(qdg true f).all q=true) ?_ f
  intro f ih h
  rw [qgo,List.all_cons,Bool.and_eq_true] at h ⊢
  refine ⟨by rw [hq f true false];exact h.1,alls_of fun g hg => ?_⟩
  have h2:=qkx hg h.2
  obtain ⟨i,hi,rfl⟩:=List.getElem_of_mem hg
  have e:f.args.getD i default=f.args[i]:=by simp [List.getD,hi]
  have ih:=ih i hi
  rw [e] at ih
  simp only [Bool.true_or]
  cases hp:(false || (qal f.op).past)
  ·rw [hp] at h2;exact ih h2
  ·rw [hp] at h2;exact h2
 have key2 : ∀ f:Fm,(qdg true f).all q=true→(qdg false f).all q=true:=fun f h=>all_less hless f h
 cases a <;> cases b
 ·exact h
 ·exact key f h
 ·exact key2 f h
 ·exact h
theorem pastQ_flag : ∀ (g:Fm) (a b:Bool),qci (g,a)=qci (g,b):=fun _ _ _=>rfl
theorem err_arg {l:List Sg} {f g:Fm} (hg:g∈f.args) (h:allB (errQ l) f=true):allB (errQ l) g=true:=qkz (q:=errQ l) (fun _ h=>h) hg h
end Go.Proofs.YtdpbgcmfeajigaaGreatDoor
namespace Go.Proofs.YtdpbgcmfeajigaaGreatDoor
def FitsN (l:List Sg) (f:Fm):Prop:=qce l=true∧qem f=true∧allB (errQ l) f=true
theorem FitsN.arg {l:List Sg} {f g:Fm} (h:FitsN l f) (hg:g∈f.args):FitsN l g:=⟨h.1,valid_arg hg h.2.1,err_arg hg h.2.2⟩
end Go.Proofs.YtdpbgcmfeajigaaGreatDoor
namespace Go.Proofs.YtdpbgcmfeajigaaGreatDoor
def nm (i:Nat):ByteArray:=⟨#[UInt8.ofNat (97+i),95,120]⟩
end Go.Proofs.YtdpbgcmfeajigaaGreatDoor
namespace Go.Proofs.YtdpbgcmfeajigaaGreatDoor
open Go.RowKit
def gcells (s:Sg):List Value := [.string s.name,.bool s.inp,.int .i64 s.size]
def RdG (w:World) (D:Dom) (A:Option Addr) (c:Nat) (l:List Sg):Prop:=Rd w D 3 A l.length c (l.flatMap gcells)
section
variable {D E:Dom} {w w':World} {A:Option Addr} {c:Nat} {l:List Sg}
theorem RdG.nil (w:World) (D:Dom) (A:Option Addr) {c:Nat} (hc:c≤9223372036854775807):RdG w D A c []:=Rd.nil w D 3 A hc
theorem RdG.len (h:RdG w D A c l):l.length≤140737488355328∧l.length≤c∧c≤9223372036854775807:=h.1.2
theorem RdG.keep (h:RdG w D A c l) (hk:Keeps D w w'):RdG w' D A c l:=Rd.keep h hk
theorem RdG.mono (h:RdG w D A c l) (hE : ∀ b,D b→b < w.heap.size→E b):RdG w E A c l:=Rd.mono h hE
theorem RdG.old (h:RdG w D A c l):RdG w (· < w.heap.size) A c l:=Rd.old h
theorem RdG.any (h:RdG w D A c l) (hb:Below w.heap.size w w'):RdG w' qbi A c l:=(h.old.keep (Keeps.of_below hb fun _ h=>h)).mono fun _ _ _=>trivial
theorem RdG.get {k:Nat} (h:RdG w D A c l) (hk:k < l.length) : ∃ b o s,A=some ⟨b,o,none⟩∧b < w.heap.size∧Hid (l.getD k default=s) ∧
  w.cell? ⟨b,o+k * 3,none⟩=some (.string s.name)∧w.cell? ⟨b,o+k * 3+1,none⟩=some (.bool s.inp)∧w.cell? ⟨b,o+k * 3+2,none⟩=some (.int .i64 s.size):=by
 obtain ⟨b,o,e,hb,hl,hc⟩:=h.2 (by omega)
 have g : ∀ j u,j < 3→(gcells (l.getD k default))[j]? = some u→w.cell? ⟨b,o+(k * 3+j),none⟩=some u:=fun j u hj hu=>hc _ _ (by rw [qkv gcells default 3 (fun _=>rfl) l k j hk hj];exact hu)
 have g0:=g 0 _ (by omega) rfl
 have g1:=g 1 _ (by omega) rfl
 have g2:=g 2 _ (by omega) rfl
 exact ⟨b,o,l.getD k default,e,hl,hid rfl,by simpa using g0,by simpa [Nat.add_assoc] using g1,by simpa [Nat.add_assoc] using g2⟩
end
def qcells (r:Rq) (s:Option Addr × Nat):List Value := [.string r.part,.string r.name,.int .i64 r.kind,.int .i64 r.f.op,.string r.f.name,.int .i64 r.f.val,.int .i64 r.f.bound,.slice s.1 r.f.args.length s.2]
def cellsQ (l:List Rq) (sl:List (Option Addr × Nat)):List Value:=(l.zip sl).flatMap fun p=>qcells p.1 p.2
def RdR (w:World) (D:Dom) (A:Option Addr) (c:Nat) (l:List Rq):Prop :=
 ∃ sl:List (Option Addr × Nat),sl.length=l.length∧Rd w D 8 A l.length c (cellsQ l sl) ∧ ∀ i,i < l.length→RdA w D (l.getD i default).f.args (sl.getD i (none,0)).1 (sl.getD i (none,0)).2
theorem zipQ_get {L:List Rq} {sl:List (Option Addr × Nat)} (hl:sl.length=L.length) {k:Nat} (hk:k < L.length):(L.zip sl).getD k (default,(none,0))=(L.getD k default,sl.getD k (none,0)):=by
 have hs:k < sl.length:=by omega
 have hzk:k < (L.zip sl).length:=by rw [List.length_zip];omega
 rw [List.getD_eq_getElem?_getD,List.getD_eq_getElem?_getD,List.getD_eq_getElem?_getD,List.getElem?_eq_getElem hzk,List.getElem?_eq_getElem hk,List.getElem?_eq_getElem hs]
 exact List.getElem_zip
theorem cellsQ_at {L:List Rq} {sl:List (Option Addr × Nat)} (hl:sl.length=L.length) {k j:Nat} (hk:k < L.length) (hj:j < 8):(cellsQ L sl)[k * 8+j]? = (qcells (L.getD k default) (sl.getD k (none,0)))[j]? := by
 unfold cellsQ
 rw [qkv (fun p:Rq × (Option Addr × Nat)=>qcells p.1 p.2) (default,((none:Option Addr),0)) 8 (fun _=>rfl) (L.zip sl) k j (by rw [List.length_zip,hl];omega) hj,zipQ_get hl hk]
structure HasR (w:World) (D:Dom) (b o:Nat) (r:Rq) (A:Option Addr) (c:Nat):Prop where
 dom:D b
 lt:b < w.heap.size
 c0:w.cell? ⟨b,o,none⟩=some (.string r.part)
 c1:w.cell? ⟨b,o+1,none⟩=some (.string r.name)
 c2:w.cell? ⟨b,o+2,none⟩=some (.int .i64 r.kind)
 c3:w.cell? ⟨b,o+3,none⟩=some (.int .i64 r.f.op)
 c4:w.cell? ⟨b,o+4,none⟩=some (.string r.f.name)
 c5:w.cell? ⟨b,o+5,none⟩=some (.int .i64 r.f.val)
 c6:w.cell? ⟨b,o+6,none⟩=some (.int .i64 r.f.bound)
 c7:w.cell? ⟨b,o+7,none⟩=some (.slice A r.f.args.length c)
 args:RdA w D r.f.args A c
section
variable {D E:Dom} {w w':World} {A:Option Addr} {c:Nat} {l:List Rq}
theorem RdR.nil (w:World) (D:Dom) (A:Option Addr) {c:Nat} (hc:c≤9223372036854775807):RdR w D A c []:=⟨[],rfl,Rd.nil w D 8 A hc,fun _ h=>absurd h (Nat.not_lt_zero _)⟩
theorem RdR.len (h:RdR w D A c l):l.length≤140737488355328∧l.length≤c∧c≤9223372036854775807:=let ⟨_,_,h1,_⟩:=h;h1.1.2
theorem RdR.keep (h:RdR w D A c l) (hk:Keeps D w w'):RdR w' D A c l:=let ⟨sl,h0,h1,h2⟩:=h;⟨sl,h0,h1.keep hk,fun i hi=>(h2 i hi).keep hk⟩
theorem RdR.mono (h:RdR w D A c l) (hE : ∀ b,D b→b < w.heap.size→E b):RdR w E A c l:=let ⟨sl,h0,h1,h2⟩:=h;⟨sl,h0,h1.mono hE,fun i hi=>(h2 i hi).mono hE⟩
theorem RdR.old (h:RdR w D A c l):RdR w (· < w.heap.size) A c l:=h.mono fun _ _ hl=>hl
theorem RdR.any (h:RdR w D A c l) (hb:Below w.heap.size w w'):RdR w' qbi A c l:=(h.old.keep (Keeps.of_below hb fun _ h=>h)).mono fun _ _ _=>trivial
theorem RdR.get {k:Nat} (h:RdR w D A c l) (hk:k < l.length) : ∃ b o A' c' r,A=some ⟨b,o,none⟩∧Hid (l.getD k default=r)∧HasR w D b (o+k * 8) r A' c':=by
 obtain ⟨sl,h0,h1,h2⟩:=h
 obtain ⟨b,o,e,hb,hl,hc⟩:=h1.2 (by omega)
 have g : ∀ j u,j < 8→(qcells (l.getD k default) (sl.getD k (none,0)))[j]? = some u→w.cell? ⟨b,o+(k * 8+j),none⟩=some u:=fun j u hj hu=>hc _ _ (by rw [cellsQ_at h0 hk hj];exact hu)
 have g0:=g 0 _ (by omega) rfl
 have g1:=g 1 _ (by omega) rfl
 have g2:=g 2 _ (by omega) rfl
 have g3:=g 3 _ (by omega) rfl
 have g4:=g 4 _ (by omega) rfl
 have g5:=g 5 _ (by omega) rfl
 have g6:=g 6 _ (by omega) rfl
 have g7:=g 7 _ (by omega) rfl
 exact ⟨b,o,_,_,l.getD k default,e,hid rfl,hb,hl,by simpa using g0,by simpa [Nat.add_assoc] using g1,by simpa [Nat.add_assoc] using g2,by simpa [Nat.add_assoc] using g3,by simpa [Nat.add_assoc] using g4,by simpa [Nat.add_assoc] using g5,by simpa [Nat.add_assoc] using g6,by simpa [Nat.add_assoc] using g7,h2 k hk⟩
end
theorem HasR.keep {w w':World} {D:Dom} {b o:Nat} {r:Rq} {A:Option Addr} {c:Nat} (h:HasR w D b o r A c) (hk:Keeps D w w'):HasR w' D b o r A c :=
 ⟨h.dom,Nat.lt_of_lt_of_le h.lt hk.size,hk.cell h.dom h.c0,hk.cell h.dom h.c1,hk.cell h.dom h.c2,hk.cell h.dom h.c3,hk.cell h.dom h.c4,hk.cell h.dom h.c5,hk.cell h.dom h.c6,hk.cell h.dom h.c7,h.args.keep hk⟩
theorem HasR.any {w w':World} {D:Dom} {b o:Nat} {r:Rq} {A:Option Addr} {c:Nat} (h:HasR w D b o r A c) (hb:Below w.heap.size w w'):HasR w' qbi b o r A c:=by
 have hk:Keeps (· < w.heap.size) w w':=Keeps.of_below hb fun _ h=>h
 exact ⟨trivial,Nat.lt_of_lt_of_le h.lt hk.size,hk.cell h.lt h.c0,hk.cell h.lt h.c1,hk.cell h.lt h.c2,hk.cell h.lt h.c3,hk.cell h.lt h.c4,hk.cell h.lt h.c5,hk.cell h.lt h.c6,hk.cell h.lt h.c7,h.args.any hb⟩
end Go.Proofs.YtdpbgcmfeajigaaGreatDoor
namespace Go.Proofs.YtdpbgcmfeajigaaGreatDoor
open Go.RowKit
attribute [local go_sem] qab
theorem mul_small {P s:Int} (h1:1≤P) (h2:P≤4096) (h3:2≤s) (h4:s≤4):1≤P * s∧P * s≤4 * P:=by
 have:s=2∨s=3∨s=4:=by omega
 rcases this with rfl | rfl | rfl <;> omega
structure PrOk (l:List Sg) (i:Nat) (P:Int):Prop where
 is:P=qgh (l.take i)
 lo:1≤P
 hi:P≤4 ^ i
theorem PrOk.zero (l:List Sg):PrOk l 0 1:=⟨rfl,by omega,by decide⟩
theorem PrOk.succ {l:List Sg} {i:Nat} {P s:Int} (h:PrOk l i P) (hi:i < l.length) (h6:i < 6) (hs:(l.getD i default).size=s) (h2:2≤s) (h4:s≤4):PrOk l (i+1) (P * s):=by
 have hP:P≤4096:=by
  refine Int.le_trans h.hi ?_
  have:i=0∨i=1∨i=2∨i=3∨i=4∨i=5:=by omega
  rcases this with rfl | rfl | rfl | rfl | rfl | rfl <;> decide
 have hm:=mul_small h.lo hP h2 h4
 refine ⟨?_,hm.1,?_⟩
 ·rw [qam l default hi,qgn,←h.is]
  show P * s=P * ((l.getD i default).size * 1)
  rw [hs,Int.mul_one]
 ·have:=h.hi
  rw [Int.pow_succ]
  omega
theorem PrOk.wrap {l:List Sg} {i:Nat} {P s:Int} (h:PrOk l i P) (h6:i < 6) (h2:2≤s) (h4:s≤4):IntKind.i64.wrap (P * s)=P * s:=by
 have hP:P≤4096:=by
  refine Int.le_trans h.hi ?_
  have:i=0∨i=1∨i=2∨i=3∨i=4∨i=5:=by omega
  rcases this with rfl | rfl | rfl | rfl | rfl | rfl <;> decide
 have hm:=mul_small h.lo hP h2 h4
 exact IntWalk.i64_in _ (by omega)
theorem sg_bad {l:List Sg} {i:Nat} (hi:i < l.length) (h:sgOk l i=false):qce l=false:=by
 unfold qce
 rw [qay hi h]
 simp
theorem findN_le {l:List Sg} {s:ByteArray} {k:Nat} (hk:k < l.length) (h:(l.getD k default).name=s):qdn l s≤k :=
 firstN_of (by rw [sgNames_len];exact hk) (by rw [sgNames_at k hk];exact h)
theorem findN_ge {l:List Sg} {s:ByteArray} {k:Nat} (hk:k≤l.length) (h : ∀ j,j < k→(l.getD j default).name≠s):k≤qdn l s :=
 (firstN_ge (by rw [sgNames_len];exact hk)).2 fun j hj=>by rw [sgNames_at j (by omega)];exact h j hj
theorem qg6 {D:Dom} (l:List Sg) (A:Option Addr) (c n:Nat) (w:World) (hn:n=l.length) (h:RdG w D A c l) (hk:GK w) :
  Calls Tryz.prog 84 #[.slice A n c] w fun e w'=>e = .returned (.bool (qce l))∧Below w.heap.size w w':=by
 subst hn
 have hlen:=h.len.1
 have HH:=hid h.old
 have HK:=hid hk
 clear h hk
 by_cases h1:l.length < 1
 ·have HR:=hid (show qce l=false by unfold qce;rw [decide_eq_false (by omega)];rfl)
  have d1:decide ((l.length:Int) < 1)=true:=decide_eq_true (by omega)
  have d1':(l.length:Int) < 1:=by omega
  clear h1
  go_enter Tryz.func84,Tryz.ntmps84
  go_wp2_with fail
  go_step3
  go_wp2_with fail
  try rw [Exit.noGoto_ret]
  go_ret
  exact ⟨qah HR.out.symm,by go_grown⟩
 by_cases h2:6 < l.length
 ·have HR:=hid (show qce l=false by unfold qce;rw [decide_eq_false (show ¬ l.length≤6 by omega)];simp)
  have d1' : ¬ (l.length:Int) < 1:=by omega
  have d2':6 < (l.length:Int):=by omega
  have d1:decide ((l.length:Int) < 1)=false:=decide_eq_false d1'
  have d2:decide (6 < (l.length:Int))=true:=decide_eq_true d2'
  clear h1 h2
  go_enter Tryz.func84,Tryz.ntmps84
  go_wp2_with fail
  go_step3
  go_wp2_with fail
  try rw [Exit.noGoto_ret]
  go_ret
  exact ⟨qah HR.out.symm,by go_grown⟩
 have d1' : ¬ (l.length:Int) < 1:=by omega
 have d2' : ¬ 6 < (l.length:Int):=by omega
 have d1:decide ((l.length:Int) < 1)=false:=decide_eq_false d1'
 have d2:decide (6 < (l.length:Int))=false:=decide_eq_false d2'
 have H16:=hid (show 1≤l.length∧l.length≤6 by omega)
 clear h1 h2
 go_enter Tryz.func84,Tryz.ntmps84
 go_wp2_with fail
 go_step3
 go_wp2_with fail
 go_step3
 go_upto_region 5 with (fail)
 refine qai fun W hW => ?_
 have HB:=hid (show Below w.heap.size w W by rw [hW];go_grown)
 clear hW
 go_wp2_with fail
 go_loopw [3,4,17] (fun p r q wr => ∃ (i:Nat) (P:Int),i≤l.length∧p = .bool true∧q = .int .i64 (i:Int)∧r = .int .i64 P∧Hid (PrOk l i P)∧Hid (qct i (sgOk l))∧Below w.heap.size w wr) (fun _ _ q _=>l.length - (intOf q).toNat)
 case atStart=>exact ⟨0,1,Nat.zero_le _,rfl,rfl,rfl,PrOk.zero l,qct.zero _,HB.out⟩
 case round =>
  obtain ⟨i,P,hi,rfl,rfl,rfl,HP,HS,hb⟩:=hrel
  have HBL:=hid hb
  clear hb
  by_cases hlt:i < l.length
  ·have hii:(i:Int) < l.length:=by omega
   have HI6:=hid (show i < 6 by have:=H16.out;omega)
   have HLT:=hid hlt
   have HHr:=hid (HH.out.any HBL.out)
   obtain ⟨b,o,s,rfl,hlb,HX,x0,x1,x2⟩:=HHr.out.get hlt
   have hnm:=name_any s.name wr (HK.out.below HBL.out HK.out.pos)
   have HOK:=hid (show sgOk l i=(nameB s.name && decide (2≤s.size) && decide (s.size≤4) && decide (i≤qdn l s.name)) by unfold sgOk;rw [HX.out])
   have HNAME:=hid (show (l.getD i default).name=s.name by rw [HX.out])
   have HSIZE:=hid (show (l.getD i default).size=s.size by rw [HX.out])
   clear HX
   cases hq:nameB s.name
   ·have HR:=hid (sg_bad HLT.out (by rw [HOK.out,hq];rfl))
    rw [hq] at hnm
    have HN:=hid hnm
    clear hnm hq
    go_wp2_with (go_at_call 122;(with_reducible refine HN.out.mono ?_);rintro e w2 ⟨rfl,hb2⟩;have HB2:=hid (HBL.out.trans (hb2.mono HBL.out.size));clear hb2)
    try rw [Exit.noGoto_ret]
    go_ret
    exact ⟨qah HR.out.symm,HB2.out⟩
   rw [hq] at hnm
   have HN:=hid hnm
   have HQ:=hid hq
   clear hnm hq
   by_cases hs2:s.size < 2
   ·have HR:=hid (sg_bad HLT.out (by rw [HOK.out,decide_eq_false (show ¬ 2≤s.size by omega)];simp))
    go_wp2_with (go_at_call 122;(with_reducible refine HN.out.mono ?_);rintro e w2 ⟨rfl,hb2⟩;have y0:=(hb2.cell (p:=⟨b,o+i * 3,none⟩) hlb).trans x0;have y2:=(hb2.cell (p:=⟨b,o+i * 3+2,none⟩) hlb).trans x2;have hl2:=Nat.lt_of_lt_of_le hlb hb2.size;have HB2:=hid (HBL.out.trans (hb2.mono HBL.out.size));have HHr2:=hid (HHr.out.any hb2);clear hb2 x0 x1 x2 hlb)
    try rw [Exit.noGoto_ret]
    go_ret
    exact ⟨qah HR.out.symm,HB2.out⟩
   by_cases hs4:4 < s.size
   ·have HR:=hid (sg_bad HLT.out (by rw [HOK.out,decide_eq_false (show ¬ s.size≤4 by omega)];simp))
    go_wp2_with (go_at_call 122;(with_reducible refine HN.out.mono ?_);rintro e w2 ⟨rfl,hb2⟩;have y0:=(hb2.cell (p:=⟨b,o+i * 3,none⟩) hlb).trans x0;have y2:=(hb2.cell (p:=⟨b,o+i * 3+2,none⟩) hlb).trans x2;have hl2:=Nat.lt_of_lt_of_le hlb hb2.size;have HB2:=hid (HBL.out.trans (hb2.mono HBL.out.size));have HHr2:=hid (HHr.out.any hb2);clear hb2 x0 x1 x2 hlb)
    try rw [Exit.noGoto_ret]
    go_ret
    exact ⟨qah HR.out.symm,HB2.out⟩
   have HW:=hid (HP.out.wrap (s:=s.size) HI6.out (by omega) (by omega))
   have HPN:=hid (HP.out.succ HLT.out HI6.out HSIZE.out (by omega) (by omega))
   have HS24:=hid (show 2≤s.size∧s.size≤4 by omega)
   go_wp2_with (go_at_call 122;(with_reducible refine HN.out.mono ?_);rintro e w2 ⟨rfl,hb2⟩;have y0:=(hb2.cell (p:=⟨b,o+i * 3,none⟩) hlb).trans x0;have y2:=(hb2.cell (p:=⟨b,o+i * 3+2,none⟩) hlb).trans x2;have hl2:=Nat.lt_of_lt_of_le hlb hb2.size;have HB2:=hid (HBL.out.trans (hb2.mono HBL.out.size));have HHr2:=hid (HHr.out.any hb2);clear hb2 x0 x1 x2 hlb)
   have HY0:=hid y0
   have HY2:=hid y2
   have HL2:=hid hl2
   clear y0 y2 hl2 hs2 hs4
   obtain ⟨wi,hwi⟩ : ∃ wi,wi=w2:=⟨_,rfl⟩
   rw [←hwi] at HB2 HHr2 HY0 HY2 HL2 ⊢
   clear hwi
   go_loopw [3,44] (fun p q wr => ∃ k:Nat,k≤i∧p = .bool true∧q = .int .i64 (k:Int)∧Hid (qap wi wr)∧Hid (∀ j,j < k→(l.getD j default).name≠s.name)) (fun _ q _=>i - (intOf q).toNat)
   case atStart=>exact ⟨0,Nat.zero_le _,rfl,rfl,qap.refl _,fun j h=>absurd h (Nat.not_lt_zero _)⟩
   case round =>
    obtain ⟨k,hki,rfl,rfl,HD,HALL⟩:=hrel
    have HBD:=hid (HD.out.below wi.heap.size)
    have HH3:=hid (HHr2.out.any HBD.out)
    have z0:=(HBD.out.cell (p:=⟨b,o+i * 3,none⟩) HL2.out).trans HY0.out
    have z2:=(HBD.out.cell (p:=⟨b,o+i * 3+2,none⟩) HL2.out).trans HY2.out
    by_cases hk:k < i
    ·have hkk:(k:Int) < (i:Int):=by omega
     have hkn:(k:Int) < (l.length:Int):=by omega
     obtain ⟨b',o',t,he,hlt',HT,t0,t1,t2⟩:=HH3.out.get (k:=k) (by have:=HLT.out;omega)
     injection he with he
     injection he with hb' ho' _
     subst hb' ho'
     have HTN:=hid (show (l.getD k default).name=t.name by rw [HT.out])
     clear HT
     by_cases ht:t.name=s.name
     ·have d3:(t.name.toList == s.name.toList)=true:=qiv.2 ht
      have HR:=hid (sg_bad HLT.out (by
       rw [HOK.out,decide_eq_false (show ¬ i≤qdn l s.name by
        have:=findN_le (l:=l) (s:=s.name) (k:=k) (by have:=HLT.out;omega) (by rw [HTN.out];exact ht)
        omega)]
       simp))
      have HDD:=hid HD.out
      clear ht
      go_upto_region 13 with (fail)
      go_quiet (fail)
      go_wp2_with fail
      try rw [Exit.noGoto_ret]
      go_ret
      exact ⟨qah HR.out.symm,HB2.out.trans (((HD.out.drewN _).below _).mono HB2.out.size)⟩
     ·have d3:(t.name.toList == s.name.toList)=false:=by
       cases hb:(t.name.toList == s.name.toList)
       ·rfl
       ·exact absurd (qiv.1 hb) ht
      have HNE:=hid ht
      clear ht
      go_upto_region 13 with (fail)
      go_quiet (fail)
      go_wp2_with fail
      go_roundw
      case rel =>
       refine ⟨k+1,by omega,rfl,by go_num,HD.out.drewN _,fun j hj => ?_⟩
       by_cases e:j=k
       ·rw [e,HTN.out];exact HNE.out
       ·exact HALL.out j (by omega)
      case measure=>simp [intOf];omega
    ·have hkk : ¬ (k:Int) < (i:Int):=by omega
     have HOKT:=hid (show sgOk l i=true by
      rw [HOK.out,HQ.out,decide_eq_true HS24.out.1,decide_eq_true HS24.out.2,decide_eq_true (findN_ge (by have:=HLT.out;omega) fun j hj=>HALL.out j (by omega))]
      rfl)
     have hwr:=HW.out
     go_wp2_with fail
     go_roundw
     case rel=>exact ⟨i+1,P * s.size,by have:=HLT.out;omega,rfl,by go_num,(by first | rfl | rw [hwr]),HPN.out,HS.out.succ HOKT.out,HB2.out.trans (HBD.out.mono HB2.out.size)⟩
     case measure=>simp [intOf];omega
  ·have hii : ¬ (i:Int) < l.length:=by omega
   have HPR:=hid (show P=qgh l by have:=HP.out.is;rw [List.take_of_length_le (by omega)] at this;exact this)
   have HV:=hid (show qce l=decide (P≤64) by
    unfold qce
    rw [decide_eq_true H16.out.1,decide_eq_true H16.out.2,HS.out.all (by omega),←HPR.out];rfl)
   go_wp2_with fail
   try rw [Exit.noGoto_ret]
   go_ret
   exact ⟨qah HV.out.symm,HBL.out⟩
end Go.Proofs.YtdpbgcmfeajigaaGreatDoor
