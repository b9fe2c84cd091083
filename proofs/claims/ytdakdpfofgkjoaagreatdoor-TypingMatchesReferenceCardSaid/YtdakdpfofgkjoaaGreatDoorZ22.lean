/-
  Parts of a proof: KD XA XB XC X1 X2.
-/
import Derived.Test.YtdakdpfofgkjoaaGreatDoorZ21
import Derived.Test.YtdakdpfofgkjoaaGreatDoorZ20
import Derived.WalkMore
import Derived.Test.YtdakdpfofgkjoaaGreatDoorZ04
set_option linter.unusedSimpArgs false
set_option linter.unusedVariables false
set_option maxHeartbeats 8000000
set_option maxRecDepth 100000
namespace Go.Proofs.YtdakdpfofgkjoaaGreatDoor
open Go.RowKit Go.Shelf
attribute [local go_sem] qad
theorem rnodes_any (f:Fm) : ∀ {D:Dom} (v:Value) (w:World) (h:qby w D v f) (hz:f.size≤1000000),Calls Tryz.prog 67 #[v] w fun e w'=>e = .returned (.bool (qbu f))∧Below w.heap.size w w':=by
 refine Fm.induct (P:=fun f => ∀ {D:Dom} (v:Value) (w:World) (h:qby w D v f) (hz:f.size≤1000000),Calls Tryz.prog 67 #[v] w fun e w'=>e = .returned (.bool (qbu f))∧Below w.heap.size w w') ?_ f
 intro f ih D v w h hz
 have HIH:=hid ih
 have HFL:=hid (show qbu f=(qas f && qkb f.args.length fun i=>qbu (f.args.getD i default)) from qd1 qas f)
 obtain ⟨A,c,rfl,ha⟩:=h
 have HA:=hid ha.old
 have hal:=ha.len.1
 clear ih ha
 go_enter Tryz.func67,Tryz.ntmps67
 go_upto_region 1 with (fail)
 refine qai fun W hW => ?_
 have hbx:qdd W w.heap.size f A c:=by rw [hW];exact qdd.new w f A c
 have HBX:=hid hbx
 have HBW:=hid (show Below w.heap.size w W by rw [hW];go_grown)
 obtain ⟨x0,x1,x2,x3,x4,xl⟩:=hbx.cells
 clear hW hbx
 have HZ:=hid hz
 have HND:=hid (rnode_any f (.agg #[.int .i64 f.op,.string f.name,.int .i64 f.val,.int .i64 f.bound,.slice A f.args.length c]) W ⟨A,c,rfl,HA.out.keep (Keeps.of_below HBW.out fun _ h=>h)⟩ (by have:=qbx f.args;have:=Fm.size_eq f;unfold manyN;omega))
 clear hz
 cases hs:qas f
 ·have HR:=hid (show qbu f=false by rw [HFL.out,hs];rfl)
  rw [hs] at HND
  clear hs
  go_wp2_with (first | (go_at_call 101;(with_reducible refine HND.out.mono ?_);rintro e w1 ⟨rfl,hb⟩))
  go_ret
  exact ⟨qaj HR.out.symm,HBW.out.trans (hb.mono HBW.out.size)⟩
 have HP:=hid hs
 rw [hs] at HND
 clear hs
 go_upto_region 3 with (first | (go_at_call 101;(with_reducible refine HND.out.mono ?_);rintro e W1 ⟨rfl,hb⟩))
 replace HBX:=hid (HBX.out.below hb)
 replace HBW:=hid (HBW.out.trans (hb.mono HBW.out.size))
 clear hb HND x0 x1 x2 x3 x4 xl
 rename World=>W
 go_wp2_with fail
 go_loopw [3] (fun q wr => ∃ i:Nat,i≤f.args.length∧q = .int .i64 (i:Int)∧Below W.heap.size W wr∧qck i (fun j=>qbu (f.args.getD j default))) (fun q _=>f.args.length - (intOf q).toNat)
 case atStart=>exact ⟨0,Nat.zero_le _,rfl,Below.refl _ _,qck.zero _⟩
 case round =>
  obtain ⟨i,hi,rfl,hb,hsf⟩:=hrel
  obtain ⟨x0,x1,x2,x3,x4,xl⟩:=(HBX.out.below hb).cells
  have HB:=hid hb
  have HBR:=hid (HBW.out.trans (hb.mono HBW.out.size))
  have HSF:=hid hsf
  clear hb hsf
  by_cases hlt:i < f.args.length
  ·have hii:(i:Int) < f.args.length:=by omega
   obtain ⟨b,o,A',c',g,heq,HG,hg⟩:=(HA.out.keep (Keeps.of_below HBR.out fun _ h=>h)).get hlt
   cases heq
   obtain ⟨gd,gl,g0,g1,g2,g3,g4,ga⟩:=hg
   have hcall:=HIH.out i hlt (D:=(· < w.heap.size)) (.agg #[.int .i64 g.op,.string g.name,.int .i64 g.val,.int .i64 g.bound,.slice A' g.args.length c']) wr (by rw [HG.out];exact ⟨A',c',rfl,ga⟩) (by have:=qgu hlt;have:=HZ.out;omega)
   rw [HG.out] at hcall
   cases hq:qbu g
   ·rw [hq] at hcall
    have HR:=hid (show qbu f=false by rw [HFL.out];rw [qa5 (j:=i) hlt (by rw [HG.out];exact hq),Bool.and_false])
    have HCALL:=hid hcall
    clear hcall ga hq
    go_wp2_with fail
    refine HCALL.out.mono ?_
    rintro e w1 ⟨rfl,hb1⟩
    have HB1:=hid (HBR.out.trans (hb1.mono HBR.out.size))
    clear hb1
    go_wp2_with fail
    go_ret
    exact ⟨qaj HR.out.symm,HB1.out⟩
   ·rw [hq] at hcall
    have HQ:=hid (show qbu (f.args.getD i default)=true by rw [HG.out];exact hq)
    have HCALL:=hid hcall
    clear hcall ga hq
    go_wp2_with fail
    refine HCALL.out.mono ?_
    rintro e w1 ⟨rfl,hb1⟩
    have HB1:=hid (HB.out.trans (hb1.mono HB.out.size))
    clear hb1
    go_wp2_with fail
    go_roundw
    case rel=>exact ⟨i+1,by omega,by go_num,HB1.out,HSF.out.succ HQ.out⟩
    case measure=>simp [intOf];omega
  ·have hii : ¬ (i:Int) < f.args.length:=by omega
   have HR:=hid (show qbu f=true by rw [HFL.out];rw [HP.out,Bool.true_and];exact HSF.out.all (by omega))
   go_wp2_with fail
   go_ret
   exact ⟨qaj HR.out.symm,HBR.out⟩
section
variable {D:Dom} {v:Value} {f:Fm} {w:World}
theorem qem (m:Nat) (l:Int) (hl:l=(m:Int)) (hm:m≤1000000) (r:Bool) (hr:decide (f.size≤m)=r) (h:qby w D v f):Calls Tryz.prog 7 #[v,.int .i64 l] w fun e w'=>e = .returned (.bool r)∧Below w.heap.size w w':=by
 subst hl
 rw [←hr];exact qjo f _ m w h hm
theorem qhs (r:Bool) (hr:qbu f=r) (hz:f.size≤1000000) (h:qby w D v f):Calls Tryz.prog 67 #[v] w fun e w'=>e = .returned (.bool r)∧Below w.heap.size w w':=by
 rw [←hr];exact rnodes_any f v w h hz
theorem rcore_r (r:Bool) (hr:qb8 f=r) (hn:qbu f=true) (h:qby w D v f):Calls Tryz.prog 95 #[v] w fun e w'=>e = .returned (.bool r)∧Below w.heap.size w w':=by
 rw [←hr];exact rcore_any f v w h hn
theorem rlay_r (r:Bool) (hr:layL f=r) (h:qby w D v f):Calls Tryz.prog 53 #[v] w fun e w'=>e = .returned (.bool r)∧Below w.heap.size w w':=by
 rw [←hr];exact qki f v w h
end
def qfr (f:Fm):Bool:=decide (f.size≤400) && decide (f.depth≤60) && qbu f && qb8 f && layL f
def qh4 (f:Fm):Bool:=decide (f.size≤60) && decide (f.depth≤20) && qbu f
theorem rvalid_any {D:Dom} (f:Fm) (v:Value) (w:World) (h:qby w D v f):Calls Tryz.prog 40 #[v] w fun e w'=>e = .returned (.bool (qh4 f))∧Below w.heap.size w w':=by
 obtain ⟨A,c,rfl,ha⟩:=h
 have HA:=hid ha.old
 clear ha
 go_enter Tryz.func40,Tryz.ntmps40
 go_upto_region 1 with (fail)
 refine qai fun W hW => ?_
 have hbx:qdd W w.heap.size f A c:=by rw [hW];exact qdd.new w f A c
 have HBX:=hid hbx
 have HBW:=hid (show Below w.heap.size w W by rw [hW];go_grown)
 have HV:Hid (qby W qbw (.agg #[.int .i64 f.op,.string f.name,.int .i64 f.val,.int .i64 f.bound,.slice A f.args.length c]) f):=hid ⟨A,c,rfl,(HA.out.keep (Keeps.of_below HBW.out fun _ h=>h)).mono fun _ _ _=>trivial⟩
 obtain ⟨x0,x1,x2,x3,x4,xl⟩:=hbx.cells
 clear hW hbx HA
 by_cases c0:f.size≤60
 rotate_left
 ·have hc0:=hid (decide_eq_false c0)
  have HR:=hid (show qh4 f=false by unfold qh4;rw [hc0.out];rfl)
  go_wp2_with (go_at_call 7;(with_reducible refine (qem (D:=qbw) (f:=f) 60 60 rfl ?_ false ?_ ?_).mono ?_);decide;exact hc0.out;exact HV.out;rintro e U ⟨rfl,hb⟩;clear x0 x1 x2 x3 x4 xl;replace HV:=hid (HV.out.any hb);replace HBX:=hid (HBX.out.below hb);replace HBW:=hid (HBW.out.trans (hb.mono HBW.out.size));obtain ⟨x0,x1,x2,x3,x4,xl⟩:=HBX.out.cells;clear hb)
  go_ret
  exact ⟨qaj HR.out.symm,HBW.out⟩
 have hc0:=hid (decide_eq_true c0)
 have HSZ:=hid c0
 by_cases c1:f.depth≤20
 rotate_left
 ·have hc1:=hid (decide_eq_false c1)
  have e1:decide ((f.depth:Int)≤20)=false:=decide_eq_false (by omega)
  have k1 : ¬ (f.depth:Int)≤20:=by omega
  clear c0 c1
  have HR:=hid (show qh4 f=false by unfold qh4;rw [hc0.out,hc1.out];rfl)
  go_wp2_with (first | (go_at_call 7;(with_reducible refine (qem (D:=qbw) (f:=f) 60 60 rfl ?_ true ?_ ?_).mono ?_);decide;exact hc0.out;exact HV.out;rintro e U ⟨rfl,hb⟩;clear x0 x1 x2 x3 x4 xl;replace HV:=hid (HV.out.any hb);replace HBX:=hid (HBX.out.below hb);replace HBW:=hid (HBW.out.trans (hb.mono HBW.out.size));obtain ⟨x0,x1,x2,x3,x4,xl⟩:=HBX.out.cells;clear hb) | (go_at_call 66;(with_reducible refine (qd6 f _ _ HV.out ?_).mono ?_);(have:=qca f;have:=HSZ.out;omega);rintro e U ⟨rfl,hb⟩;clear x0 x1 x2 x3 x4 xl;replace HV:=hid (HV.out.any hb);replace HBX:=hid (HBX.out.below hb);replace HBW:=hid (HBW.out.trans (hb.mono HBW.out.size));obtain ⟨x0,x1,x2,x3,x4,xl⟩:=HBX.out.cells;clear hb))
  go_ret
  exact ⟨qaj HR.out.symm,HBW.out⟩
 have hc1:=hid (decide_eq_true c1)
 have e1:decide ((f.depth:Int)≤20)=true:=decide_eq_true (by omega)
 have k1:(f.depth:Int)≤20:=by omega
 clear c0 c1
 cases c2:qbu f
 ·have hc2:=hid c2
  clear c2
  have HR:=hid (show qh4 f=false by unfold qh4;rw [hc0.out,hc1.out,hc2.out];rfl)
  go_wp2_with (first | (go_at_call 7;(with_reducible refine (qem (D:=qbw) (f:=f) 60 60 rfl ?_ true ?_ ?_).mono ?_);decide;exact hc0.out;exact HV.out;rintro e U ⟨rfl,hb⟩;clear x0 x1 x2 x3 x4 xl;replace HV:=hid (HV.out.any hb);replace HBX:=hid (HBX.out.below hb);replace HBW:=hid (HBW.out.trans (hb.mono HBW.out.size));obtain ⟨x0,x1,x2,x3,x4,xl⟩:=HBX.out.cells;clear hb) | (go_at_call 66;(with_reducible refine (qd6 f _ _ HV.out ?_).mono ?_);(have:=qca f;have:=HSZ.out;omega);rintro e U ⟨rfl,hb⟩;clear x0 x1 x2 x3 x4 xl;replace HV:=hid (HV.out.any hb);replace HBX:=hid (HBX.out.below hb);replace HBW:=hid (HBW.out.trans (hb.mono HBW.out.size));obtain ⟨x0,x1,x2,x3,x4,xl⟩:=HBX.out.cells;clear hb) | (go_at_call 67;(with_reducible refine (qhs (D:=qbw) (f:=f) false ?_ ?_ ?_).mono ?_);exact hc2.out;(have:=HSZ.out;omega);exact HV.out;rintro e U ⟨rfl,hb⟩;clear x0 x1 x2 x3 x4 xl;replace HV:=hid (HV.out.any hb);replace HBX:=hid (HBX.out.below hb);replace HBW:=hid (HBW.out.trans (hb.mono HBW.out.size));obtain ⟨x0,x1,x2,x3,x4,xl⟩:=HBX.out.cells;clear hb))
  go_ret
  exact ⟨qaj HR.out.symm,HBW.out⟩
 have hc2:=hid c2
 clear c2
 have HR:=hid (show qh4 f=true by unfold qh4;rw [hc0.out,hc1.out,hc2.out];rfl)
 go_wp2_with (first | (go_at_call 7;(with_reducible refine (qem (D:=qbw) (f:=f) 60 60 rfl ?_ true ?_ ?_).mono ?_);decide;exact hc0.out;exact HV.out;rintro e U ⟨rfl,hb⟩;clear x0 x1 x2 x3 x4 xl;replace HV:=hid (HV.out.any hb);replace HBX:=hid (HBX.out.below hb);replace HBW:=hid (HBW.out.trans (hb.mono HBW.out.size));obtain ⟨x0,x1,x2,x3,x4,xl⟩:=HBX.out.cells;clear hb) | (go_at_call 66;(with_reducible refine (qd6 f _ _ HV.out ?_).mono ?_);(have:=qca f;have:=HSZ.out;omega);rintro e U ⟨rfl,hb⟩;clear x0 x1 x2 x3 x4 xl;replace HV:=hid (HV.out.any hb);replace HBX:=hid (HBX.out.below hb);replace HBW:=hid (HBW.out.trans (hb.mono HBW.out.size));obtain ⟨x0,x1,x2,x3,x4,xl⟩:=HBX.out.cells;clear hb) | (go_at_call 67;(with_reducible refine (qhs (D:=qbw) (f:=f) true ?_ ?_ ?_).mono ?_);exact hc2.out;(have:=HSZ.out;omega);exact HV.out;rintro e U ⟨rfl,hb⟩;clear x0 x1 x2 x3 x4 xl;replace HV:=hid (HV.out.any hb);replace HBX:=hid (HBX.out.below hb);replace HBW:=hid (HBW.out.trans (hb.mono HBW.out.size));obtain ⟨x0,x1,x2,x3,x4,xl⟩:=HBX.out.cells;clear hb))
 go_ret
 exact ⟨qaj HR.out.symm,HBW.out⟩
theorem qjp {D:Dom} (f:Fm) (v:Value) (w:World) (h:qby w D v f):Calls Tryz.prog 56 #[v] w fun e w'=>e = .returned (.bool (qfr f))∧Below w.heap.size w w':=by
 obtain ⟨A,c,rfl,ha⟩:=h
 have HA:=hid ha.old
 clear ha
 go_enter Tryz.func56,Tryz.ntmps56
 go_upto_region 1 with (fail)
 refine qai fun W hW => ?_
 have hbx:qdd W w.heap.size f A c:=by rw [hW];exact qdd.new w f A c
 have HBX:=hid hbx
 have HBW:=hid (show Below w.heap.size w W by rw [hW];go_grown)
 have HV:Hid (qby W qbw (.agg #[.int .i64 f.op,.string f.name,.int .i64 f.val,.int .i64 f.bound,.slice A f.args.length c]) f):=hid ⟨A,c,rfl,(HA.out.keep (Keeps.of_below HBW.out fun _ h=>h)).mono fun _ _ _=>trivial⟩
 obtain ⟨x0,x1,x2,x3,x4,xl⟩:=hbx.cells
 clear hW hbx HA
 by_cases c0:f.size≤400
 rotate_left
 ·have hc0:=hid (decide_eq_false c0)
  have HR:=hid (show qfr f=false by unfold qfr;rw [hc0.out];rfl)
  go_wp2_with (go_at_call 7;(with_reducible refine (qem (D:=qbw) (f:=f) 400 400 rfl ?_ false ?_ ?_).mono ?_);decide;exact hc0.out;exact HV.out;rintro e U ⟨rfl,hb⟩;clear x0 x1 x2 x3 x4 xl;replace HV:=hid (HV.out.any hb);replace HBX:=hid (HBX.out.below hb);replace HBW:=hid (HBW.out.trans (hb.mono HBW.out.size));obtain ⟨x0,x1,x2,x3,x4,xl⟩:=HBX.out.cells;clear hb)
  go_ret
  exact ⟨qaj HR.out.symm,HBW.out⟩
 have hc0:=hid (decide_eq_true c0)
 have HSZ:=hid c0
 by_cases c1:f.depth≤60
 rotate_left
 ·have hc1:=hid (decide_eq_false c1)
  have e1:decide ((f.depth:Int)≤60)=false:=decide_eq_false (by omega)
  have k1 : ¬ (f.depth:Int)≤60:=by omega
  clear c0 c1
  have HR:=hid (show qfr f=false by unfold qfr;rw [hc0.out,hc1.out];rfl)
  go_wp2_with (first | (go_at_call 7;(with_reducible refine (qem (D:=qbw) (f:=f) 400 400 rfl ?_ true ?_ ?_).mono ?_);decide;exact hc0.out;exact HV.out;rintro e U ⟨rfl,hb⟩;clear x0 x1 x2 x3 x4 xl;replace HV:=hid (HV.out.any hb);replace HBX:=hid (HBX.out.below hb);replace HBW:=hid (HBW.out.trans (hb.mono HBW.out.size));obtain ⟨x0,x1,x2,x3,x4,xl⟩:=HBX.out.cells;clear hb) | (go_at_call 66;(with_reducible refine (qd6 f _ _ HV.out ?_).mono ?_);(have:=qca f;have:=HSZ.out;omega);rintro e U ⟨rfl,hb⟩;clear x0 x1 x2 x3 x4 xl;replace HV:=hid (HV.out.any hb);replace HBX:=hid (HBX.out.below hb);replace HBW:=hid (HBW.out.trans (hb.mono HBW.out.size));obtain ⟨x0,x1,x2,x3,x4,xl⟩:=HBX.out.cells;clear hb))
  go_ret
  exact ⟨qaj HR.out.symm,HBW.out⟩
 have hc1:=hid (decide_eq_true c1)
 have e1:decide ((f.depth:Int)≤60)=true:=decide_eq_true (by omega)
 have k1:(f.depth:Int)≤60:=by omega
 clear c0 c1
 cases c2:qbu f
 ·have hc2:=hid c2
  clear c2
  have HR:=hid (show qfr f=false by unfold qfr;rw [hc0.out,hc1.out,hc2.out];rfl)
  go_wp2_with (first | (go_at_call 7;(with_reducible refine (qem (D:=qbw) (f:=f) 400 400 rfl ?_ true ?_ ?_).mono ?_);decide;exact hc0.out;exact HV.out;rintro e U ⟨rfl,hb⟩;clear x0 x1 x2 x3 x4 xl;replace HV:=hid (HV.out.any hb);replace HBX:=hid (HBX.out.below hb);replace HBW:=hid (HBW.out.trans (hb.mono HBW.out.size));obtain ⟨x0,x1,x2,x3,x4,xl⟩:=HBX.out.cells;clear hb) | (go_at_call 66;(with_reducible refine (qd6 f _ _ HV.out ?_).mono ?_);(have:=qca f;have:=HSZ.out;omega);rintro e U ⟨rfl,hb⟩;clear x0 x1 x2 x3 x4 xl;replace HV:=hid (HV.out.any hb);replace HBX:=hid (HBX.out.below hb);replace HBW:=hid (HBW.out.trans (hb.mono HBW.out.size));obtain ⟨x0,x1,x2,x3,x4,xl⟩:=HBX.out.cells;clear hb) | (go_at_call 67;(with_reducible refine (qhs (D:=qbw) (f:=f) false ?_ ?_ ?_).mono ?_);exact hc2.out;(have:=HSZ.out;omega);exact HV.out;rintro e U ⟨rfl,hb⟩;clear x0 x1 x2 x3 x4 xl;replace HV:=hid (HV.out.any hb);replace HBX:=hid (HBX.out.below hb);replace HBW:=hid (HBW.out.trans (hb.mono HBW.out.size));obtain ⟨x0,x1,x2,x3,x4,xl⟩:=HBX.out.cells;clear hb))
  go_ret
  exact ⟨qaj HR.out.symm,HBW.out⟩
 have hc2:=hid c2
 clear c2
 cases c3:qb8 f
 ·have hc3:=hid c3
  clear c3
  have HR:=hid (show qfr f=false by unfold qfr;rw [hc0.out,hc1.out,hc2.out,hc3.out];rfl)
  go_wp2_with (first | (go_at_call 7;(with_reducible refine (qem (D:=qbw) (f:=f) 400 400 rfl ?_ true ?_ ?_).mono ?_);decide;exact hc0.out;exact HV.out;rintro e U ⟨rfl,hb⟩;clear x0 x1 x2 x3 x4 xl;replace HV:=hid (HV.out.any hb);replace HBX:=hid (HBX.out.below hb);replace HBW:=hid (HBW.out.trans (hb.mono HBW.out.size));obtain ⟨x0,x1,x2,x3,x4,xl⟩:=HBX.out.cells;clear hb) | (go_at_call 66;(with_reducible refine (qd6 f _ _ HV.out ?_).mono ?_);(have:=qca f;have:=HSZ.out;omega);rintro e U ⟨rfl,hb⟩;clear x0 x1 x2 x3 x4 xl;replace HV:=hid (HV.out.any hb);replace HBX:=hid (HBX.out.below hb);replace HBW:=hid (HBW.out.trans (hb.mono HBW.out.size));obtain ⟨x0,x1,x2,x3,x4,xl⟩:=HBX.out.cells;clear hb) | (go_at_call 67;(with_reducible refine (qhs (D:=qbw) (f:=f) true ?_ ?_ ?_).mono ?_);exact hc2.out;(have:=HSZ.out;omega);exact HV.out;rintro e U ⟨rfl,hb⟩;clear x0 x1 x2 x3 x4 xl;replace HV:=hid (HV.out.any hb);replace HBX:=hid (HBX.out.below hb);replace HBW:=hid (HBW.out.trans (hb.mono HBW.out.size));obtain ⟨x0,x1,x2,x3,x4,xl⟩:=HBX.out.cells;clear hb) | (go_at_call 95;(with_reducible refine (rcore_r (D:=qbw) (f:=f) false ?_ ?_ ?_).mono ?_);exact hc3.out;exact hc2.out;exact HV.out;rintro e U ⟨rfl,hb⟩;clear x0 x1 x2 x3 x4 xl;replace HV:=hid (HV.out.any hb);replace HBX:=hid (HBX.out.below hb);replace HBW:=hid (HBW.out.trans (hb.mono HBW.out.size));obtain ⟨x0,x1,x2,x3,x4,xl⟩:=HBX.out.cells;clear hb))
  go_ret
  exact ⟨qaj HR.out.symm,HBW.out⟩
 have hc3:=hid c3
 clear c3
 cases c4:layL f
 ·have hc4:=hid c4
  clear c4
  have HR:=hid (show qfr f=false by unfold qfr;rw [hc0.out,hc1.out,hc2.out,hc3.out,hc4.out];rfl)
  go_wp2_with (first | (go_at_call 7;(with_reducible refine (qem (D:=qbw) (f:=f) 400 400 rfl ?_ true ?_ ?_).mono ?_);decide;exact hc0.out;exact HV.out;rintro e U ⟨rfl,hb⟩;clear x0 x1 x2 x3 x4 xl;replace HV:=hid (HV.out.any hb);replace HBX:=hid (HBX.out.below hb);replace HBW:=hid (HBW.out.trans (hb.mono HBW.out.size));obtain ⟨x0,x1,x2,x3,x4,xl⟩:=HBX.out.cells;clear hb) | (go_at_call 66;(with_reducible refine (qd6 f _ _ HV.out ?_).mono ?_);(have:=qca f;have:=HSZ.out;omega);rintro e U ⟨rfl,hb⟩;clear x0 x1 x2 x3 x4 xl;replace HV:=hid (HV.out.any hb);replace HBX:=hid (HBX.out.below hb);replace HBW:=hid (HBW.out.trans (hb.mono HBW.out.size));obtain ⟨x0,x1,x2,x3,x4,xl⟩:=HBX.out.cells;clear hb) | (go_at_call 67;(with_reducible refine (qhs (D:=qbw) (f:=f) true ?_ ?_ ?_).mono ?_);exact hc2.out;(have:=HSZ.out;omega);exact HV.out;rintro e U ⟨rfl,hb⟩;clear x0 x1 x2 x3 x4 xl;replace HV:=hid (HV.out.any hb);replace HBX:=hid (HBX.out.below hb);replace HBW:=hid (HBW.out.trans (hb.mono HBW.out.size));obtain ⟨x0,x1,x2,x3,x4,xl⟩:=HBX.out.cells;clear hb) | (go_at_call 95;(with_reducible refine (rcore_r (D:=qbw) (f:=f) true ?_ ?_ ?_).mono ?_);exact hc3.out;exact hc2.out;exact HV.out;rintro e U ⟨rfl,hb⟩;clear x0 x1 x2 x3 x4 xl;replace HV:=hid (HV.out.any hb);replace HBX:=hid (HBX.out.below hb);replace HBW:=hid (HBW.out.trans (hb.mono HBW.out.size));obtain ⟨x0,x1,x2,x3,x4,xl⟩:=HBX.out.cells;clear hb) | (go_at_call 53;(with_reducible refine (rlay_r (D:=qbw) (f:=f) false ?_ ?_).mono ?_);exact hc4.out;exact HV.out;rintro e U ⟨rfl,hb⟩;clear x0 x1 x2 x3 x4 xl;replace HV:=hid (HV.out.any hb);replace HBX:=hid (HBX.out.below hb);replace HBW:=hid (HBW.out.trans (hb.mono HBW.out.size));obtain ⟨x0,x1,x2,x3,x4,xl⟩:=HBX.out.cells;clear hb))
  go_ret
  exact ⟨qaj HR.out.symm,HBW.out⟩
 have hc4:=hid c4
 clear c4
 have HR:=hid (show qfr f=true by unfold qfr;rw [hc0.out,hc1.out,hc2.out,hc3.out,hc4.out];rfl)
 go_wp2_with (first | (go_at_call 7;(with_reducible refine (qem (D:=qbw) (f:=f) 400 400 rfl ?_ true ?_ ?_).mono ?_);decide;exact hc0.out;exact HV.out;rintro e U ⟨rfl,hb⟩;clear x0 x1 x2 x3 x4 xl;replace HV:=hid (HV.out.any hb);replace HBX:=hid (HBX.out.below hb);replace HBW:=hid (HBW.out.trans (hb.mono HBW.out.size));obtain ⟨x0,x1,x2,x3,x4,xl⟩:=HBX.out.cells;clear hb) | (go_at_call 66;(with_reducible refine (qd6 f _ _ HV.out ?_).mono ?_);(have:=qca f;have:=HSZ.out;omega);rintro e U ⟨rfl,hb⟩;clear x0 x1 x2 x3 x4 xl;replace HV:=hid (HV.out.any hb);replace HBX:=hid (HBX.out.below hb);replace HBW:=hid (HBW.out.trans (hb.mono HBW.out.size));obtain ⟨x0,x1,x2,x3,x4,xl⟩:=HBX.out.cells;clear hb) | (go_at_call 67;(with_reducible refine (qhs (D:=qbw) (f:=f) true ?_ ?_ ?_).mono ?_);exact hc2.out;(have:=HSZ.out;omega);exact HV.out;rintro e U ⟨rfl,hb⟩;clear x0 x1 x2 x3 x4 xl;replace HV:=hid (HV.out.any hb);replace HBX:=hid (HBX.out.below hb);replace HBW:=hid (HBW.out.trans (hb.mono HBW.out.size));obtain ⟨x0,x1,x2,x3,x4,xl⟩:=HBX.out.cells;clear hb) | (go_at_call 95;(with_reducible refine (rcore_r (D:=qbw) (f:=f) true ?_ ?_ ?_).mono ?_);exact hc3.out;exact hc2.out;exact HV.out;rintro e U ⟨rfl,hb⟩;clear x0 x1 x2 x3 x4 xl;replace HV:=hid (HV.out.any hb);replace HBX:=hid (HBX.out.below hb);replace HBW:=hid (HBW.out.trans (hb.mono HBW.out.size));obtain ⟨x0,x1,x2,x3,x4,xl⟩:=HBX.out.cells;clear hb) | (go_at_call 53;(with_reducible refine (rlay_r (D:=qbw) (f:=f) true ?_ ?_).mono ?_);exact hc4.out;exact HV.out;rintro e U ⟨rfl,hb⟩;clear x0 x1 x2 x3 x4 xl;replace HV:=hid (HV.out.any hb);replace HBX:=hid (HBX.out.below hb);replace HBW:=hid (HBW.out.trans (hb.mono HBW.out.size));obtain ⟨x0,x1,x2,x3,x4,xl⟩:=HBX.out.cells;clear hb))
 go_ret
 exact ⟨qaj HR.out.symm,HBW.out⟩
end Go.Proofs.YtdakdpfofgkjoaaGreatDoor
namespace Go.Proofs.YtdakdpfofgkjoaaGreatDoor
structure Sg where
 name:ByteArray
 inp:Bool
 size:Int
instance:Inhabited Sg:=⟨⟨⟨#[]⟩,false,0⟩⟩
def qa7 (s:ByteArray):List ByteArray→Nat
 | []=>0
 | a :: l=>if a=s then 0 else qa7 s l+1
theorem firstN_lt {s:ByteArray} : ∀ {l:List ByteArray},qa7 s l < l.length ↔ s∈l
 | []=>by simp [qa7]
 | a :: l=>by
  rw [qa7]
  by_cases h:a=s
  ·simp [h]
  ·rw [if_neg h,List.length_cons,Nat.add_lt_add_iff_right,firstN_lt,List.mem_cons]
   simp [show ¬ s=a from fun e=>h e.symm]
theorem qhf {s:ByteArray} : ∀ {l:List ByteArray},qa7 s l < l.length→l.getD (qa7 s l) ⟨#[]⟩=s
 | [],h=>by simp [qa7] at h
 | a :: l,h=>by
  rw [qa7] at h ⊢
  by_cases e:a=s
  ·rw [if_pos e];exact e
  ·rw [if_neg e] at h ⊢
   rw [List.getD_cons_succ]
   exact qhf (by simpa using h)
theorem qj5 {s:ByteArray} : ∀ {l:List ByteArray} {k:Nat},k < qa7 s l→l.getD k ⟨#[]⟩≠s
 | [],k,h=>by simp [qa7] at h
 | a :: l,k,h=>by
  rw [qa7] at h
  by_cases e:a=s
  ·rw [if_pos e] at h;omega
  ·rw [if_neg e] at h
   cases k with
   | zero=>exact e
   | succ k=>rw [List.getD_cons_succ];exact qj5 (by omega)
theorem qhe {s:ByteArray} {l:List ByteArray} {k:Nat} (hk:k < l.length) (h:l.getD k ⟨#[]⟩=s):qa7 s l≤k:=by
 by_cases hl:k < qa7 s l
 ·exact absurd h (qj5 hl)
 ·omega
theorem firstN_eq {s:ByteArray} {l:List ByteArray} {k:Nat} (hk:k < l.length) (h:l.getD k ⟨#[]⟩=s) (hm : ∀ j,j < k→l.getD j ⟨#[]⟩≠s):qa7 s l=k:=by
 have h1:=qhe hk h
 have h2 : ¬ qa7 s l < k:=fun hl=>hm _ hl (qhf (Nat.lt_of_lt_of_le hl (Nat.le_of_lt hk)))
 omega
theorem qf8 {s:ByteArray} {l:List ByteArray} {k:Nat} (hk:k≤l.length):k≤qa7 s l ↔ ∀ j,j < k→l.getD j ⟨#[]⟩≠s:=by
 constructor
 ·intro h j hj;exact qj5 (by omega)
 ·intro h
  rcases Nat.lt_or_ge (qa7 s l) k with hl | hl
  ·exact absurd (qhf (by omega)) (h _ hl)
  ·exact hl
def qjn (l:List Sg):List ByteArray:=l.map Sg.name
theorem qgg (l:List Sg):(qjn l).length=l.length:=List.length_map ..
theorem qfz {l:List Sg} (k:Nat) (hk:k < l.length):(qjn l).getD k ⟨#[]⟩=(l.getD k default).name:=by
 simp [qjn,List.getD,hk]
def qe7 (l:List Sg) (s:ByteArray):Nat:=qa7 s (qjn l)
def qfw (l:List Sg) (s:ByteArray):Int:=if qe7 l s < l.length then (qe7 l s:Int) else -1
def prodS:List Sg→Int
 | []=>1
 | a :: l=>a.size * prodS l
theorem qkk : ∀ l m:List Sg,prodS (l ++ m)=prodS l * prodS m
 | [],m=>by simp [prodS]
 | a :: l,m=>by simp only [List.cons_append,prodS,qkk l m,Int.mul_assoc]
def sgOk (l:List Sg) (i:Nat):Bool:=nameB (l.getD i default).name && decide (2≤(l.getD i default).size) && decide ((l.getD i default).size≤4) && decide (i≤qe7 l (l.getD i default).name)
def qcf (l:List Sg):Bool:=decide (1≤l.length) && decide (l.length≤6) && qkb l.length (sgOk l) && decide (prodS l≤64)
def qez (o:Int):Bool:=decide (15≤o) && decide (o≤19)
def qbn (l:List Sg) (f:Fm):Int :=
 if f.op=3 then (if qe7 l f.name < l.length then (if (l.getD (qe7 l f.name) default).size≤f.val then 71 else 0) else 70)
 else if qez f.op then (if f.args.all (allB qff) then 0 else 72) else 0
def qfi (l:List Sg):List (Fm × Bool)→Int
 | []=>0
 | x :: r=>if qbn l x.1=0 then qfi l r else qbn l x.1
def qax (l:List Sg) (f:Fm):Int :=
 if qcf l then (if qb5 f then (if qfi l (qdl false f)=0 then (if (qba f).2=0 then 0 else 2) else qfi l (qdl false f)) else 30) else 1
structure Rq where
 part:ByteArray
 name:ByteArray
 kind:Int
 f:Fm
instance:Inhabited Rq:=⟨⟨⟨#[]⟩,⟨#[]⟩,0,default⟩⟩
def qde (r:Rq):Bool:=(decide (r.kind=1) || decide (r.kind=2)) && nameB r.part && nameB r.name
def qbe (rs:List Rq):List ByteArray:=rs.map Rq.name
theorem qc8 (l:List Rq):(qbe l).length=l.length:=List.length_map ..
theorem qeh {l:List Rq} (k:Nat) (hk:k < l.length):(qbe l).getD k ⟨#[]⟩=(l.getD k default).name:=by
 simp [qbe,List.getD,hk]
def qb3 (l:List Sg) (rs:List Rq) (i:Nat):Int :=
 if qde (rs.getD i default) then (if qa7 (rs.getD i default).name (qbe rs) < i then 4 else qax l (rs.getD i default).f) else 1
def qc9 (l:List Sg) (rs:List Rq) (k:Nat):List (Int × Int):=(List.range k).flatMap fun i=>if qb3 l rs i=0 then [] else [((i:Int),qb3 l rs i)]
def qcp (l:List Sg) (rs:List Rq):List (Int × Int):=if qcf l then (if rs.length≤16 then qc9 l rs rs.length else [(-1,2)]) else [(-1,1)]
def qb4 (rs:List Rq):List Fm:=(rs.filter fun r=>decide (r.kind=1)).map fun r=>notZ (qba r.f).1
def qbh (rs:List Rq):List Fm:=(rs.filter fun r => !decide (r.kind=1)).map fun r=>(qba r.f).1
def lastZ (rs:List Rq):Fm × Int :=
 if (qbq 5 (qbh rs)).op=0 then (qbb,2) else if (qbq 6 (qb4 rs ++ [qbq 5 (qbh rs)])).op=0 then (qbb,2) else (qbq 6 (qb4 rs ++ [qbq 5 (qbh rs)]),0)
def qee (l:List Sg) (rs:List Rq):Fm × Int :=
 match qcp l rs with
 | []=>lastZ rs
 | x :: _=>(qbb,x.2)
def errQ (l:List Sg) (x:Fm × Bool):Bool:=decide (qbn l x.1=0)
theorem errL_zero (l:List Sg) : ∀ L:List (Fm × Bool),qfi l L=0 ↔ L.all (errQ l)=true
 | []=>by simp [qfi]
 | x :: r=>by
  rw [qfi,List.all_cons,Bool.and_eq_true,←errL_zero l r]
  unfold errQ
  by_cases h:qbn l x.1=0
  ·simp [h]
  ·simp [h]
theorem formErr_zero {l:List Sg} {f:Fm} : qax l f=0 ↔ qcf l=true∧qb5 f=true∧allB (errQ l) f=true∧(qba f).2=0:=by
 unfold qax allB
 rw [←errL_zero]
 by_cases h1:qcf l=true
 ·rw [if_pos h1]
  by_cases h2:qb5 f=true
  ·rw [if_pos h2]
   by_cases h3:qfi l (qdl false f)=0
   ·rw [if_pos h3]
    by_cases h4:(qba f).2=0
    ·simp [h1,h2,h3,h4]
    ·simp [h4]
   ·rw [if_neg h3];simp [h3]
  ·rw [if_neg h2];simp [h2]
 ·rw [if_neg h1];simp [h1]
theorem err_arg {l:List Sg} {f g:Fm} (hg:g∈f.args) (h:allB (errQ l) f=true):allB (errQ l) g=true:=allB_arg (q:=errQ l) (fun _ h=>h) hg h
end Go.Proofs.YtdakdpfofgkjoaaGreatDoor
namespace Go.Proofs.YtdakdpfofgkjoaaGreatDoor
theorem loose_op {f:Fm} (h:qa3 f=true):f.op≠0:=by
 have h1:=qjh _ (qay.1 (qcj h).2.2).1
 simpa [nzQ] using h1
theorem connZ_ok {op:Int} (hop:op=5∨op=6) {l:List Fm} (h:(qbq op l).op≠0) :
  (∀ g,g∈l→qa3 g=true)∧qa3 (qbq op l)=true∧Can (qbq op l)∧qbq op l=qbm op (l.map qak):=by
 unfold qbq at h ⊢
 by_cases h1:l.all qa3=true
 ·rw [if_pos h1] at h ⊢
  by_cases h2:qa3 (qbm op (l.map qak))=true
  ·rw [if_pos h2]
   have h3:=List.all_eq_true.1 h1
   exact ⟨h3,h2,joinZ_can hop fun g hg=>by
    obtain ⟨x,hx,rfl⟩:=List.mem_map.1 hg
    exact qi1 (h3 x hx),rfl⟩
  ·rw [if_neg h2] at h
   exact absurd rfl h
 ·rw [if_neg h1] at h
  exact absurd rfl h
theorem connZ_one {op:Int} (hop:op=5∨op=6) {c:Fm} (h:qa3 c=true) (hc:Can c):qbq op [c]=c:=by
 have e2:qbm op ([c].map qak)=c:=by
  rw [List.map_cons,hc.qak];exact joinZ_one hop hc
 unfold qbq
 rw [if_pos (by simp [h]),e2,if_pos h]
structure Good (l:List Sg) (rs:List Rq):Prop where
 valid:qcf l=true
 len:rs.length≤16
 words : ∀ r,r∈rs→qde r=true
 fits : ∀ r,r∈rs→qax l r.f=0
 names:(qbe rs).Nodup
theorem getD_mem {α : Type} [Inhabited α] {l:List α} {i:Nat} (h:i < l.length):l.getD i default∈l:=by
 simp [List.getD,h]
theorem mem_getD {α : Type} [Inhabited α] {l:List α} {x : α} (h:x∈l) : ∃ i,i < l.length∧l.getD i default=x:=by
 obtain ⟨i,hi,rfl⟩:=List.getElem_of_mem h
 exact ⟨i,hi,by simp [List.getD,hi]⟩
theorem nodup_first {L:List ByteArray} : L.Nodup ↔ ∀ i,i < L.length→i≤qa7 (L.getD i ⟨#[]⟩) L:=by
 unfold List.Nodup
 rw [List.pairwise_iff_getElem]
 constructor
 ·intro h i hi
  rw [qf8 (Nat.le_of_lt hi)]
  intro j hj e
  have:=h j i (by omega) hi hj
  simp [List.getD,hi,show j < L.length by omega] at e
  exact this e
 ·intro h i j hi hj hij e
  have:=(qf8 (Nat.le_of_lt hj)).1 (h j hj) i hij
  simp [List.getD,hi,hj] at this
  exact this e
theorem qfe {l:List Sg} {rs:List Rq} {i:Nat} (hi:i < rs.length):qb3 l rs i=0 ↔ qde (rs.getD i default)=true∧i≤qa7 (rs.getD i default).name (qbe rs)∧qax l (rs.getD i default).f=0:=by
 unfold qb3
 by_cases h1:qde (rs.getD i default)=true
 ·rw [if_pos h1]
  by_cases h2:qa7 (rs.getD i default).name (qbe rs) < i
  ·rw [if_pos h2]
   constructor
   ·intro h;cases h
   ·intro h;omega
  ·rw [if_neg h2]
   exact ⟨fun h=>⟨h1,by omega,h⟩,fun h=>h.2.2⟩
 ·rw [if_neg h1]
  constructor
  ·intro h;cases h
  ·intro h;exact absurd h.1 h1
theorem faultsTo_nil {l:List Sg} {rs:List Rq} {k:Nat} : qc9 l rs k = [] ↔ ∀ i,i < k→qb3 l rs i=0:=by
 unfold qc9
 rw [List.flatMap_eq_nil_iff]
 constructor
 ·intro h i hi
  have:=h i (List.mem_range.2 hi)
  by_cases e:qb3 l rs i=0
  ·exact e
  ·rw [if_neg e] at this;cases this
 ·intro h i hi
  rw [if_pos (h i (List.mem_range.1 hi))]
theorem qb7 (l:List Sg) (rs:List Rq) (k:Nat):qc9 l rs (k+1)=qc9 l rs k ++ (if qb3 l rs k=0 then [] else [((k:Int),qb3 l rs k)]):=by
 unfold qc9
 rw [List.range_succ,List.flatMap_append]
 simp
theorem qhg (l:List Sg) (rs:List Rq) : ∀ k,(qc9 l rs k).length≤k
 | 0=>by simp [qc9]
 | k+1=>by
  rw [qb7,List.length_append]
  have:=qhg l rs k
  split
  ·simp;omega
  ·simp;omega
theorem check_nil {l:List Sg} {rs:List Rq} : qcp l rs = [] ↔ Good l rs:=by
 unfold qcp
 by_cases h1:qcf l=true
 ·rw [if_pos h1]
  by_cases h2:rs.length≤16
  ·rw [if_pos h2,faultsTo_nil]
   constructor
   ·intro h
    refine ⟨h1,h2,fun r hr => ?_,fun r hr => ?_,nodup_first.2 fun i hi => ?_⟩
    ·obtain ⟨i,hi,rfl⟩:=mem_getD hr
     exact ((qfe hi).1 (h i hi)).1
    ·obtain ⟨i,hi,rfl⟩:=mem_getD hr
     exact ((qfe hi).1 (h i hi)).2.2
    ·rw [qc8] at hi
     rw [qeh i hi]
     exact ((qfe hi).1 (h i hi)).2.1
   ·intro h i hi
    rw [qfe hi]
    refine ⟨h.words _ (getD_mem hi),?_,h.fits _ (getD_mem hi)⟩
    have:=nodup_first.1 h.names i (by rw [qc8];exact hi)
    rw [qeh i hi] at this
    exact this
  ·rw [if_neg h2]
   exact ⟨(fun h=>by cases h),fun h=>absurd h.len h2⟩
 ·rw [if_neg h1]
  exact ⟨(fun h=>by cases h),fun h=>absurd h.valid h1⟩
theorem goal_good {l:List Sg} {rs:List Rq} (h:Good l rs):qee l rs=lastZ rs:=by
 unfold qee
 rw [check_nil.2 h]
def FitsN (l:List Sg) (f:Fm):Prop:=qcf l=true∧qb5 f=true∧allB (errQ l) f=true
theorem FitsN.arg {l:List Sg} {f g:Fm} (h:FitsN l f) (hg:g∈f.args):FitsN l g:=⟨h.1,valid_arg hg h.2.1,err_arg hg h.2.2⟩
end Go.Proofs.YtdakdpfofgkjoaaGreatDoor
namespace Go.Proofs.YtdakdpfofgkjoaaGreatDoor
def nm (i:Nat):ByteArray:=⟨#[UInt8.ofNat (97+i),95,120]⟩
theorem parts_mem {rs:List Rq} {x:Fm} : x∈qb4 rs ↔ ∃ r,r∈rs∧r.kind=1∧x=notZ (qba r.f).1:=by
 unfold qb4
 rw [List.mem_map]
 constructor
 ·rintro ⟨r,hr,rfl⟩
  rw [List.mem_filter,decide_eq_true_eq] at hr
  exact ⟨r,hr.1,hr.2,rfl⟩
 ·rintro ⟨r,h1,h2,rfl⟩
  exact ⟨r,List.mem_filter.2 ⟨h1,decide_eq_true h2⟩,rfl⟩
theorem guars_mem {rs:List Rq} {x:Fm} : x∈qbh rs ↔ ∃ r,r∈rs∧r.kind≠1∧x=(qba r.f).1:=by
 unfold qbh
 rw [List.mem_map]
 constructor
 ·rintro ⟨r,hr,rfl⟩
  rw [List.mem_filter] at hr
  exact ⟨r,hr.1,by simpa using hr.2,rfl⟩
 ·rintro ⟨r,h1,h2,rfl⟩
  exact ⟨r,List.mem_filter.2 ⟨h1,by simpa using h2⟩,rfl⟩
theorem last_of {rs:List Rq} (h1:(qbq 5 (qbh rs)).op≠0) (h2:(qbq 6 (qb4 rs ++ [qbq 5 (qbh rs)])).op≠0):lastZ rs=(qbq 6 (qb4 rs ++ [qbq 5 (qbh rs)]),0):=by
 unfold lastZ
 rw [if_neg h1,if_neg h2]
theorem parts_append (rs ss:List Rq):qb4 (rs ++ ss)=qb4 rs ++ qb4 ss:=by unfold qb4;rw [List.filter_append,List.map_append]
theorem guars_append (rs ss:List Rq):qbh (rs ++ ss)=qbh rs ++ qbh ss:=by unfold qbh;rw [List.filter_append,List.map_append]
end Go.Proofs.YtdakdpfofgkjoaaGreatDoor
namespace Go.Proofs.YtdakdpfofgkjoaaGreatDoor
open Go.RowKit
def qfh (s:Sg):List Value := [.string s.name,.bool s.inp,.int .i64 s.size]
def RdG (w:World) (D:Dom) (A:Option Addr) (c:Nat) (l:List Sg):Prop:=Rd w D 3 A l.length c (l.flatMap qfh)
section
variable {D E:Dom} {w w':World} {A:Option Addr} {c:Nat} {l:List Sg}
theorem RdG.nil (w:World) (D:Dom) (A:Option Addr) {c:Nat} (hc:c≤9223372036854775807):RdG w D A c []:=Rd.nil w D 3 A hc
theorem RdG.len (h:RdG w D A c l):l.length≤140737488355328∧l.length≤c∧c≤9223372036854775807:=h.1.2
theorem RdG.keep (h:RdG w D A c l) (hk:Keeps D w w'):RdG w' D A c l:=Rd.keep h hk
theorem RdG.mono (h:RdG w D A c l) (hE : ∀ b,D b→b < w.heap.size→E b):RdG w E A c l:=Rd.mono h hE
theorem RdG.old (h:RdG w D A c l):RdG w (· < w.heap.size) A c l:=Rd.old h
theorem RdG.any (h:RdG w D A c l) (hb:Below w.heap.size w w'):RdG w' qbw A c l:=(h.old.keep (Keeps.of_below hb fun _ h=>h)).mono fun _ _ _=>trivial
theorem RdG.get {k:Nat} (h:RdG w D A c l) (hk:k < l.length) : ∃ b o s,A=some ⟨b,o,none⟩∧b < w.heap.size∧Hid (l.getD k default=s) ∧
  w.cell? ⟨b,o+k * 3,none⟩=some (.string s.name)∧w.cell? ⟨b,o+k * 3+1,none⟩=some (.bool s.inp)∧w.cell? ⟨b,o+k * 3+2,none⟩=some (.int .i64 s.size):=by
 obtain ⟨b,o,e,hb,hl,hc⟩:=h.2 (by omega)
 have g : ∀ j u,j < 3→(qfh (l.getD k default))[j]? = some u→w.cell? ⟨b,o+(k * 3+j),none⟩=some u:=fun j u hj hu=>hc _ _ (by rw [qhx qfh default 3 (fun _=>rfl) l k j hk hj];exact hu)
 have g0:=g 0 _ (by omega) rfl
 have g1:=g 1 _ (by omega) rfl
 have g2:=g 2 _ (by omega) rfl
 exact ⟨b,o,l.getD k default,e,hl,hid rfl,by simpa using g0,by simpa [Nat.add_assoc] using g1,by simpa [Nat.add_assoc] using g2⟩
end
def qh6 (r:Rq) (s:Option Addr × Nat):List Value := [.string r.part,.string r.name,.int .i64 r.kind,.int .i64 r.f.op,.string r.f.name,.int .i64 r.f.val,.int .i64 r.f.bound,.slice s.1 r.f.args.length s.2]
def qft (l:List Rq) (sl:List (Option Addr × Nat)):List Value:=(l.zip sl).flatMap fun p=>qh6 p.1 p.2
def RdR (w:World) (D:Dom) (A:Option Addr) (c:Nat) (l:List Rq):Prop :=
 ∃ sl:List (Option Addr × Nat),sl.length=l.length∧Rd w D 8 A l.length c (qft l sl) ∧ ∀ i,i < l.length→RdA w D (l.getD i default).f.args (sl.getD i (none,0)).1 (sl.getD i (none,0)).2
theorem zipQ_get {L:List Rq} {sl:List (Option Addr × Nat)} (hl:sl.length=L.length) {k:Nat} (hk:k < L.length):(L.zip sl).getD k (default,(none,0))=(L.getD k default,sl.getD k (none,0)):=by
 have hs:k < sl.length:=by omega
 have hzk:k < (L.zip sl).length:=by rw [List.length_zip];omega
 rw [List.getD_eq_getElem?_getD,List.getD_eq_getElem?_getD,List.getD_eq_getElem?_getD,List.getElem?_eq_getElem hzk,List.getElem?_eq_getElem hk,List.getElem?_eq_getElem hs]
 exact List.getElem_zip
theorem cellsQ_at {L:List Rq} {sl:List (Option Addr × Nat)} (hl:sl.length=L.length) {k j:Nat} (hk:k < L.length) (hj:j < 8):(qft L sl)[k * 8+j]? = (qh6 (L.getD k default) (sl.getD k (none,0)))[j]? := by
 unfold qft
 rw [qhx (fun p:Rq × (Option Addr × Nat)=>qh6 p.1 p.2) (default,((none:Option Addr),0)) 8 (fun _=>rfl) (L.zip sl) k j (by rw [List.length_zip,hl];omega) hj,zipQ_get hl hk]
structure HasR (w:World) (D:Dom) (b o:Nat) (r:Rq) (A:Option Addr) (c:Nat):Prop where
 dom:D b
 lt:b < w.heap.size
 c0:w.cell? ⟨b,o,none⟩=some (.string r.part)
 c1:w.cell? ⟨b,o+1,none⟩=some (.string r.name)
 c2:w.cell? ⟨b,o+2,none⟩=some (.int .i64 r.kind)
 c3:w.cell? ⟨b,o+3,none⟩=some (.int .i64 r.f.op)
 c4:w.cell? ⟨b,o+4,none⟩=some (.string r.f.name)
 c5:w.cell? ⟨b,o+5,none⟩=some (.int .i64 r.f.val)
 c6:w.cell? ⟨b,o+6,none⟩=some (.int .i64 r.f.bound)
 c7:w.cell? ⟨b,o+7,none⟩=some (.slice A r.f.args.length c)
 args:RdA w D r.f.args A c
section
variable {D E:Dom} {w w':World} {A:Option Addr} {c:Nat} {l:List Rq}
theorem RdR.nil (w:World) (D:Dom) (A:Option Addr) {c:Nat} (hc:c≤9223372036854775807):RdR w D A c []:=⟨[],rfl,Rd.nil w D 8 A hc,fun _ h=>absurd h (Nat.not_lt_zero _)⟩
theorem RdR.len (h:RdR w D A c l):l.length≤140737488355328∧l.length≤c∧c≤9223372036854775807:=let ⟨_,_,h1,_⟩:=h;h1.1.2
theorem RdR.keep (h:RdR w D A c l) (hk:Keeps D w w'):RdR w' D A c l:=let ⟨sl,h0,h1,h2⟩:=h;⟨sl,h0,h1.keep hk,fun i hi=>(h2 i hi).keep hk⟩
theorem RdR.mono (h:RdR w D A c l) (hE : ∀ b,D b→b < w.heap.size→E b):RdR w E A c l:=let ⟨sl,h0,h1,h2⟩:=h;⟨sl,h0,h1.mono hE,fun i hi=>(h2 i hi).mono hE⟩
theorem RdR.old (h:RdR w D A c l):RdR w (· < w.heap.size) A c l:=h.mono fun _ _ hl=>hl
theorem RdR.any (h:RdR w D A c l) (hb:Below w.heap.size w w'):RdR w' qbw A c l:=(h.old.keep (Keeps.of_below hb fun _ h=>h)).mono fun _ _ _=>trivial
theorem RdR.get {k:Nat} (h:RdR w D A c l) (hk:k < l.length) : ∃ b o A' c' r,A=some ⟨b,o,none⟩∧Hid (l.getD k default=r)∧HasR w D b (o+k * 8) r A' c':=by
 obtain ⟨sl,h0,h1,h2⟩:=h
 obtain ⟨b,o,e,hb,hl,hc⟩:=h1.2 (by omega)
 have g : ∀ j u,j < 8→(qh6 (l.getD k default) (sl.getD k (none,0)))[j]? = some u→w.cell? ⟨b,o+(k * 8+j),none⟩=some u:=fun j u hj hu=>hc _ _ (by rw [cellsQ_at h0 hk hj];exact hu)
 have g0:=g 0 _ (by omega) rfl
 have g1:=g 1 _ (by omega) rfl
 have g2:=g 2 _ (by omega) rfl
 have g3:=g 3 _ (by omega) rfl
 have g4:=g 4 _ (by omega) rfl
 have g5:=g 5 _ (by omega) rfl
 have g6:=g 6 _ (by omega) rfl
 have g7:=g 7 _ (by omega) rfl
 exact ⟨b,o,_,_,l.getD k default,e,hid rfl,hb,hl,by simpa using g0,by simpa [Nat.add_assoc] using g1,by simpa [Nat.add_assoc] using g2,by simpa [Nat.add_assoc] using g3,by simpa [Nat.add_assoc] using g4,by simpa [Nat.add_assoc] using g5,by simpa [Nat.add_assoc] using g6,by simpa [Nat.add_assoc] using g7,h2 k hk⟩
end
theorem HasR.keep {w w':World} {D:Dom} {b o:Nat} {r:Rq} {A:Option Addr} {c:Nat} (h:HasR w D b o r A c) (hk:Keeps D w w'):HasR w' D b o r A c :=
 ⟨h.dom,Nat.lt_of_lt_of_le h.lt hk.size,hk.cell h.dom h.c0,hk.cell h.dom h.c1,hk.cell h.dom h.c2,hk.cell h.dom h.c3,hk.cell h.dom h.c4,hk.cell h.dom h.c5,hk.cell h.dom h.c6,hk.cell h.dom h.c7,h.args.keep hk⟩
theorem HasR.form {w:World} {D:Dom} {b o:Nat} {r:Rq} {A:Option Addr} {c:Nat} (h:HasR w D b o r A c):qfc w D b (o+3) r.f A c :=
 ⟨h.dom,h.lt,h.c3,h.c4,h.c5,h.c6,h.c7,h.args⟩
theorem HasR.any {w w':World} {D:Dom} {b o:Nat} {r:Rq} {A:Option Addr} {c:Nat} (h:HasR w D b o r A c) (hb:Below w.heap.size w w'):HasR w' qbw b o r A c:=by
 have hk:Keeps (· < w.heap.size) w w':=Keeps.of_below hb fun _ h=>h
 exact ⟨trivial,Nat.lt_of_lt_of_le h.lt hk.size,hk.cell h.lt h.c0,hk.cell h.lt h.c1,hk.cell h.lt h.c2,hk.cell h.lt h.c3,hk.cell h.lt h.c4,hk.cell h.lt h.c5,hk.cell h.lt h.c6,hk.cell h.lt h.c7,h.args.any hb⟩
end Go.Proofs.YtdakdpfofgkjoaaGreatDoor
namespace Go.Proofs.YtdakdpfofgkjoaaGreatDoor
open Go.RowKit
attribute [local go_sem] qad
theorem mul_small {P s:Int} (h1:1≤P) (h2:P≤4096) (h3:2≤s) (h4:s≤4):1≤P * s∧P * s≤4 * P:=by
 have:s=2∨s=3∨s=4:=by omega
 rcases this with rfl | rfl | rfl <;> omega
structure PrOk (l:List Sg) (i:Nat) (P:Int):Prop where
 is:P=prodS (l.take i)
 lo:1≤P
 hi:P≤4 ^ i
theorem PrOk.zero (l:List Sg):PrOk l 0 1:=⟨rfl,by omega,by decide⟩
theorem PrOk.succ {l:List Sg} {i:Nat} {P s:Int} (h:PrOk l i P) (hi:i < l.length) (h6:i < 6) (hs:(l.getD i default).size=s) (h2:2≤s) (h4:s≤4):PrOk l (i+1) (P * s):=by
 have hP:P≤4096:=by
  refine Int.le_trans h.hi ?_
  have:i=0∨i=1∨i=2∨i=3∨i=4∨i=5:=by omega
  rcases this with rfl | rfl | rfl | rfl | rfl | rfl <;> decide
 have hm:=mul_small h.lo hP h2 h4
 refine ⟨?_,hm.1,?_⟩
 ·rw [qan l default hi,qkk,←h.is]
  show P * s=P * ((l.getD i default).size * 1)
  rw [hs,Int.mul_one]
 ·have:=h.hi
  rw [Int.pow_succ]
  omega
theorem PrOk.wrap {l:List Sg} {i:Nat} {P s:Int} (h:PrOk l i P) (h6:i < 6) (h2:2≤s) (h4:s≤4):IntKind.i64.wrap (P * s)=P * s:=by
 have hP:P≤4096:=by
  refine Int.le_trans h.hi ?_
  have:i=0∨i=1∨i=2∨i=3∨i=4∨i=5:=by omega
  rcases this with rfl | rfl | rfl | rfl | rfl | rfl <;> decide
 have hm:=mul_small h.lo hP h2 h4
 exact IntWalk.i64_in _ (by omega)
theorem qkf {l:List Sg} {i:Nat} (hi:i < l.length) (h:sgOk l i=false):qcf l=false:=by
 unfold qcf
 rw [qa5 hi h]
 simp
theorem findN_le {l:List Sg} {s:ByteArray} {k:Nat} (hk:k < l.length) (h:(l.getD k default).name=s):qe7 l s≤k :=
 qhe (by rw [qgg];exact hk) (by rw [qfz k hk];exact h)
theorem findN_ge {l:List Sg} {s:ByteArray} {k:Nat} (hk:k≤l.length) (h : ∀ j,j < k→(l.getD j default).name≠s):k≤qe7 l s :=
 (qf8 (by rw [qgg];exact hk)).2 fun j hj=>by rw [qfz j (by omega)];exact h j hj
theorem svalid_any {D:Dom} (l:List Sg) (A:Option Addr) (c n:Nat) (w:World) (hn:n=l.length) (h:RdG w D A c l) (hk:GK w) :
  Calls Tryz.prog 36 #[.slice A n c] w fun e w'=>e = .returned (.bool (qcf l))∧Below w.heap.size w w':=by
 subst hn
 have hlen:=h.len.1
 have HH:=hid h.old
 have HK:=hid hk
 clear h hk
 by_cases h1:l.length < 1
 ·have HR:=hid (show qcf l=false by unfold qcf;rw [decide_eq_false (by omega)];rfl)
  have d1:decide ((l.length:Int) < 1)=true:=decide_eq_true (by omega)
  have d1':(l.length:Int) < 1:=by omega
  clear h1
  go_enter Tryz.func36,Tryz.ntmps36
  go_wp2_with fail
  go_step3
  go_wp2_with fail
  try rw [Exit.noGoto_ret]
  go_ret
  exact ⟨qaj HR.out.symm,by go_grown⟩
 by_cases h2:6 < l.length
 ·have HR:=hid (show qcf l=false by unfold qcf;rw [decide_eq_false (show ¬ l.length≤6 by omega)];simp)
  have d1' : ¬ (l.length:Int) < 1:=by omega
  have d2':6 < (l.length:Int):=by omega
  have d1:decide ((l.length:Int) < 1)=false:=decide_eq_false d1'
  have d2:decide (6 < (l.length:Int))=true:=decide_eq_true d2'
  clear h1 h2
  go_enter Tryz.func36,Tryz.ntmps36
  go_wp2_with fail
  go_step3
  go_wp2_with fail
  try rw [Exit.noGoto_ret]
  go_ret
  exact ⟨qaj HR.out.symm,by go_grown⟩
 have d1' : ¬ (l.length:Int) < 1:=by omega
 have d2' : ¬ 6 < (l.length:Int):=by omega
 have d1:decide ((l.length:Int) < 1)=false:=decide_eq_false d1'
 have d2:decide (6 < (l.length:Int))=false:=decide_eq_false d2'
 have H16:=hid (show 1≤l.length∧l.length≤6 by omega)
 clear h1 h2
 go_enter Tryz.func36,Tryz.ntmps36
 go_wp2_with fail
 go_step3
 go_wp2_with fail
 go_step3
 go_upto_region 5 with (fail)
 refine qai fun W hW => ?_
 have HB:=hid (show Below w.heap.size w W by rw [hW];go_grown)
 clear hW
 go_wp2_with fail
 go_loopw [3,4,17] (fun p r q wr => ∃ (i:Nat) (P:Int),i≤l.length∧p = .bool true∧q = .int .i64 (i:Int)∧r = .int .i64 P∧Hid (PrOk l i P)∧Hid (qck i (sgOk l))∧Below w.heap.size w wr) (fun _ _ q _=>l.length - (intOf q).toNat)
 case atStart=>exact ⟨0,1,Nat.zero_le _,rfl,rfl,rfl,PrOk.zero l,qck.zero _,HB.out⟩
 case round =>
  obtain ⟨i,P,hi,rfl,rfl,rfl,HP,HS,hb⟩:=hrel
  have HBL:=hid hb
  clear hb
  by_cases hlt:i < l.length
  ·have hii:(i:Int) < l.length:=by omega
   have HI6:=hid (show i < 6 by have:=H16.out;omega)
   have HLT:=hid hlt
   have HHr:=hid (HH.out.any HBL.out)
   obtain ⟨b,o,s,rfl,hlb,HX,x0,x1,x2⟩:=HHr.out.get hlt
   have hnm:=name_any s.name wr (HK.out.below HBL.out HK.out.pos)
   have HOK:=hid (show sgOk l i=(nameB s.name && decide (2≤s.size) && decide (s.size≤4) && decide (i≤qe7 l s.name)) by unfold sgOk;rw [HX.out])
   have HNAME:=hid (show (l.getD i default).name=s.name by rw [HX.out])
   have HSIZE:=hid (show (l.getD i default).size=s.size by rw [HX.out])
   clear HX
   cases hq:nameB s.name
   ·have HR:=hid (qkf HLT.out (by rw [HOK.out,hq];rfl))
    rw [hq] at hnm
    have HN:=hid hnm
    clear hnm hq
    go_wp2_with (go_at_call 60;(with_reducible refine HN.out.mono ?_);rintro e w2 ⟨rfl,hb2⟩;have HB2:=hid (HBL.out.trans (hb2.mono HBL.out.size));clear hb2)
    try rw [Exit.noGoto_ret]
    go_ret
    exact ⟨qaj HR.out.symm,HB2.out⟩
   rw [hq] at hnm
   have HN:=hid hnm
   have HQ:=hid hq
   clear hnm hq
   by_cases hs2:s.size < 2
   ·have HR:=hid (qkf HLT.out (by rw [HOK.out,decide_eq_false (show ¬ 2≤s.size by omega)];simp))
    go_wp2_with (go_at_call 60;(with_reducible refine HN.out.mono ?_);rintro e w2 ⟨rfl,hb2⟩;have y0:=(hb2.cell (p:=⟨b,o+i * 3,none⟩) hlb).trans x0;have y2:=(hb2.cell (p:=⟨b,o+i * 3+2,none⟩) hlb).trans x2;have hl2:=Nat.lt_of_lt_of_le hlb hb2.size;have HB2:=hid (HBL.out.trans (hb2.mono HBL.out.size));have HHr2:=hid (HHr.out.any hb2);clear hb2 x0 x1 x2 hlb)
    try rw [Exit.noGoto_ret]
    go_ret
    exact ⟨qaj HR.out.symm,HB2.out⟩
   by_cases hs4:4 < s.size
   ·have HR:=hid (qkf HLT.out (by rw [HOK.out,decide_eq_false (show ¬ s.size≤4 by omega)];simp))
    go_wp2_with (go_at_call 60;(with_reducible refine HN.out.mono ?_);rintro e w2 ⟨rfl,hb2⟩;have y0:=(hb2.cell (p:=⟨b,o+i * 3,none⟩) hlb).trans x0;have y2:=(hb2.cell (p:=⟨b,o+i * 3+2,none⟩) hlb).trans x2;have hl2:=Nat.lt_of_lt_of_le hlb hb2.size;have HB2:=hid (HBL.out.trans (hb2.mono HBL.out.size));have HHr2:=hid (HHr.out.any hb2);clear hb2 x0 x1 x2 hlb)
    try rw [Exit.noGoto_ret]
    go_ret
    exact ⟨qaj HR.out.symm,HB2.out⟩
   have HW:=hid (HP.out.wrap (s:=s.size) HI6.out (by omega) (by omega))
   have HPN:=hid (HP.out.succ HLT.out HI6.out HSIZE.out (by omega) (by omega))
   have HS24:=hid (show 2≤s.size∧s.size≤4 by omega)
   go_wp2_with (go_at_call 60;(with_reducible refine HN.out.mono ?_);rintro e w2 ⟨rfl,hb2⟩;have y0:=(hb2.cell (p:=⟨b,o+i * 3,none⟩) hlb).trans x0;have y2:=(hb2.cell (p:=⟨b,o+i * 3+2,none⟩) hlb).trans x2;have hl2:=Nat.lt_of_lt_of_le hlb hb2.size;have HB2:=hid (HBL.out.trans (hb2.mono HBL.out.size));have HHr2:=hid (HHr.out.any hb2);clear hb2 x0 x1 x2 hlb)
   have HY0:=hid y0
   have HY2:=hid y2
   have HL2:=hid hl2
   clear y0 y2 hl2 hs2 hs4
   obtain ⟨wi,hwi⟩ : ∃ wi,wi=w2:=⟨_,rfl⟩
   rw [←hwi] at HB2 HHr2 HY0 HY2 HL2 ⊢
   clear hwi
   go_loopw [3,44] (fun p q wr => ∃ k:Nat,k≤i∧p = .bool true∧q = .int .i64 (k:Int)∧Hid (qao wi wr)∧Hid (∀ j,j < k→(l.getD j default).name≠s.name)) (fun _ q _=>i - (intOf q).toNat)
   case atStart=>exact ⟨0,Nat.zero_le _,rfl,rfl,qao.refl _,fun j h=>absurd h (Nat.not_lt_zero _)⟩
   case round =>
    obtain ⟨k,hki,rfl,rfl,HD,HALL⟩:=hrel
    have HBD:=hid (HD.out.below wi.heap.size)
    have HH3:=hid (HHr2.out.any HBD.out)
    have z0:=(HBD.out.cell (p:=⟨b,o+i * 3,none⟩) HL2.out).trans HY0.out
    have z2:=(HBD.out.cell (p:=⟨b,o+i * 3+2,none⟩) HL2.out).trans HY2.out
    by_cases hk:k < i
    ·have hkk:(k:Int) < (i:Int):=by omega
     have hkn:(k:Int) < (l.length:Int):=by omega
     obtain ⟨b',o',t,he,hlt',HT,t0,t1,t2⟩:=HH3.out.get (k:=k) (by have:=HLT.out;omega)
     injection he with he
     injection he with hb' ho' _
     subst hb' ho'
     have HTN:=hid (show (l.getD k default).name=t.name by rw [HT.out])
     clear HT
     by_cases ht:t.name=s.name
     ·have d3:(t.name.toList == s.name.toList)=true:=qgb.2 ht
      have HR:=hid (qkf HLT.out (by
       rw [HOK.out,decide_eq_false (show ¬ i≤qe7 l s.name by
        have:=findN_le (l:=l) (s:=s.name) (k:=k) (by have:=HLT.out;omega) (by rw [HTN.out];exact ht)
        omega)]
       simp))
      have HDD:=hid HD.out
      clear ht
      go_upto_region 13 with (fail)
      go_quiet (fail)
      go_wp2_with fail
      try rw [Exit.noGoto_ret]
      go_ret
      exact ⟨qaj HR.out.symm,HB2.out.trans (((HD.out.drewN _).below _).mono HB2.out.size)⟩
     ·have d3:(t.name.toList == s.name.toList)=false:=by
       cases hb:(t.name.toList == s.name.toList)
       ·rfl
       ·exact absurd (qgb.1 hb) ht
      have HNE:=hid ht
      clear ht
      go_upto_region 13 with (fail)
      go_quiet (fail)
      go_wp2_with fail
      go_roundw
      case rel =>
       refine ⟨k+1,by omega,rfl,by go_num,HD.out.drewN _,fun j hj => ?_⟩
       by_cases e:j=k
       ·rw [e,HTN.out];exact HNE.out
       ·exact HALL.out j (by omega)
      case measure=>simp [intOf];omega
    ·have hkk : ¬ (k:Int) < (i:Int):=by omega
     have HOKT:=hid (show sgOk l i=true by
      rw [HOK.out,HQ.out,decide_eq_true HS24.out.1,decide_eq_true HS24.out.2,decide_eq_true (findN_ge (by have:=HLT.out;omega) fun j hj=>HALL.out j (by omega))]
      rfl)
     have hwr:=HW.out
     go_wp2_with fail
     go_roundw
     case rel=>exact ⟨i+1,P * s.size,by have:=HLT.out;omega,rfl,by go_num,(by first | rfl | rw [hwr]),HPN.out,HS.out.succ HOKT.out,HB2.out.trans (HBD.out.mono HB2.out.size)⟩
     case measure=>simp [intOf];omega
  ·have hii : ¬ (i:Int) < l.length:=by omega
   have HPR:=hid (show P=prodS l by have:=HP.out.is;rw [List.take_of_length_le (by omega)] at this;exact this)
   have HV:=hid (show qcf l=decide (P≤64) by
    unfold qcf
    rw [decide_eq_true H16.out.1,decide_eq_true H16.out.2,HS.out.all (by omega),←HPR.out];rfl)
   go_wp2_with fail
   try rw [Exit.noGoto_ret]
   go_ret
   exact ⟨qaj HV.out.symm,HBL.out⟩
end Go.Proofs.YtdakdpfofgkjoaaGreatDoor
