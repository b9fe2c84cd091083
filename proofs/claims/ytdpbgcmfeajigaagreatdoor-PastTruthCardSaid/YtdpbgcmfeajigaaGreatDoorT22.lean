/-
  Parts of a proof: KD XA XB XC X1 X2.
-/
import Derived.Test.YtdpbgcmfeajigaaGreatDoorT21
import Derived.Test.YtdpbgcmfeajigaaGreatDoorT18
import Derived.Test.YtdpbgcmfeajigaaGreatDoorT20
import Derived.WalkMore
import Derived.Test.YtdpbgcmfeajigaaGreatDoorT04
set_option linter.unusedSimpArgs false
set_option linter.unusedVariables false
set_option maxHeartbeats 8000000
set_option maxRecDepth 100000
namespace Go.Proofs.YtdpbgcmfeajigaaGreatDoor
open Go.RowKit Go.Shelf
attribute [local go_sem] ak
theorem RD (f:Fm):∀{D:Dom} (v:Value) (w:World) (h:bI w D v f) (hz:f.size<=1000000),Calls Tryz.prog 48 #[v] w fun e w'=>e = .returned (.bool (gI f))/\Below w.heap.size w w':=by
 refine Fm.induct (P:=fun f=>∀{D:Dom} (v:Value) (w:World) (h:bI w D v f) (hz:f.size<=1000000),Calls Tryz.prog 48 #[v] w fun e w'=>e = .returned (.bool (gI f))/\Below w.heap.size w w') ?_ f;intro f ih D v w h hz;have HIH:=hid ih;have qx:=hid (show gI f=(cu f&&pG f.args.length fun i=>gI (f.args.getD i default))from lK cu f);obtain⟨A,c,rfl,ha⟩:=h;have HA:=hid ha.old;have hal:=ha.len.1;clear ih ha
 go_enter Tryz.func48,Tryz.ntmps48
 go_upto_region 1 with(fail)
 refine aF fun W hW=>?_;have hbx:dF W w.heap.size f A c:=by rw[hW];exact dF.new w f A c
 have dO:=hid hbx;have aT:=hid (show Below w.heap.size w W by rw[hW];go_grown);obtain⟨x0,x1,x2,x3,x4,xl⟩:=hbx.cells;clear hW hbx;have HZ:=hid hz;have ZH:=hid (Vy f (.agg #[.int .i64 f.op,.string f.name,.int .i64 f.val,.int .i64 f.bound,.slice A f.args.length c]) W ⟨A,c,rfl,HA.out.keep (Keeps.of_below aT.out fun _ h=>h)⟩ (by have:=jg f.args;have:=Fm.size_eq f;unfold manyN;omega));clear hz;cases hs:cu f
 ·have HR:=hid (show gI f=false by rw[qx.out,hs];rfl)
  rw[hs]at ZH;clear hs;go_wp2_with (first|(go_at_call 92;(with_reducible refine ZH.out.mono ?_);rintro e w1 ⟨rfl,hb⟩))
  go_ret
  exact⟨aC HR.out.symm,aT.out.trans (hb.mono aT.out.size)⟩
 have HP:=hid hs;rw[hs]at ZH;clear hs;go_upto_region 3 with(first|(go_at_call 92;(with_reducible refine ZH.out.mono ?_);rintro e W1 ⟨rfl,hb⟩))
 replace dO:=hid (dO.out.below hb);replace aT:=hid (aT.out.trans (hb.mono aT.out.size));clear hb ZH x0 x1 x2 x3 x4 xl
 rename World=>W
 go_wp2_with fail
 go_loopw [3] (fun q wr=>∃i:Nat,i<=f.args.length/\q = .int .i64 (i:Int)/\Below W.heap.size W wr/\fP i (fun j=>gI (f.args.getD j default))) (fun q _=>f.args.length-(intOf q).toNat)
 case atStart=>exact⟨0,Nat.zero_le _,rfl,Below.refl _ _,fP.zero _⟩
 case round =>
  obtain⟨i,hi,rfl,hb,hsf⟩:=hrel;obtain⟨x0,x1,x2,x3,x4,xl⟩:=(dO.out.below hb).cells;have HB:=hid hb;have dG:=hid (aT.out.trans (hb.mono aT.out.size));have lg:=hid hsf;clear hb hsf
  by_cases hlt:i<f.args.length
  ·have hii:(i:Int)<f.args.length:=by omega
   obtain⟨b,o,A',c',g,heq,HG,hg⟩:=(HA.out.keep (Keeps.of_below dG.out fun _ h=>h)).get hlt;cases heq;obtain⟨gd,gl,g0,g1,g2,g3,g4,ga⟩:=hg;have hcall:=HIH.out i hlt (D:=(· < w.heap.size)) (.agg #[.int .i64 g.op,.string g.name,.int .i64 g.val,.int .i64 g.bound,.slice A' g.args.length c']) wr (by rw[HG.out];exact⟨A',c',rfl,ga⟩) (by have:=Fe hlt;have:=HZ.out;omega);rw[HG.out]at hcall;cases hq:gI g
   ·rw[hq]at hcall
    have HR:=hid (show gI f=false by rw[qx.out];rw[dD (j:=i) hlt (by rw[HG.out];exact hq),Bool.and_false]);have aO:=hid hcall;clear hcall ga hq;go_wp2_with fail
    refine aO.out.mono ?_;rintro e w1 ⟨rfl,hb1⟩;have HB1:=hid (dG.out.trans (hb1.mono dG.out.size));clear hb1;go_wp2_with fail
    go_ret
    exact⟨aC HR.out.symm,HB1.out⟩
   ·rw[hq]at hcall
    have HQ:=hid (show gI (f.args.getD i default)=true by rw[HG.out];exact hq);have aO:=hid hcall;clear hcall ga hq;go_wp2_with fail
    refine aO.out.mono ?_;rintro e w1 ⟨rfl,hb1⟩;have HB1:=hid (HB.out.trans (hb1.mono HB.out.size));clear hb1;go_wp2_with fail
    go_roundw
    case rel=>exact⟨i+1,by omega,by go_num,HB1.out,lg.out.succ HQ.out⟩
    case measure=>simp[intOf];omega
  ·have hii:¬(i:Int)<f.args.length:=by omega
   have HR:=hid (show gI f=true by rw[qx.out];rw[HP.out,Bool.true_and];exact lg.out.all (by omega));go_wp2_with fail
   go_ret
   exact⟨aC HR.out.symm,dG.out⟩
section
variable {D:Dom}{v:Value}{f:Fm}{w:World}
theorem lD (m:Nat)(l:Int)(hl:l=(m:Int))(hm:m<=1000000)(r:Bool)(hr:decide (f.size<=m)=r)(h:bI w D v f):Calls Tryz.prog 9 #[v,.int .i64 l] w fun e w'=>e = .returned (.bool r)/\Below w.heap.size w w':=by
 subst hl;rw[<-hr];exact Gt f _ m w h hm
theorem ug (r:Bool)(hr:gI f=r)(hz:f.size<=1000000)(h:bI w D v f):Calls Tryz.prog 48 #[v] w fun e w'=>e = .returned (.bool r)/\Below w.heap.size w w':=by
 rw[<-hr];exact RD f v w h hz
theorem KU (r:Bool)(hr:dQ f=r)(hn:gI f=true)(h:bI w D v f):Calls Tryz.prog 49 #[v] w fun e w'=>e = .returned (.bool r)/\Below w.heap.size w w':=by
 rw[<-hr];exact Vr f v w h hn
theorem YS (r:Bool)(hr:vV f=r)(h:bI w D v f):Calls Tryz.prog 50 #[v] w fun e w'=>e = .returned (.bool r)/\Below w.heap.size w w':=by
 rw[<-hr];exact KY f v w h
end
def lI (f:Fm):Bool:=decide (f.size<=400)&&decide (f.depth<=60)&&gI f&&dQ f&&vV f
def pK (f:Fm):Bool:=decide (f.size<=60)&&decide (f.depth<=20)&&gI f
theorem RN {D:Dom}(f:Fm)(v:Value)(w:World)(h:bI w D v f):Calls Tryz.prog 98 #[v] w fun e w'=>e = .returned (.bool (pK f))/\Below w.heap.size w w':=by
 obtain⟨A,c,rfl,ha⟩:=h;have HA:=hid ha.old;clear ha
 go_enter Tryz.func98,Tryz.ntmps98
 go_upto_region 1 with(fail)
 refine aF fun W hW=>?_;have hbx:dF W w.heap.size f A c:=by rw[hW];exact dF.new w f A c
 have dO:=hid hbx;have aT:=hid (show Below w.heap.size w W by rw[hW];go_grown);have HV:Hid (bI W aZ (.agg #[.int .i64 f.op,.string f.name,.int .i64 f.val,.int .i64 f.bound,.slice A f.args.length c]) f):=hid ⟨A,c,rfl,(HA.out.keep (Keeps.of_below aT.out fun _ h=>h)).mono fun _ _ _=>trivial⟩;obtain⟨x0,x1,x2,x3,x4,xl⟩:=hbx.cells;clear hW hbx HA
 by_cases c0:f.size<=60
 rotate_left
 ·have hc0:=hid (decide_eq_false c0)
  have HR:=hid (show pK f=false by unfold pK;rw[hc0.out];rfl);go_wp2_with (go_at_call 9;(with_reducible refine(lD (D:=aZ) (f:=f) 60 60 rfl ?_ false ?_ ?_).mono ?_);decide;exact hc0.out;exact HV.out;rintro e U ⟨rfl,hb⟩;clear x0 x1 x2 x3 x4 xl;replace HV:=hid (HV.out.any hb);replace dO:=hid (dO.out.below hb);replace aT:=hid (aT.out.trans (hb.mono aT.out.size));obtain⟨x0,x1,x2,x3,x4,xl⟩:=dO.out.cells;clear hb)
  go_ret
  exact⟨aC HR.out.symm,aT.out⟩
 have hc0:=hid (decide_eq_true c0);have jE:=hid c0
 by_cases c1:f.depth<=20
 rotate_left
 ·have hc1:=hid (decide_eq_false c1)
  have e1:decide ((f.depth:Int)<=20)=false:=decide_eq_false (by omega);have k1:¬(f.depth:Int)<=20:=by omega
  clear c0 c1;have HR:=hid (show pK f=false by unfold pK;rw[hc0.out,hc1.out];rfl)
  go_wp2_with (first|(go_at_call 9;(with_reducible refine(lD (D:=aZ) (f:=f) 60 60 rfl ?_ true ?_ ?_).mono ?_);decide;exact hc0.out;exact HV.out;rintro e U ⟨rfl,hb⟩;clear x0 x1 x2 x3 x4 xl;replace HV:=hid (HV.out.any hb);replace dO:=hid (dO.out.below hb);replace aT:=hid (aT.out.trans (hb.mono aT.out.size));obtain⟨x0,x1,x2,x3,x4,xl⟩:=dO.out.cells;clear hb)|(go_at_call 47;(with_reducible refine(kN f _ _ HV.out ?_).mono ?_);(have:=jF f;have:=jE.out;omega);rintro e U ⟨rfl,hb⟩;clear x0 x1 x2 x3 x4 xl;replace HV:=hid (HV.out.any hb);replace dO:=hid (dO.out.below hb);replace aT:=hid (aT.out.trans (hb.mono aT.out.size));obtain⟨x0,x1,x2,x3,x4,xl⟩:=dO.out.cells;clear hb))
  go_ret
  exact⟨aC HR.out.symm,aT.out⟩
 have hc1:=hid (decide_eq_true c1);have e1:decide ((f.depth:Int)<=20)=true:=decide_eq_true (by omega);have k1:(f.depth:Int)<=20:=by omega
 clear c0 c1;cases c2:gI f
 ·have hc2:=hid c2
  clear c2;have HR:=hid (show pK f=false by unfold pK;rw[hc0.out,hc1.out,hc2.out];rfl)
  go_wp2_with (first|(go_at_call 9;(with_reducible refine(lD (D:=aZ) (f:=f) 60 60 rfl ?_ true ?_ ?_).mono ?_);decide;exact hc0.out;exact HV.out;rintro e U ⟨rfl,hb⟩;clear x0 x1 x2 x3 x4 xl;replace HV:=hid (HV.out.any hb);replace dO:=hid (dO.out.below hb);replace aT:=hid (aT.out.trans (hb.mono aT.out.size));obtain⟨x0,x1,x2,x3,x4,xl⟩:=dO.out.cells;clear hb)|(go_at_call 47;(with_reducible refine(kN f _ _ HV.out ?_).mono ?_);(have:=jF f;have:=jE.out;omega);rintro e U ⟨rfl,hb⟩;clear x0 x1 x2 x3 x4 xl;replace HV:=hid (HV.out.any hb);replace dO:=hid (dO.out.below hb);replace aT:=hid (aT.out.trans (hb.mono aT.out.size));obtain⟨x0,x1,x2,x3,x4,xl⟩:=dO.out.cells;clear hb)|(go_at_call 48;(with_reducible refine(ug (D:=aZ) (f:=f) false ?_ ?_ ?_).mono ?_);exact hc2.out;(have:=jE.out;omega);exact HV.out;rintro e U ⟨rfl,hb⟩;clear x0 x1 x2 x3 x4 xl;replace HV:=hid (HV.out.any hb);replace dO:=hid (dO.out.below hb);replace aT:=hid (aT.out.trans (hb.mono aT.out.size));obtain⟨x0,x1,x2,x3,x4,xl⟩:=dO.out.cells;clear hb))
  go_ret
  exact⟨aC HR.out.symm,aT.out⟩
 have hc2:=hid c2;clear c2;have HR:=hid (show pK f=true by unfold pK;rw[hc0.out,hc1.out,hc2.out];rfl)
 go_wp2_with (first|(go_at_call 9;(with_reducible refine(lD (D:=aZ) (f:=f) 60 60 rfl ?_ true ?_ ?_).mono ?_);decide;exact hc0.out;exact HV.out;rintro e U ⟨rfl,hb⟩;clear x0 x1 x2 x3 x4 xl;replace HV:=hid (HV.out.any hb);replace dO:=hid (dO.out.below hb);replace aT:=hid (aT.out.trans (hb.mono aT.out.size));obtain⟨x0,x1,x2,x3,x4,xl⟩:=dO.out.cells;clear hb)|(go_at_call 47;(with_reducible refine(kN f _ _ HV.out ?_).mono ?_);(have:=jF f;have:=jE.out;omega);rintro e U ⟨rfl,hb⟩;clear x0 x1 x2 x3 x4 xl;replace HV:=hid (HV.out.any hb);replace dO:=hid (dO.out.below hb);replace aT:=hid (aT.out.trans (hb.mono aT.out.size));obtain⟨x0,x1,x2,x3,x4,xl⟩:=dO.out.cells;clear hb)|(go_at_call 48;(with_reducible refine(ug (D:=aZ) (f:=f) true ?_ ?_ ?_).mono ?_);exact hc2.out;(have:=jE.out;omega);exact HV.out;rintro e U ⟨rfl,hb⟩;clear x0 x1 x2 x3 x4 xl;replace HV:=hid (HV.out.any hb);replace dO:=hid (dO.out.below hb);replace aT:=hid (aT.out.trans (hb.mono aT.out.size));obtain⟨x0,x1,x2,x3,x4,xl⟩:=dO.out.cells;clear hb))
 go_ret
 exact⟨aC HR.out.symm,aT.out⟩
theorem Rz {D:Dom}(f:Fm)(v:Value)(w:World)(h:bI w D v f):Calls Tryz.prog 11 #[v] w fun e w'=>e = .returned (.bool (lI f))/\Below w.heap.size w w':=by
 obtain⟨A,c,rfl,ha⟩:=h;have HA:=hid ha.old;clear ha
 go_enter Tryz.func11,Tryz.ntmps11
 go_upto_region 1 with(fail)
 refine aF fun W hW=>?_;have hbx:dF W w.heap.size f A c:=by rw[hW];exact dF.new w f A c
 have dO:=hid hbx;have aT:=hid (show Below w.heap.size w W by rw[hW];go_grown);have HV:Hid (bI W aZ (.agg #[.int .i64 f.op,.string f.name,.int .i64 f.val,.int .i64 f.bound,.slice A f.args.length c]) f):=hid ⟨A,c,rfl,(HA.out.keep (Keeps.of_below aT.out fun _ h=>h)).mono fun _ _ _=>trivial⟩;obtain⟨x0,x1,x2,x3,x4,xl⟩:=hbx.cells;clear hW hbx HA
 by_cases c0:f.size<=400
 rotate_left
 ·have hc0:=hid (decide_eq_false c0)
  have HR:=hid (show lI f=false by unfold lI;rw[hc0.out];rfl);go_wp2_with (go_at_call 9;(with_reducible refine(lD (D:=aZ) (f:=f) 400 400 rfl ?_ false ?_ ?_).mono ?_);decide;exact hc0.out;exact HV.out;rintro e U ⟨rfl,hb⟩;clear x0 x1 x2 x3 x4 xl;replace HV:=hid (HV.out.any hb);replace dO:=hid (dO.out.below hb);replace aT:=hid (aT.out.trans (hb.mono aT.out.size));obtain⟨x0,x1,x2,x3,x4,xl⟩:=dO.out.cells;clear hb)
  go_ret
  exact⟨aC HR.out.symm,aT.out⟩
 have hc0:=hid (decide_eq_true c0);have jE:=hid c0
 by_cases c1:f.depth<=60
 rotate_left
 ·have hc1:=hid (decide_eq_false c1)
  have e1:decide ((f.depth:Int)<=60)=false:=decide_eq_false (by omega);have k1:¬(f.depth:Int)<=60:=by omega
  clear c0 c1;have HR:=hid (show lI f=false by unfold lI;rw[hc0.out,hc1.out];rfl)
  go_wp2_with (first|(go_at_call 9;(with_reducible refine(lD (D:=aZ) (f:=f) 400 400 rfl ?_ true ?_ ?_).mono ?_);decide;exact hc0.out;exact HV.out;rintro e U ⟨rfl,hb⟩;clear x0 x1 x2 x3 x4 xl;replace HV:=hid (HV.out.any hb);replace dO:=hid (dO.out.below hb);replace aT:=hid (aT.out.trans (hb.mono aT.out.size));obtain⟨x0,x1,x2,x3,x4,xl⟩:=dO.out.cells;clear hb)|(go_at_call 47;(with_reducible refine(kN f _ _ HV.out ?_).mono ?_);(have:=jF f;have:=jE.out;omega);rintro e U ⟨rfl,hb⟩;clear x0 x1 x2 x3 x4 xl;replace HV:=hid (HV.out.any hb);replace dO:=hid (dO.out.below hb);replace aT:=hid (aT.out.trans (hb.mono aT.out.size));obtain⟨x0,x1,x2,x3,x4,xl⟩:=dO.out.cells;clear hb))
  go_ret
  exact⟨aC HR.out.symm,aT.out⟩
 have hc1:=hid (decide_eq_true c1);have e1:decide ((f.depth:Int)<=60)=true:=decide_eq_true (by omega);have k1:(f.depth:Int)<=60:=by omega
 clear c0 c1;cases c2:gI f
 ·have hc2:=hid c2
  clear c2;have HR:=hid (show lI f=false by unfold lI;rw[hc0.out,hc1.out,hc2.out];rfl)
  go_wp2_with (first|(go_at_call 9;(with_reducible refine(lD (D:=aZ) (f:=f) 400 400 rfl ?_ true ?_ ?_).mono ?_);decide;exact hc0.out;exact HV.out;rintro e U ⟨rfl,hb⟩;clear x0 x1 x2 x3 x4 xl;replace HV:=hid (HV.out.any hb);replace dO:=hid (dO.out.below hb);replace aT:=hid (aT.out.trans (hb.mono aT.out.size));obtain⟨x0,x1,x2,x3,x4,xl⟩:=dO.out.cells;clear hb)|(go_at_call 47;(with_reducible refine(kN f _ _ HV.out ?_).mono ?_);(have:=jF f;have:=jE.out;omega);rintro e U ⟨rfl,hb⟩;clear x0 x1 x2 x3 x4 xl;replace HV:=hid (HV.out.any hb);replace dO:=hid (dO.out.below hb);replace aT:=hid (aT.out.trans (hb.mono aT.out.size));obtain⟨x0,x1,x2,x3,x4,xl⟩:=dO.out.cells;clear hb)|(go_at_call 48;(with_reducible refine(ug (D:=aZ) (f:=f) false ?_ ?_ ?_).mono ?_);exact hc2.out;(have:=jE.out;omega);exact HV.out;rintro e U ⟨rfl,hb⟩;clear x0 x1 x2 x3 x4 xl;replace HV:=hid (HV.out.any hb);replace dO:=hid (dO.out.below hb);replace aT:=hid (aT.out.trans (hb.mono aT.out.size));obtain⟨x0,x1,x2,x3,x4,xl⟩:=dO.out.cells;clear hb))
  go_ret
  exact⟨aC HR.out.symm,aT.out⟩
 have hc2:=hid c2;clear c2;cases c3:dQ f
 ·have hc3:=hid c3
  clear c3;have HR:=hid (show lI f=false by unfold lI;rw[hc0.out,hc1.out,hc2.out,hc3.out];rfl)
  go_wp2_with (first|(go_at_call 9;(with_reducible refine(lD (D:=aZ) (f:=f) 400 400 rfl ?_ true ?_ ?_).mono ?_);decide;exact hc0.out;exact HV.out;rintro e U ⟨rfl,hb⟩;clear x0 x1 x2 x3 x4 xl;replace HV:=hid (HV.out.any hb);replace dO:=hid (dO.out.below hb);replace aT:=hid (aT.out.trans (hb.mono aT.out.size));obtain⟨x0,x1,x2,x3,x4,xl⟩:=dO.out.cells;clear hb)|(go_at_call 47;(with_reducible refine(kN f _ _ HV.out ?_).mono ?_);(have:=jF f;have:=jE.out;omega);rintro e U ⟨rfl,hb⟩;clear x0 x1 x2 x3 x4 xl;replace HV:=hid (HV.out.any hb);replace dO:=hid (dO.out.below hb);replace aT:=hid (aT.out.trans (hb.mono aT.out.size));obtain⟨x0,x1,x2,x3,x4,xl⟩:=dO.out.cells;clear hb)|(go_at_call 48;(with_reducible refine(ug (D:=aZ) (f:=f) true ?_ ?_ ?_).mono ?_);exact hc2.out;(have:=jE.out;omega);exact HV.out;rintro e U ⟨rfl,hb⟩;clear x0 x1 x2 x3 x4 xl;replace HV:=hid (HV.out.any hb);replace dO:=hid (dO.out.below hb);replace aT:=hid (aT.out.trans (hb.mono aT.out.size));obtain⟨x0,x1,x2,x3,x4,xl⟩:=dO.out.cells;clear hb)|(go_at_call 49;(with_reducible refine(KU (D:=aZ) (f:=f) false ?_ ?_ ?_).mono ?_);exact hc3.out;exact hc2.out;exact HV.out;rintro e U ⟨rfl,hb⟩;clear x0 x1 x2 x3 x4 xl;replace HV:=hid (HV.out.any hb);replace dO:=hid (dO.out.below hb);replace aT:=hid (aT.out.trans (hb.mono aT.out.size));obtain⟨x0,x1,x2,x3,x4,xl⟩:=dO.out.cells;clear hb))
  go_ret
  exact⟨aC HR.out.symm,aT.out⟩
 have hc3:=hid c3;clear c3;cases c4:vV f
 ·have hc4:=hid c4
  clear c4;have HR:=hid (show lI f=false by unfold lI;rw[hc0.out,hc1.out,hc2.out,hc3.out,hc4.out];rfl)
  go_wp2_with (first|(go_at_call 9;(with_reducible refine(lD (D:=aZ) (f:=f) 400 400 rfl ?_ true ?_ ?_).mono ?_);decide;exact hc0.out;exact HV.out;rintro e U ⟨rfl,hb⟩;clear x0 x1 x2 x3 x4 xl;replace HV:=hid (HV.out.any hb);replace dO:=hid (dO.out.below hb);replace aT:=hid (aT.out.trans (hb.mono aT.out.size));obtain⟨x0,x1,x2,x3,x4,xl⟩:=dO.out.cells;clear hb)|(go_at_call 47;(with_reducible refine(kN f _ _ HV.out ?_).mono ?_);(have:=jF f;have:=jE.out;omega);rintro e U ⟨rfl,hb⟩;clear x0 x1 x2 x3 x4 xl;replace HV:=hid (HV.out.any hb);replace dO:=hid (dO.out.below hb);replace aT:=hid (aT.out.trans (hb.mono aT.out.size));obtain⟨x0,x1,x2,x3,x4,xl⟩:=dO.out.cells;clear hb)|(go_at_call 48;(with_reducible refine(ug (D:=aZ) (f:=f) true ?_ ?_ ?_).mono ?_);exact hc2.out;(have:=jE.out;omega);exact HV.out;rintro e U ⟨rfl,hb⟩;clear x0 x1 x2 x3 x4 xl;replace HV:=hid (HV.out.any hb);replace dO:=hid (dO.out.below hb);replace aT:=hid (aT.out.trans (hb.mono aT.out.size));obtain⟨x0,x1,x2,x3,x4,xl⟩:=dO.out.cells;clear hb)|(go_at_call 49;(with_reducible refine(KU (D:=aZ) (f:=f) true ?_ ?_ ?_).mono ?_);exact hc3.out;exact hc2.out;exact HV.out;rintro e U ⟨rfl,hb⟩;clear x0 x1 x2 x3 x4 xl;replace HV:=hid (HV.out.any hb);replace dO:=hid (dO.out.below hb);replace aT:=hid (aT.out.trans (hb.mono aT.out.size));obtain⟨x0,x1,x2,x3,x4,xl⟩:=dO.out.cells;clear hb)|(go_at_call 50;(with_reducible refine(YS (D:=aZ) (f:=f) false ?_ ?_).mono ?_);exact hc4.out;exact HV.out;rintro e U ⟨rfl,hb⟩;clear x0 x1 x2 x3 x4 xl;replace HV:=hid (HV.out.any hb);replace dO:=hid (dO.out.below hb);replace aT:=hid (aT.out.trans (hb.mono aT.out.size));obtain⟨x0,x1,x2,x3,x4,xl⟩:=dO.out.cells;clear hb))
  go_ret
  exact⟨aC HR.out.symm,aT.out⟩
 have hc4:=hid c4;clear c4;have HR:=hid (show lI f=true by unfold lI;rw[hc0.out,hc1.out,hc2.out,hc3.out,hc4.out];rfl)
 go_wp2_with (first|(go_at_call 9;(with_reducible refine(lD (D:=aZ) (f:=f) 400 400 rfl ?_ true ?_ ?_).mono ?_);decide;exact hc0.out;exact HV.out;rintro e U ⟨rfl,hb⟩;clear x0 x1 x2 x3 x4 xl;replace HV:=hid (HV.out.any hb);replace dO:=hid (dO.out.below hb);replace aT:=hid (aT.out.trans (hb.mono aT.out.size));obtain⟨x0,x1,x2,x3,x4,xl⟩:=dO.out.cells;clear hb)|(go_at_call 47;(with_reducible refine(kN f _ _ HV.out ?_).mono ?_);(have:=jF f;have:=jE.out;omega);rintro e U ⟨rfl,hb⟩;clear x0 x1 x2 x3 x4 xl;replace HV:=hid (HV.out.any hb);replace dO:=hid (dO.out.below hb);replace aT:=hid (aT.out.trans (hb.mono aT.out.size));obtain⟨x0,x1,x2,x3,x4,xl⟩:=dO.out.cells;clear hb)|(go_at_call 48;(with_reducible refine(ug (D:=aZ) (f:=f) true ?_ ?_ ?_).mono ?_);exact hc2.out;(have:=jE.out;omega);exact HV.out;rintro e U ⟨rfl,hb⟩;clear x0 x1 x2 x3 x4 xl;replace HV:=hid (HV.out.any hb);replace dO:=hid (dO.out.below hb);replace aT:=hid (aT.out.trans (hb.mono aT.out.size));obtain⟨x0,x1,x2,x3,x4,xl⟩:=dO.out.cells;clear hb)|(go_at_call 49;(with_reducible refine(KU (D:=aZ) (f:=f) true ?_ ?_ ?_).mono ?_);exact hc3.out;exact hc2.out;exact HV.out;rintro e U ⟨rfl,hb⟩;clear x0 x1 x2 x3 x4 xl;replace HV:=hid (HV.out.any hb);replace dO:=hid (dO.out.below hb);replace aT:=hid (aT.out.trans (hb.mono aT.out.size));obtain⟨x0,x1,x2,x3,x4,xl⟩:=dO.out.cells;clear hb)|(go_at_call 50;(with_reducible refine(YS (D:=aZ) (f:=f) true ?_ ?_).mono ?_);exact hc4.out;exact HV.out;rintro e U ⟨rfl,hb⟩;clear x0 x1 x2 x3 x4 xl;replace HV:=hid (HV.out.any hb);replace dO:=hid (dO.out.below hb);replace aT:=hid (aT.out.trans (hb.mono aT.out.size));obtain⟨x0,x1,x2,x3,x4,xl⟩:=dO.out.cells;clear hb))
 go_ret
 exact⟨aC HR.out.symm,aT.out⟩
theorem YT {D:Dom}{v:Value}{f:Fm}{w:World}(r:Bool)(hr:lI f=r)(h:bI w D v f):Calls Tryz.prog 11 #[v] w fun e w'=>e = .returned (.bool r)/\Below w.heap.size w w':=by
 rw[<-hr];exact Rz f v w h
end Go.Proofs.YtdpbgcmfeajigaaGreatDoor
namespace Go.Proofs.YtdpbgcmfeajigaaGreatDoor
structure Sg where
 name:ByteArray
 inp:Bool
 size:Int
instance:Inhabited Sg:=⟨⟨⟨#[]⟩,false,0⟩⟩
def kH (s:ByteArray):List ByteArray->Nat
 | []=>0
 | a :: l=>if a=s then 0 else kH s l+1
theorem BO {s:ByteArray}:∀{l:List ByteArray},kH s l<l.length->l.getD (kH s l) ⟨#[]⟩=s
 | [],h=>by simp[kH]at h
 | a :: l,h=>by
  rw[kH]at h⊢
  by_cases e:a=s
  ·rw[if_pos e];exact e
  ·rw[if_neg e]at h⊢
   rw[List.getD_cons_succ];exact BO (by simpa using h)
theorem y9 {s:ByteArray}:∀{l:List ByteArray} {k:Nat},k<kH s l->l.getD k ⟨#[]⟩≠s
 | [],k,h=>by simp[kH]at h
 | a :: l,k,h=>by
  rw[kH]at h
  by_cases e:a=s
  ·rw[if_pos e]at h;omega
  ·rw[if_neg e]at h
   cases k with
   | zero=>exact e
   | succ k=>rw[List.getD_cons_succ];exact y9 (by omega)
theorem IZ {s:ByteArray}{l:List ByteArray}{k:Nat}(hk:k<l.length)(h:l.getD k ⟨#[]⟩=s):kH s l<=k:=by
 by_cases hl:k<kH s l
 ·exact absurd h (y9 hl)
 ·omega
theorem Uz {s:ByteArray}{l:List ByteArray}{k:Nat}(hk:k<l.length)(h:l.getD k ⟨#[]⟩=s)(hm:∀j,j<k->l.getD j ⟨#[]⟩≠s):kH s l=k:=by
 have h1:=IZ hk h;have h2:¬kH s l<k:=fun hl=>hm _ hl (BO (Nat.lt_of_lt_of_le hl (Nat.le_of_lt hk)));omega
theorem IY {s:ByteArray}{l:List ByteArray}{k:Nat}(hk:k<=l.length):k<=kH s l ↔ ∀j,j<k->l.getD j ⟨#[]⟩≠s:=by
 constructor
 ·intro h j hj;exact y9 (by omega)
 ·intro h
  rcases Nat.lt_or_ge (kH s l) k with hl|hl
  ·exact absurd (BO (by omega)) (h _ hl)
  ·exact hl
def yE (l:List Sg):List ByteArray:=l.map Sg.name
theorem rU (l:List Sg):(yE l).length=l.length:=List.length_map ..
theorem qU {l:List Sg}(k:Nat)(hk:k<l.length):(yE l).getD k ⟨#[]⟩=(l.getD k default).name:=by
 simp[yE,List.getD,hk]
def fQ (l:List Sg)(s:ByteArray):Nat:=kH s (yE l)
def iQ (l:List Sg)(s:ByteArray):Int:=if fQ l s<l.length then(fQ l s:Int)else -1
def lW:List Sg->Int
 | []=>1
 | a :: l=>a.size*lW l
theorem qp:∀l m:List Sg,lW (l++m)=lW l*lW m
 | [],m=>by simp[lW]
 | a :: l,m=>by simp only[List.cons_append,lW,qp l m,Int.mul_assoc]
def CX (l:List Sg)(i:Nat):Bool:=nameB (l.getD i default).name&&decide (2<=(l.getD i default).size)&&decide ((l.getD i default).size<=4)&&decide (i<=fQ l (l.getD i default).name)
def dL (l:List Sg):Bool:=decide (1<=l.length)&&decide (l.length<=6)&&pG l.length (CX l)&&decide (lW l<=64)
def Rn (o:Int):Bool:=decide (15<=o)&&decide (o<=19)
def fF (l:List Sg)(f:Fm):Int :=
 if f.op=3 then(if fQ l f.name<l.length then(if(l.getD (fQ l f.name) default).size<=f.val then 71 else 0)else 70)
 else if Rn f.op then(if f.args.all (allB fC)then 0 else 72)else 0
def Ae (l:List Sg):List (Fm×Bool)->Int
 | []=>0
 | x :: r=>if fF l x.1=0 then Ae l r else fF l x.1
def lG (l:List Sg)(f:Fm):Int :=
 if dL l then(if jK f then(if Ae l (fE false f)=0 then(if(fM f).2=0 then 0 else 2)else Ae l (fE false f))else 30)else 1
structure Rq where
 part:ByteArray
 name:ByteArray
 kind:Int
 f:Fm
instance:Inhabited Rq:=⟨⟨⟨#[]⟩,⟨#[]⟩,0,default⟩⟩
def qcN (l:List Sg)(x:Fm×Bool):Bool:=decide (fF l x.1=0)
theorem IW (l:List Sg):∀L:List (Fm×Bool),Ae l L=0 ↔ L.all (qcN l)=true
 | []=>by simp[Ae]
 | x :: r=>by
  rw[Ae,List.all_cons,Bool.and_eq_true,<-IW l r];unfold qcN
  by_cases h:fF l x.1=0
  ·simp[h]
  ·simp[h]
theorem Xo {q:Fm×Bool->Bool}(hq:∀g a b,q (g,a)=q (g,b)){a b:Bool}{f:Fm}(h:(fE a f).all q=true):(fE b f).all q=true:=by
 have hless:∀x,q (x,true)=true->q (x,false)=true:=fun x h=>by rw[hq x false true];exact h
 have key:∀f:Fm,(fE false f).all q=true->(fE true f).all q=true:=by
  intro f;refine Fm.induct (P:=fun f=>(fE false f).all q=true->(fE true f).all q=true) ?_ f;intro f ih h;rw[rP,List.all_cons,Bool.and_eq_true]at h⊢;refine⟨by rw[hq f true false];exact h.1,J6 fun g hg=>?_⟩;have h2:=zU hg h.2;obtain⟨i,hi,rfl⟩:=List.getElem_of_mem hg;have e:f.args.getD i default=f.args[i]:=by simp[List.getD,hi]
  have ih:=ih i hi;rw[e]at ih;simp only[Bool.true_or];cases hp:(false || (aJ f.op).past)
  ·rw[hp]at h2;exact ih h2
  ·rw[hp]at h2;exact h2
 have key2:∀f:Fm,(fE true f).all q=true->(fE false f).all q=true:=fun f h=>Fb hless f h
 cases a <;> cases b
 ·exact h
 ·exact key f h
 ·exact key2 f h
 ·exact h
theorem Ro:∀(g:Fm) (a b:Bool),fC (g,a)=fC (g,b):=fun _ _ _=>rfl

def nm (i:Nat):ByteArray:=⟨#[UInt8.ofNat (97+i),95,120]⟩
open Go.RowKit
def nP (s:Sg):List Value := [.string s.name,.bool s.inp,.int .i64 s.size]
def mG (w:World)(D:Dom)(A:Option Addr)(c:Nat)(l:List Sg):Prop:=Rd w D 3 A l.length c (l.flatMap nP)
section
variable {D E:Dom}{w w':World}{A:Option Addr}{c:Nat}{l:List Sg}
theorem mG.len (h:mG w D A c l):l.length<=140737488355328/\l.length<=c/\c<=9223372036854775807:=h.1.2
theorem mG.keep (h:mG w D A c l)(hk:Keeps D w w'):mG w' D A c l:=Rd.keep h hk
theorem mG.mono (h:mG w D A c l)(hE:∀b,D b->b<w.heap.size->E b):mG w E A c l:=Rd.mono h hE
theorem mG.old (h:mG w D A c l):mG w (· < w.heap.size) A c l:=Rd.old h
theorem mG.any (h:mG w D A c l)(hb:Below w.heap.size w w'):mG w' aZ A c l:=(h.old.keep (Keeps.of_below hb fun _ h=>h)).mono fun _ _ _=>trivial
theorem mG.get {k:Nat}(h:mG w D A c l)(hk:k<l.length):∃b o s,A=some ⟨b,o,none⟩/\b<w.heap.size/\Hid (l.getD k default=s) /\
  w.cell? ⟨b,o+k*3,none⟩=some (.string s.name)/\w.cell? ⟨b,o+k*3+1,none⟩=some (.bool s.inp)/\w.cell? ⟨b,o+k*3+2,none⟩=some (.int .i64 s.size):=by
 obtain⟨b,o,e,hb,hl,hc⟩:=h.2 (by omega);have g:∀j u,j<3->(nP (l.getD k default))[j]?=some u->w.cell? ⟨b,o+(k*3+j),none⟩=some u:=fun j u hj hu=>hc _ _ (by rw[Af nP default 3 (fun _=>rfl) l k j hk hj];exact hu);have g0:=g 0 _ (by omega) rfl;have g1:=g 1 _ (by omega) rfl;have g2:=g 2 _ (by omega) rfl;exact⟨b,o,l.getD k default,e,hl,hid rfl,by simpa using g0,by simpa[Nat.add_assoc]using g1,by simpa[Nat.add_assoc]using g2⟩
end
section
variable {D E:Dom}{w w':World}{A:Option Addr}{c:Nat}{l:List Rq}
end
end Go.Proofs.YtdpbgcmfeajigaaGreatDoor
namespace Go.Proofs.YtdpbgcmfeajigaaGreatDoor
open Go.RowKit
attribute [local go_sem] ak
theorem Ji {P s:Int}(h1:1<=P)(h2:P<=4096)(h3:2<=s)(h4:s<=4):1<=P*s/\P*s<=4*P:=by
 have:s=2\/s=3\/s=4:=by omega
 rcases this with rfl|rfl|rfl <;> omega
structure BG (l:List Sg) (i:Nat) (P:Int):Prop where
 is:P=lW (l.take i)
 lo:1<=P
 hi:P<=4 ^ i
theorem BG.zero (l:List Sg):BG l 0 1:=⟨rfl,by omega,by decide⟩
theorem BG.succ {l:List Sg}{i:Nat}{P s:Int}(h:BG l i P)(hi:i<l.length)(h6:i<6)(hs:(l.getD i default).size=s)(h2:2<=s)(h4:s<=4):BG l (i+1) (P*s):=by
 have hP:P<=4096:=by
  refine Int.le_trans h.hi ?_;have:i=0\/i=1\/i=2\/i=3\/i=4\/i=5:=by omega
  rcases this with rfl|rfl|rfl|rfl|rfl|rfl <;> decide
 have hm:=Ji h.lo hP h2 h4;refine⟨?_,hm.1,?_⟩
 ·rw[aU l default hi,qp,<-h.is]
  show P*s=P*((l.getD i default).size*1);rw[hs,Int.mul_one]
 ·have:=h.hi
  rw[Int.pow_succ];omega
theorem BG.wrap {l:List Sg}{i:Nat}{P s:Int}(h:BG l i P)(h6:i<6)(h2:2<=s)(h4:s<=4):IntKind.i64.wrap (P*s)=P*s:=by
 have hP:P<=4096:=by
  refine Int.le_trans h.hi ?_;have:i=0\/i=1\/i=2\/i=3\/i=4\/i=5:=by omega
  rcases this with rfl|rfl|rfl|rfl|rfl|rfl <;> decide
 have hm:=Ji h.lo hP h2 h4;exact IntWalk.i64_in _ (by omega)
theorem xq {l:List Sg}{i:Nat}(hi:i<l.length)(h:CX l i=false):dL l=false:=by
 unfold dL;rw[dD hi h];simp
theorem FI {l:List Sg}{s:ByteArray}{k:Nat}(hk:k<l.length)(h:(l.getD k default).name=s):fQ l s<=k :=
 IZ (by rw[rU];exact hk) (by rw[qU k hk];exact h)
theorem FH {l:List Sg}{s:ByteArray}{k:Nat}(hk:k<=l.length)(h:∀j,j<k->(l.getD j default).name≠s):k<=fQ l s :=
 (IY (by rw[rU];exact hk)).2 fun j hj=>by rw[qU j (by omega)];exact h j hj
theorem vw {D:Dom}(l:List Sg)(A:Option Addr)(c n:Nat)(w:World)(hn:n=l.length)(h:mG w D A c l)(hk:GK w) :
  Calls Tryz.prog 84 #[.slice A n c] w fun e w'=>e = .returned (.bool (dL l))/\Below w.heap.size w w':=by
 subst hn;have hlen:=h.len.1;have HH:=hid h.old;have HK:=hid hk;clear h hk
 by_cases h1:l.length<1
 ·have HR:=hid (show dL l=false by unfold dL;rw[decide_eq_false (by omega)];rfl)
  have d1:decide ((l.length:Int)<1)=true:=decide_eq_true (by omega);have d1':(l.length:Int)<1:=by omega
  clear h1
  go_enter Tryz.func84,Tryz.ntmps84
  go_wp2_with fail
  go_step3
  go_wp2_with fail
  try rw[Exit.noGoto_ret]
  go_ret
  exact⟨aC HR.out.symm,by go_grown⟩
 by_cases h2:6<l.length
 ·have HR:=hid (show dL l=false by unfold dL;rw[decide_eq_false (show¬l.length<=6 by omega)];simp)
  have d1':¬(l.length:Int)<1:=by omega
  have d2':6<(l.length:Int):=by omega
  have d1:decide ((l.length:Int)<1)=false:=decide_eq_false d1';have d2:decide (6<(l.length:Int))=true:=decide_eq_true d2';clear h1 h2
  go_enter Tryz.func84,Tryz.ntmps84
  go_wp2_with fail
  go_step3
  go_wp2_with fail
  try rw[Exit.noGoto_ret]
  go_ret
  exact⟨aC HR.out.symm,by go_grown⟩
 have d1':¬(l.length:Int)<1:=by omega
 have d2':¬6<(l.length:Int):=by omega
 have d1:decide ((l.length:Int)<1)=false:=decide_eq_false d1';have d2:decide (6<(l.length:Int))=false:=decide_eq_false d2';have H16:=hid (show 1<=l.length/\l.length<=6 by omega);clear h1 h2
 go_enter Tryz.func84,Tryz.ntmps84
 go_wp2_with fail
 go_step3
 go_wp2_with fail
 go_step3
 go_upto_region 5 with(fail)
 refine aF fun W hW=>?_;have HB:=hid (show Below w.heap.size w W by rw[hW];go_grown);clear hW;go_wp2_with fail
 go_loopw [3,4,17] (fun p r q wr=>∃(i:Nat) (P:Int),i<=l.length/\p = .bool true/\q = .int .i64 (i:Int)/\r = .int .i64 P/\Hid (BG l i P)/\Hid (fP i (CX l))/\Below w.heap.size w wr) (fun _ _ q _=>l.length-(intOf q).toNat)
 case atStart=>exact⟨0,1,Nat.zero_le _,rfl,rfl,rfl,BG.zero l,fP.zero _,HB.out⟩
 case round =>
  obtain⟨i,P,hi,rfl,rfl,rfl,HP,HS,hb⟩:=hrel;have bJ:=hid hb;clear hb
  by_cases hlt:i<l.length
  ·have hii:(i:Int)<l.length:=by omega
   have HI6:=hid (show i<6 by have:=H16.out;omega);have dY:=hid hlt;have Zk:=hid (HH.out.any bJ.out);obtain⟨b,o,s,rfl,hlb,HX,x0,x1,x2⟩:=Zk.out.get hlt;have hnm:=name_any s.name wr (HK.out.below bJ.out HK.out.pos);have lu:=hid (show CX l i=(nameB s.name&&decide (2<=s.size)&&decide (s.size<=4)&&decide (i<=fQ l s.name))by unfold CX;rw[HX.out]);have LP:=hid (show(l.getD i default).name=s.name by rw[HX.out]);have Xa:=hid (show(l.getD i default).size=s.size by rw[HX.out]);clear HX;cases hq:nameB s.name
   ·have HR:=hid (xq dY.out (by rw[lu.out,hq];rfl))
    rw[hq]at hnm;have HN:=hid hnm;clear hnm hq;go_wp2_with (go_at_call 122;(with_reducible refine HN.out.mono ?_);rintro e w2 ⟨rfl,hb2⟩;have HB2:=hid (bJ.out.trans (hb2.mono bJ.out.size));clear hb2)
    try rw[Exit.noGoto_ret]
    go_ret
    exact⟨aC HR.out.symm,HB2.out⟩
   rw[hq]at hnm;have HN:=hid hnm;have HQ:=hid hq;clear hnm hq
   by_cases hs2:s.size<2
   ·have HR:=hid (xq dY.out (by rw[lu.out,decide_eq_false (show¬2<=s.size by omega)];simp))
    go_wp2_with (go_at_call 122;(with_reducible refine HN.out.mono ?_);rintro e w2 ⟨rfl,hb2⟩;have y0:=(hb2.cell (p:=⟨b,o+i*3,none⟩) hlb).trans x0;have y2:=(hb2.cell (p:=⟨b,o+i*3+2,none⟩) hlb).trans x2;have hl2:=Nat.lt_of_lt_of_le hlb hb2.size;have HB2:=hid (bJ.out.trans (hb2.mono bJ.out.size));have ZC:=hid (Zk.out.any hb2);clear hb2 x0 x1 x2 hlb)
    try rw[Exit.noGoto_ret]
    go_ret
    exact⟨aC HR.out.symm,HB2.out⟩
   by_cases hs4:4<s.size
   ·have HR:=hid (xq dY.out (by rw[lu.out,decide_eq_false (show¬s.size<=4 by omega)];simp))
    go_wp2_with (go_at_call 122;(with_reducible refine HN.out.mono ?_);rintro e w2 ⟨rfl,hb2⟩;have y0:=(hb2.cell (p:=⟨b,o+i*3,none⟩) hlb).trans x0;have y2:=(hb2.cell (p:=⟨b,o+i*3+2,none⟩) hlb).trans x2;have hl2:=Nat.lt_of_lt_of_le hlb hb2.size;have HB2:=hid (bJ.out.trans (hb2.mono bJ.out.size));have ZC:=hid (Zk.out.any hb2);clear hb2 x0 x1 x2 hlb)
    try rw[Exit.noGoto_ret]
    go_ret
    exact⟨aC HR.out.symm,HB2.out⟩
   have HW:=hid (HP.out.wrap (s:=s.size) HI6.out (by omega) (by omega));have HPN:=hid (HP.out.succ dY.out HI6.out Xa.out (by omega) (by omega));have qeH:=hid (show 2<=s.size/\s.size<=4 by omega);go_wp2_with (go_at_call 122;(with_reducible refine HN.out.mono ?_);rintro e w2 ⟨rfl,hb2⟩;have y0:=(hb2.cell (p:=⟨b,o+i*3,none⟩) hlb).trans x0;have y2:=(hb2.cell (p:=⟨b,o+i*3+2,none⟩) hlb).trans x2;have hl2:=Nat.lt_of_lt_of_le hlb hb2.size;have HB2:=hid (bJ.out.trans (hb2.mono bJ.out.size));have ZC:=hid (Zk.out.any hb2);clear hb2 x0 x1 x2 hlb)
   have HY0:=hid y0;have HY2:=hid y2;have HL2:=hid hl2;clear y0 y2 hl2 hs2 hs4;obtain⟨wi,hwi⟩:∃wi,wi=w2:=⟨_,rfl⟩;rw[<-hwi]at HB2 ZC HY0 HY2 HL2⊢;clear hwi
   go_loopw [3,44] (fun p q wr=>∃k:Nat,k<=i/\p = .bool true/\q = .int .i64 (k:Int)/\Hid (aV wi wr)/\Hid (∀j,j<k->(l.getD j default).name≠s.name)) (fun _ q _=>i-(intOf q).toNat)
   case atStart=>exact⟨0,Nat.zero_le _,rfl,rfl,aV.refl _,fun j h=>absurd h (Nat.not_lt_zero _)⟩
   case round =>
    obtain⟨k,hki,rfl,rfl,HD,gW⟩:=hrel;have HBD:=hid (HD.out.below wi.heap.size);have HH3:=hid (ZC.out.any HBD.out);have z0:=(HBD.out.cell (p:=⟨b,o+i*3,none⟩) HL2.out).trans HY0.out;have z2:=(HBD.out.cell (p:=⟨b,o+i*3+2,none⟩) HL2.out).trans HY2.out
    by_cases hk:k<i
    ·have hkk:(k:Int)<(i:Int):=by omega
     have hkn:(k:Int)<(l.length:Int):=by omega
     obtain⟨b',o',t,he,hlt',HT,t0,t1,t2⟩:=HH3.out.get (k:=k) (by have:=dY.out;omega)
     injection he with he
     injection he with hb' ho' _
     subst hb' ho';have HTN:=hid (show(l.getD k default).name=t.name by rw[HT.out]);clear HT
     by_cases ht:t.name=s.name
     ·have d3:(t.name.toList==s.name.toList)=true:=xK.2 ht
      have HR:=hid (xq dY.out (by
       rw[lu.out,decide_eq_false (show¬i<=fQ l s.name by
        have:=FI (l:=l) (s:=s.name) (k:=k) (by have:=dY.out;omega) (by rw[HTN.out];exact ht)
        omega)]
       simp))
      have HDD:=hid HD.out;clear ht;go_upto_region 13 with(fail)
      go_quiet (fail)
      go_wp2_with fail
      try rw[Exit.noGoto_ret]
      go_ret
      exact⟨aC HR.out.symm,HB2.out.trans (((HD.out.drewN _).below _).mono HB2.out.size)⟩
     ·have d3:(t.name.toList==s.name.toList)=false:=by
       cases hb:(t.name.toList==s.name.toList)
       ·rfl
       ·exact absurd (xK.1 hb) ht
      have wu:=hid ht;clear ht;go_upto_region 13 with(fail)
      go_quiet (fail)
      go_wp2_with fail
      go_roundw
      case rel =>
       refine⟨k+1,by omega,rfl,by go_num,HD.out.drewN _,fun j hj=>?_⟩
       by_cases e:j=k
       ·rw[e,HTN.out];exact wu.out
       ·exact gW.out j (by omega)
      case measure=>simp[intOf];omega
    ·have hkk:¬(k:Int)<(i:Int):=by omega
     have qcg:=hid (show CX l i=true by
      rw[lu.out,HQ.out,decide_eq_true qeH.out.1,decide_eq_true qeH.out.2,decide_eq_true (FH (by have:=dY.out;omega) fun j hj=>gW.out j (by omega))]
      rfl)
     have hwr:=HW.out;go_wp2_with fail
     go_roundw
     case rel=>exact⟨i+1,P*s.size,by have:=dY.out;omega,rfl,by go_num,(by first|rfl|rw[hwr]),HPN.out,HS.out.succ qcg.out,HB2.out.trans (HBD.out.mono HB2.out.size)⟩
     case measure=>simp[intOf];omega
  ·have hii:¬(i:Int)<l.length:=by omega
   have PO:=hid (show P=lW l by have:=HP.out.is;rw[List.take_of_length_le (by omega)]at this;exact this)
   have HV:=hid (show dL l=decide (P<=64)by
    unfold dL
    rw[decide_eq_true H16.out.1,decide_eq_true H16.out.2,HS.out.all (by omega),<-PO.out];rfl)
   go_wp2_with fail
   try rw[Exit.noGoto_ret]
   go_ret
   exact⟨aC HV.out.symm,bJ.out⟩
end Go.Proofs.YtdpbgcmfeajigaaGreatDoor
