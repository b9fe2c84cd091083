/-
  Parts of a proof: KD XA XB XC X1 X2.
-/
import Derived.Test.YtdpbgcmfeajigaaGreatDoorA21
import Derived.Test.YtdpbgcmfeajigaaGreatDoorA18
import Derived.Test.YtdpbgcmfeajigaaGreatDoorA20
import Derived.WalkMore
import Derived.Test.YtdpbgcmfeajigaaGreatDoorA04
set_option linter.unusedSimpArgs false
set_option linter.unusedVariables false
set_option maxHeartbeats 8000000
set_option maxRecDepth 100000
namespace Go.Proofs.YtdpbgcmfeajigaaGreatDoor
open Go.RowKit Go.Shelf
attribute [local go_sem] ak
theorem SV (f:Fm):∀{D:Dom} (v:Value) (w:World) (h:bI w D v f) (hz:f.size<=1000000),Calls Tryz.prog 48 #[v] w λ e w'=>e = .returned (.bool (gu f))/\Below w.heap.size w w':=by
 refine Fm.induct (P := λ f=>∀{D:Dom} (v:Value) (w:World) (h:bI w D v f) (hz:f.size<=1000000),Calls Tryz.prog 48 #[v] w λ e w'=>e = .returned (.bool (gu f))/\Below w.heap.size w w') ?_ f;intro f ih D v w h hz;have HIH:=hid ih;have wH:=hid (show gu f=(bW f&&pO f.args.length λ i=>gu (f.args.getD i default))from mD bW f);obtain⟨A,c,rfl,ha⟩:=h;have HA:=hid ha.old;have hal:=ha.len.1;clear ih ha
 go_enter Tryz.func48,Tryz.ntmps48
 go_upto_region 1 with(fail)
 refine aC λ W hW=>?_;have hbx:dH W w.heap.size f A c:=by rw[hW];exact dH.new w f A c
 have dW:=hid hbx;have aT:=hid (show Below w.heap.size w W by rw[hW];go_grown);obtain⟨x0,x1,x2,x3,x4,xl⟩:=hbx.cells;clear hW hbx;have HZ:=hid hz;have HND:=hid (WO f (.agg #[.int .i64 f.op,.string f.name,.int .i64 f.val,.int .i64 f.bound,.slice A f.args.length c]) W ⟨A,c,rfl,HA.out.keep (Keeps.of_below aT.out λ _ h=>h)⟩ (by have:=ji f.args;have:=Fm.size_eq f;unfold manyN;omega));clear hz;cases hs:bW f
 ·have HR:=hid (show gu f=false by rw[wH.out,hs];rfl)
  rw[hs]at HND;clear hs;go_wp2_with (first|(go_at_call 92;(with_reducible refine HND.out.mono ?_);rintro e w1 ⟨rfl,hb⟩))
  go_ret
  exact⟨aF HR.out.symm,aT.out.trans (hb.mono aT.out.size)⟩
 have HP:=hid hs;rw[hs]at HND;clear hs;go_upto_region 3 with(first|(go_at_call 92;(with_reducible refine HND.out.mono ?_);rintro e W1 ⟨rfl,hb⟩))
 replace dW:=hid (dW.out.below hb);replace aT:=hid (aT.out.trans (hb.mono aT.out.size));clear hb HND x0 x1 x2 x3 x4 xl
 rename World=>W
 go_wp2_with fail
 go_loopw [3] (λ q wr=>∃i:Nat,i<=f.args.length/\q = .int .i64 (i:Int)/\Below W.heap.size W wr/\jc i (λ j=>gu (f.args.getD j default))) (λ q _=>f.args.length-(intOf q).toNat)
 case atStart=>exact⟨0,Nat.zero_le _,rfl,Below.refl _ _,jc.zero _⟩
 case round =>
  obtain⟨i,hi,rfl,hb,hsf⟩:=hrel;obtain⟨x0,x1,x2,x3,x4,xl⟩:=(dW.out.below hb).cells;have HB:=hid hb;have gB:=hid (aT.out.trans (hb.mono aT.out.size));have oI:=hid hsf;clear hb hsf
  by_cases hlt:i<f.args.length
  ·have hii:(i:Int)<f.args.length:=by omega
   obtain⟨b,o,A',c',g,heq,HG,hg⟩:=(HA.out.keep (Keeps.of_below gB.out λ _ h=>h)).get hlt;cases heq;obtain⟨gd,gl,g0,g1,g2,g3,g4,ga⟩:=hg;have hcall:=HIH.out i hlt (D:=(· < w.heap.size)) (.agg #[.int .i64 g.op,.string g.name,.int .i64 g.val,.int .i64 g.bound,.slice A' g.args.length c']) wr (by rw[HG.out];exact⟨A',c',rfl,ga⟩) (by have:=Fe hlt;have:=HZ.out;omega);rw[HG.out]at hcall;cases hq:gu g
   ·rw[hq]at hcall
    have HR:=hid (show gu f=false by rw[wH.out];rw[eX (j:=i) hlt (by rw[HG.out];exact hq),Bool.and_false]);have aX:=hid hcall;clear hcall ga hq;go_wp2_with fail
    refine aX.out.mono ?_;rintro e w1 ⟨rfl,hb1⟩;have HB1:=hid (gB.out.trans (hb1.mono gB.out.size));clear hb1;go_wp2_with fail
    go_ret
    exact⟨aF HR.out.symm,HB1.out⟩
   ·rw[hq]at hcall
    have HQ:=hid (show gu (f.args.getD i default)=true by rw[HG.out];exact hq);have aX:=hid hcall;clear hcall ga hq;go_wp2_with fail
    refine aX.out.mono ?_;rintro e w1 ⟨rfl,hb1⟩;have HB1:=hid (HB.out.trans (hb1.mono HB.out.size));clear hb1;go_wp2_with fail
    go_roundw
    case rel=>exact⟨i+1,by omega,by go_num,HB1.out,oI.out.succ HQ.out⟩
    case measure=>simp[intOf];omega
  ·have hii:¬(i:Int)<f.args.length:=by omega
   have HR:=hid (show gu f=true by rw[wH.out];rw[HP.out,Bool.true_and];exact oI.out.all (by omega));go_wp2_with fail
   go_ret
   exact⟨aF HR.out.symm,gB.out⟩
section
variable {D:Dom}{v:Value}{f:Fm}{w:World}
theorem lS (m:Nat)(l:Int)(hl:l=(m:Int))(hm:m<=1000000)(r:Bool)(hr:decide (f.size<=m)=r)(h:bI w D v f):Calls Tryz.prog 9 #[v,.int .i64 l] w λ e w'=>e = .returned (.bool r)/\Below w.heap.size w w':=by
 subst hl;rw[<-hr];exact Gv f _ m w h hm
theorem uD (r:Bool)(hr:gu f=r)(hz:f.size<=1000000)(h:bI w D v f):Calls Tryz.prog 48 #[v] w λ e w'=>e = .returned (.bool r)/\Below w.heap.size w w':=by
 rw[<-hr];exact SV f v w h hz
theorem Le (r:Bool)(hr:lG f=r)(hn:gu f=true)(h:bI w D v f):Calls Tryz.prog 49 #[v] w λ e w'=>e = .returned (.bool r)/\Below w.heap.size w w':=by
 rw[<-hr];exact WG f v w h hn
theorem ZT (r:Bool)(hr:wG f=r)(h:bI w D v f):Calls Tryz.prog 50 #[v] w λ e w'=>e = .returned (.bool r)/\Below w.heap.size w w':=by
 rw[<-hr];exact Ll f v w h
end
def mg (f:Fm):Bool:=decide (f.size<=400)&&decide (f.depth<=60)&&gu f&&lG f&&wG f
def pX (f:Fm):Bool:=decide (f.size<=60)&&decide (f.depth<=20)&&gu f
theorem Td {D:Dom}(f:Fm)(v:Value)(w:World)(h:bI w D v f):Calls Tryz.prog 98 #[v] w λ e w'=>e = .returned (.bool (pX f))/\Below w.heap.size w w':=by
 obtain⟨A,c,rfl,ha⟩:=h;have HA:=hid ha.old;clear ha
 go_enter Tryz.func98,Tryz.ntmps98
 go_upto_region 1 with(fail)
 refine aC λ W hW=>?_;have hbx:dH W w.heap.size f A c:=by rw[hW];exact dH.new w f A c
 have dW:=hid hbx;have aT:=hid (show Below w.heap.size w W by rw[hW];go_grown);have HV:Hid (bI W aW (.agg #[.int .i64 f.op,.string f.name,.int .i64 f.val,.int .i64 f.bound,.slice A f.args.length c]) f):=hid ⟨A,c,rfl,(HA.out.keep (Keeps.of_below aT.out λ _ h=>h)).mono λ _ _ _=>trivial⟩;obtain⟨x0,x1,x2,x3,x4,xl⟩:=hbx.cells;clear hW hbx HA
 by_cases c0:f.size<=60
 rotate_left
 ·have hc0:=hid (decide_eq_false c0)
  have HR:=hid (show pX f=false by unfold pX;rw[hc0.out];rfl);go_wp2_with (go_at_call 9;(with_reducible refine(lS (D:=aW) (f:=f) 60 60 rfl ?_ false ?_ ?_).mono ?_);decide;exact hc0.out;exact HV.out;rintro e U ⟨rfl,hb⟩;clear x0 x1 x2 x3 x4 xl;replace HV:=hid (HV.out.any hb);replace dW:=hid (dW.out.below hb);replace aT:=hid (aT.out.trans (hb.mono aT.out.size));obtain⟨x0,x1,x2,x3,x4,xl⟩:=dW.out.cells;clear hb)
  go_ret
  exact⟨aF HR.out.symm,aT.out⟩
 have hc0:=hid (decide_eq_true c0);have jI:=hid c0
 by_cases c1:f.depth<=20
 rotate_left
 ·have hc1:=hid (decide_eq_false c1)
  have e1:decide ((f.depth:Int)<=20)=false:=decide_eq_false (by omega);have k1:¬(f.depth:Int)<=20:=by omega
  clear c0 c1;have HR:=hid (show pX f=false by unfold pX;rw[hc0.out,hc1.out];rfl)
  go_wp2_with (first|(go_at_call 9;(with_reducible refine(lS (D:=aW) (f:=f) 60 60 rfl ?_ true ?_ ?_).mono ?_);decide;exact hc0.out;exact HV.out;rintro e U ⟨rfl,hb⟩;clear x0 x1 x2 x3 x4 xl;replace HV:=hid (HV.out.any hb);replace dW:=hid (dW.out.below hb);replace aT:=hid (aT.out.trans (hb.mono aT.out.size));obtain⟨x0,x1,x2,x3,x4,xl⟩:=dW.out.cells;clear hb)|(go_at_call 47;(with_reducible refine(kY f _ _ HV.out ?_).mono ?_);(have:=jJ f;have:=jI.out;omega);rintro e U ⟨rfl,hb⟩;clear x0 x1 x2 x3 x4 xl;replace HV:=hid (HV.out.any hb);replace dW:=hid (dW.out.below hb);replace aT:=hid (aT.out.trans (hb.mono aT.out.size));obtain⟨x0,x1,x2,x3,x4,xl⟩:=dW.out.cells;clear hb))
  go_ret
  exact⟨aF HR.out.symm,aT.out⟩
 have hc1:=hid (decide_eq_true c1);have e1:decide ((f.depth:Int)<=20)=true:=decide_eq_true (by omega);have k1:(f.depth:Int)<=20:=by omega
 clear c0 c1;cases c2:gu f
 ·have hc2:=hid c2
  clear c2;have HR:=hid (show pX f=false by unfold pX;rw[hc0.out,hc1.out,hc2.out];rfl)
  go_wp2_with (first|(go_at_call 9;(with_reducible refine(lS (D:=aW) (f:=f) 60 60 rfl ?_ true ?_ ?_).mono ?_);decide;exact hc0.out;exact HV.out;rintro e U ⟨rfl,hb⟩;clear x0 x1 x2 x3 x4 xl;replace HV:=hid (HV.out.any hb);replace dW:=hid (dW.out.below hb);replace aT:=hid (aT.out.trans (hb.mono aT.out.size));obtain⟨x0,x1,x2,x3,x4,xl⟩:=dW.out.cells;clear hb)|(go_at_call 47;(with_reducible refine(kY f _ _ HV.out ?_).mono ?_);(have:=jJ f;have:=jI.out;omega);rintro e U ⟨rfl,hb⟩;clear x0 x1 x2 x3 x4 xl;replace HV:=hid (HV.out.any hb);replace dW:=hid (dW.out.below hb);replace aT:=hid (aT.out.trans (hb.mono aT.out.size));obtain⟨x0,x1,x2,x3,x4,xl⟩:=dW.out.cells;clear hb)|(go_at_call 48;(with_reducible refine(uD (D:=aW) (f:=f) false ?_ ?_ ?_).mono ?_);exact hc2.out;(have:=jI.out;omega);exact HV.out;rintro e U ⟨rfl,hb⟩;clear x0 x1 x2 x3 x4 xl;replace HV:=hid (HV.out.any hb);replace dW:=hid (dW.out.below hb);replace aT:=hid (aT.out.trans (hb.mono aT.out.size));obtain⟨x0,x1,x2,x3,x4,xl⟩:=dW.out.cells;clear hb))
  go_ret
  exact⟨aF HR.out.symm,aT.out⟩
 have hc2:=hid c2;clear c2;have HR:=hid (show pX f=true by unfold pX;rw[hc0.out,hc1.out,hc2.out];rfl)
 go_wp2_with (first|(go_at_call 9;(with_reducible refine(lS (D:=aW) (f:=f) 60 60 rfl ?_ true ?_ ?_).mono ?_);decide;exact hc0.out;exact HV.out;rintro e U ⟨rfl,hb⟩;clear x0 x1 x2 x3 x4 xl;replace HV:=hid (HV.out.any hb);replace dW:=hid (dW.out.below hb);replace aT:=hid (aT.out.trans (hb.mono aT.out.size));obtain⟨x0,x1,x2,x3,x4,xl⟩:=dW.out.cells;clear hb)|(go_at_call 47;(with_reducible refine(kY f _ _ HV.out ?_).mono ?_);(have:=jJ f;have:=jI.out;omega);rintro e U ⟨rfl,hb⟩;clear x0 x1 x2 x3 x4 xl;replace HV:=hid (HV.out.any hb);replace dW:=hid (dW.out.below hb);replace aT:=hid (aT.out.trans (hb.mono aT.out.size));obtain⟨x0,x1,x2,x3,x4,xl⟩:=dW.out.cells;clear hb)|(go_at_call 48;(with_reducible refine(uD (D:=aW) (f:=f) true ?_ ?_ ?_).mono ?_);exact hc2.out;(have:=jI.out;omega);exact HV.out;rintro e U ⟨rfl,hb⟩;clear x0 x1 x2 x3 x4 xl;replace HV:=hid (HV.out.any hb);replace dW:=hid (dW.out.below hb);replace aT:=hid (aT.out.trans (hb.mono aT.out.size));obtain⟨x0,x1,x2,x3,x4,xl⟩:=dW.out.cells;clear hb))
 go_ret
 exact⟨aF HR.out.symm,aT.out⟩
theorem SS {D:Dom}(f:Fm)(v:Value)(w:World)(h:bI w D v f):Calls Tryz.prog 11 #[v] w λ e w'=>e = .returned (.bool (mg f))/\Below w.heap.size w w':=by
 obtain⟨A,c,rfl,ha⟩:=h;have HA:=hid ha.old;clear ha
 go_enter Tryz.func11,Tryz.ntmps11
 go_upto_region 1 with(fail)
 refine aC λ W hW=>?_;have hbx:dH W w.heap.size f A c:=by rw[hW];exact dH.new w f A c
 have dW:=hid hbx;have aT:=hid (show Below w.heap.size w W by rw[hW];go_grown);have HV:Hid (bI W aW (.agg #[.int .i64 f.op,.string f.name,.int .i64 f.val,.int .i64 f.bound,.slice A f.args.length c]) f):=hid ⟨A,c,rfl,(HA.out.keep (Keeps.of_below aT.out λ _ h=>h)).mono λ _ _ _=>trivial⟩;obtain⟨x0,x1,x2,x3,x4,xl⟩:=hbx.cells;clear hW hbx HA
 by_cases c0:f.size<=400
 rotate_left
 ·have hc0:=hid (decide_eq_false c0)
  have HR:=hid (show mg f=false by unfold mg;rw[hc0.out];rfl);go_wp2_with (go_at_call 9;(with_reducible refine(lS (D:=aW) (f:=f) 400 400 rfl ?_ false ?_ ?_).mono ?_);decide;exact hc0.out;exact HV.out;rintro e U ⟨rfl,hb⟩;clear x0 x1 x2 x3 x4 xl;replace HV:=hid (HV.out.any hb);replace dW:=hid (dW.out.below hb);replace aT:=hid (aT.out.trans (hb.mono aT.out.size));obtain⟨x0,x1,x2,x3,x4,xl⟩:=dW.out.cells;clear hb)
  go_ret
  exact⟨aF HR.out.symm,aT.out⟩
 have hc0:=hid (decide_eq_true c0);have jI:=hid c0
 by_cases c1:f.depth<=60
 rotate_left
 ·have hc1:=hid (decide_eq_false c1)
  have e1:decide ((f.depth:Int)<=60)=false:=decide_eq_false (by omega);have k1:¬(f.depth:Int)<=60:=by omega
  clear c0 c1;have HR:=hid (show mg f=false by unfold mg;rw[hc0.out,hc1.out];rfl)
  go_wp2_with (first|(go_at_call 9;(with_reducible refine(lS (D:=aW) (f:=f) 400 400 rfl ?_ true ?_ ?_).mono ?_);decide;exact hc0.out;exact HV.out;rintro e U ⟨rfl,hb⟩;clear x0 x1 x2 x3 x4 xl;replace HV:=hid (HV.out.any hb);replace dW:=hid (dW.out.below hb);replace aT:=hid (aT.out.trans (hb.mono aT.out.size));obtain⟨x0,x1,x2,x3,x4,xl⟩:=dW.out.cells;clear hb)|(go_at_call 47;(with_reducible refine(kY f _ _ HV.out ?_).mono ?_);(have:=jJ f;have:=jI.out;omega);rintro e U ⟨rfl,hb⟩;clear x0 x1 x2 x3 x4 xl;replace HV:=hid (HV.out.any hb);replace dW:=hid (dW.out.below hb);replace aT:=hid (aT.out.trans (hb.mono aT.out.size));obtain⟨x0,x1,x2,x3,x4,xl⟩:=dW.out.cells;clear hb))
  go_ret
  exact⟨aF HR.out.symm,aT.out⟩
 have hc1:=hid (decide_eq_true c1);have e1:decide ((f.depth:Int)<=60)=true:=decide_eq_true (by omega);have k1:(f.depth:Int)<=60:=by omega
 clear c0 c1;cases c2:gu f
 ·have hc2:=hid c2
  clear c2;have HR:=hid (show mg f=false by unfold mg;rw[hc0.out,hc1.out,hc2.out];rfl)
  go_wp2_with (first|(go_at_call 9;(with_reducible refine(lS (D:=aW) (f:=f) 400 400 rfl ?_ true ?_ ?_).mono ?_);decide;exact hc0.out;exact HV.out;rintro e U ⟨rfl,hb⟩;clear x0 x1 x2 x3 x4 xl;replace HV:=hid (HV.out.any hb);replace dW:=hid (dW.out.below hb);replace aT:=hid (aT.out.trans (hb.mono aT.out.size));obtain⟨x0,x1,x2,x3,x4,xl⟩:=dW.out.cells;clear hb)|(go_at_call 47;(with_reducible refine(kY f _ _ HV.out ?_).mono ?_);(have:=jJ f;have:=jI.out;omega);rintro e U ⟨rfl,hb⟩;clear x0 x1 x2 x3 x4 xl;replace HV:=hid (HV.out.any hb);replace dW:=hid (dW.out.below hb);replace aT:=hid (aT.out.trans (hb.mono aT.out.size));obtain⟨x0,x1,x2,x3,x4,xl⟩:=dW.out.cells;clear hb)|(go_at_call 48;(with_reducible refine(uD (D:=aW) (f:=f) false ?_ ?_ ?_).mono ?_);exact hc2.out;(have:=jI.out;omega);exact HV.out;rintro e U ⟨rfl,hb⟩;clear x0 x1 x2 x3 x4 xl;replace HV:=hid (HV.out.any hb);replace dW:=hid (dW.out.below hb);replace aT:=hid (aT.out.trans (hb.mono aT.out.size));obtain⟨x0,x1,x2,x3,x4,xl⟩:=dW.out.cells;clear hb))
  go_ret
  exact⟨aF HR.out.symm,aT.out⟩
 have hc2:=hid c2;clear c2;cases c3:lG f
 ·have hc3:=hid c3
  clear c3;have HR:=hid (show mg f=false by unfold mg;rw[hc0.out,hc1.out,hc2.out,hc3.out];rfl)
  go_wp2_with (first|(go_at_call 9;(with_reducible refine(lS (D:=aW) (f:=f) 400 400 rfl ?_ true ?_ ?_).mono ?_);decide;exact hc0.out;exact HV.out;rintro e U ⟨rfl,hb⟩;clear x0 x1 x2 x3 x4 xl;replace HV:=hid (HV.out.any hb);replace dW:=hid (dW.out.below hb);replace aT:=hid (aT.out.trans (hb.mono aT.out.size));obtain⟨x0,x1,x2,x3,x4,xl⟩:=dW.out.cells;clear hb)|(go_at_call 47;(with_reducible refine(kY f _ _ HV.out ?_).mono ?_);(have:=jJ f;have:=jI.out;omega);rintro e U ⟨rfl,hb⟩;clear x0 x1 x2 x3 x4 xl;replace HV:=hid (HV.out.any hb);replace dW:=hid (dW.out.below hb);replace aT:=hid (aT.out.trans (hb.mono aT.out.size));obtain⟨x0,x1,x2,x3,x4,xl⟩:=dW.out.cells;clear hb)|(go_at_call 48;(with_reducible refine(uD (D:=aW) (f:=f) true ?_ ?_ ?_).mono ?_);exact hc2.out;(have:=jI.out;omega);exact HV.out;rintro e U ⟨rfl,hb⟩;clear x0 x1 x2 x3 x4 xl;replace HV:=hid (HV.out.any hb);replace dW:=hid (dW.out.below hb);replace aT:=hid (aT.out.trans (hb.mono aT.out.size));obtain⟨x0,x1,x2,x3,x4,xl⟩:=dW.out.cells;clear hb)|(go_at_call 49;(with_reducible refine(Le (D:=aW) (f:=f) false ?_ ?_ ?_).mono ?_);exact hc3.out;exact hc2.out;exact HV.out;rintro e U ⟨rfl,hb⟩;clear x0 x1 x2 x3 x4 xl;replace HV:=hid (HV.out.any hb);replace dW:=hid (dW.out.below hb);replace aT:=hid (aT.out.trans (hb.mono aT.out.size));obtain⟨x0,x1,x2,x3,x4,xl⟩:=dW.out.cells;clear hb))
  go_ret
  exact⟨aF HR.out.symm,aT.out⟩
 have hc3:=hid c3;clear c3;cases c4:wG f
 ·have hc4:=hid c4
  clear c4;have HR:=hid (show mg f=false by unfold mg;rw[hc0.out,hc1.out,hc2.out,hc3.out,hc4.out];rfl)
  go_wp2_with (first|(go_at_call 9;(with_reducible refine(lS (D:=aW) (f:=f) 400 400 rfl ?_ true ?_ ?_).mono ?_);decide;exact hc0.out;exact HV.out;rintro e U ⟨rfl,hb⟩;clear x0 x1 x2 x3 x4 xl;replace HV:=hid (HV.out.any hb);replace dW:=hid (dW.out.below hb);replace aT:=hid (aT.out.trans (hb.mono aT.out.size));obtain⟨x0,x1,x2,x3,x4,xl⟩:=dW.out.cells;clear hb)|(go_at_call 47;(with_reducible refine(kY f _ _ HV.out ?_).mono ?_);(have:=jJ f;have:=jI.out;omega);rintro e U ⟨rfl,hb⟩;clear x0 x1 x2 x3 x4 xl;replace HV:=hid (HV.out.any hb);replace dW:=hid (dW.out.below hb);replace aT:=hid (aT.out.trans (hb.mono aT.out.size));obtain⟨x0,x1,x2,x3,x4,xl⟩:=dW.out.cells;clear hb)|(go_at_call 48;(with_reducible refine(uD (D:=aW) (f:=f) true ?_ ?_ ?_).mono ?_);exact hc2.out;(have:=jI.out;omega);exact HV.out;rintro e U ⟨rfl,hb⟩;clear x0 x1 x2 x3 x4 xl;replace HV:=hid (HV.out.any hb);replace dW:=hid (dW.out.below hb);replace aT:=hid (aT.out.trans (hb.mono aT.out.size));obtain⟨x0,x1,x2,x3,x4,xl⟩:=dW.out.cells;clear hb)|(go_at_call 49;(with_reducible refine(Le (D:=aW) (f:=f) true ?_ ?_ ?_).mono ?_);exact hc3.out;exact hc2.out;exact HV.out;rintro e U ⟨rfl,hb⟩;clear x0 x1 x2 x3 x4 xl;replace HV:=hid (HV.out.any hb);replace dW:=hid (dW.out.below hb);replace aT:=hid (aT.out.trans (hb.mono aT.out.size));obtain⟨x0,x1,x2,x3,x4,xl⟩:=dW.out.cells;clear hb)|(go_at_call 50;(with_reducible refine(ZT (D:=aW) (f:=f) false ?_ ?_).mono ?_);exact hc4.out;exact HV.out;rintro e U ⟨rfl,hb⟩;clear x0 x1 x2 x3 x4 xl;replace HV:=hid (HV.out.any hb);replace dW:=hid (dW.out.below hb);replace aT:=hid (aT.out.trans (hb.mono aT.out.size));obtain⟨x0,x1,x2,x3,x4,xl⟩:=dW.out.cells;clear hb))
  go_ret
  exact⟨aF HR.out.symm,aT.out⟩
 have hc4:=hid c4;clear c4;have HR:=hid (show mg f=true by unfold mg;rw[hc0.out,hc1.out,hc2.out,hc3.out,hc4.out];rfl)
 go_wp2_with (first|(go_at_call 9;(with_reducible refine(lS (D:=aW) (f:=f) 400 400 rfl ?_ true ?_ ?_).mono ?_);decide;exact hc0.out;exact HV.out;rintro e U ⟨rfl,hb⟩;clear x0 x1 x2 x3 x4 xl;replace HV:=hid (HV.out.any hb);replace dW:=hid (dW.out.below hb);replace aT:=hid (aT.out.trans (hb.mono aT.out.size));obtain⟨x0,x1,x2,x3,x4,xl⟩:=dW.out.cells;clear hb)|(go_at_call 47;(with_reducible refine(kY f _ _ HV.out ?_).mono ?_);(have:=jJ f;have:=jI.out;omega);rintro e U ⟨rfl,hb⟩;clear x0 x1 x2 x3 x4 xl;replace HV:=hid (HV.out.any hb);replace dW:=hid (dW.out.below hb);replace aT:=hid (aT.out.trans (hb.mono aT.out.size));obtain⟨x0,x1,x2,x3,x4,xl⟩:=dW.out.cells;clear hb)|(go_at_call 48;(with_reducible refine(uD (D:=aW) (f:=f) true ?_ ?_ ?_).mono ?_);exact hc2.out;(have:=jI.out;omega);exact HV.out;rintro e U ⟨rfl,hb⟩;clear x0 x1 x2 x3 x4 xl;replace HV:=hid (HV.out.any hb);replace dW:=hid (dW.out.below hb);replace aT:=hid (aT.out.trans (hb.mono aT.out.size));obtain⟨x0,x1,x2,x3,x4,xl⟩:=dW.out.cells;clear hb)|(go_at_call 49;(with_reducible refine(Le (D:=aW) (f:=f) true ?_ ?_ ?_).mono ?_);exact hc3.out;exact hc2.out;exact HV.out;rintro e U ⟨rfl,hb⟩;clear x0 x1 x2 x3 x4 xl;replace HV:=hid (HV.out.any hb);replace dW:=hid (dW.out.below hb);replace aT:=hid (aT.out.trans (hb.mono aT.out.size));obtain⟨x0,x1,x2,x3,x4,xl⟩:=dW.out.cells;clear hb)|(go_at_call 50;(with_reducible refine(ZT (D:=aW) (f:=f) true ?_ ?_).mono ?_);exact hc4.out;exact HV.out;rintro e U ⟨rfl,hb⟩;clear x0 x1 x2 x3 x4 xl;replace HV:=hid (HV.out.any hb);replace dW:=hid (dW.out.below hb);replace aT:=hid (aT.out.trans (hb.mono aT.out.size));obtain⟨x0,x1,x2,x3,x4,xl⟩:=dW.out.cells;clear hb))
 go_ret
 exact⟨aF HR.out.symm,aT.out⟩
theorem ZU {D:Dom}{v:Value}{f:Fm}{w:World}(r:Bool)(hr:mg f=r)(h:bI w D v f):Calls Tryz.prog 11 #[v] w λ e w'=>e = .returned (.bool r)/\Below w.heap.size w w':=by
 rw[<-hr];exact SS f v w h
end Go.Proofs.YtdpbgcmfeajigaaGreatDoor
namespace Go.Proofs.YtdpbgcmfeajigaaGreatDoor
structure Sg where
 name:ByteArray
 inp:Bool
 size:Int
instance:Inhabited Sg:=⟨⟨⟨#[]⟩,false,0⟩⟩
def kS (s:ByteArray):List ByteArray->Nat
 | []=>0
 | a :: l=>if a=s then 0 else kS s l+1
theorem Cb {s:ByteArray}:∀{l:List ByteArray},kS s l<l.length->l.getD (kS s l) ⟨#[]⟩=s
 | [],h=>by simp[kS]at h
 | a :: l,h=>by
  rw[kS]at h⊢
  by_cases e:a=s
  ·rw[if_pos e];exact e
  ·rw[if_neg e]at h⊢
   rw[List.getD_cons_succ];exact Cb (by simpa using h)
theorem zu {s:ByteArray}:∀{l:List ByteArray} {k:Nat},k<kS s l->l.getD k ⟨#[]⟩≠s
 | [],k,h=>by simp[kS]at h
 | a :: l,k,h=>by
  rw[kS]at h
  by_cases e:a=s
  ·rw[if_pos e]at h;omega
  ·rw[if_neg e]at h
   cases k with
   | zero=>exact e
   | succ k=>rw[List.getD_cons_succ];exact zu (by omega)
theorem I4 {s:ByteArray}{l:List ByteArray}{k:Nat}(hk:k<l.length)(h:l.getD k ⟨#[]⟩=s):kS s l<=k:=by
 by_cases hl:k<kS s l
 ·exact absurd h (zu hl)
 ·omega
theorem Vo {s:ByteArray}{l:List ByteArray}{k:Nat}(hk:k<l.length)(h:l.getD k ⟨#[]⟩=s)(hm:∀j,j<k->l.getD j ⟨#[]⟩≠s):kS s l=k:=by
 have h1:=I4 hk h;have h2:¬kS s l<k := λ hl=>hm _ hl (Cb (Nat.lt_of_lt_of_le hl (Nat.le_of_lt hk)));omega
theorem IZ {s:ByteArray}{l:List ByteArray}{k:Nat}(hk:k<=l.length):k<=kS s l ↔ ∀j,j<k->l.getD j ⟨#[]⟩≠s:=by
 constructor
 ·intro h j hj;exact zu (by omega)
 ·intro h
  rcases Nat.lt_or_ge (kS s l) k with hl|hl
  ·exact absurd (Cb (by omega)) (h _ hl)
  ·exact hl
def yJ (l:List Sg):List ByteArray:=l.map Sg.name
theorem sG (l:List Sg):(yJ l).length=l.length:=List.length_map ..
theorem rD {l:List Sg}(k:Nat)(hk:k<l.length):(yJ l).getD k ⟨#[]⟩=(l.getD k default).name:=by
 simp[yJ,List.getD,hk]
def fK (l:List Sg)(s:ByteArray):Nat:=kS s (yJ l)
def iO (l:List Sg)(s:ByteArray):Int:=if fK l s<l.length then(fK l s:Int)else -1
def mV:List Sg->Int
 | []=>1
 | a :: l=>a.size*mV l
theorem qx:∀l m:List Sg,mV (l++m)=mV l*mV m
 | [],m=>by simp[mV]
 | a :: l,m=>by simp only[List.cons_append,mV,qx l m,Int.mul_assoc]
def C9 (l:List Sg)(i:Nat):Bool:=nameB (l.getD i default).name&&decide (2<=(l.getD i default).size)&&decide ((l.getD i default).size<=4)&&decide (i<=fK l (l.getD i default).name)
def dN (l:List Sg):Bool:=decide (1<=l.length)&&decide (l.length<=6)&&pO l.length (C9 l)&&decide (mV l<=64)
def SC (o:Int):Bool:=decide (15<=o)&&decide (o<=19)
def iW (l:List Sg)(f:Fm):Int :=
 if f.op=3 then(if fK l f.name<l.length then(if(l.getD (fK l f.name) default).size<=f.val then 71 else 0)else 70)
 else if SC f.op then(if f.args.all (allB iC)then 0 else 72)else 0
def Ak (l:List Sg):List (Fm×Bool)->Int
 | []=>0
 | x :: r=>if iW l x.1=0 then Ak l r else iW l x.1
def lU (l:List Sg)(f:Fm):Int :=
 if dN l then(if jP f then(if Ak l (fA false f)=0 then(if(fG f).2=0 then 0 else 2)else Ak l (fA false f))else 30)else 1
structure Rq where
 part:ByteArray
 name:ByteArray
 kind:Int
 f:Fm
instance:Inhabited Rq:=⟨⟨⟨#[]⟩,⟨#[]⟩,0,default⟩⟩
def qdU (l:List Sg)(x:Fm×Bool):Bool:=decide (iW l x.1=0)
theorem IX (l:List Sg):∀L:List (Fm×Bool),Ak l L=0 ↔ L.all (qdU l)=true
 | []=>by simp[Ak]
 | x :: r=>by
  rw[Ak,List.all_cons,Bool.and_eq_true,<-IX l r];unfold qdU
  by_cases h:iW l x.1=0
  ·simp[h]
  ·simp[h]
theorem Yi {q:Fm×Bool->Bool}(hq:∀g a b,q (g,a)=q (g,b)){a b:Bool}{f:Fm}(h:(fA a f).all q=true):(fA b f).all q=true:=by
 have hless:∀x,q (x,true)=true->q (x,false)=true := λ x h=>by rw[hq x false true];exact h
 have key:∀f:Fm,(fA false f).all q=true->(fA true f).all q=true:=by
  intro f;refine Fm.induct (P := λ f=>(fA false f).all q=true->(fA true f).all q=true) ?_ f;intro f ih h;rw[su,List.all_cons,Bool.and_eq_true]at h⊢;refine⟨by rw[hq f true false];exact h.1,Kr λ g hg=>?_⟩;have h2:=Ad hg h.2;obtain⟨i,hi,rfl⟩:=List.getElem_of_mem hg;have e:f.args.getD i default=f.args[i]:=by simp[List.getD,hi]
  have ih:=ih i hi;rw[e]at ih;simp only[Bool.true_or];cases hp:(false || (aJ f.op).past)
  ·rw[hp]at h2;exact ih h2
  ·rw[hp]at h2;exact h2
 have key2:∀f:Fm,(fA true f).all q=true->(fA false f).all q=true := λ f h=>Fb hless f h
 cases a <;> cases b
 ·exact h
 ·exact key f h
 ·exact key2 f h
 ·exact h
theorem SE:∀(g:Fm) (a b:Bool),iC (g,a)=iC (g,b) := λ _ _ _=>rfl

def nm (i:Nat):ByteArray:=⟨#[UInt8.ofNat (97+i),95,120]⟩
open Go.RowKit
def nX (s:Sg):List Value := [.string s.name,.bool s.inp,.int .i64 s.size]
def ng (w:World)(D:Dom)(A:Option Addr)(c:Nat)(l:List Sg):Prop:=Rd w D 3 A l.length c (l.flatMap nX)
section
variable {D E:Dom}{w w':World}{A:Option Addr}{c:Nat}{l:List Sg}
theorem ng.len (h:ng w D A c l):l.length<=140737488355328/\l.length<=c/\c<=9223372036854775807:=h.1.2
theorem ng.keep (h:ng w D A c l)(hk:Keeps D w w'):ng w' D A c l:=Rd.keep h hk
theorem ng.mono (h:ng w D A c l)(hE:∀b,D b->b<w.heap.size->E b):ng w E A c l:=Rd.mono h hE
theorem ng.old (h:ng w D A c l):ng w (· < w.heap.size) A c l:=Rd.old h
theorem ng.any (h:ng w D A c l)(hb:Below w.heap.size w w'):ng w' aW A c l:=(h.old.keep (Keeps.of_below hb λ _ h=>h)).mono λ _ _ _=>trivial
theorem ng.get {k:Nat}(h:ng w D A c l)(hk:k<l.length):∃b o s,A=some ⟨b,o,none⟩/\b<w.heap.size/\Hid (l.getD k default=s) /\
  w.cell? ⟨b,o+k*3,none⟩=some (.string s.name)/\w.cell? ⟨b,o+k*3+1,none⟩=some (.bool s.inp)/\w.cell? ⟨b,o+k*3+2,none⟩=some (.int .i64 s.size):=by
 obtain⟨b,o,e,hb,hl,hc⟩:=h.2 (by omega);have g:∀j u,j<3->(nX (l.getD k default))[j]?=some u->w.cell? ⟨b,o+(k*3+j),none⟩=some u := λ j u hj hu=>hc _ _ (by rw[Am nX default 3 (λ _=>rfl) l k j hk hj];exact hu);have g0:=g 0 _ (by omega) rfl;have g1:=g 1 _ (by omega) rfl;have g2:=g 2 _ (by omega) rfl;exact⟨b,o,l.getD k default,e,hl,hid rfl,by simpa using g0,by simpa[Nat.add_assoc]using g1,by simpa[Nat.add_assoc]using g2⟩
end
section
variable {D E:Dom}{w w':World}{A:Option Addr}{c:Nat}{l:List Rq}
end
end Go.Proofs.YtdpbgcmfeajigaaGreatDoor
namespace Go.Proofs.YtdpbgcmfeajigaaGreatDoor
open Go.RowKit
attribute [local go_sem] ak
theorem Jm {P s:Int}(h1:1<=P)(h2:P<=4096)(h3:2<=s)(h4:s<=4):1<=P*s/\P*s<=4*P:=by
 have:s=2\/s=3\/s=4:=by omega
 rcases this with rfl|rfl|rfl <;> omega
structure BM (l:List Sg) (i:Nat) (P:Int):Prop where
 is:P=mV (l.take i)
 lo:1<=P
 hi:P<=4 ^ i
theorem BM.zero (l:List Sg):BM l 0 1:=⟨rfl,by omega,by decide⟩
theorem BM.succ {l:List Sg}{i:Nat}{P s:Int}(h:BM l i P)(hi:i<l.length)(h6:i<6)(hs:(l.getD i default).size=s)(h2:2<=s)(h4:s<=4):BM l (i+1) (P*s):=by
 have hP:P<=4096:=by
  refine Int.le_trans h.hi ?_;have:i=0\/i=1\/i=2\/i=3\/i=4\/i=5:=by omega
  rcases this with rfl|rfl|rfl|rfl|rfl|rfl <;> decide
 have hm:=Jm h.lo hP h2 h4;refine⟨?_,hm.1,?_⟩
 ·rw[bP l default hi,qx,<-h.is]
  show P*s=P*((l.getD i default).size*1);rw[hs,Int.mul_one]
 ·have:=h.hi
  rw[Int.pow_succ];omega
theorem BM.wrap {l:List Sg}{i:Nat}{P s:Int}(h:BM l i P)(h6:i<6)(h2:2<=s)(h4:s<=4):IntKind.i64.wrap (P*s)=P*s:=by
 have hP:P<=4096:=by
  refine Int.le_trans h.hi ?_;have:i=0\/i=1\/i=2\/i=3\/i=4\/i=5:=by omega
  rcases this with rfl|rfl|rfl|rfl|rfl|rfl <;> decide
 have hm:=Jm h.lo hP h2 h4;exact IntWalk.i64_in _ (by omega)
theorem xE {l:List Sg}{i:Nat}(hi:i<l.length)(h:C9 l i=false):dN l=false:=by
 unfold dN;rw[eX hi h];simp
theorem FI {l:List Sg}{s:ByteArray}{k:Nat}(hk:k<l.length)(h:(l.getD k default).name=s):fK l s<=k :=
 I4 (by rw[sG];exact hk) (by rw[rD k hk];exact h)
theorem FH {l:List Sg}{s:ByteArray}{k:Nat}(hk:k<=l.length)(h:∀j,j<k->(l.getD j default).name≠s):k<=fK l s :=
 (IZ (by rw[sG];exact hk)).2 λ j hj=>by rw[rD j (by omega)];exact h j hj
theorem vK {D:Dom}(l:List Sg)(A:Option Addr)(c n:Nat)(w:World)(hn:n=l.length)(h:ng w D A c l)(hk:GK w) :
  Calls Tryz.prog 84 #[.slice A n c] w λ e w'=>e = .returned (.bool (dN l))/\Below w.heap.size w w':=by
 subst hn;have hlen:=h.len.1;have HH:=hid h.old;have HK:=hid hk;clear h hk
 by_cases h1:l.length<1
 ·have HR:=hid (show dN l=false by unfold dN;rw[decide_eq_false (by omega)];rfl)
  have d1:decide ((l.length:Int)<1)=true:=decide_eq_true (by omega);have d1':(l.length:Int)<1:=by omega
  clear h1
  go_enter Tryz.func84,Tryz.ntmps84
  go_wp2_with fail
  go_step3
  go_wp2_with fail
  try rw[Exit.noGoto_ret]
  go_ret
  exact⟨aF HR.out.symm,by go_grown⟩
 by_cases h2:6<l.length
 ·have HR:=hid (show dN l=false by unfold dN;rw[decide_eq_false (show¬l.length<=6 by omega)];simp)
  have d1':¬(l.length:Int)<1:=by omega
  have d2':6<(l.length:Int):=by omega
  have d1:decide ((l.length:Int)<1)=false:=decide_eq_false d1';have d2:decide (6<(l.length:Int))=true:=decide_eq_true d2';clear h1 h2
  go_enter Tryz.func84,Tryz.ntmps84
  go_wp2_with fail
  go_step3
  go_wp2_with fail
  try rw[Exit.noGoto_ret]
  go_ret
  exact⟨aF HR.out.symm,by go_grown⟩
 have d1':¬(l.length:Int)<1:=by omega
 have d2':¬6<(l.length:Int):=by omega
 have d1:decide ((l.length:Int)<1)=false:=decide_eq_false d1';have d2:decide (6<(l.length:Int))=false:=decide_eq_false d2';have H16:=hid (show 1<=l.length/\l.length<=6 by omega);clear h1 h2
 go_enter Tryz.func84,Tryz.ntmps84
 go_wp2_with fail
 go_step3
 go_wp2_with fail
 go_step3
 go_upto_region 5 with(fail)
 refine aC λ W hW=>?_;have HB:=hid (show Below w.heap.size w W by rw[hW];go_grown);clear hW;go_wp2_with fail
 go_loopw [3,4,17] (λ p r q wr=>∃(i:Nat) (P:Int),i<=l.length/\p = .bool true/\q = .int .i64 (i:Int)/\r = .int .i64 P/\Hid (BM l i P)/\Hid (jc i (C9 l))/\Below w.heap.size w wr) (λ _ _ q _=>l.length-(intOf q).toNat)
 case atStart=>exact⟨0,1,Nat.zero_le _,rfl,rfl,rfl,BM.zero l,jc.zero _,HB.out⟩
 case round =>
  obtain⟨i,P,hi,rfl,rfl,rfl,HP,HS,hb⟩:=hrel;have bH:=hid hb;clear hb
  by_cases hlt:i<l.length
  ·have hii:(i:Int)<l.length:=by omega
   have HI6:=hid (show i<6 by have:=H16.out;omega);have dX:=hid hlt;have HHr:=hid (HH.out.any bH.out);obtain⟨b,o,s,rfl,hlb,HX,x0,x1,x2⟩:=HHr.out.get hlt;have hnm:=name_any s.name wr (HK.out.below bH.out HK.out.pos);have lM:=hid (show C9 l i=(nameB s.name&&decide (2<=s.size)&&decide (s.size<=4)&&decide (i<=fK l s.name))by unfold C9;rw[HX.out]);have MG:=hid (show(l.getD i default).name=s.name by rw[HX.out]);have X3:=hid (show(l.getD i default).size=s.size by rw[HX.out]);clear HX;cases hq:nameB s.name
   ·have HR:=hid (xE dX.out (by rw[lM.out,hq];rfl))
    rw[hq]at hnm;have HN:=hid hnm;clear hnm hq;go_wp2_with (go_at_call 122;(with_reducible refine HN.out.mono ?_);rintro e w2 ⟨rfl,hb2⟩;have HB2:=hid (bH.out.trans (hb2.mono bH.out.size));clear hb2)
    try rw[Exit.noGoto_ret]
    go_ret
    exact⟨aF HR.out.symm,HB2.out⟩
   rw[hq]at hnm;have HN:=hid hnm;have HQ:=hid hq;clear hnm hq
   by_cases hs2:s.size<2
   ·have HR:=hid (xE dX.out (by rw[lM.out,decide_eq_false (show¬2<=s.size by omega)];simp))
    go_wp2_with (go_at_call 122;(with_reducible refine HN.out.mono ?_);rintro e w2 ⟨rfl,hb2⟩;have y0:=(hb2.cell (p:=⟨b,o+i*3,none⟩) hlb).trans x0;have y2:=(hb2.cell (p:=⟨b,o+i*3+2,none⟩) hlb).trans x2;have hl2:=Nat.lt_of_lt_of_le hlb hb2.size;have HB2:=hid (bH.out.trans (hb2.mono bH.out.size));have qaG:=hid (HHr.out.any hb2);clear hb2 x0 x1 x2 hlb)
    try rw[Exit.noGoto_ret]
    go_ret
    exact⟨aF HR.out.symm,HB2.out⟩
   by_cases hs4:4<s.size
   ·have HR:=hid (xE dX.out (by rw[lM.out,decide_eq_false (show¬s.size<=4 by omega)];simp))
    go_wp2_with (go_at_call 122;(with_reducible refine HN.out.mono ?_);rintro e w2 ⟨rfl,hb2⟩;have y0:=(hb2.cell (p:=⟨b,o+i*3,none⟩) hlb).trans x0;have y2:=(hb2.cell (p:=⟨b,o+i*3+2,none⟩) hlb).trans x2;have hl2:=Nat.lt_of_lt_of_le hlb hb2.size;have HB2:=hid (bH.out.trans (hb2.mono bH.out.size));have qaG:=hid (HHr.out.any hb2);clear hb2 x0 x1 x2 hlb)
    try rw[Exit.noGoto_ret]
    go_ret
    exact⟨aF HR.out.symm,HB2.out⟩
   have HW:=hid (HP.out.wrap (s:=s.size) HI6.out (by omega) (by omega));have HPN:=hid (HP.out.succ dX.out HI6.out X3.out (by omega) (by omega));have qfK:=hid (show 2<=s.size/\s.size<=4 by omega);go_wp2_with (go_at_call 122;(with_reducible refine HN.out.mono ?_);rintro e w2 ⟨rfl,hb2⟩;have y0:=(hb2.cell (p:=⟨b,o+i*3,none⟩) hlb).trans x0;have y2:=(hb2.cell (p:=⟨b,o+i*3+2,none⟩) hlb).trans x2;have hl2:=Nat.lt_of_lt_of_le hlb hb2.size;have HB2:=hid (bH.out.trans (hb2.mono bH.out.size));have qaG:=hid (HHr.out.any hb2);clear hb2 x0 x1 x2 hlb)
   have HY0:=hid y0;have HY2:=hid y2;have HL2:=hid hl2;clear y0 y2 hl2 hs2 hs4;obtain⟨wi,hwi⟩:∃wi,wi=w2:=⟨_,rfl⟩;rw[<-hwi]at HB2 qaG HY0 HY2 HL2⊢;clear hwi
   go_loopw [3,44] (λ p q wr=>∃k:Nat,k<=i/\p = .bool true/\q = .int .i64 (k:Int)/\Hid (aU wi wr)/\Hid (∀j,j<k->(l.getD j default).name≠s.name)) (λ _ q _=>i-(intOf q).toNat)
   case atStart=>exact⟨0,Nat.zero_le _,rfl,rfl,aU.refl _,λ j h=>absurd h (Nat.not_lt_zero _)⟩
   case round =>
    obtain⟨k,hki,rfl,rfl,HD,iY⟩:=hrel;have HBD:=hid (HD.out.below wi.heap.size);have HH3:=hid (qaG.out.any HBD.out);have z0:=(HBD.out.cell (p:=⟨b,o+i*3,none⟩) HL2.out).trans HY0.out;have z2:=(HBD.out.cell (p:=⟨b,o+i*3+2,none⟩) HL2.out).trans HY2.out
    by_cases hk:k<i
    ·have hkk:(k:Int)<(i:Int):=by omega
     have hkn:(k:Int)<(l.length:Int):=by omega
     obtain⟨b',o',t,he,hlt',HT,t0,t1,t2⟩:=HH3.out.get (k:=k) (by have:=dX.out;omega)
     injection he with he
     injection he with hb' ho' _
     subst hb' ho';have HTN:=hid (show(l.getD k default).name=t.name by rw[HT.out]);clear HT
     by_cases ht:t.name=s.name
     ·have d3:(t.name.toList==s.name.toList)=true:=xU.2 ht
      have HR:=hid (xE dX.out (by
       rw[lM.out,decide_eq_false (show¬i<=fK l s.name by
        have:=FI (l:=l) (s:=s.name) (k:=k) (by have:=dX.out;omega) (by rw[HTN.out];exact ht)
        omega)]
       simp))
      have HDD:=hid HD.out;clear ht;go_upto_region 13 with(fail)
      go_quiet (fail)
      go_wp2_with fail
      try rw[Exit.noGoto_ret]
      go_ret
      exact⟨aF HR.out.symm,HB2.out.trans (((HD.out.drewN _).below _).mono HB2.out.size)⟩
     ·have d3:(t.name.toList==s.name.toList)=false:=by
       cases hb:(t.name.toList==s.name.toList)
       ·rfl
       ·exact absurd (xU.1 hb) ht
      have wL:=hid ht;clear ht;go_upto_region 13 with(fail)
      go_quiet (fail)
      go_wp2_with fail
      go_roundw
      case rel =>
       refine⟨k+1,by omega,rfl,by go_num,HD.out.drewN _,λ j hj=>?_⟩
       by_cases e:j=k
       ·rw[e,HTN.out];exact wL.out
       ·exact iY.out j (by omega)
      case measure=>simp[intOf];omega
    ·have hkk:¬(k:Int)<(i:Int):=by omega
     have qdm:=hid (show C9 l i=true by
      rw[lM.out,HQ.out,decide_eq_true qfK.out.1,decide_eq_true qfK.out.2,decide_eq_true (FH (by have:=dX.out;omega) λ j hj=>iY.out j (by omega))]
      rfl)
     have hwr:=HW.out;go_wp2_with fail
     go_roundw
     case rel=>exact⟨i+1,P*s.size,by have:=dX.out;omega,rfl,by go_num,(by first|rfl|rw[hwr]),HPN.out,HS.out.succ qdm.out,HB2.out.trans (HBD.out.mono HB2.out.size)⟩
     case measure=>simp[intOf];omega
  ·have hii:¬(i:Int)<l.length:=by omega
   have Qw:=hid (show P=mV l by have:=HP.out.is;rw[List.take_of_length_le (by omega)]at this;exact this)
   have HV:=hid (show dN l=decide (P<=64)by
    unfold dN
    rw[decide_eq_true H16.out.1,decide_eq_true H16.out.2,HS.out.all (by omega),<-Qw.out];rfl)
   go_wp2_with fail
   try rw[Exit.noGoto_ret]
   go_ret
   exact⟨aF HV.out.symm,bH.out⟩
end Go.Proofs.YtdpbgcmfeajigaaGreatDoor
