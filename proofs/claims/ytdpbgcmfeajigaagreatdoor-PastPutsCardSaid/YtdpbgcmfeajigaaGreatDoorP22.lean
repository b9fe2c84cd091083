/-
  Parts of a proof: KD XA XB XC X1 X2.
-/
import Derived.Test.YtdpbgcmfeajigaaGreatDoorP21
import Derived.Test.YtdpbgcmfeajigaaGreatDoorP18
import Derived.Test.YtdpbgcmfeajigaaGreatDoorP20
import Derived.WalkMore
import Derived.Test.YtdpbgcmfeajigaaGreatDoorP04
set_option linter.unusedSimpArgs false
set_option linter.unusedVariables false
set_option maxHeartbeats 8000000
set_option maxRecDepth 100000
namespace Go.Proofs.YtdpbgcmfeajigaaGreatDoor
open Go.RowKit Go.Shelf
attribute [local go_sem] ak
theorem SE (f:Fm):∀{D:Dom} (v:Value) (w:World) (h:bG w D v f) (hz:f.size<=1000000),Calls Tryz.prog 48 #[v] w fun e w'=>e = .returned (.bool (iC f))/\Below w.heap.size w w':=by
 refine Fm.induct (P:=fun f=>∀{D:Dom} (v:Value) (w:World) (h:bG w D v f) (hz:f.size<=1000000),Calls Tryz.prog 48 #[v] w fun e w'=>e = .returned (.bool (iC f))/\Below w.heap.size w w') ?_ f;intro f ih D v w h hz;have HIH:=hid ih;have qm:=hid (show iC f=(bQ f&&oJ f.args.length fun i=>iC (f.args.getD i default))from lg bQ f);obtain⟨A,c,rfl,ha⟩:=h;have HA:=hid ha.old;have hal:=ha.len.1;clear ih ha
 go_enter Tryz.func48,Tryz.ntmps48
 go_upto_region 1 with(fail)
 refine aH fun W hW=>?_;have hbx:dI W w.heap.size f A c:=by rw[hW];exact dI.new w f A c
 have fE:=hid hbx;have aY:=hid (show Below w.heap.size w W by rw[hW];go_grown);obtain⟨x0,x1,x2,x3,x4,xl⟩:=hbx.cells;clear hW hbx;have HZ:=hid hz;have HND:=hid (VY f (.agg #[.int .i64 f.op,.string f.name,.int .i64 f.val,.int .i64 f.bound,.slice A f.args.length c]) W ⟨A,c,rfl,HA.out.keep (Keeps.of_below aY.out fun _ h=>h)⟩ (by have:=jB f.args;have:=Fm.size_eq f;unfold manyN;omega));clear hz;cases hs:bQ f
 ·have HR:=hid (show iC f=false by rw[qm.out,hs];rfl)
  rw[hs]at HND;clear hs;go_wp2_with (first|(go_at_call 92;(with_reducible refine HND.out.mono ?_);rintro e w1 ⟨rfl,hb⟩))
  go_ret
  exact⟨aC HR.out.symm,aY.out.trans (hb.mono aY.out.size)⟩
 have HP:=hid hs;rw[hs]at HND;clear hs;go_upto_region 3 with(first|(go_at_call 92;(with_reducible refine HND.out.mono ?_);rintro e W1 ⟨rfl,hb⟩))
 replace fE:=hid (fE.out.below hb);replace aY:=hid (aY.out.trans (hb.mono aY.out.size));clear hb HND x0 x1 x2 x3 x4 xl
 rename World=>W
 go_wp2_with fail
 go_loopw [3] (fun q wr=>∃i:Nat,i<=f.args.length/\q = .int .i64 (i:Int)/\Below W.heap.size W wr/\fA i (fun j=>iC (f.args.getD j default))) (fun q _=>f.args.length-(intOf q).toNat)
 case atStart=>exact⟨0,Nat.zero_le _,rfl,Below.refl _ _,fA.zero _⟩
 case round =>
  obtain⟨i,hi,rfl,hb,hsf⟩:=hrel;obtain⟨x0,x1,x2,x3,x4,xl⟩:=(fE.out.below hb).cells;have HB:=hid hb;have dJ:=hid (aY.out.trans (hb.mono aY.out.size));have lQ:=hid hsf;clear hb hsf
  by_cases hlt:i<f.args.length
  ·have hii:(i:Int)<f.args.length:=by omega
   obtain⟨b,o,A',c',g,heq,HG,hg⟩:=(HA.out.keep (Keeps.of_below dJ.out fun _ h=>h)).get hlt;cases heq;obtain⟨gd,gl,g0,g1,g2,g3,g4,ga⟩:=hg;have hcall:=HIH.out i hlt (D:=(· < w.heap.size)) (.agg #[.int .i64 g.op,.string g.name,.int .i64 g.val,.int .i64 g.bound,.slice A' g.args.length c']) wr (by rw[HG.out];exact⟨A',c',rfl,ga⟩) (by have:=EW hlt;have:=HZ.out;omega);rw[HG.out]at hcall;cases hq:iC g
   ·rw[hq]at hcall
    have HR:=hid (show iC f=false by rw[qm.out];rw[dB (j:=i) hlt (by rw[HG.out];exact hq),Bool.and_false]);have aO:=hid hcall;clear hcall ga hq;go_wp2_with fail
    refine aO.out.mono ?_;rintro e w1 ⟨rfl,hb1⟩;have HB1:=hid (dJ.out.trans (hb1.mono dJ.out.size));clear hb1;go_wp2_with fail
    go_ret
    exact⟨aC HR.out.symm,HB1.out⟩
   ·rw[hq]at hcall
    have HQ:=hid (show iC (f.args.getD i default)=true by rw[HG.out];exact hq);have aO:=hid hcall;clear hcall ga hq;go_wp2_with fail
    refine aO.out.mono ?_;rintro e w1 ⟨rfl,hb1⟩;have HB1:=hid (HB.out.trans (hb1.mono HB.out.size));clear hb1;go_wp2_with fail
    go_roundw
    case rel=>exact⟨i+1,by omega,by go_num,HB1.out,lQ.out.succ HQ.out⟩
    case measure=>simp[intOf];omega
  ·have hii:¬(i:Int)<f.args.length:=by omega
   have HR:=hid (show iC f=true by rw[qm.out];rw[HP.out,Bool.true_and];exact lQ.out.all (by omega));go_wp2_with fail
   go_ret
   exact⟨aC HR.out.symm,dJ.out⟩
section
variable {D:Dom}{v:Value}{f:Fm}{w:World}
theorem tH (m:Nat)(l:Int)(hl:l=(m:Int))(hm:m<=1000000)(r:Bool)(hr:decide (f.size<=m)=r)(h:bG w D v f):Calls Tryz.prog 9 #[v,.int .i64 l] w fun e w'=>e = .returned (.bool r)/\Below w.heap.size w w':=by
 subst hl;rw[<-hr];exact Gq f _ m w h hm
theorem Am (r:Bool)(hr:iC f=r)(hz:f.size<=1000000)(h:bG w D v f):Calls Tryz.prog 48 #[v] w fun e w'=>e = .returned (.bool r)/\Below w.heap.size w w':=by
 rw[<-hr];exact SE f v w h hz
theorem La (r:Bool)(hr:dS f=r)(hn:iC f=true)(h:bG w D v f):Calls Tryz.prog 49 #[v] w fun e w'=>e = .returned (.bool r)/\Below w.heap.size w w':=by
 rw[<-hr];exact VQ f v w h hn
theorem Zw (r:Bool)(hr:vN f=r)(h:bG w D v f):Calls Tryz.prog 50 #[v] w fun e w'=>e = .returned (.bool r)/\Below w.heap.size w w':=by
 rw[<-hr];exact Lc f v w h
end
def kY (f:Fm):Bool:=decide (f.size<=400)&&decide (f.depth<=60)&&iC f&&dS f&&vN f
theorem SC {D:Dom}(f:Fm)(v:Value)(w:World)(h:bG w D v f):Calls Tryz.prog 11 #[v] w fun e w'=>e = .returned (.bool (kY f))/\Below w.heap.size w w':=by
 obtain⟨A,c,rfl,ha⟩:=h;have HA:=hid ha.old;clear ha
 go_enter Tryz.func11,Tryz.ntmps11
 go_upto_region 1 with(fail)
 refine aH fun W hW=>?_;have hbx:dI W w.heap.size f A c:=by rw[hW];exact dI.new w f A c
 have fE:=hid hbx;have aY:=hid (show Below w.heap.size w W by rw[hW];go_grown);have HV:Hid (bG W aZ (.agg #[.int .i64 f.op,.string f.name,.int .i64 f.val,.int .i64 f.bound,.slice A f.args.length c]) f):=hid ⟨A,c,rfl,(HA.out.keep (Keeps.of_below aY.out fun _ h=>h)).mono fun _ _ _=>trivial⟩;obtain⟨x0,x1,x2,x3,x4,xl⟩:=hbx.cells;clear hW hbx HA
 by_cases c0:f.size<=400
 rotate_left
 ·have hc0:=hid (decide_eq_false c0)
  have HR:=hid (show kY f=false by unfold kY;rw[hc0.out];rfl);go_wp2_with (go_at_call 9;(with_reducible refine(tH (D:=aZ) (f:=f) 400 400 rfl ?_ false ?_ ?_).mono ?_);decide;exact hc0.out;exact HV.out;rintro e U ⟨rfl,hb⟩;clear x0 x1 x2 x3 x4 xl;replace HV:=hid (HV.out.any hb);replace fE:=hid (fE.out.below hb);replace aY:=hid (aY.out.trans (hb.mono aY.out.size));obtain⟨x0,x1,x2,x3,x4,xl⟩:=fE.out.cells;clear hb)
  go_ret
  exact⟨aC HR.out.symm,aY.out⟩
 have hc0:=hid (decide_eq_true c0);have jQ:=hid c0
 by_cases c1:f.depth<=60
 rotate_left
 ·have hc1:=hid (decide_eq_false c1)
  have e1:decide ((f.depth:Int)<=60)=false:=decide_eq_false (by omega);have k1:¬(f.depth:Int)<=60:=by omega
  clear c0 c1;have HR:=hid (show kY f=false by unfold kY;rw[hc0.out,hc1.out];rfl)
  go_wp2_with (first|(go_at_call 9;(with_reducible refine(tH (D:=aZ) (f:=f) 400 400 rfl ?_ true ?_ ?_).mono ?_);decide;exact hc0.out;exact HV.out;rintro e U ⟨rfl,hb⟩;clear x0 x1 x2 x3 x4 xl;replace HV:=hid (HV.out.any hb);replace fE:=hid (fE.out.below hb);replace aY:=hid (aY.out.trans (hb.mono aY.out.size));obtain⟨x0,x1,x2,x3,x4,xl⟩:=fE.out.cells;clear hb)|(go_at_call 47;(with_reducible refine(qM f _ _ HV.out ?_).mono ?_);(have:=nC f;have:=jQ.out;omega);rintro e U ⟨rfl,hb⟩;clear x0 x1 x2 x3 x4 xl;replace HV:=hid (HV.out.any hb);replace fE:=hid (fE.out.below hb);replace aY:=hid (aY.out.trans (hb.mono aY.out.size));obtain⟨x0,x1,x2,x3,x4,xl⟩:=fE.out.cells;clear hb))
  go_ret
  exact⟨aC HR.out.symm,aY.out⟩
 have hc1:=hid (decide_eq_true c1);have e1:decide ((f.depth:Int)<=60)=true:=decide_eq_true (by omega);have k1:(f.depth:Int)<=60:=by omega
 clear c0 c1;cases c2:iC f
 ·have hc2:=hid c2
  clear c2;have HR:=hid (show kY f=false by unfold kY;rw[hc0.out,hc1.out,hc2.out];rfl)
  go_wp2_with (first|(go_at_call 9;(with_reducible refine(tH (D:=aZ) (f:=f) 400 400 rfl ?_ true ?_ ?_).mono ?_);decide;exact hc0.out;exact HV.out;rintro e U ⟨rfl,hb⟩;clear x0 x1 x2 x3 x4 xl;replace HV:=hid (HV.out.any hb);replace fE:=hid (fE.out.below hb);replace aY:=hid (aY.out.trans (hb.mono aY.out.size));obtain⟨x0,x1,x2,x3,x4,xl⟩:=fE.out.cells;clear hb)|(go_at_call 47;(with_reducible refine(qM f _ _ HV.out ?_).mono ?_);(have:=nC f;have:=jQ.out;omega);rintro e U ⟨rfl,hb⟩;clear x0 x1 x2 x3 x4 xl;replace HV:=hid (HV.out.any hb);replace fE:=hid (fE.out.below hb);replace aY:=hid (aY.out.trans (hb.mono aY.out.size));obtain⟨x0,x1,x2,x3,x4,xl⟩:=fE.out.cells;clear hb)|(go_at_call 48;(with_reducible refine(Am (D:=aZ) (f:=f) false ?_ ?_ ?_).mono ?_);exact hc2.out;(have:=jQ.out;omega);exact HV.out;rintro e U ⟨rfl,hb⟩;clear x0 x1 x2 x3 x4 xl;replace HV:=hid (HV.out.any hb);replace fE:=hid (fE.out.below hb);replace aY:=hid (aY.out.trans (hb.mono aY.out.size));obtain⟨x0,x1,x2,x3,x4,xl⟩:=fE.out.cells;clear hb))
  go_ret
  exact⟨aC HR.out.symm,aY.out⟩
 have hc2:=hid c2;clear c2;cases c3:dS f
 ·have hc3:=hid c3
  clear c3;have HR:=hid (show kY f=false by unfold kY;rw[hc0.out,hc1.out,hc2.out,hc3.out];rfl)
  go_wp2_with (first|(go_at_call 9;(with_reducible refine(tH (D:=aZ) (f:=f) 400 400 rfl ?_ true ?_ ?_).mono ?_);decide;exact hc0.out;exact HV.out;rintro e U ⟨rfl,hb⟩;clear x0 x1 x2 x3 x4 xl;replace HV:=hid (HV.out.any hb);replace fE:=hid (fE.out.below hb);replace aY:=hid (aY.out.trans (hb.mono aY.out.size));obtain⟨x0,x1,x2,x3,x4,xl⟩:=fE.out.cells;clear hb)|(go_at_call 47;(with_reducible refine(qM f _ _ HV.out ?_).mono ?_);(have:=nC f;have:=jQ.out;omega);rintro e U ⟨rfl,hb⟩;clear x0 x1 x2 x3 x4 xl;replace HV:=hid (HV.out.any hb);replace fE:=hid (fE.out.below hb);replace aY:=hid (aY.out.trans (hb.mono aY.out.size));obtain⟨x0,x1,x2,x3,x4,xl⟩:=fE.out.cells;clear hb)|(go_at_call 48;(with_reducible refine(Am (D:=aZ) (f:=f) true ?_ ?_ ?_).mono ?_);exact hc2.out;(have:=jQ.out;omega);exact HV.out;rintro e U ⟨rfl,hb⟩;clear x0 x1 x2 x3 x4 xl;replace HV:=hid (HV.out.any hb);replace fE:=hid (fE.out.below hb);replace aY:=hid (aY.out.trans (hb.mono aY.out.size));obtain⟨x0,x1,x2,x3,x4,xl⟩:=fE.out.cells;clear hb)|(go_at_call 49;(with_reducible refine(La (D:=aZ) (f:=f) false ?_ ?_ ?_).mono ?_);exact hc3.out;exact hc2.out;exact HV.out;rintro e U ⟨rfl,hb⟩;clear x0 x1 x2 x3 x4 xl;replace HV:=hid (HV.out.any hb);replace fE:=hid (fE.out.below hb);replace aY:=hid (aY.out.trans (hb.mono aY.out.size));obtain⟨x0,x1,x2,x3,x4,xl⟩:=fE.out.cells;clear hb))
  go_ret
  exact⟨aC HR.out.symm,aY.out⟩
 have hc3:=hid c3;clear c3;cases c4:vN f
 ·have hc4:=hid c4
  clear c4;have HR:=hid (show kY f=false by unfold kY;rw[hc0.out,hc1.out,hc2.out,hc3.out,hc4.out];rfl)
  go_wp2_with (first|(go_at_call 9;(with_reducible refine(tH (D:=aZ) (f:=f) 400 400 rfl ?_ true ?_ ?_).mono ?_);decide;exact hc0.out;exact HV.out;rintro e U ⟨rfl,hb⟩;clear x0 x1 x2 x3 x4 xl;replace HV:=hid (HV.out.any hb);replace fE:=hid (fE.out.below hb);replace aY:=hid (aY.out.trans (hb.mono aY.out.size));obtain⟨x0,x1,x2,x3,x4,xl⟩:=fE.out.cells;clear hb)|(go_at_call 47;(with_reducible refine(qM f _ _ HV.out ?_).mono ?_);(have:=nC f;have:=jQ.out;omega);rintro e U ⟨rfl,hb⟩;clear x0 x1 x2 x3 x4 xl;replace HV:=hid (HV.out.any hb);replace fE:=hid (fE.out.below hb);replace aY:=hid (aY.out.trans (hb.mono aY.out.size));obtain⟨x0,x1,x2,x3,x4,xl⟩:=fE.out.cells;clear hb)|(go_at_call 48;(with_reducible refine(Am (D:=aZ) (f:=f) true ?_ ?_ ?_).mono ?_);exact hc2.out;(have:=jQ.out;omega);exact HV.out;rintro e U ⟨rfl,hb⟩;clear x0 x1 x2 x3 x4 xl;replace HV:=hid (HV.out.any hb);replace fE:=hid (fE.out.below hb);replace aY:=hid (aY.out.trans (hb.mono aY.out.size));obtain⟨x0,x1,x2,x3,x4,xl⟩:=fE.out.cells;clear hb)|(go_at_call 49;(with_reducible refine(La (D:=aZ) (f:=f) true ?_ ?_ ?_).mono ?_);exact hc3.out;exact hc2.out;exact HV.out;rintro e U ⟨rfl,hb⟩;clear x0 x1 x2 x3 x4 xl;replace HV:=hid (HV.out.any hb);replace fE:=hid (fE.out.below hb);replace aY:=hid (aY.out.trans (hb.mono aY.out.size));obtain⟨x0,x1,x2,x3,x4,xl⟩:=fE.out.cells;clear hb)|(go_at_call 50;(with_reducible refine(Zw (D:=aZ) (f:=f) false ?_ ?_).mono ?_);exact hc4.out;exact HV.out;rintro e U ⟨rfl,hb⟩;clear x0 x1 x2 x3 x4 xl;replace HV:=hid (HV.out.any hb);replace fE:=hid (fE.out.below hb);replace aY:=hid (aY.out.trans (hb.mono aY.out.size));obtain⟨x0,x1,x2,x3,x4,xl⟩:=fE.out.cells;clear hb))
  go_ret
  exact⟨aC HR.out.symm,aY.out⟩
 have hc4:=hid c4;clear c4;have HR:=hid (show kY f=true by unfold kY;rw[hc0.out,hc1.out,hc2.out,hc3.out,hc4.out];rfl)
 go_wp2_with (first|(go_at_call 9;(with_reducible refine(tH (D:=aZ) (f:=f) 400 400 rfl ?_ true ?_ ?_).mono ?_);decide;exact hc0.out;exact HV.out;rintro e U ⟨rfl,hb⟩;clear x0 x1 x2 x3 x4 xl;replace HV:=hid (HV.out.any hb);replace fE:=hid (fE.out.below hb);replace aY:=hid (aY.out.trans (hb.mono aY.out.size));obtain⟨x0,x1,x2,x3,x4,xl⟩:=fE.out.cells;clear hb)|(go_at_call 47;(with_reducible refine(qM f _ _ HV.out ?_).mono ?_);(have:=nC f;have:=jQ.out;omega);rintro e U ⟨rfl,hb⟩;clear x0 x1 x2 x3 x4 xl;replace HV:=hid (HV.out.any hb);replace fE:=hid (fE.out.below hb);replace aY:=hid (aY.out.trans (hb.mono aY.out.size));obtain⟨x0,x1,x2,x3,x4,xl⟩:=fE.out.cells;clear hb)|(go_at_call 48;(with_reducible refine(Am (D:=aZ) (f:=f) true ?_ ?_ ?_).mono ?_);exact hc2.out;(have:=jQ.out;omega);exact HV.out;rintro e U ⟨rfl,hb⟩;clear x0 x1 x2 x3 x4 xl;replace HV:=hid (HV.out.any hb);replace fE:=hid (fE.out.below hb);replace aY:=hid (aY.out.trans (hb.mono aY.out.size));obtain⟨x0,x1,x2,x3,x4,xl⟩:=fE.out.cells;clear hb)|(go_at_call 49;(with_reducible refine(La (D:=aZ) (f:=f) true ?_ ?_ ?_).mono ?_);exact hc3.out;exact hc2.out;exact HV.out;rintro e U ⟨rfl,hb⟩;clear x0 x1 x2 x3 x4 xl;replace HV:=hid (HV.out.any hb);replace fE:=hid (fE.out.below hb);replace aY:=hid (aY.out.trans (hb.mono aY.out.size));obtain⟨x0,x1,x2,x3,x4,xl⟩:=fE.out.cells;clear hb)|(go_at_call 50;(with_reducible refine(Zw (D:=aZ) (f:=f) true ?_ ?_).mono ?_);exact hc4.out;exact HV.out;rintro e U ⟨rfl,hb⟩;clear x0 x1 x2 x3 x4 xl;replace HV:=hid (HV.out.any hb);replace fE:=hid (fE.out.below hb);replace aY:=hid (aY.out.trans (hb.mono aY.out.size));obtain⟨x0,x1,x2,x3,x4,xl⟩:=fE.out.cells;clear hb))
 go_ret
 exact⟨aC HR.out.symm,aY.out⟩
theorem Zx {D:Dom}{v:Value}{f:Fm}{w:World}(r:Bool)(hr:kY f=r)(h:bG w D v f):Calls Tryz.prog 11 #[v] w fun e w'=>e = .returned (.bool r)/\Below w.heap.size w w':=by
 rw[<-hr];exact SC f v w h
end Go.Proofs.YtdpbgcmfeajigaaGreatDoor
namespace Go.Proofs.YtdpbgcmfeajigaaGreatDoor
structure Sg where
 name:ByteArray
 inp:Bool
 size:Int
instance:Inhabited Sg:=⟨⟨⟨#[]⟩,false,0⟩⟩
def jW (s:ByteArray):List ByteArray->Nat
 | []=>0
 | a :: l=>if a=s then 0 else jW s l+1
theorem Bq {s:ByteArray}:∀{l:List ByteArray},jW s l<l.length->l.getD (jW s l) ⟨#[]⟩=s
 | [],h=>by simp[jW]at h
 | a :: l,h=>by
  rw[jW]at h⊢
  by_cases e:a=s
  ·rw[if_pos e];exact e
  ·rw[if_neg e]at h⊢
   rw[List.getD_cons_succ];exact Bq (by simpa using h)
theorem yP {s:ByteArray}:∀{l:List ByteArray} {k:Nat},k<jW s l->l.getD k ⟨#[]⟩≠s
 | [],k,h=>by simp[jW]at h
 | a :: l,k,h=>by
  rw[jW]at h
  by_cases e:a=s
  ·rw[if_pos e]at h;omega
  ·rw[if_neg e]at h
   cases k with
   | zero=>exact e
   | succ k=>rw[List.getD_cons_succ];exact yP (by omega)
theorem I4 {s:ByteArray}{l:List ByteArray}{k:Nat}(hk:k<l.length)(h:l.getD k ⟨#[]⟩=s):jW s l<=k:=by
 by_cases hl:k<jW s l
 ·exact absurd h (yP hl)
 ·omega
theorem UY {s:ByteArray}{l:List ByteArray}{k:Nat}(hk:k<l.length)(h:l.getD k ⟨#[]⟩=s)(hm:∀j,j<k->l.getD j ⟨#[]⟩≠s):jW s l=k:=by
 have h1:=I4 hk h;have h2:¬jW s l<k:=fun hl=>hm _ hl (Bq (Nat.lt_of_lt_of_le hl (Nat.le_of_lt hk)));omega
theorem IZ {s:ByteArray}{l:List ByteArray}{k:Nat}(hk:k<=l.length):k<=jW s l ↔ ∀j,j<k->l.getD j ⟨#[]⟩≠s:=by
 constructor
 ·intro h j hj;exact yP (by omega)
 ·intro h
  rcases Nat.lt_or_ge (jW s l) k with hl|hl
  ·exact absurd (Bq (by omega)) (h _ hl)
  ·exact hl
def xY (l:List Sg):List ByteArray:=l.map Sg.name
theorem rF (l:List Sg):(xY l).length=l.length:=List.length_map ..
theorem qN {l:List Sg}(k:Nat)(hk:k<l.length):(xY l).getD k ⟨#[]⟩=(l.getD k default).name:=by
 simp[xY,List.getD,hk]
def gu (l:List Sg)(s:ByteArray):Nat:=jW s (xY l)
def jv (l:List Sg)(s:ByteArray):Int:=if gu l s<l.length then(gu l s:Int)else -1
def lK:List Sg->Int
 | []=>1
 | a :: l=>a.size*lK l
theorem pY:∀l m:List Sg,lK (l++m)=lK l*lK m
 | [],m=>by simp[lK]
 | a :: l,m=>by simp only[List.cons_append,lK,pY l m,Int.mul_assoc]
def Cj (l:List Sg)(i:Nat):Bool:=nameB (l.getD i default).name&&decide (2<=(l.getD i default).size)&&decide ((l.getD i default).size<=4)&&decide (i<=gu l (l.getD i default).name)
def dM (l:List Sg):Bool:=decide (1<=l.length)&&decide (l.length<=6)&&oJ l.length (Cj l)&&decide (lK l<=64)
def RZ (o:Int):Bool:=decide (15<=o)&&decide (o<=19)
def eU (l:List Sg)(f:Fm):Int :=
 if f.op=3 then(if gu l f.name<l.length then(if(l.getD (gu l f.name) default).size<=f.val then 71 else 0)else 70)
 else if RZ f.op then(if f.args.all (allB dL)then 0 else 72)else 0
def zL (l:List Sg):List (Fm×Bool)->Int
 | []=>0
 | x :: r=>if eU l x.1=0 then zL l r else eU l x.1
def kW (l:List Sg)(f:Fm):Int :=
 if dM l then(if kN f then(if zL l (dV false f)=0 then(if(fD f).2=0 then 0 else 2)else zL l (dV false f))else 30)else 1
structure Rq where
 part:ByteArray
 name:ByteArray
 kind:Int
 f:Fm
instance:Inhabited Rq:=⟨⟨⟨#[]⟩,⟨#[]⟩,0,default⟩⟩
def QK (l:List Sg)(x:Fm×Bool):Bool:=decide (eU l x.1=0)
theorem IX (l:List Sg):∀L:List (Fm×Bool),zL l L=0 ↔ L.all (QK l)=true
 | []=>by simp[zL]
 | x :: r=>by
  rw[zL,List.all_cons,Bool.and_eq_true,<-IX l r];unfold QK
  by_cases h:eU l x.1=0
  ·simp[h]
  ·simp[h]
theorem XQ {q:Fm×Bool->Bool}(hq:∀g a b,q (g,a)=q (g,b)){a b:Bool}{f:Fm}(h:(dV a f).all q=true):(dV b f).all q=true:=by
 have hless:∀x,q (x,true)=true->q (x,false)=true:=fun x h=>by rw[hq x false true];exact h
 have key:∀f:Fm,(dV false f).all q=true->(dV true f).all q=true:=by
  intro f;refine Fm.induct (P:=fun f=>(dV false f).all q=true->(dV true f).all q=true) ?_ f;intro f ih h;rw[mM,List.all_cons,Bool.and_eq_true]at h⊢;refine⟨by rw[hq f true false];exact h.1,JZ fun g hg=>?_⟩;have h2:=zD hg h.2;obtain⟨i,hi,rfl⟩:=List.getElem_of_mem hg;have e:f.args.getD i default=f.args[i]:=by simp[List.getD,hi]
  have ih:=ih i hi;rw[e]at ih;simp only[Bool.true_or];cases hp:(false || (aI f.op).past)
  ·rw[hp]at h2;exact ih h2
  ·rw[hp]at h2;exact h2
 have key2:∀f:Fm,(dV true f).all q=true->(dV false f).all q=true:=fun f h=>EU hless f h
 cases a <;> cases b
 ·exact h
 ·exact key f h
 ·exact key2 f h
 ·exact h
theorem Si:∀(g:Fm) (a b:Bool),dL (g,a)=dL (g,b):=fun _ _ _=>rfl
theorem qa8 {l:List Sg}{f g:Fm}(hg:g∈f.args)(h:allB (QK l) f=true):allB (QK l) g=true:=zB (q:=QK l) (fun _ h=>h) hg h
def Xa (l:List Sg)(f:Fm):Prop:=dM l=true/\kN f=true/\allB (QK l) f=true
theorem Xa.arg {l:List Sg}{f g:Fm}(h:Xa l f)(hg:g∈f.args):Xa l g:=⟨h.1,WC hg h.2.1,qa8 hg h.2.2⟩
def nm (i:Nat):ByteArray:=⟨#[UInt8.ofNat (97+i),95,120]⟩
open Go.RowKit
def nI (s:Sg):List Value := [.string s.name,.bool s.inp,.int .i64 s.size]
def lV (w:World)(D:Dom)(A:Option Addr)(c:Nat)(l:List Sg):Prop:=Rd w D 3 A l.length c (l.flatMap nI)
section
variable {D E:Dom}{w w':World}{A:Option Addr}{c:Nat}{l:List Sg}
theorem lV.nil (w:World)(D:Dom)(A:Option Addr){c:Nat}(hc:c<=9223372036854775807):lV w D A c []:=Rd.nil w D 3 A hc
theorem lV.len (h:lV w D A c l):l.length<=140737488355328/\l.length<=c/\c<=9223372036854775807:=h.1.2
theorem lV.keep (h:lV w D A c l)(hk:Keeps D w w'):lV w' D A c l:=Rd.keep h hk
theorem lV.mono (h:lV w D A c l)(hE:∀b,D b->b<w.heap.size->E b):lV w E A c l:=Rd.mono h hE
theorem lV.old (h:lV w D A c l):lV w (· < w.heap.size) A c l:=Rd.old h
theorem lV.any (h:lV w D A c l)(hb:Below w.heap.size w w'):lV w' aZ A c l:=(h.old.keep (Keeps.of_below hb fun _ h=>h)).mono fun _ _ _=>trivial
theorem lV.get {k:Nat}(h:lV w D A c l)(hk:k<l.length):∃b o s,A=some ⟨b,o,none⟩/\b<w.heap.size/\Hid (l.getD k default=s) /\
  w.cell? ⟨b,o+k*3,none⟩=some (.string s.name)/\w.cell? ⟨b,o+k*3+1,none⟩=some (.bool s.inp)/\w.cell? ⟨b,o+k*3+2,none⟩=some (.int .i64 s.size):=by
 obtain⟨b,o,e,hb,hl,hc⟩:=h.2 (by omega);have g:∀j u,j<3->(nI (l.getD k default))[j]?=some u->w.cell? ⟨b,o+(k*3+j),none⟩=some u:=fun j u hj hu=>hc _ _ (by rw[wF nI default 3 (fun _=>rfl) l k j hk hj];exact hu);have g0:=g 0 _ (by omega) rfl;have g1:=g 1 _ (by omega) rfl;have g2:=g 2 _ (by omega) rfl;exact⟨b,o,l.getD k default,e,hl,hid rfl,by simpa using g0,by simpa[Nat.add_assoc]using g1,by simpa[Nat.add_assoc]using g2⟩
end
def KY (r:Rq)(s:Option Addr×Nat):List Value := [.string r.part,.string r.name,.int .i64 r.kind,.int .i64 r.f.op,.string r.f.name,.int .i64 r.f.val,.int .i64 r.f.bound,.slice s.1 r.f.args.length s.2]
def QD (l:List Rq)(sl:List (Option Addr×Nat)):List Value:=(l.zip sl).flatMap fun p=>KY p.1 p.2
def LM (w:World)(D:Dom)(A:Option Addr)(c:Nat)(l:List Rq):Prop :=
 ∃sl:List (Option Addr×Nat),sl.length=l.length/\Rd w D 8 A l.length c (QD l sl)/\∀i,i<l.length->bM w D (l.getD i default).f.args (sl.getD i (none,0)).1 (sl.getD i (none,0)).2
theorem ZL {L:List Rq}{sl:List (Option Addr×Nat)}(hl:sl.length=L.length){k:Nat}(hk:k<L.length):(L.zip sl).getD k (default,(none,0))=(L.getD k default,sl.getD k (none,0)):=by
 have hs:k<sl.length:=by omega
 have hzk:k<(L.zip sl).length:=by rw[List.length_zip];omega
 rw[List.getD_eq_getElem?_getD,List.getD_eq_getElem?_getD,List.getD_eq_getElem?_getD,List.getElem?_eq_getElem hzk,List.getElem?_eq_getElem hk,List.getElem?_eq_getElem hs];exact List.getElem_zip
theorem UQ {L:List Rq}{sl:List (Option Addr×Nat)}(hl:sl.length=L.length){k j:Nat}(hk:k<L.length)(hj:j<8):(QD L sl)[k*8+j]?=(KY (L.getD k default) (sl.getD k (none,0)))[j]?:=by
 unfold QD;rw[wF (fun p:Rq×(Option Addr×Nat)=>KY p.1 p.2) (default,((none:Option Addr),0)) 8 (fun _=>rfl) (L.zip sl) k j (by rw[List.length_zip,hl];omega) hj,ZL hl hk]
structure Qh (w:World) (D:Dom) (b o:Nat) (r:Rq) (A:Option Addr) (c:Nat):Prop where
 dom:D b
 lt:b<w.heap.size
 c0:w.cell? ⟨b,o,none⟩=some (.string r.part)
 c1:w.cell? ⟨b,o+1,none⟩=some (.string r.name)
 c2:w.cell? ⟨b,o+2,none⟩=some (.int .i64 r.kind)
 c3:w.cell? ⟨b,o+3,none⟩=some (.int .i64 r.f.op)
 c4:w.cell? ⟨b,o+4,none⟩=some (.string r.f.name)
 c5:w.cell? ⟨b,o+5,none⟩=some (.int .i64 r.f.val)
 c6:w.cell? ⟨b,o+6,none⟩=some (.int .i64 r.f.bound)
 c7:w.cell? ⟨b,o+7,none⟩=some (.slice A r.f.args.length c)
 args:bM w D r.f.args A c
section
variable {D E:Dom}{w w':World}{A:Option Addr}{c:Nat}{l:List Rq}
theorem LM.nil (w:World)(D:Dom)(A:Option Addr){c:Nat}(hc:c<=9223372036854775807):LM w D A c []:=⟨[],rfl,Rd.nil w D 8 A hc,fun _ h=>absurd h (Nat.not_lt_zero _)⟩
theorem LM.len (h:LM w D A c l):l.length<=140737488355328/\l.length<=c/\c<=9223372036854775807:=let ⟨_,_,h1,_⟩:=h;h1.1.2
theorem LM.keep (h:LM w D A c l)(hk:Keeps D w w'):LM w' D A c l:=let ⟨sl,h0,h1,h2⟩:=h;⟨sl,h0,h1.keep hk,fun i hi=>(h2 i hi).keep hk⟩
theorem LM.mono (h:LM w D A c l)(hE:∀b,D b->b<w.heap.size->E b):LM w E A c l:=let ⟨sl,h0,h1,h2⟩:=h;⟨sl,h0,h1.mono hE,fun i hi=>(h2 i hi).mono hE⟩
theorem LM.old (h:LM w D A c l):LM w (· < w.heap.size) A c l:=h.mono fun _ _ hl=>hl
theorem LM.any (h:LM w D A c l)(hb:Below w.heap.size w w'):LM w' aZ A c l:=(h.old.keep (Keeps.of_below hb fun _ h=>h)).mono fun _ _ _=>trivial
theorem LM.get {k:Nat}(h:LM w D A c l)(hk:k<l.length):∃b o A' c' r,A=some ⟨b,o,none⟩/\Hid (l.getD k default=r)/\Qh w D b (o+k*8) r A' c':=by
 obtain⟨sl,h0,h1,h2⟩:=h;obtain⟨b,o,e,hb,hl,hc⟩:=h1.2 (by omega);have g:∀j u,j<8->(KY (l.getD k default) (sl.getD k (none,0)))[j]?=some u->w.cell? ⟨b,o+(k*8+j),none⟩=some u:=fun j u hj hu=>hc _ _ (by rw[UQ h0 hk hj];exact hu);have g0:=g 0 _ (by omega) rfl;have g1:=g 1 _ (by omega) rfl;have g2:=g 2 _ (by omega) rfl;have g3:=g 3 _ (by omega) rfl;have g4:=g 4 _ (by omega) rfl;have g5:=g 5 _ (by omega) rfl;have g6:=g 6 _ (by omega) rfl;have g7:=g 7 _ (by omega) rfl
 exact⟨b,o,_,_,l.getD k default,e,hid rfl,hb,hl,by simpa using g0,by simpa[Nat.add_assoc]using g1,by simpa[Nat.add_assoc]using g2,by simpa[Nat.add_assoc]using g3,by simpa[Nat.add_assoc]using g4,by simpa[Nat.add_assoc]using g5,by simpa[Nat.add_assoc]using g6,by simpa[Nat.add_assoc]using g7,h2 k hk⟩
end
theorem Qh.keep {w w':World}{D:Dom}{b o:Nat}{r:Rq}{A:Option Addr}{c:Nat}(h:Qh w D b o r A c)(hk:Keeps D w w'):Qh w' D b o r A c :=
 ⟨h.dom,Nat.lt_of_lt_of_le h.lt hk.size,hk.cell h.dom h.c0,hk.cell h.dom h.c1,hk.cell h.dom h.c2,hk.cell h.dom h.c3,hk.cell h.dom h.c4,hk.cell h.dom h.c5,hk.cell h.dom h.c6,hk.cell h.dom h.c7,h.args.keep hk⟩
theorem Qh.any {w w':World}{D:Dom}{b o:Nat}{r:Rq}{A:Option Addr}{c:Nat}(h:Qh w D b o r A c)(hb:Below w.heap.size w w'):Qh w' aZ b o r A c:=by
 have hk:Keeps (· < w.heap.size) w w':=Keeps.of_below hb fun _ h=>h;exact⟨trivial,Nat.lt_of_lt_of_le h.lt hk.size,hk.cell h.lt h.c0,hk.cell h.lt h.c1,hk.cell h.lt h.c2,hk.cell h.lt h.c3,hk.cell h.lt h.c4,hk.cell h.lt h.c5,hk.cell h.lt h.c6,hk.cell h.lt h.c7,h.args.any hb⟩
end Go.Proofs.YtdpbgcmfeajigaaGreatDoor
namespace Go.Proofs.YtdpbgcmfeajigaaGreatDoor
open Go.RowKit
attribute [local go_sem] ak
theorem Jj {P s:Int}(h1:1<=P)(h2:P<=4096)(h3:2<=s)(h4:s<=4):1<=P*s/\P*s<=4*P:=by
 have:s=2\/s=3\/s=4:=by omega
 rcases this with rfl|rfl|rfl <;> omega
structure Bd (l:List Sg) (i:Nat) (P:Int):Prop where
 is:P=lK (l.take i)
 lo:1<=P
 hi:P<=4 ^ i
theorem Bd.zero (l:List Sg):Bd l 0 1:=⟨rfl,by omega,by decide⟩
theorem Bd.succ {l:List Sg}{i:Nat}{P s:Int}(h:Bd l i P)(hi:i<l.length)(h6:i<6)(hs:(l.getD i default).size=s)(h2:2<=s)(h4:s<=4):Bd l (i+1) (P*s):=by
 have hP:P<=4096:=by
  refine Int.le_trans h.hi ?_;have:i=0\/i=1\/i=2\/i=3\/i=4\/i=5:=by omega
  rcases this with rfl|rfl|rfl|rfl|rfl|rfl <;> decide
 have hm:=Jj h.lo hP h2 h4;refine⟨?_,hm.1,?_⟩
 ·rw[aT l default hi,pY,<-h.is]
  show P*s=P*((l.getD i default).size*1);rw[hs,Int.mul_one]
 ·have:=h.hi
  rw[Int.pow_succ];omega
theorem Bd.wrap {l:List Sg}{i:Nat}{P s:Int}(h:Bd l i P)(h6:i<6)(h2:2<=s)(h4:s<=4):IntKind.i64.wrap (P*s)=P*s:=by
 have hP:P<=4096:=by
  refine Int.le_trans h.hi ?_;have:i=0\/i=1\/i=2\/i=3\/i=4\/i=5:=by omega
  rcases this with rfl|rfl|rfl|rfl|rfl|rfl <;> decide
 have hm:=Jj h.lo hP h2 h4;exact IntWalk.i64_in _ (by omega)
theorem wS {l:List Sg}{i:Nat}(hi:i<l.length)(h:Cj l i=false):dM l=false:=by
 unfold dM;rw[dB hi h];simp
theorem Fp {l:List Sg}{s:ByteArray}{k:Nat}(hk:k<l.length)(h:(l.getD k default).name=s):gu l s<=k :=
 I4 (by rw[rF];exact hk) (by rw[qN k hk];exact h)
theorem Fj {l:List Sg}{s:ByteArray}{k:Nat}(hk:k<=l.length)(h:∀j,j<k->(l.getD j default).name≠s):k<=gu l s :=
 (IZ (by rw[rF];exact hk)).2 fun j hj=>by rw[qN j (by omega)];exact h j hj
theorem uQ {D:Dom}(l:List Sg)(A:Option Addr)(c n:Nat)(w:World)(hn:n=l.length)(h:lV w D A c l)(hk:GK w) :
  Calls Tryz.prog 84 #[.slice A n c] w fun e w'=>e = .returned (.bool (dM l))/\Below w.heap.size w w':=by
 subst hn;have hlen:=h.len.1;have HH:=hid h.old;have HK:=hid hk;clear h hk
 by_cases h1:l.length<1
 ·have HR:=hid (show dM l=false by unfold dM;rw[decide_eq_false (by omega)];rfl)
  have d1:decide ((l.length:Int)<1)=true:=decide_eq_true (by omega);have d1':(l.length:Int)<1:=by omega
  clear h1
  go_enter Tryz.func84,Tryz.ntmps84
  go_wp2_with fail
  go_step3
  go_wp2_with fail
  try rw[Exit.noGoto_ret]
  go_ret
  exact⟨aC HR.out.symm,by go_grown⟩
 by_cases h2:6<l.length
 ·have HR:=hid (show dM l=false by unfold dM;rw[decide_eq_false (show¬l.length<=6 by omega)];simp)
  have d1':¬(l.length:Int)<1:=by omega
  have d2':6<(l.length:Int):=by omega
  have d1:decide ((l.length:Int)<1)=false:=decide_eq_false d1';have d2:decide (6<(l.length:Int))=true:=decide_eq_true d2';clear h1 h2
  go_enter Tryz.func84,Tryz.ntmps84
  go_wp2_with fail
  go_step3
  go_wp2_with fail
  try rw[Exit.noGoto_ret]
  go_ret
  exact⟨aC HR.out.symm,by go_grown⟩
 have d1':¬(l.length:Int)<1:=by omega
 have d2':¬6<(l.length:Int):=by omega
 have d1:decide ((l.length:Int)<1)=false:=decide_eq_false d1';have d2:decide (6<(l.length:Int))=false:=decide_eq_false d2';have H16:=hid (show 1<=l.length/\l.length<=6 by omega);clear h1 h2
 go_enter Tryz.func84,Tryz.ntmps84
 go_wp2_with fail
 go_step3
 go_wp2_with fail
 go_step3
 go_upto_region 5 with(fail)
 refine aH fun W hW=>?_;have HB:=hid (show Below w.heap.size w W by rw[hW];go_grown);clear hW;go_wp2_with fail
 go_loopw [3,4,17] (fun p r q wr=>∃(i:Nat) (P:Int),i<=l.length/\p = .bool true/\q = .int .i64 (i:Int)/\r = .int .i64 P/\Hid (Bd l i P)/\Hid (fA i (Cj l))/\Below w.heap.size w wr) (fun _ _ q _=>l.length-(intOf q).toNat)
 case atStart=>exact⟨0,1,Nat.zero_le _,rfl,rfl,rfl,Bd.zero l,fA.zero _,HB.out⟩
 case round =>
  obtain⟨i,P,hi,rfl,rfl,rfl,HP,HS,hb⟩:=hrel;have bT:=hid hb;clear hb
  by_cases hlt:i<l.length
  ·have hii:(i:Int)<l.length:=by omega
   have HI6:=hid (show i<6 by have:=H16.out;omega);have fQ:=hid hlt;have ZR:=hid (HH.out.any bT.out);obtain⟨b,o,s,rfl,hlb,HX,x0,x1,x2⟩:=ZR.out.get hlt;have hnm:=name_any s.name wr (HK.out.below bT.out HK.out.pos);have kR:=hid (show Cj l i=(nameB s.name&&decide (2<=s.size)&&decide (s.size<=4)&&decide (i<=gu l s.name))by unfold Cj;rw[HX.out]);have Md:=hid (show(l.getD i default).name=s.name by rw[HX.out]);have XA:=hid (show(l.getD i default).size=s.size by rw[HX.out]);clear HX;cases hq:nameB s.name
   ·have HR:=hid (wS fQ.out (by rw[kR.out,hq];rfl))
    rw[hq]at hnm;have HN:=hid hnm;clear hnm hq;go_wp2_with (go_at_call 122;(with_reducible refine HN.out.mono ?_);rintro e w2 ⟨rfl,hb2⟩;have HB2:=hid (bT.out.trans (hb2.mono bT.out.size));clear hb2)
    try rw[Exit.noGoto_ret]
    go_ret
    exact⟨aC HR.out.symm,HB2.out⟩
   rw[hq]at hnm;have HN:=hid hnm;have HQ:=hid hq;clear hnm hq
   by_cases hs2:s.size<2
   ·have HR:=hid (wS fQ.out (by rw[kR.out,decide_eq_false (show¬2<=s.size by omega)];simp))
    go_wp2_with (go_at_call 122;(with_reducible refine HN.out.mono ?_);rintro e w2 ⟨rfl,hb2⟩;have y0:=(hb2.cell (p:=⟨b,o+i*3,none⟩) hlb).trans x0;have y2:=(hb2.cell (p:=⟨b,o+i*3+2,none⟩) hlb).trans x2;have hl2:=Nat.lt_of_lt_of_le hlb hb2.size;have HB2:=hid (bT.out.trans (hb2.mono bT.out.size));have qao:=hid (ZR.out.any hb2);clear hb2 x0 x1 x2 hlb)
    try rw[Exit.noGoto_ret]
    go_ret
    exact⟨aC HR.out.symm,HB2.out⟩
   by_cases hs4:4<s.size
   ·have HR:=hid (wS fQ.out (by rw[kR.out,decide_eq_false (show¬s.size<=4 by omega)];simp))
    go_wp2_with (go_at_call 122;(with_reducible refine HN.out.mono ?_);rintro e w2 ⟨rfl,hb2⟩;have y0:=(hb2.cell (p:=⟨b,o+i*3,none⟩) hlb).trans x0;have y2:=(hb2.cell (p:=⟨b,o+i*3+2,none⟩) hlb).trans x2;have hl2:=Nat.lt_of_lt_of_le hlb hb2.size;have HB2:=hid (bT.out.trans (hb2.mono bT.out.size));have qao:=hid (ZR.out.any hb2);clear hb2 x0 x1 x2 hlb)
    try rw[Exit.noGoto_ret]
    go_ret
    exact⟨aC HR.out.symm,HB2.out⟩
   have HW:=hid (HP.out.wrap (s:=s.size) HI6.out (by omega) (by omega));have HPN:=hid (HP.out.succ fQ.out HI6.out XA.out (by omega) (by omega));have qfs:=hid (show 2<=s.size/\s.size<=4 by omega);go_wp2_with (go_at_call 122;(with_reducible refine HN.out.mono ?_);rintro e w2 ⟨rfl,hb2⟩;have y0:=(hb2.cell (p:=⟨b,o+i*3,none⟩) hlb).trans x0;have y2:=(hb2.cell (p:=⟨b,o+i*3+2,none⟩) hlb).trans x2;have hl2:=Nat.lt_of_lt_of_le hlb hb2.size;have HB2:=hid (bT.out.trans (hb2.mono bT.out.size));have qao:=hid (ZR.out.any hb2);clear hb2 x0 x1 x2 hlb)
   have HY0:=hid y0;have HY2:=hid y2;have HL2:=hid hl2;clear y0 y2 hl2 hs2 hs4;obtain⟨wi,hwi⟩:∃wi,wi=w2:=⟨_,rfl⟩;rw[<-hwi]at HB2 qao HY0 HY2 HL2⊢;clear hwi
   go_loopw [3,44] (fun p q wr=>∃k:Nat,k<=i/\p = .bool true/\q = .int .i64 (k:Int)/\Hid (aU wi wr)/\Hid (∀j,j<k->(l.getD j default).name≠s.name)) (fun _ q _=>i-(intOf q).toNat)
   case atStart=>exact⟨0,Nat.zero_le _,rfl,rfl,aU.refl _,fun j h=>absurd h (Nat.not_lt_zero _)⟩
   case round =>
    obtain⟨k,hki,rfl,rfl,HD,fU⟩:=hrel;have HBD:=hid (HD.out.below wi.heap.size);have HH3:=hid (qao.out.any HBD.out);have z0:=(HBD.out.cell (p:=⟨b,o+i*3,none⟩) HL2.out).trans HY0.out;have z2:=(HBD.out.cell (p:=⟨b,o+i*3+2,none⟩) HL2.out).trans HY2.out
    by_cases hk:k<i
    ·have hkk:(k:Int)<(i:Int):=by omega
     have hkn:(k:Int)<(l.length:Int):=by omega
     obtain⟨b',o',t,he,hlt',HT,t0,t1,t2⟩:=HH3.out.get (k:=k) (by have:=fQ.out;omega)
     injection he with he
     injection he with hb' ho' _
     subst hb' ho';have HTN:=hid (show(l.getD k default).name=t.name by rw[HT.out]);clear HT
     by_cases ht:t.name=s.name
     ·have d3:(t.name.toList==s.name.toList)=true:=lu.2 ht
      have HR:=hid (wS fQ.out (by
       rw[kR.out,decide_eq_false (show¬i<=gu l s.name by
        have:=Fp (l:=l) (s:=s.name) (k:=k) (by have:=fQ.out;omega) (by rw[HTN.out];exact ht)
        omega)]
       simp))
      have HDD:=hid HD.out;clear ht;go_upto_region 13 with(fail)
      go_quiet (fail)
      go_wp2_with fail
      try rw[Exit.noGoto_ret]
      go_ret
      exact⟨aC HR.out.symm,HB2.out.trans (((HD.out.drewN _).below _).mono HB2.out.size)⟩
     ·have d3:(t.name.toList==s.name.toList)=false:=by
       cases hb:(t.name.toList==s.name.toList)
       ·rfl
       ·exact absurd (lu.1 hb) ht
      have uT:=hid ht;clear ht;go_upto_region 13 with(fail)
      go_quiet (fail)
      go_wp2_with fail
      go_roundw
      case rel =>
       refine⟨k+1,by omega,rfl,by go_num,HD.out.drewN _,fun j hj=>?_⟩
       by_cases e:j=k
       ·rw[e,HTN.out];exact uT.out
       ·exact fU.out j (by omega)
      case measure=>simp[intOf];omega
    ·have hkk:¬(k:Int)<(i:Int):=by omega
     have qcY:=hid (show Cj l i=true by
      rw[kR.out,HQ.out,decide_eq_true qfs.out.1,decide_eq_true qfs.out.2,decide_eq_true (Fj (by have:=fQ.out;omega) fun j hj=>fU.out j (by omega))]
      rfl)
     have hwr:=HW.out;go_wp2_with fail
     go_roundw
     case rel=>exact⟨i+1,P*s.size,by have:=fQ.out;omega,rfl,by go_num,(by first|rfl|rw[hwr]),HPN.out,HS.out.succ qcY.out,HB2.out.trans (HBD.out.mono HB2.out.size)⟩
     case measure=>simp[intOf];omega
  ·have hii:¬(i:Int)<l.length:=by omega
   have Qb:=hid (show P=lK l by have:=HP.out.is;rw[List.take_of_length_le (by omega)]at this;exact this)
   have HV:=hid (show dM l=decide (P<=64)by
    unfold dM
    rw[decide_eq_true H16.out.1,decide_eq_true H16.out.2,HS.out.all (by omega),<-Qb.out];rfl)
   go_wp2_with fail
   try rw[Exit.noGoto_ret]
   go_ret
   exact⟨aC HV.out.symm,bT.out⟩
end Go.Proofs.YtdpbgcmfeajigaaGreatDoor
