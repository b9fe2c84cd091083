/-
  Walk of the reference: Compare.
-/
import Derived.Test.YtdpbgcmfeajigaaGreatDoorD00
set_option linter.unusedSimpArgs false
set_option linter.unusedVariables false
set_option maxHeartbeats 8000000
set_option maxRecDepth 100000
namespace Go.Proofs.YtdpbgcmfeajigaaGreatDoor
open Go.RowKit
attribute [local go_sem] ak
def nz (c d:Int):Int:=if c=0 then d else c
theorem qV (c:Int):nz c 0=c:=by unfold nz;split <;> simp_all
theorem dD (c:Int):nz 0 c=c:=rfl
theorem oJ (a b c:Int):nz (nz a b) c=nz a (nz b c):=by unfold nz;by_cases h:a=0 <;> simp[h]
theorem iV {a b:Int}(h:nz a b=0):a=0:=by unfold nz at h;by_cases e:a=0 <;> simp_all
def pz (a b:ByteArray):Int:=if a.toList==b.toList then 0 else if Op.bytesLess a.toList b.toList then -1 else 1
def bY (f g:Fm):Int:=nz (jU f.op g.op) (nz (pz f.name g.name) (nz (jU f.val g.val) (nz (jU f.bound g.bound) (jU f.args.length g.args.length))))
mutual
def Fm.cmp:Fm->Fm->Int
 | .mk o n v b l,.mk o' n' v' b' l'=>nz (nz (jU o o') (nz (pz n n') (nz (jU v v') (nz (jU b b') (jU l.length l'.length))))) (fU l l')
def fU:List Fm->List Fm->Int
 | f :: l,g :: m=>nz (f.cmp g) (fU l m)
 | [],_=>0
 | _ :: _,[]=>0
end
theorem cmp_eq (f g:Fm):f.cmp g=nz (bY f g) (fU f.args g.args):=by cases f;cases g;simp only[Fm.cmp,bY,Fm.op,Fm.name,Fm.val,Fm.bound,Fm.args]
theorem ni:∀(l m:List Fm) {f g:Fm},l.length=m.length->fU (l ++ [f]) (m ++ [g])=nz (fU l m) (f.cmp g)
 | [],[],f,g,_=>by simp[fU,dD,qV]
 | x :: l,y :: m,f,g,h=>by
  have:=ni l m (f:=f) (g:=g) (by simpa using h);simp only[List.cons_append,fU,this,oJ]
 | [],y :: m,_,_,h=>by cases h
 | x :: l,[],_,_,h=>by cases h
theorem jg {a b:Int}:jU a b=0 ↔ a=b:=by
 unfold jU
 by_cases h1:a<b
 ·rw[if_pos h1];omega
 ·rw[if_neg h1]
  by_cases h2:b<a
  ·rw[if_pos h2];omega
  ·rw[if_neg h2];omega
theorem gB {f g:Fm}(h:bY f g=0):f.args.length=g.args.length:=by
 unfold bY at h;have h1:=iV h;rw[h1,dD]at h;have h2:=iV h;rw[h2,dD]at h;have h3:=iV h;rw[h3,dD]at h;have h4:=iV h;rw[h4,dD]at h;have:=jg.1 h;omega
theorem IC:∀(l m:List Fm) (i:Nat),fU (l.take i) (m.take i)≠0->fU l m=fU (l.take i) (m.take i)
 | [],_,_,h=>by simp[fU]at h
 | _ :: _,[],0,h=>by simp[fU]at h
 | _ :: _,[],_+1,h=>by simp[fU]at h
 | _ :: _,_ :: _,0,h=>by simp[fU]at h
 | x :: l,y :: m,i+1,h=>by
  simp only[List.take_succ_cons,fU]at h⊢;unfold nz at h⊢
  by_cases e:x.cmp y=0
  ·rw[if_pos e]at h
   rw[if_pos e,if_pos e];exact IC l m i h
  ·rw[if_neg e,if_neg e]
theorem xU {f g:Fm}{i:Nat}{cc:Int}(h:cc=nz (bY f g) (fU (f.args.take i) (g.args.take i)))(hz:cc≠0):nz (bY f g) (fU f.args g.args)=cc:=by
 rw[h]at hz⊢;unfold nz at hz⊢
 by_cases e:bY f g=0
 ·rw[if_pos e]at hz
  rw[if_pos e,if_pos e];exact IC _ _ _ hz
 ·rw[if_neg e,if_neg e]
theorem YM (f:Fm):∀{D E:Dom} (g:Fm) (v v':Value) (w:World) (h:bI w D v f) (h':bI w E v' g),
  Calls Tryz.prog 86 #[v,v'] w fun e w'=>e = .returned (.int .i64 (f.cmp g))/\Below w.heap.size w w':=by
 refine Fm.induct (P:=fun f=>∀{D E:Dom} (g:Fm) (v v':Value) (w:World) (h:bI w D v f) (h':bI w E v' g),Calls Tryz.prog 86 #[v,v'] w fun e w'=>e = .returned (.int .i64 (f.cmp g))/\Below w.heap.size w w') ?_ f;intro f ih D E g v v' w h h';have HIH:=hid ih;obtain⟨A,c,rfl,ha⟩:=h;obtain⟨A',c',rfl,ha'⟩:=h';have HA:=hid ha.old;have HA2:=hid ha'.old;have hal:=ha.len.1;have hal':=ha'.len.1;clear ih ha ha'
 go_enter Tryz.func86,Tryz.ntmps86
 go_upto_region 1 with(fail)
 refine aI fun W hW=>?_;obtain⟨w1,h1⟩:∃w1,w1=w.alloc (.cells #[.int .i64 f.op,.string f.name,.int .i64 f.val,.int .i64 f.bound,.slice A f.args.length c] 24):=⟨_,rfl⟩;have s1:w1.heap.size=w.heap.size+1:=by rw[h1];simp
 have b1:Below w.heap.size w w1:=by rw[h1];go_grown
 have m1:dF w1 w.heap.size f A c:=by rw[h1];exact dF.new w f A c
 rw[<-h1]at hW;have b2:Below w1.heap.size w1 W:=by rw[hW];go_grown
 have fD:=hid (m1.below b2);have HBY:=hid (show dF W (w.heap.size+1) g A' c' by rw[hW,<-s1];exact dF.new w1 g A' c');have aX:=hid (b1.trans (b2.mono b1.size));obtain⟨x0,x1,x2,x3,x4,xl⟩:=fD.out.cells;obtain⟨y0,y1,y2,y3,y4,yl⟩:=HBY.out.cells;clear hW h1 s1 b1 m1 b2;go_wp2_with fail
 refine(xZ f.op g.op W).mono ?_;rintro e w1 ⟨rfl,hw⟩;subst w1;obtain⟨k1,hk1⟩:∃k1,k1=jU f.op g.op:=⟨_,rfl⟩;rw[<-hk1]
 by_cases z1:k1=0
 rotate_left
 ·have zz:(k1==0)=false:=ay z1
  have hhd:bY f g=k1:=by unfold bY nz;rw[<-hk1,if_neg z1]
  clear hk1;have RZ:=hid hhd;clear hhd;go_upto_region 12 with(fail)
  go_wp2_with fail
  go_loopw [5,6] (fun s q wr=>∃i:Nat,i<=f.args.length/\s = .int .i64 (nz (bY f g) (fU (f.args.take i) (g.args.take i)))/\q = .int .i64 (i:Int)/\Below W.heap.size W wr) (fun _ q _=>f.args.length-(intOf q).toNat)
  case atStart=>exact⟨0,Nat.zero_le _,by simp only[List.take_zero,fU,qV];rw[RZ.out],rfl,Below.refl _ _⟩
  case round =>
   obtain⟨i,hi,rfl,rfl,hb⟩:=hrel;obtain⟨x0,x1,x2,x3,x4,xl⟩:=(fD.out.below hb).cells;obtain⟨y0,y1,y2,y3,y4,yl⟩:=(HBY.out.below hb).cells;have HB:=hid hb;have dG:=hid (aX.out.trans (hb.mono aX.out.size));obtain⟨cc,hcc⟩:∃cc,cc=nz (bY f g) (fU (f.args.take i) (g.args.take i)):=⟨_,rfl⟩;rw[<-hcc];have rU:=hid hcc;clear hb hcc
   by_cases hlt:i<f.args.length
   ·have hii:(i:Int)<f.args.length:=by omega
    by_cases hz:cc=0
    ·subst hz
     have hgl:f.args.length=g.args.length:=gB (iV rU.out.symm);have hlt2:i<g.args.length:=by omega
     have hii2:(i:Int)<g.args.length:=by omega
     obtain⟨b1,o1,A1,c1,x,rfl,HX,hx⟩:=(HA.out.keep (Keeps.of_below dG.out fun _ h=>h)).get hlt;obtain⟨b2,o2,A2,c2,y,rfl,HY,hy⟩:=(HA2.out.keep (Keeps.of_below dG.out fun _ h=>h)).get hlt2;obtain⟨xd,wS,p0,p1,p2,p3,p4,pa⟩:=hx;obtain⟨yd,wU,q0,q1,q2,q3,q4,qa⟩:=hy
     have aO:Hid (∀W',Below wr.heap.size wr W'->Calls Tryz.prog 86 #[.agg #[.int .i64 x.op,.string x.name,.int .i64 x.val,.int .i64 x.bound,.slice A1 x.args.length c1],.agg #[.int .i64 y.op,.string y.name,.int .i64 y.val,.int .i64 y.bound,.slice A2 y.args.length c2]] W' fun e w'=>e = .returned (.int .i64 (x.cmp y))/\Below wr.heap.size wr w'):=hid fun W' hb=>by
      have:=HIH.out i hlt (D:=fun _=>True) (E:=fun _=>True) y _ _ W' (by rw[HX.out];exact⟨A1,c1,rfl,pa.any hb⟩) ⟨A2,c2,rfl,qa.any hb⟩;rw[HX.out]at this;refine this.mono ?_;rintro e w' ⟨rfl,hb'⟩;exact⟨rfl,hb.trans (hb'.mono hb.size)⟩
     have aK:Hid (∀W':World,Below wr.heap.size wr W'->W'.cell? ⟨w.heap.size,4,none⟩=some (.slice (some ⟨b1,o1,none⟩) f.args.length c)/\W'.cell? ⟨w.heap.size+1,4,none⟩=some (.slice (some ⟨b2,o2,none⟩) g.args.length c')/\W'.cell? ⟨b1,o1+i*5,none⟩=some (.int .i64 x.op)/\W'.cell? ⟨b1,o1+i*5+1,none⟩=some (.string x.name)/\W'.cell? ⟨b1,o1+i*5+2,none⟩=some (.int .i64 x.val)/\W'.cell? ⟨b1,o1+i*5+3,none⟩=some (.int .i64 x.bound)/\W'.cell? ⟨b1,o1+i*5+4,none⟩=some (.slice A1 x.args.length c1)/\W'.cell? ⟨b2,o2+i*5,none⟩=some (.int .i64 y.op)/\W'.cell? ⟨b2,o2+i*5+1,none⟩=some (.string y.name)/\W'.cell? ⟨b2,o2+i*5+2,none⟩=some (.int .i64 y.val)/\W'.cell? ⟨b2,o2+i*5+3,none⟩=some (.int .i64 y.bound)/\W'.cell? ⟨b2,o2+i*5+4,none⟩=some (.slice A2 y.args.length c2)):=hid fun W' hb =>
      ⟨(hb.cell (p:=⟨w.heap.size,4,none⟩) xl).trans x4,(hb.cell (p:=⟨w.heap.size+1,4,none⟩) yl).trans y4,(hb.cell (p:=⟨b1,o1+i*5,none⟩) wS).trans p0,(hb.cell (p:=⟨b1,o1+i*5+1,none⟩) wS).trans p1,(hb.cell (p:=⟨b1,o1+i*5+2,none⟩) wS).trans p2,(hb.cell (p:=⟨b1,o1+i*5+3,none⟩) wS).trans p3,(hb.cell (p:=⟨b1,o1+i*5+4,none⟩) wS).trans p4,(hb.cell (p:=⟨b2,o2+i*5,none⟩) wU).trans q0,(hb.cell (p:=⟨b2,o2+i*5+1,none⟩) wU).trans q1,(hb.cell (p:=⟨b2,o2+i*5+2,none⟩) wU).trans q2,(hb.cell (p:=⟨b2,o2+i*5+3,none⟩) wU).trans q3,(hb.cell (p:=⟨b2,o2+i*5+4,none⟩) wU).trans q4⟩
     have HI1:=hid (show Below wr.heap.size wr wr.drew from(Below.refl _ _).drew);have HI2:=hid (show∀i,Below wr.heap.size wr (wr.drewN i)from fun i=>(aU.n wr i).below _)
     have hsn:nz (bY f g) (fU (f.args.take (i+1)) (g.args.take (i+1)))=x.cmp y:=by
      rw[aT f.args default hlt,aT g.args default hlt2,HX.out,HY.out,ni _ _ (by simp;omega),<-oJ,<-rU.out];rfl
     have vN:=hid hsn;clear pa qa hsn hgl;go_upto_region 15 with(fail)
     go_region_held3 (fun W':World=>W'.cell? ⟨w.heap.size,4,none⟩=some (.slice (some ⟨b1,o1,none⟩) f.args.length c)/\W'.cell? ⟨w.heap.size+1,4,none⟩=some (.slice (some ⟨b2,o2,none⟩) g.args.length c')/\W'.cell? ⟨b1,o1+i*5,none⟩=some (.int .i64 x.op)/\W'.cell? ⟨b1,o1+i*5+1,none⟩=some (.string x.name)/\W'.cell? ⟨b1,o1+i*5+2,none⟩=some (.int .i64 x.val)/\W'.cell? ⟨b1,o1+i*5+3,none⟩=some (.int .i64 x.bound)/\W'.cell? ⟨b1,o1+i*5+4,none⟩=some (.slice A1 x.args.length c1)/\W'.cell? ⟨b2,o2+i*5,none⟩=some (.int .i64 y.op)/\W'.cell? ⟨b2,o2+i*5+1,none⟩=some (.string y.name)/\W'.cell? ⟨b2,o2+i*5+2,none⟩=some (.int .i64 y.val)/\W'.cell? ⟨b2,o2+i*5+3,none⟩=some (.int .i64 y.bound)/\W'.cell? ⟨b2,o2+i*5+4,none⟩=some (.slice A2 y.args.length c2))
      (first|(with_reducible exact aK.out _ hI)|(go_keep;done))
      ((go_at_call 86;refine(aO.out _ (by first|exact HI1.out|exact HI2.out _)).mono ?_;rintro e W9 ⟨rfl,hI⟩))
     all_goals
      have qN:=hid (HB.out.trans (hI.mono HB.out.size));clear hI x0 x1 x2 x3 x4 y0 y1 y2 y3 y4 p0 p1 p2 p3 p4 q0 q1 q2 q3 q4;go_wp2_with fail
      go_roundw
      case rel=>exact⟨i+1,by omega,by rw[vN.out],by go_num,qN.out⟩
      case measure=>simp[intOf];omega
    ·have hzz:(cc==0)=false:=ay hz
     have hres:f.cmp g=cc:=by
      rw[cmp_eq];exact xU rU.out hz
     have dW:=hid hres;clear hres;go_wp2_with fail
     go_ret
     exact⟨bn (by rw[dW.out]),dG.out⟩
   ·have hres:f.cmp g=cc:=by
     rw[cmp_eq,rU.out,List.take_of_length_le (by omega)]
     by_cases hh:bY f g=0
     ·rw[List.take_of_length_le (by have:=gB hh;omega)]
     ·unfold nz;rw[if_neg hh,if_neg hh]
    have dW:=hid hres;clear hres;go_wp2_with fail
    go_ret
    exact⟨bn (by rw[dW.out]),dG.out⟩
 subst z1;have Z1:=hid hk1.symm;clear hk1
 by_cases hn:(f.name.toList==g.name.toList)=true
 rotate_left
 ·have hn:(f.name.toList==g.name.toList)=false:=by simpa using hn
  cases hlt:Op.bytesLess f.name.toList g.name.toList
  ·have hhd:bY f g=1:=by unfold bY;rw[Z1.out,dD];unfold pz;rw[hn,hlt];rfl
   have RZ:=hid hhd;clear hhd;go_upto_region 12 with(fail)
   go_wp2_with fail
   go_loopw [5,6] (fun s q wr=>∃i:Nat,i<=f.args.length/\s = .int .i64 (nz (bY f g) (fU (f.args.take i) (g.args.take i)))/\q = .int .i64 (i:Int)/\Below W.heap.size W wr) (fun _ q _=>f.args.length-(intOf q).toNat)
   case atStart=>exact⟨0,Nat.zero_le _,by simp only[List.take_zero,fU,qV];rw[RZ.out],rfl,Below.refl _ _⟩
   case round =>
    obtain⟨i,hi,rfl,rfl,hb⟩:=hrel;obtain⟨x0,x1,x2,x3,x4,xl⟩:=(fD.out.below hb).cells;obtain⟨y0,y1,y2,y3,y4,yl⟩:=(HBY.out.below hb).cells;have HB:=hid hb;have dG:=hid (aX.out.trans (hb.mono aX.out.size));obtain⟨cc,hcc⟩:∃cc,cc=nz (bY f g) (fU (f.args.take i) (g.args.take i)):=⟨_,rfl⟩;rw[<-hcc];have rU:=hid hcc;clear hb hcc
    by_cases hlt:i<f.args.length
    ·have hii:(i:Int)<f.args.length:=by omega
     by_cases hz:cc=0
     ·subst hz
      have hgl:f.args.length=g.args.length:=gB (iV rU.out.symm);have hlt2:i<g.args.length:=by omega
      have hii2:(i:Int)<g.args.length:=by omega
      obtain⟨b1,o1,A1,c1,x,rfl,HX,hx⟩:=(HA.out.keep (Keeps.of_below dG.out fun _ h=>h)).get hlt;obtain⟨b2,o2,A2,c2,y,rfl,HY,hy⟩:=(HA2.out.keep (Keeps.of_below dG.out fun _ h=>h)).get hlt2;obtain⟨xd,wS,p0,p1,p2,p3,p4,pa⟩:=hx;obtain⟨yd,wU,q0,q1,q2,q3,q4,qa⟩:=hy
      have aO:Hid (∀W',Below wr.heap.size wr W'->Calls Tryz.prog 86 #[.agg #[.int .i64 x.op,.string x.name,.int .i64 x.val,.int .i64 x.bound,.slice A1 x.args.length c1],.agg #[.int .i64 y.op,.string y.name,.int .i64 y.val,.int .i64 y.bound,.slice A2 y.args.length c2]] W' fun e w'=>e = .returned (.int .i64 (x.cmp y))/\Below wr.heap.size wr w'):=hid fun W' hb=>by
       have:=HIH.out i hlt (D:=fun _=>True) (E:=fun _=>True) y _ _ W' (by rw[HX.out];exact⟨A1,c1,rfl,pa.any hb⟩) ⟨A2,c2,rfl,qa.any hb⟩;rw[HX.out]at this;refine this.mono ?_;rintro e w' ⟨rfl,hb'⟩;exact⟨rfl,hb.trans (hb'.mono hb.size)⟩
      have aK:Hid (∀W':World,Below wr.heap.size wr W'->W'.cell? ⟨w.heap.size,4,none⟩=some (.slice (some ⟨b1,o1,none⟩) f.args.length c)/\W'.cell? ⟨w.heap.size+1,4,none⟩=some (.slice (some ⟨b2,o2,none⟩) g.args.length c')/\W'.cell? ⟨b1,o1+i*5,none⟩=some (.int .i64 x.op)/\W'.cell? ⟨b1,o1+i*5+1,none⟩=some (.string x.name)/\W'.cell? ⟨b1,o1+i*5+2,none⟩=some (.int .i64 x.val)/\W'.cell? ⟨b1,o1+i*5+3,none⟩=some (.int .i64 x.bound)/\W'.cell? ⟨b1,o1+i*5+4,none⟩=some (.slice A1 x.args.length c1)/\W'.cell? ⟨b2,o2+i*5,none⟩=some (.int .i64 y.op)/\W'.cell? ⟨b2,o2+i*5+1,none⟩=some (.string y.name)/\W'.cell? ⟨b2,o2+i*5+2,none⟩=some (.int .i64 y.val)/\W'.cell? ⟨b2,o2+i*5+3,none⟩=some (.int .i64 y.bound)/\W'.cell? ⟨b2,o2+i*5+4,none⟩=some (.slice A2 y.args.length c2)):=hid fun W' hb =>
       ⟨(hb.cell (p:=⟨w.heap.size,4,none⟩) xl).trans x4,(hb.cell (p:=⟨w.heap.size+1,4,none⟩) yl).trans y4,(hb.cell (p:=⟨b1,o1+i*5,none⟩) wS).trans p0,(hb.cell (p:=⟨b1,o1+i*5+1,none⟩) wS).trans p1,(hb.cell (p:=⟨b1,o1+i*5+2,none⟩) wS).trans p2,(hb.cell (p:=⟨b1,o1+i*5+3,none⟩) wS).trans p3,(hb.cell (p:=⟨b1,o1+i*5+4,none⟩) wS).trans p4,(hb.cell (p:=⟨b2,o2+i*5,none⟩) wU).trans q0,(hb.cell (p:=⟨b2,o2+i*5+1,none⟩) wU).trans q1,(hb.cell (p:=⟨b2,o2+i*5+2,none⟩) wU).trans q2,(hb.cell (p:=⟨b2,o2+i*5+3,none⟩) wU).trans q3,(hb.cell (p:=⟨b2,o2+i*5+4,none⟩) wU).trans q4⟩
      have HI1:=hid (show Below wr.heap.size wr wr.drew from(Below.refl _ _).drew);have HI2:=hid (show∀i,Below wr.heap.size wr (wr.drewN i)from fun i=>(aU.n wr i).below _)
      have hsn:nz (bY f g) (fU (f.args.take (i+1)) (g.args.take (i+1)))=x.cmp y:=by
       rw[aT f.args default hlt,aT g.args default hlt2,HX.out,HY.out,ni _ _ (by simp;omega),<-oJ,<-rU.out];rfl
      have vN:=hid hsn;clear pa qa hsn hgl;go_upto_region 15 with(fail)
      go_region_held3 (fun W':World=>W'.cell? ⟨w.heap.size,4,none⟩=some (.slice (some ⟨b1,o1,none⟩) f.args.length c)/\W'.cell? ⟨w.heap.size+1,4,none⟩=some (.slice (some ⟨b2,o2,none⟩) g.args.length c')/\W'.cell? ⟨b1,o1+i*5,none⟩=some (.int .i64 x.op)/\W'.cell? ⟨b1,o1+i*5+1,none⟩=some (.string x.name)/\W'.cell? ⟨b1,o1+i*5+2,none⟩=some (.int .i64 x.val)/\W'.cell? ⟨b1,o1+i*5+3,none⟩=some (.int .i64 x.bound)/\W'.cell? ⟨b1,o1+i*5+4,none⟩=some (.slice A1 x.args.length c1)/\W'.cell? ⟨b2,o2+i*5,none⟩=some (.int .i64 y.op)/\W'.cell? ⟨b2,o2+i*5+1,none⟩=some (.string y.name)/\W'.cell? ⟨b2,o2+i*5+2,none⟩=some (.int .i64 y.val)/\W'.cell? ⟨b2,o2+i*5+3,none⟩=some (.int .i64 y.bound)/\W'.cell? ⟨b2,o2+i*5+4,none⟩=some (.slice A2 y.args.length c2))
       (first|(with_reducible exact aK.out _ hI)|(go_keep;done))
       ((go_at_call 86;refine(aO.out _ (by first|exact HI1.out|exact HI2.out _)).mono ?_;rintro e W9 ⟨rfl,hI⟩))
      all_goals
       have qN:=hid (HB.out.trans (hI.mono HB.out.size));clear hI x0 x1 x2 x3 x4 y0 y1 y2 y3 y4 p0 p1 p2 p3 p4 q0 q1 q2 q3 q4;go_wp2_with fail
       go_roundw
       case rel=>exact⟨i+1,by omega,by rw[vN.out],by go_num,qN.out⟩
       case measure=>simp[intOf];omega
     ·have hzz:(cc==0)=false:=ay hz
      have hres:f.cmp g=cc:=by
       rw[cmp_eq];exact xU rU.out hz
      have dW:=hid hres;clear hres;go_wp2_with fail
      go_ret
      exact⟨bn (by rw[dW.out]),dG.out⟩
    ·have hres:f.cmp g=cc:=by
      rw[cmp_eq,rU.out,List.take_of_length_le (by omega)]
      by_cases hh:bY f g=0
      ·rw[List.take_of_length_le (by have:=gB hh;omega)]
      ·unfold nz;rw[if_neg hh,if_neg hh]
     have dW:=hid hres;clear hres;go_wp2_with fail
     go_ret
     exact⟨bn (by rw[dW.out]),dG.out⟩
  ·have hhd:bY f g = -1:=by unfold bY;rw[Z1.out,dD];unfold pz;rw[hn,hlt];rfl
   have RZ:=hid hhd;clear hhd;go_upto_region 12 with(fail)
   go_wp2_with fail
   go_loopw [5,6] (fun s q wr=>∃i:Nat,i<=f.args.length/\s = .int .i64 (nz (bY f g) (fU (f.args.take i) (g.args.take i)))/\q = .int .i64 (i:Int)/\Below W.heap.size W wr) (fun _ q _=>f.args.length-(intOf q).toNat)
   case atStart=>exact⟨0,Nat.zero_le _,by simp only[List.take_zero,fU,qV];rw[RZ.out],rfl,Below.refl _ _⟩
   case round =>
    obtain⟨i,hi,rfl,rfl,hb⟩:=hrel;obtain⟨x0,x1,x2,x3,x4,xl⟩:=(fD.out.below hb).cells;obtain⟨y0,y1,y2,y3,y4,yl⟩:=(HBY.out.below hb).cells;have HB:=hid hb;have dG:=hid (aX.out.trans (hb.mono aX.out.size));obtain⟨cc,hcc⟩:∃cc,cc=nz (bY f g) (fU (f.args.take i) (g.args.take i)):=⟨_,rfl⟩;rw[<-hcc];have rU:=hid hcc;clear hb hcc
    by_cases hlt:i<f.args.length
    ·have hii:(i:Int)<f.args.length:=by omega
     by_cases hz:cc=0
     ·subst hz
      have hgl:f.args.length=g.args.length:=gB (iV rU.out.symm);have hlt2:i<g.args.length:=by omega
      have hii2:(i:Int)<g.args.length:=by omega
      obtain⟨b1,o1,A1,c1,x,rfl,HX,hx⟩:=(HA.out.keep (Keeps.of_below dG.out fun _ h=>h)).get hlt;obtain⟨b2,o2,A2,c2,y,rfl,HY,hy⟩:=(HA2.out.keep (Keeps.of_below dG.out fun _ h=>h)).get hlt2;obtain⟨xd,wS,p0,p1,p2,p3,p4,pa⟩:=hx;obtain⟨yd,wU,q0,q1,q2,q3,q4,qa⟩:=hy
      have aO:Hid (∀W',Below wr.heap.size wr W'->Calls Tryz.prog 86 #[.agg #[.int .i64 x.op,.string x.name,.int .i64 x.val,.int .i64 x.bound,.slice A1 x.args.length c1],.agg #[.int .i64 y.op,.string y.name,.int .i64 y.val,.int .i64 y.bound,.slice A2 y.args.length c2]] W' fun e w'=>e = .returned (.int .i64 (x.cmp y))/\Below wr.heap.size wr w'):=hid fun W' hb=>by
       have:=HIH.out i hlt (D:=fun _=>True) (E:=fun _=>True) y _ _ W' (by rw[HX.out];exact⟨A1,c1,rfl,pa.any hb⟩) ⟨A2,c2,rfl,qa.any hb⟩;rw[HX.out]at this;refine this.mono ?_;rintro e w' ⟨rfl,hb'⟩;exact⟨rfl,hb.trans (hb'.mono hb.size)⟩
      have aK:Hid (∀W':World,Below wr.heap.size wr W'->W'.cell? ⟨w.heap.size,4,none⟩=some (.slice (some ⟨b1,o1,none⟩) f.args.length c)/\W'.cell? ⟨w.heap.size+1,4,none⟩=some (.slice (some ⟨b2,o2,none⟩) g.args.length c')/\W'.cell? ⟨b1,o1+i*5,none⟩=some (.int .i64 x.op)/\W'.cell? ⟨b1,o1+i*5+1,none⟩=some (.string x.name)/\W'.cell? ⟨b1,o1+i*5+2,none⟩=some (.int .i64 x.val)/\W'.cell? ⟨b1,o1+i*5+3,none⟩=some (.int .i64 x.bound)/\W'.cell? ⟨b1,o1+i*5+4,none⟩=some (.slice A1 x.args.length c1)/\W'.cell? ⟨b2,o2+i*5,none⟩=some (.int .i64 y.op)/\W'.cell? ⟨b2,o2+i*5+1,none⟩=some (.string y.name)/\W'.cell? ⟨b2,o2+i*5+2,none⟩=some (.int .i64 y.val)/\W'.cell? ⟨b2,o2+i*5+3,none⟩=some (.int .i64 y.bound)/\W'.cell? ⟨b2,o2+i*5+4,none⟩=some (.slice A2 y.args.length c2)):=hid fun W' hb =>
       ⟨(hb.cell (p:=⟨w.heap.size,4,none⟩) xl).trans x4,(hb.cell (p:=⟨w.heap.size+1,4,none⟩) yl).trans y4,(hb.cell (p:=⟨b1,o1+i*5,none⟩) wS).trans p0,(hb.cell (p:=⟨b1,o1+i*5+1,none⟩) wS).trans p1,(hb.cell (p:=⟨b1,o1+i*5+2,none⟩) wS).trans p2,(hb.cell (p:=⟨b1,o1+i*5+3,none⟩) wS).trans p3,(hb.cell (p:=⟨b1,o1+i*5+4,none⟩) wS).trans p4,(hb.cell (p:=⟨b2,o2+i*5,none⟩) wU).trans q0,(hb.cell (p:=⟨b2,o2+i*5+1,none⟩) wU).trans q1,(hb.cell (p:=⟨b2,o2+i*5+2,none⟩) wU).trans q2,(hb.cell (p:=⟨b2,o2+i*5+3,none⟩) wU).trans q3,(hb.cell (p:=⟨b2,o2+i*5+4,none⟩) wU).trans q4⟩
      have HI1:=hid (show Below wr.heap.size wr wr.drew from(Below.refl _ _).drew);have HI2:=hid (show∀i,Below wr.heap.size wr (wr.drewN i)from fun i=>(aU.n wr i).below _)
      have hsn:nz (bY f g) (fU (f.args.take (i+1)) (g.args.take (i+1)))=x.cmp y:=by
       rw[aT f.args default hlt,aT g.args default hlt2,HX.out,HY.out,ni _ _ (by simp;omega),<-oJ,<-rU.out];rfl
      have vN:=hid hsn;clear pa qa hsn hgl;go_upto_region 15 with(fail)
      go_region_held3 (fun W':World=>W'.cell? ⟨w.heap.size,4,none⟩=some (.slice (some ⟨b1,o1,none⟩) f.args.length c)/\W'.cell? ⟨w.heap.size+1,4,none⟩=some (.slice (some ⟨b2,o2,none⟩) g.args.length c')/\W'.cell? ⟨b1,o1+i*5,none⟩=some (.int .i64 x.op)/\W'.cell? ⟨b1,o1+i*5+1,none⟩=some (.string x.name)/\W'.cell? ⟨b1,o1+i*5+2,none⟩=some (.int .i64 x.val)/\W'.cell? ⟨b1,o1+i*5+3,none⟩=some (.int .i64 x.bound)/\W'.cell? ⟨b1,o1+i*5+4,none⟩=some (.slice A1 x.args.length c1)/\W'.cell? ⟨b2,o2+i*5,none⟩=some (.int .i64 y.op)/\W'.cell? ⟨b2,o2+i*5+1,none⟩=some (.string y.name)/\W'.cell? ⟨b2,o2+i*5+2,none⟩=some (.int .i64 y.val)/\W'.cell? ⟨b2,o2+i*5+3,none⟩=some (.int .i64 y.bound)/\W'.cell? ⟨b2,o2+i*5+4,none⟩=some (.slice A2 y.args.length c2))
       (first|(with_reducible exact aK.out _ hI)|(go_keep;done))
       ((go_at_call 86;refine(aO.out _ (by first|exact HI1.out|exact HI2.out _)).mono ?_;rintro e W9 ⟨rfl,hI⟩))
      all_goals
       have qN:=hid (HB.out.trans (hI.mono HB.out.size));clear hI x0 x1 x2 x3 x4 y0 y1 y2 y3 y4 p0 p1 p2 p3 p4 q0 q1 q2 q3 q4;go_wp2_with fail
       go_roundw
       case rel=>exact⟨i+1,by omega,by rw[vN.out],by go_num,qN.out⟩
       case measure=>simp[intOf];omega
     ·have hzz:(cc==0)=false:=ay hz
      have hres:f.cmp g=cc:=by
       rw[cmp_eq];exact xU rU.out hz
      have dW:=hid hres;clear hres;go_wp2_with fail
      go_ret
      exact⟨bn (by rw[dW.out]),dG.out⟩
    ·have hres:f.cmp g=cc:=by
      rw[cmp_eq,rU.out,List.take_of_length_le (by omega)]
      by_cases hh:bY f g=0
      ·rw[List.take_of_length_le (by have:=gB hh;omega)]
      ·unfold nz;rw[if_neg hh,if_neg hh]
     have dW:=hid hres;clear hres;go_wp2_with fail
     go_ret
     exact⟨bn (by rw[dW.out]),dG.out⟩
 have Z2:=hid (show pz f.name g.name=0 by unfold pz;rw[hn];rfl);go_wp2_with fail
 refine(xZ f.val g.val W).mono ?_;rintro e w1 ⟨rfl,hw⟩;subst w1;obtain⟨k3,hk3⟩:∃k3,k3=jU f.val g.val:=⟨_,rfl⟩;rw[<-hk3]
 by_cases z3:k3=0
 rotate_left
 ·have zz:(k3==0)=false:=ay z3
  have hhd:bY f g=k3:=by unfold bY;rw[Z1.out,dD,Z2.out,dD];unfold nz;rw[<-hk3,if_neg z3]
  clear hk3;have RZ:=hid hhd;clear hhd;go_upto_region 12 with(fail)
  go_wp2_with fail
  go_loopw [5,6] (fun s q wr=>∃i:Nat,i<=f.args.length/\s = .int .i64 (nz (bY f g) (fU (f.args.take i) (g.args.take i)))/\q = .int .i64 (i:Int)/\Below W.heap.size W wr) (fun _ q _=>f.args.length-(intOf q).toNat)
  case atStart=>exact⟨0,Nat.zero_le _,by simp only[List.take_zero,fU,qV];rw[RZ.out],rfl,Below.refl _ _⟩
  case round =>
   obtain⟨i,hi,rfl,rfl,hb⟩:=hrel;obtain⟨x0,x1,x2,x3,x4,xl⟩:=(fD.out.below hb).cells;obtain⟨y0,y1,y2,y3,y4,yl⟩:=(HBY.out.below hb).cells;have HB:=hid hb;have dG:=hid (aX.out.trans (hb.mono aX.out.size));obtain⟨cc,hcc⟩:∃cc,cc=nz (bY f g) (fU (f.args.take i) (g.args.take i)):=⟨_,rfl⟩;rw[<-hcc];have rU:=hid hcc;clear hb hcc
   by_cases hlt:i<f.args.length
   ·have hii:(i:Int)<f.args.length:=by omega
    by_cases hz:cc=0
    ·subst hz
     have hgl:f.args.length=g.args.length:=gB (iV rU.out.symm);have hlt2:i<g.args.length:=by omega
     have hii2:(i:Int)<g.args.length:=by omega
     obtain⟨b1,o1,A1,c1,x,rfl,HX,hx⟩:=(HA.out.keep (Keeps.of_below dG.out fun _ h=>h)).get hlt;obtain⟨b2,o2,A2,c2,y,rfl,HY,hy⟩:=(HA2.out.keep (Keeps.of_below dG.out fun _ h=>h)).get hlt2;obtain⟨xd,wS,p0,p1,p2,p3,p4,pa⟩:=hx;obtain⟨yd,wU,q0,q1,q2,q3,q4,qa⟩:=hy
     have aO:Hid (∀W',Below wr.heap.size wr W'->Calls Tryz.prog 86 #[.agg #[.int .i64 x.op,.string x.name,.int .i64 x.val,.int .i64 x.bound,.slice A1 x.args.length c1],.agg #[.int .i64 y.op,.string y.name,.int .i64 y.val,.int .i64 y.bound,.slice A2 y.args.length c2]] W' fun e w'=>e = .returned (.int .i64 (x.cmp y))/\Below wr.heap.size wr w'):=hid fun W' hb=>by
      have:=HIH.out i hlt (D:=fun _=>True) (E:=fun _=>True) y _ _ W' (by rw[HX.out];exact⟨A1,c1,rfl,pa.any hb⟩) ⟨A2,c2,rfl,qa.any hb⟩;rw[HX.out]at this;refine this.mono ?_;rintro e w' ⟨rfl,hb'⟩;exact⟨rfl,hb.trans (hb'.mono hb.size)⟩
     have aK:Hid (∀W':World,Below wr.heap.size wr W'->W'.cell? ⟨w.heap.size,4,none⟩=some (.slice (some ⟨b1,o1,none⟩) f.args.length c)/\W'.cell? ⟨w.heap.size+1,4,none⟩=some (.slice (some ⟨b2,o2,none⟩) g.args.length c')/\W'.cell? ⟨b1,o1+i*5,none⟩=some (.int .i64 x.op)/\W'.cell? ⟨b1,o1+i*5+1,none⟩=some (.string x.name)/\W'.cell? ⟨b1,o1+i*5+2,none⟩=some (.int .i64 x.val)/\W'.cell? ⟨b1,o1+i*5+3,none⟩=some (.int .i64 x.bound)/\W'.cell? ⟨b1,o1+i*5+4,none⟩=some (.slice A1 x.args.length c1)/\W'.cell? ⟨b2,o2+i*5,none⟩=some (.int .i64 y.op)/\W'.cell? ⟨b2,o2+i*5+1,none⟩=some (.string y.name)/\W'.cell? ⟨b2,o2+i*5+2,none⟩=some (.int .i64 y.val)/\W'.cell? ⟨b2,o2+i*5+3,none⟩=some (.int .i64 y.bound)/\W'.cell? ⟨b2,o2+i*5+4,none⟩=some (.slice A2 y.args.length c2)):=hid fun W' hb =>
      ⟨(hb.cell (p:=⟨w.heap.size,4,none⟩) xl).trans x4,(hb.cell (p:=⟨w.heap.size+1,4,none⟩) yl).trans y4,(hb.cell (p:=⟨b1,o1+i*5,none⟩) wS).trans p0,(hb.cell (p:=⟨b1,o1+i*5+1,none⟩) wS).trans p1,(hb.cell (p:=⟨b1,o1+i*5+2,none⟩) wS).trans p2,(hb.cell (p:=⟨b1,o1+i*5+3,none⟩) wS).trans p3,(hb.cell (p:=⟨b1,o1+i*5+4,none⟩) wS).trans p4,(hb.cell (p:=⟨b2,o2+i*5,none⟩) wU).trans q0,(hb.cell (p:=⟨b2,o2+i*5+1,none⟩) wU).trans q1,(hb.cell (p:=⟨b2,o2+i*5+2,none⟩) wU).trans q2,(hb.cell (p:=⟨b2,o2+i*5+3,none⟩) wU).trans q3,(hb.cell (p:=⟨b2,o2+i*5+4,none⟩) wU).trans q4⟩
     have HI1:=hid (show Below wr.heap.size wr wr.drew from(Below.refl _ _).drew);have HI2:=hid (show∀i,Below wr.heap.size wr (wr.drewN i)from fun i=>(aU.n wr i).below _)
     have hsn:nz (bY f g) (fU (f.args.take (i+1)) (g.args.take (i+1)))=x.cmp y:=by
      rw[aT f.args default hlt,aT g.args default hlt2,HX.out,HY.out,ni _ _ (by simp;omega),<-oJ,<-rU.out];rfl
     have vN:=hid hsn;clear pa qa hsn hgl;go_upto_region 15 with(fail)
     go_region_held3 (fun W':World=>W'.cell? ⟨w.heap.size,4,none⟩=some (.slice (some ⟨b1,o1,none⟩) f.args.length c)/\W'.cell? ⟨w.heap.size+1,4,none⟩=some (.slice (some ⟨b2,o2,none⟩) g.args.length c')/\W'.cell? ⟨b1,o1+i*5,none⟩=some (.int .i64 x.op)/\W'.cell? ⟨b1,o1+i*5+1,none⟩=some (.string x.name)/\W'.cell? ⟨b1,o1+i*5+2,none⟩=some (.int .i64 x.val)/\W'.cell? ⟨b1,o1+i*5+3,none⟩=some (.int .i64 x.bound)/\W'.cell? ⟨b1,o1+i*5+4,none⟩=some (.slice A1 x.args.length c1)/\W'.cell? ⟨b2,o2+i*5,none⟩=some (.int .i64 y.op)/\W'.cell? ⟨b2,o2+i*5+1,none⟩=some (.string y.name)/\W'.cell? ⟨b2,o2+i*5+2,none⟩=some (.int .i64 y.val)/\W'.cell? ⟨b2,o2+i*5+3,none⟩=some (.int .i64 y.bound)/\W'.cell? ⟨b2,o2+i*5+4,none⟩=some (.slice A2 y.args.length c2))
      (first|(with_reducible exact aK.out _ hI)|(go_keep;done))
      ((go_at_call 86;refine(aO.out _ (by first|exact HI1.out|exact HI2.out _)).mono ?_;rintro e W9 ⟨rfl,hI⟩))
     all_goals
      have qN:=hid (HB.out.trans (hI.mono HB.out.size));clear hI x0 x1 x2 x3 x4 y0 y1 y2 y3 y4 p0 p1 p2 p3 p4 q0 q1 q2 q3 q4;go_wp2_with fail
      go_roundw
      case rel=>exact⟨i+1,by omega,by rw[vN.out],by go_num,qN.out⟩
      case measure=>simp[intOf];omega
    ·have hzz:(cc==0)=false:=ay hz
     have hres:f.cmp g=cc:=by
      rw[cmp_eq];exact xU rU.out hz
     have dW:=hid hres;clear hres;go_wp2_with fail
     go_ret
     exact⟨bn (by rw[dW.out]),dG.out⟩
   ·have hres:f.cmp g=cc:=by
     rw[cmp_eq,rU.out,List.take_of_length_le (by omega)]
     by_cases hh:bY f g=0
     ·rw[List.take_of_length_le (by have:=gB hh;omega)]
     ·unfold nz;rw[if_neg hh,if_neg hh]
    have dW:=hid hres;clear hres;go_wp2_with fail
    go_ret
    exact⟨bn (by rw[dW.out]),dG.out⟩
 subst z3;have Z3:=hid hk3.symm;clear hk3;go_wp2_with fail
 refine(xZ f.bound g.bound W).mono ?_;rintro e w1 ⟨rfl,hw⟩;subst w1;obtain⟨k4,hk4⟩:∃k4,k4=jU f.bound g.bound:=⟨_,rfl⟩;rw[<-hk4]
 by_cases z4:k4=0
 rotate_left
 ·have zz:(k4==0)=false:=ay z4
  have hhd:bY f g=k4:=by unfold bY;rw[Z1.out,dD,Z2.out,dD,Z3.out,dD];unfold nz;rw[<-hk4,if_neg z4]
  clear hk4;have RZ:=hid hhd;clear hhd;go_upto_region 12 with(fail)
  go_wp2_with fail
  go_loopw [5,6] (fun s q wr=>∃i:Nat,i<=f.args.length/\s = .int .i64 (nz (bY f g) (fU (f.args.take i) (g.args.take i)))/\q = .int .i64 (i:Int)/\Below W.heap.size W wr) (fun _ q _=>f.args.length-(intOf q).toNat)
  case atStart=>exact⟨0,Nat.zero_le _,by simp only[List.take_zero,fU,qV];rw[RZ.out],rfl,Below.refl _ _⟩
  case round =>
   obtain⟨i,hi,rfl,rfl,hb⟩:=hrel;obtain⟨x0,x1,x2,x3,x4,xl⟩:=(fD.out.below hb).cells;obtain⟨y0,y1,y2,y3,y4,yl⟩:=(HBY.out.below hb).cells;have HB:=hid hb;have dG:=hid (aX.out.trans (hb.mono aX.out.size));obtain⟨cc,hcc⟩:∃cc,cc=nz (bY f g) (fU (f.args.take i) (g.args.take i)):=⟨_,rfl⟩;rw[<-hcc];have rU:=hid hcc;clear hb hcc
   by_cases hlt:i<f.args.length
   ·have hii:(i:Int)<f.args.length:=by omega
    by_cases hz:cc=0
    ·subst hz
     have hgl:f.args.length=g.args.length:=gB (iV rU.out.symm);have hlt2:i<g.args.length:=by omega
     have hii2:(i:Int)<g.args.length:=by omega
     obtain⟨b1,o1,A1,c1,x,rfl,HX,hx⟩:=(HA.out.keep (Keeps.of_below dG.out fun _ h=>h)).get hlt;obtain⟨b2,o2,A2,c2,y,rfl,HY,hy⟩:=(HA2.out.keep (Keeps.of_below dG.out fun _ h=>h)).get hlt2;obtain⟨xd,wS,p0,p1,p2,p3,p4,pa⟩:=hx;obtain⟨yd,wU,q0,q1,q2,q3,q4,qa⟩:=hy
     have aO:Hid (∀W',Below wr.heap.size wr W'->Calls Tryz.prog 86 #[.agg #[.int .i64 x.op,.string x.name,.int .i64 x.val,.int .i64 x.bound,.slice A1 x.args.length c1],.agg #[.int .i64 y.op,.string y.name,.int .i64 y.val,.int .i64 y.bound,.slice A2 y.args.length c2]] W' fun e w'=>e = .returned (.int .i64 (x.cmp y))/\Below wr.heap.size wr w'):=hid fun W' hb=>by
      have:=HIH.out i hlt (D:=fun _=>True) (E:=fun _=>True) y _ _ W' (by rw[HX.out];exact⟨A1,c1,rfl,pa.any hb⟩) ⟨A2,c2,rfl,qa.any hb⟩;rw[HX.out]at this;refine this.mono ?_;rintro e w' ⟨rfl,hb'⟩;exact⟨rfl,hb.trans (hb'.mono hb.size)⟩
     have aK:Hid (∀W':World,Below wr.heap.size wr W'->W'.cell? ⟨w.heap.size,4,none⟩=some (.slice (some ⟨b1,o1,none⟩) f.args.length c)/\W'.cell? ⟨w.heap.size+1,4,none⟩=some (.slice (some ⟨b2,o2,none⟩) g.args.length c')/\W'.cell? ⟨b1,o1+i*5,none⟩=some (.int .i64 x.op)/\W'.cell? ⟨b1,o1+i*5+1,none⟩=some (.string x.name)/\W'.cell? ⟨b1,o1+i*5+2,none⟩=some (.int .i64 x.val)/\W'.cell? ⟨b1,o1+i*5+3,none⟩=some (.int .i64 x.bound)/\W'.cell? ⟨b1,o1+i*5+4,none⟩=some (.slice A1 x.args.length c1)/\W'.cell? ⟨b2,o2+i*5,none⟩=some (.int .i64 y.op)/\W'.cell? ⟨b2,o2+i*5+1,none⟩=some (.string y.name)/\W'.cell? ⟨b2,o2+i*5+2,none⟩=some (.int .i64 y.val)/\W'.cell? ⟨b2,o2+i*5+3,none⟩=some (.int .i64 y.bound)/\W'.cell? ⟨b2,o2+i*5+4,none⟩=some (.slice A2 y.args.length c2)):=hid fun W' hb =>
      ⟨(hb.cell (p:=⟨w.heap.size,4,none⟩) xl).trans x4,(hb.cell (p:=⟨w.heap.size+1,4,none⟩) yl).trans y4,(hb.cell (p:=⟨b1,o1+i*5,none⟩) wS).trans p0,(hb.cell (p:=⟨b1,o1+i*5+1,none⟩) wS).trans p1,(hb.cell (p:=⟨b1,o1+i*5+2,none⟩) wS).trans p2,(hb.cell (p:=⟨b1,o1+i*5+3,none⟩) wS).trans p3,(hb.cell (p:=⟨b1,o1+i*5+4,none⟩) wS).trans p4,(hb.cell (p:=⟨b2,o2+i*5,none⟩) wU).trans q0,(hb.cell (p:=⟨b2,o2+i*5+1,none⟩) wU).trans q1,(hb.cell (p:=⟨b2,o2+i*5+2,none⟩) wU).trans q2,(hb.cell (p:=⟨b2,o2+i*5+3,none⟩) wU).trans q3,(hb.cell (p:=⟨b2,o2+i*5+4,none⟩) wU).trans q4⟩
     have HI1:=hid (show Below wr.heap.size wr wr.drew from(Below.refl _ _).drew);have HI2:=hid (show∀i,Below wr.heap.size wr (wr.drewN i)from fun i=>(aU.n wr i).below _)
     have hsn:nz (bY f g) (fU (f.args.take (i+1)) (g.args.take (i+1)))=x.cmp y:=by
      rw[aT f.args default hlt,aT g.args default hlt2,HX.out,HY.out,ni _ _ (by simp;omega),<-oJ,<-rU.out];rfl
     have vN:=hid hsn;clear pa qa hsn hgl;go_upto_region 15 with(fail)
     go_region_held3 (fun W':World=>W'.cell? ⟨w.heap.size,4,none⟩=some (.slice (some ⟨b1,o1,none⟩) f.args.length c)/\W'.cell? ⟨w.heap.size+1,4,none⟩=some (.slice (some ⟨b2,o2,none⟩) g.args.length c')/\W'.cell? ⟨b1,o1+i*5,none⟩=some (.int .i64 x.op)/\W'.cell? ⟨b1,o1+i*5+1,none⟩=some (.string x.name)/\W'.cell? ⟨b1,o1+i*5+2,none⟩=some (.int .i64 x.val)/\W'.cell? ⟨b1,o1+i*5+3,none⟩=some (.int .i64 x.bound)/\W'.cell? ⟨b1,o1+i*5+4,none⟩=some (.slice A1 x.args.length c1)/\W'.cell? ⟨b2,o2+i*5,none⟩=some (.int .i64 y.op)/\W'.cell? ⟨b2,o2+i*5+1,none⟩=some (.string y.name)/\W'.cell? ⟨b2,o2+i*5+2,none⟩=some (.int .i64 y.val)/\W'.cell? ⟨b2,o2+i*5+3,none⟩=some (.int .i64 y.bound)/\W'.cell? ⟨b2,o2+i*5+4,none⟩=some (.slice A2 y.args.length c2))
      (first|(with_reducible exact aK.out _ hI)|(go_keep;done))
      ((go_at_call 86;refine(aO.out _ (by first|exact HI1.out|exact HI2.out _)).mono ?_;rintro e W9 ⟨rfl,hI⟩))
     all_goals
      have qN:=hid (HB.out.trans (hI.mono HB.out.size));clear hI x0 x1 x2 x3 x4 y0 y1 y2 y3 y4 p0 p1 p2 p3 p4 q0 q1 q2 q3 q4;go_wp2_with fail
      go_roundw
      case rel=>exact⟨i+1,by omega,by rw[vN.out],by go_num,qN.out⟩
      case measure=>simp[intOf];omega
    ·have hzz:(cc==0)=false:=ay hz
     have hres:f.cmp g=cc:=by
      rw[cmp_eq];exact xU rU.out hz
     have dW:=hid hres;clear hres;go_wp2_with fail
     go_ret
     exact⟨bn (by rw[dW.out]),dG.out⟩
   ·have hres:f.cmp g=cc:=by
     rw[cmp_eq,rU.out,List.take_of_length_le (by omega)]
     by_cases hh:bY f g=0
     ·rw[List.take_of_length_le (by have:=gB hh;omega)]
     ·unfold nz;rw[if_neg hh,if_neg hh]
    have dW:=hid hres;clear hres;go_wp2_with fail
    go_ret
    exact⟨bn (by rw[dW.out]),dG.out⟩
 subst z4;have Z4:=hid hk4.symm;clear hk4;go_wp2_with fail
 refine(xZ (f.args.length:Int) (g.args.length:Int) W).mono ?_;rintro e w1 ⟨rfl,hw⟩;subst w1;obtain⟨k5,hk5⟩:∃k5,k5=jU (f.args.length:Int) (g.args.length:Int):=⟨_,rfl⟩;rw[<-hk5];have hhd:bY f g=k5:=by unfold bY;rw[Z1.out,dD,Z2.out,dD,Z3.out,dD,Z4.out,dD,hk5]
 clear hk5;have RZ:=hid hhd;clear hhd;go_upto_region 12 with(fail)
 go_wp2_with fail
 go_loopw [5,6] (fun s q wr=>∃i:Nat,i<=f.args.length/\s = .int .i64 (nz (bY f g) (fU (f.args.take i) (g.args.take i)))/\q = .int .i64 (i:Int)/\Below W.heap.size W wr) (fun _ q _=>f.args.length-(intOf q).toNat)
 case atStart=>exact⟨0,Nat.zero_le _,by simp only[List.take_zero,fU,qV];rw[RZ.out],rfl,Below.refl _ _⟩
 case round =>
  obtain⟨i,hi,rfl,rfl,hb⟩:=hrel;obtain⟨x0,x1,x2,x3,x4,xl⟩:=(fD.out.below hb).cells;obtain⟨y0,y1,y2,y3,y4,yl⟩:=(HBY.out.below hb).cells;have HB:=hid hb;have dG:=hid (aX.out.trans (hb.mono aX.out.size));obtain⟨cc,hcc⟩:∃cc,cc=nz (bY f g) (fU (f.args.take i) (g.args.take i)):=⟨_,rfl⟩;rw[<-hcc];have rU:=hid hcc;clear hb hcc
  by_cases hlt:i<f.args.length
  ·have hii:(i:Int)<f.args.length:=by omega
   by_cases hz:cc=0
   ·subst hz
    have hgl:f.args.length=g.args.length:=gB (iV rU.out.symm);have hlt2:i<g.args.length:=by omega
    have hii2:(i:Int)<g.args.length:=by omega
    obtain⟨b1,o1,A1,c1,x,rfl,HX,hx⟩:=(HA.out.keep (Keeps.of_below dG.out fun _ h=>h)).get hlt;obtain⟨b2,o2,A2,c2,y,rfl,HY,hy⟩:=(HA2.out.keep (Keeps.of_below dG.out fun _ h=>h)).get hlt2;obtain⟨xd,wS,p0,p1,p2,p3,p4,pa⟩:=hx;obtain⟨yd,wU,q0,q1,q2,q3,q4,qa⟩:=hy
    have aO:Hid (∀W',Below wr.heap.size wr W'->Calls Tryz.prog 86 #[.agg #[.int .i64 x.op,.string x.name,.int .i64 x.val,.int .i64 x.bound,.slice A1 x.args.length c1],.agg #[.int .i64 y.op,.string y.name,.int .i64 y.val,.int .i64 y.bound,.slice A2 y.args.length c2]] W' fun e w'=>e = .returned (.int .i64 (x.cmp y))/\Below wr.heap.size wr w'):=hid fun W' hb=>by
     have:=HIH.out i hlt (D:=fun _=>True) (E:=fun _=>True) y _ _ W' (by rw[HX.out];exact⟨A1,c1,rfl,pa.any hb⟩) ⟨A2,c2,rfl,qa.any hb⟩;rw[HX.out]at this;refine this.mono ?_;rintro e w' ⟨rfl,hb'⟩;exact⟨rfl,hb.trans (hb'.mono hb.size)⟩
    have aK:Hid (∀W':World,Below wr.heap.size wr W'->W'.cell? ⟨w.heap.size,4,none⟩=some (.slice (some ⟨b1,o1,none⟩) f.args.length c)/\W'.cell? ⟨w.heap.size+1,4,none⟩=some (.slice (some ⟨b2,o2,none⟩) g.args.length c')/\W'.cell? ⟨b1,o1+i*5,none⟩=some (.int .i64 x.op)/\W'.cell? ⟨b1,o1+i*5+1,none⟩=some (.string x.name)/\W'.cell? ⟨b1,o1+i*5+2,none⟩=some (.int .i64 x.val)/\W'.cell? ⟨b1,o1+i*5+3,none⟩=some (.int .i64 x.bound)/\W'.cell? ⟨b1,o1+i*5+4,none⟩=some (.slice A1 x.args.length c1)/\W'.cell? ⟨b2,o2+i*5,none⟩=some (.int .i64 y.op)/\W'.cell? ⟨b2,o2+i*5+1,none⟩=some (.string y.name)/\W'.cell? ⟨b2,o2+i*5+2,none⟩=some (.int .i64 y.val)/\W'.cell? ⟨b2,o2+i*5+3,none⟩=some (.int .i64 y.bound)/\W'.cell? ⟨b2,o2+i*5+4,none⟩=some (.slice A2 y.args.length c2)):=hid fun W' hb =>
     ⟨(hb.cell (p:=⟨w.heap.size,4,none⟩) xl).trans x4,(hb.cell (p:=⟨w.heap.size+1,4,none⟩) yl).trans y4,(hb.cell (p:=⟨b1,o1+i*5,none⟩) wS).trans p0,(hb.cell (p:=⟨b1,o1+i*5+1,none⟩) wS).trans p1,(hb.cell (p:=⟨b1,o1+i*5+2,none⟩) wS).trans p2,(hb.cell (p:=⟨b1,o1+i*5+3,none⟩) wS).trans p3,(hb.cell (p:=⟨b1,o1+i*5+4,none⟩) wS).trans p4,(hb.cell (p:=⟨b2,o2+i*5,none⟩) wU).trans q0,(hb.cell (p:=⟨b2,o2+i*5+1,none⟩) wU).trans q1,(hb.cell (p:=⟨b2,o2+i*5+2,none⟩) wU).trans q2,(hb.cell (p:=⟨b2,o2+i*5+3,none⟩) wU).trans q3,(hb.cell (p:=⟨b2,o2+i*5+4,none⟩) wU).trans q4⟩
    have HI1:=hid (show Below wr.heap.size wr wr.drew from(Below.refl _ _).drew);have HI2:=hid (show∀i,Below wr.heap.size wr (wr.drewN i)from fun i=>(aU.n wr i).below _)
    have hsn:nz (bY f g) (fU (f.args.take (i+1)) (g.args.take (i+1)))=x.cmp y:=by
     rw[aT f.args default hlt,aT g.args default hlt2,HX.out,HY.out,ni _ _ (by simp;omega),<-oJ,<-rU.out];rfl
    have vN:=hid hsn;clear pa qa hsn hgl;go_upto_region 15 with(fail)
    go_region_held3 (fun W':World=>W'.cell? ⟨w.heap.size,4,none⟩=some (.slice (some ⟨b1,o1,none⟩) f.args.length c)/\W'.cell? ⟨w.heap.size+1,4,none⟩=some (.slice (some ⟨b2,o2,none⟩) g.args.length c')/\W'.cell? ⟨b1,o1+i*5,none⟩=some (.int .i64 x.op)/\W'.cell? ⟨b1,o1+i*5+1,none⟩=some (.string x.name)/\W'.cell? ⟨b1,o1+i*5+2,none⟩=some (.int .i64 x.val)/\W'.cell? ⟨b1,o1+i*5+3,none⟩=some (.int .i64 x.bound)/\W'.cell? ⟨b1,o1+i*5+4,none⟩=some (.slice A1 x.args.length c1)/\W'.cell? ⟨b2,o2+i*5,none⟩=some (.int .i64 y.op)/\W'.cell? ⟨b2,o2+i*5+1,none⟩=some (.string y.name)/\W'.cell? ⟨b2,o2+i*5+2,none⟩=some (.int .i64 y.val)/\W'.cell? ⟨b2,o2+i*5+3,none⟩=some (.int .i64 y.bound)/\W'.cell? ⟨b2,o2+i*5+4,none⟩=some (.slice A2 y.args.length c2))
     (first|(with_reducible exact aK.out _ hI)|(go_keep;done))
     ((go_at_call 86;refine(aO.out _ (by first|exact HI1.out|exact HI2.out _)).mono ?_;rintro e W9 ⟨rfl,hI⟩))
    all_goals
     have qN:=hid (HB.out.trans (hI.mono HB.out.size));clear hI x0 x1 x2 x3 x4 y0 y1 y2 y3 y4 p0 p1 p2 p3 p4 q0 q1 q2 q3 q4;go_wp2_with fail
     go_roundw
     case rel=>exact⟨i+1,by omega,by rw[vN.out],by go_num,qN.out⟩
     case measure=>simp[intOf];omega
   ·have hzz:(cc==0)=false:=ay hz
    have hres:f.cmp g=cc:=by
     rw[cmp_eq];exact xU rU.out hz
    have dW:=hid hres;clear hres;go_wp2_with fail
    go_ret
    exact⟨bn (by rw[dW.out]),dG.out⟩
  ·have hres:f.cmp g=cc:=by
    rw[cmp_eq,rU.out,List.take_of_length_le (by omega)]
    by_cases hh:bY f g=0
    ·rw[List.take_of_length_le (by have:=gB hh;omega)]
    ·unfold nz;rw[if_neg hh,if_neg hh]
   have dW:=hid hres;clear hres;go_wp2_with fail
   go_ret
   exact⟨bn (by rw[dW.out]),dG.out⟩
end Go.Proofs.YtdpbgcmfeajigaaGreatDoor
