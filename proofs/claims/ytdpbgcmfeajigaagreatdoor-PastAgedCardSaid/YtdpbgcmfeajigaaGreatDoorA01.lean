/-
  Walk of the reference: Compare.
-/
import Derived.Test.YtdpbgcmfeajigaaGreatDoorA00
set_option linter.unusedSimpArgs false
set_option linter.unusedVariables false
set_option maxHeartbeats 8000000
set_option maxRecDepth 100000
namespace Go.Proofs.YtdpbgcmfeajigaaGreatDoor
open Go.RowKit
attribute [local go_sem] ak
def nz (c d:Int):Int:=if c=0 then d else c
theorem KW (c:Int):nz c 0=c:=by unfold nz;split <;> simp_all
theorem dK (c:Int):nz 0 c=c:=rfl
theorem Gf (a b c:Int):nz (nz a b) c=nz a (nz b c):=by unfold nz;by_cases h:a=0 <;> simp[h]
theorem lV {a b:Int}(h:nz a b=0):a=0:=by unfold nz at h;by_cases e:a=0 <;> simp_all
def rH (a b:ByteArray):Int:=if a.toList==b.toList then 0 else if Op.bytesLess a.toList b.toList then -1 else 1
def eH (f g:Fm):Int:=nz (kJ f.op g.op) (nz (rH f.name g.name) (nz (kJ f.val g.val) (nz (kJ f.bound g.bound) (kJ f.args.length g.args.length))))
mutual
def Fm.cmp:Fm->Fm->Int
 | .mk o n v b l,.mk o' n' v' b' l'=>nz (nz (kJ o o') (nz (rH n n') (nz (kJ v v') (nz (kJ b b') (kJ l.length l'.length))))) (jY l l')
def jY:List Fm->List Fm->Int
 | f :: l,g :: m=>nz (f.cmp g) (jY l m)
 | [],_=>0
 | _ :: _,[]=>0
end
theorem cmp_eq (f g:Fm):f.cmp g=nz (eH f g) (jY f.args g.args):=by cases f;cases g;simp only[Fm.cmp,eH,Fm.op,Fm.name,Fm.val,Fm.bound,Fm.args]
theorem IQ:∀(l m:List Fm) {f g:Fm},l.length=m.length->jY (l ++ [f]) (m ++ [g])=nz (jY l m) (f.cmp g)
 | [],[],f,g,_=>by simp[jY,dK,KW]
 | x :: l,y :: m,f,g,h=>by
  have:=IQ l m (f:=f) (g:=g) (by simpa using h);simp only[List.cons_append,jY,this,Gf]
 | [],y :: m,_,_,h=>by cases h
 | x :: l,[],_,_,h=>by cases h
theorem jq {a b:Int}:kJ a b=0 ↔ a=b:=by
 unfold kJ
 by_cases h1:a<b
 ·rw[if_pos h1];omega
 ·rw[if_neg h1]
  by_cases h2:b<a
  ·rw[if_pos h2];omega
  ·rw[if_neg h2];omega
theorem oZ {f g:Fm}(h:eH f g=0):f.args.length=g.args.length:=by
 unfold eH at h;have h1:=lV h;rw[h1,dK]at h;have h2:=lV h;rw[h2,dK]at h;have h3:=lV h;rw[h3,dK]at h;have h4:=lV h;rw[h4,dK]at h;have:=jq.1 h;omega
theorem IU:∀(l m:List Fm) (i:Nat),jY (l.take i) (m.take i)≠0->jY l m=jY (l.take i) (m.take i)
 | [],_,_,h=>by simp[jY]at h
 | _ :: _,[],0,h=>by simp[jY]at h
 | _ :: _,[],_+1,h=>by simp[jY]at h
 | _ :: _,_ :: _,0,h=>by simp[jY]at h
 | x :: l,y :: m,i+1,h=>by
  simp only[List.take_succ_cons,jY]at h⊢;unfold nz at h⊢
  by_cases e:x.cmp y=0
  ·rw[if_pos e]at h
   rw[if_pos e,if_pos e];exact IU l m i h
  ·rw[if_neg e,if_neg e]
theorem qbM {f g:Fm}{i:Nat}{cc:Int}(h:cc=nz (eH f g) (jY (f.args.take i) (g.args.take i)))(hz:cc≠0):nz (eH f g) (jY f.args g.args)=cc:=by
 rw[h]at hz⊢;unfold nz at hz⊢
 by_cases e:eH f g=0
 ·rw[if_pos e]at hz
  rw[if_pos e,if_pos e];exact IU _ _ _ hz
 ·rw[if_neg e,if_neg e]
theorem ZN (f:Fm):∀{D E:Dom} (g:Fm) (v v':Value) (w:World) (h:bI w D v f) (h':bI w E v' g),
  Calls Tryz.prog 86 #[v,v'] w λ e w'=>e = .returned (.int .i64 (f.cmp g))/\Below w.heap.size w w':=by
 refine Fm.induct (P := λ f=>∀{D E:Dom} (g:Fm) (v v':Value) (w:World) (h:bI w D v f) (h':bI w E v' g),Calls Tryz.prog 86 #[v,v'] w λ e w'=>e = .returned (.int .i64 (f.cmp g))/\Below w.heap.size w w') ?_ f;intro f ih D E g v v' w h h';have HIH:=hid ih;obtain⟨A,c,rfl,ha⟩:=h;obtain⟨A',c',rfl,ha'⟩:=h';have HA:=hid ha.old;have HA2:=hid ha'.old;have hal:=ha.len.1;have hal':=ha'.len.1;clear ih ha ha'
 go_enter Tryz.func86,Tryz.ntmps86
 go_upto_region 1 with(fail)
 refine aC λ W hW=>?_;obtain⟨w1,h1⟩:∃w1,w1=w.alloc (.cells #[.int .i64 f.op,.string f.name,.int .i64 f.val,.int .i64 f.bound,.slice A f.args.length c] 24):=⟨_,rfl⟩;have s1:w1.heap.size=w.heap.size+1:=by rw[h1];simp
 have b1:Below w.heap.size w w1:=by rw[h1];go_grown
 have m1:dH w1 w.heap.size f A c:=by rw[h1];exact dH.new w f A c
 rw[<-h1]at hW;have b2:Below w1.heap.size w1 W:=by rw[hW];go_grown
 have dW:=hid (m1.below b2);have HBY:=hid (show dH W (w.heap.size+1) g A' c' by rw[hW,<-s1];exact dH.new w1 g A' c');have aT:=hid (b1.trans (b2.mono b1.size));obtain⟨x0,x1,x2,x3,x4,xl⟩:=dW.out.cells;obtain⟨y0,y1,y2,y3,y4,yl⟩:=HBY.out.cells;clear hW h1 s1 b1 m1 b2;go_wp2_with fail
 refine(yI f.op g.op W).mono ?_;rintro e w1 ⟨rfl,hw⟩;subst w1;obtain⟨k1,hk1⟩:∃k1,k1=kJ f.op g.op:=⟨_,rfl⟩;rw[<-hk1]
 by_cases z1:k1=0
 case' neg =>
  have zz:(k1==0)=false:=ay z1;have hhd:eH f g=k1:=by unfold eH nz;rw[<-hk1,if_neg z1]
  clear hk1;have HHD:=hid hhd;clear hhd;go_upto_region 12 with(fail)
 rotate_left
 subst z1;have Z1:=hid hk1.symm;clear hk1
 by_cases hn:(f.name.toList==g.name.toList)=true
 case' neg =>
  have hn:(f.name.toList==g.name.toList)=false:=by simpa using hn
  cases hlt:Op.bytesLess f.name.toList g.name.toList
  all_goals first
   | (have hhd:eH f g=1:=(by unfold eH;rw[Z1.out,dK];unfold rH;rw[hn,hlt];rfl);have HHD:=hid hhd;clear hhd;go_upto_region 12 with(fail))
   | (have hhd:eH f g = -1:=(by unfold eH;rw[Z1.out,dK];unfold rH;rw[hn,hlt];rfl);have HHD:=hid hhd;clear hhd;go_upto_region 12 with(fail))
 rotate_left 2
 have Z2:=hid (show rH f.name g.name=0 by unfold rH;rw[hn];rfl);go_wp2_with fail
 refine(yI f.val g.val W).mono ?_;rintro e w1 ⟨rfl,hw⟩;subst w1;obtain⟨k3,hk3⟩:∃k3,k3=kJ f.val g.val:=⟨_,rfl⟩;rw[<-hk3]
 by_cases z3:k3=0
 case' neg =>
  have zz:(k3==0)=false:=ay z3;have hhd:eH f g=k3:=by unfold eH;rw[Z1.out,dK,Z2.out,dK];unfold nz;rw[<-hk3,if_neg z3]
  clear hk3;have HHD:=hid hhd;clear hhd;go_upto_region 12 with(fail)
 rotate_left
 subst z3;have Z3:=hid hk3.symm;clear hk3;go_wp2_with fail
 refine(yI f.bound g.bound W).mono ?_;rintro e w1 ⟨rfl,hw⟩;subst w1;obtain⟨k4,hk4⟩:∃k4,k4=kJ f.bound g.bound:=⟨_,rfl⟩;rw[<-hk4]
 by_cases z4:k4=0
 case' neg =>
  have zz:(k4==0)=false:=ay z4;have hhd:eH f g=k4:=by unfold eH;rw[Z1.out,dK,Z2.out,dK,Z3.out,dK];unfold nz;rw[<-hk4,if_neg z4]
  clear hk4;have HHD:=hid hhd;clear hhd;go_upto_region 12 with(fail)
 rotate_left
 subst z4;have Z4:=hid hk4.symm;clear hk4;go_wp2_with fail
 refine(yI (f.args.length:Int) (g.args.length:Int) W).mono ?_;rintro e w1 ⟨rfl,hw⟩;subst w1;obtain⟨k5,hk5⟩:∃k5,k5=kJ (f.args.length:Int) (g.args.length:Int):=⟨_,rfl⟩;rw[<-hk5];have hhd:eH f g=k5:=by unfold eH;rw[Z1.out,dK,Z2.out,dK,Z3.out,dK,Z4.out,dK,hk5]
 clear hk5;have HHD:=hid hhd;clear hhd;go_upto_region 12 with(fail)
 all_goals
  go_wp2_with fail
  go_loopw [5,6] (λ s q wr=>∃i:Nat,i<=f.args.length/\s = .int .i64 (nz (eH f g) (jY (f.args.take i) (g.args.take i)))/\q = .int .i64 (i:Int)/\Below W.heap.size W wr) (λ _ q _=>f.args.length-(intOf q).toNat)
  case atStart=>exact⟨0,Nat.zero_le _,by simp only[List.take_zero,jY,KW];rw[HHD.out],rfl,Below.refl _ _⟩
  case round =>
   obtain⟨i,hi,rfl,rfl,hb⟩:=hrel;obtain⟨x0,x1,x2,x3,x4,xl⟩:=(dW.out.below hb).cells;obtain⟨y0,y1,y2,y3,y4,yl⟩:=(HBY.out.below hb).cells;have HB:=hid hb;have gB:=hid (aT.out.trans (hb.mono aT.out.size));obtain⟨cc,hcc⟩:∃cc,cc=nz (eH f g) (jY (f.args.take i) (g.args.take i)):=⟨_,rfl⟩;rw[<-hcc];have Py:=hid hcc;clear hb hcc
   by_cases hlt:i<f.args.length
   ·have hii:(i:Int)<f.args.length:=by omega
    by_cases hz:cc=0
    ·subst hz
     have hgl:f.args.length=g.args.length:=oZ (lV Py.out.symm);have hlt2:i<g.args.length:=by omega
     have hii2:(i:Int)<g.args.length:=by omega
     obtain⟨b1,o1,A1,c1,x,rfl,HX,hx⟩:=(HA.out.keep (Keeps.of_below gB.out λ _ h=>h)).get hlt;obtain⟨b2,o2,A2,c2,y,rfl,HY,hy⟩:=(HA2.out.keep (Keeps.of_below gB.out λ _ h=>h)).get hlt2;obtain⟨xd,xl',p0,p1,p2,p3,p4,pa⟩:=hx;obtain⟨yd,yl',q0,q1,q2,q3,q4,qa⟩:=hy
     have aX:Hid (∀W',Below wr.heap.size wr W'->Calls Tryz.prog 86 #[.agg #[.int .i64 x.op,.string x.name,.int .i64 x.val,.int .i64 x.bound,.slice A1 x.args.length c1],.agg #[.int .i64 y.op,.string y.name,.int .i64 y.val,.int .i64 y.bound,.slice A2 y.args.length c2]] W' λ e w'=>e = .returned (.int .i64 (x.cmp y))/\Below wr.heap.size wr w'):=hid λ W' hb=>by
      have:=HIH.out i hlt (D := λ _=>True) (E := λ _=>True) y _ _ W' (by rw[HX.out];exact⟨A1,c1,rfl,pa.any hb⟩) ⟨A2,c2,rfl,qa.any hb⟩;rw[HX.out]at this;refine this.mono ?_;rintro e w' ⟨rfl,hb'⟩;exact⟨rfl,hb.trans (hb'.mono hb.size)⟩
     have aI:Hid (∀W':World,Below wr.heap.size wr W'->W'.cell? ⟨w.heap.size,4,none⟩=some (.slice (some ⟨b1,o1,none⟩) f.args.length c)/\W'.cell? ⟨w.heap.size+1,4,none⟩=some (.slice (some ⟨b2,o2,none⟩) g.args.length c')/\W'.cell? ⟨b1,o1+i*5,none⟩=some (.int .i64 x.op)/\W'.cell? ⟨b1,o1+i*5+1,none⟩=some (.string x.name)/\W'.cell? ⟨b1,o1+i*5+2,none⟩=some (.int .i64 x.val)/\W'.cell? ⟨b1,o1+i*5+3,none⟩=some (.int .i64 x.bound)/\W'.cell? ⟨b1,o1+i*5+4,none⟩=some (.slice A1 x.args.length c1)/\W'.cell? ⟨b2,o2+i*5,none⟩=some (.int .i64 y.op)/\W'.cell? ⟨b2,o2+i*5+1,none⟩=some (.string y.name)/\W'.cell? ⟨b2,o2+i*5+2,none⟩=some (.int .i64 y.val)/\W'.cell? ⟨b2,o2+i*5+3,none⟩=some (.int .i64 y.bound)/\W'.cell? ⟨b2,o2+i*5+4,none⟩=some (.slice A2 y.args.length c2)):=hid λ W' hb =>
      ⟨(hb.cell (p:=⟨w.heap.size,4,none⟩) xl).trans x4,(hb.cell (p:=⟨w.heap.size+1,4,none⟩) yl).trans y4,(hb.cell (p:=⟨b1,o1+i*5,none⟩) xl').trans p0,(hb.cell (p:=⟨b1,o1+i*5+1,none⟩) xl').trans p1,(hb.cell (p:=⟨b1,o1+i*5+2,none⟩) xl').trans p2,(hb.cell (p:=⟨b1,o1+i*5+3,none⟩) xl').trans p3,(hb.cell (p:=⟨b1,o1+i*5+4,none⟩) xl').trans p4,(hb.cell (p:=⟨b2,o2+i*5,none⟩) yl').trans q0,(hb.cell (p:=⟨b2,o2+i*5+1,none⟩) yl').trans q1,(hb.cell (p:=⟨b2,o2+i*5+2,none⟩) yl').trans q2,(hb.cell (p:=⟨b2,o2+i*5+3,none⟩) yl').trans q3,(hb.cell (p:=⟨b2,o2+i*5+4,none⟩) yl').trans q4⟩
     have HI1:=hid (show Below wr.heap.size wr wr.drew from(Below.refl _ _).drew);have HI2:=hid (show∀i,Below wr.heap.size wr (wr.drewN i)from λ i=>(aU.n wr i).below _)
     have hsn:nz (eH f g) (jY (f.args.take (i+1)) (g.args.take (i+1)))=x.cmp y:=by
      rw[bP f.args default hlt,bP g.args default hlt2,HX.out,HY.out,IQ _ _ (by simp;omega),<-Gf,<-Py.out];rfl
     have rO:=hid hsn;clear pa qa hsn hgl;go_upto_region 15 with(fail)
     go_region_held3 (λ W':World=>W'.cell? ⟨w.heap.size,4,none⟩=some (.slice (some ⟨b1,o1,none⟩) f.args.length c)/\W'.cell? ⟨w.heap.size+1,4,none⟩=some (.slice (some ⟨b2,o2,none⟩) g.args.length c')/\W'.cell? ⟨b1,o1+i*5,none⟩=some (.int .i64 x.op)/\W'.cell? ⟨b1,o1+i*5+1,none⟩=some (.string x.name)/\W'.cell? ⟨b1,o1+i*5+2,none⟩=some (.int .i64 x.val)/\W'.cell? ⟨b1,o1+i*5+3,none⟩=some (.int .i64 x.bound)/\W'.cell? ⟨b1,o1+i*5+4,none⟩=some (.slice A1 x.args.length c1)/\W'.cell? ⟨b2,o2+i*5,none⟩=some (.int .i64 y.op)/\W'.cell? ⟨b2,o2+i*5+1,none⟩=some (.string y.name)/\W'.cell? ⟨b2,o2+i*5+2,none⟩=some (.int .i64 y.val)/\W'.cell? ⟨b2,o2+i*5+3,none⟩=some (.int .i64 y.bound)/\W'.cell? ⟨b2,o2+i*5+4,none⟩=some (.slice A2 y.args.length c2))
      (first|(with_reducible exact aI.out _ hI)|(go_keep;done))
      ((go_at_call 86;refine(aX.out _ (by first|exact HI1.out|exact HI2.out _)).mono ?_;rintro e W9 ⟨rfl,hI⟩))
     all_goals
      have rJ:=hid (HB.out.trans (hI.mono HB.out.size));clear hI x0 x1 x2 x3 x4 y0 y1 y2 y3 y4 p0 p1 p2 p3 p4 q0 q1 q2 q3 q4;go_wp2_with fail
      go_roundw
      case rel=>exact⟨i+1,by omega,by rw[rO.out],by go_num,rJ.out⟩
      case measure=>simp[intOf];omega
    ·have hzz:(cc==0)=false:=ay hz
     have hres:f.cmp g=cc:=by
      rw[cmp_eq];exact qbM Py.out hz
     have gY:=hid hres;clear hres;go_wp2_with fail
     go_ret
     exact⟨dD (by rw[gY.out]),gB.out⟩
   ·have hres:f.cmp g=cc:=by
     rw[cmp_eq,Py.out,List.take_of_length_le (by omega)]
     by_cases hh:eH f g=0
     ·rw[List.take_of_length_le (by have:=oZ hh;omega)]
     ·unfold nz;rw[if_neg hh,if_neg hh]
    have gY:=hid hres;clear hres;go_wp2_with fail
    go_ret
    exact⟨dD (by rw[gY.out]),gB.out⟩
end Go.Proofs.YtdpbgcmfeajigaaGreatDoor
