/-
  Walk of the reference: Compare.
-/
import Derived.Test.YtdpbgcmfeajigaaGreatDoorT00
set_option linter.unusedSimpArgs false
set_option linter.unusedVariables false
set_option maxHeartbeats 8000000
set_option maxRecDepth 100000
namespace Go.Proofs.YtdpbgcmfeajigaaGreatDoor
open Go.RowKit
attribute [local go_sem] ak
def nz (c d:Int):Int:=if c=0 then d else c
theorem rJ (c:Int):nz c 0=c:=by unfold nz;split <;> simp_all
theorem dJ (c:Int):nz 0 c=c:=rfl
theorem o7 (a b c:Int):nz (nz a b) c=nz a (nz b c):=by unfold nz;by_cases h:a=0 <;> simp[h]
theorem jd {a b:Int}(h:nz a b=0):a=0:=by unfold nz at h;by_cases e:a=0 <;> simp_all
def rC (a b:ByteArray):Int:=if a.toList==b.toList then 0 else if Op.bytesLess a.toList b.toList then -1 else 1
def bZ (f g:Fm):Int:=nz (jZ f.op g.op) (nz (rC f.name g.name) (nz (jZ f.val g.val) (nz (jZ f.bound g.bound) (jZ f.args.length g.args.length))))
mutual
def Fm.cmp:Fm->Fm->Int
 | .mk o n v b l,.mk o' n' v' b' l'=>nz (nz (jZ o o') (nz (rC n n') (nz (jZ v v') (nz (jZ b b') (jZ l.length l'.length))))) (gG l l')
def gG:List Fm->List Fm->Int
 | f :: l,g :: m=>nz (f.cmp g) (gG l m)
 | [],_=>0
 | _ :: _,[]=>0
end
theorem cmp_eq (f g:Fm):f.cmp g=nz (bZ f g) (gG f.args g.args):=by cases f;cases g;simp only[Fm.cmp,bZ,Fm.op,Fm.name,Fm.val,Fm.bound,Fm.args]
theorem nN:∀(l m:List Fm) {f g:Fm},l.length=m.length->gG (l ++ [f]) (m ++ [g])=nz (gG l m) (f.cmp g)
 | [],[],f,g,_=>by simp[gG,dJ,rJ]
 | x :: l,y :: m,f,g,h=>by
  have:=nN l m (f:=f) (g:=g) (by simpa using h);simp only[List.cons_append,gG,this,o7]
 | [],y :: m,_,_,h=>by cases h
 | x :: l,[],_,_,h=>by cases h
theorem jk {a b:Int}:jZ a b=0 ↔ a=b:=by
 unfold jZ
 by_cases h1:a<b
 ·rw[if_pos h1];omega
 ·rw[if_neg h1]
  by_cases h2:b<a
  ·rw[if_pos h2];omega
  ·rw[if_neg h2];omega
theorem gQ {f g:Fm}(h:bZ f g=0):f.args.length=g.args.length:=by
 unfold bZ at h;have h1:=jd h;rw[h1,dJ]at h;have h2:=jd h;rw[h2,dJ]at h;have h3:=jd h;rw[h3,dJ]at h;have h4:=jd h;rw[h4,dJ]at h;have:=jk.1 h;omega
theorem IQ:∀(l m:List Fm) (i:Nat),gG (l.take i) (m.take i)≠0->gG l m=gG (l.take i) (m.take i)
 | [],_,_,h=>by simp[gG]at h
 | _ :: _,[],0,h=>by simp[gG]at h
 | _ :: _,[],_+1,h=>by simp[gG]at h
 | _ :: _,_ :: _,0,h=>by simp[gG]at h
 | x :: l,y :: m,i+1,h=>by
  simp only[List.take_succ_cons,gG]at h⊢;unfold nz at h⊢
  by_cases e:x.cmp y=0
  ·rw[if_pos e]at h
   rw[if_pos e,if_pos e];exact IQ l m i h
  ·rw[if_neg e,if_neg e]
theorem yu {f g:Fm}{i:Nat}{cc:Int}(h:cc=nz (bZ f g) (gG (f.args.take i) (g.args.take i)))(hz:cc≠0):nz (bZ f g) (gG f.args g.args)=cc:=by
 rw[h]at hz⊢;unfold nz at hz⊢
 by_cases e:bZ f g=0
 ·rw[if_pos e]at hz
  rw[if_pos e,if_pos e];exact IQ _ _ _ hz
 ·rw[if_neg e,if_neg e]
theorem YN (f:Fm):∀{D E:Dom} (g:Fm) (v v':Value) (w:World) (h:bI w D v f) (h':bI w E v' g),
  Calls Tryz.prog 86 #[v,v'] w fun e w'=>e = .returned (.int .i64 (f.cmp g))/\Below w.heap.size w w':=by
 refine Fm.induct (P:=fun f=>∀{D E:Dom} (g:Fm) (v v':Value) (w:World) (h:bI w D v f) (h':bI w E v' g),Calls Tryz.prog 86 #[v,v'] w fun e w'=>e = .returned (.int .i64 (f.cmp g))/\Below w.heap.size w w') ?_ f;intro f ih D E g v v' w h h';have HIH:=hid ih;obtain⟨A,c,rfl,ha⟩:=h;obtain⟨A',c',rfl,ha'⟩:=h';have HA:=hid ha.old;have HA2:=hid ha'.old;have hal:=ha.len.1;have hal':=ha'.len.1;clear ih ha ha'
 go_enter Tryz.func86,Tryz.ntmps86
 go_upto_region 1 with(fail)
 refine aF fun W hW=>?_;obtain⟨w1,h1⟩:∃w1,w1=w.alloc (.cells #[.int .i64 f.op,.string f.name,.int .i64 f.val,.int .i64 f.bound,.slice A f.args.length c] 24):=⟨_,rfl⟩;have s1:w1.heap.size=w.heap.size+1:=by rw[h1];simp
 have b1:Below w.heap.size w w1:=by rw[h1];go_grown
 have m1:dF w1 w.heap.size f A c:=by rw[h1];exact dF.new w f A c
 rw[<-h1]at hW;have b2:Below w1.heap.size w1 W:=by rw[hW];go_grown
 have dO:=hid (m1.below b2);have WB:=hid (show dF W (w.heap.size+1) g A' c' by rw[hW,<-s1];exact dF.new w1 g A' c');have aT:=hid (b1.trans (b2.mono b1.size));obtain⟨x0,x1,x2,x3,x4,xl⟩:=dO.out.cells;obtain⟨y0,y1,y2,y3,y4,yl⟩:=WB.out.cells;clear hW h1 s1 b1 m1 b2;go_wp2_with fail
 refine(yD f.op g.op W).mono ?_;rintro e w1 ⟨rfl,hw⟩;subst w1;obtain⟨k1,hk1⟩:∃k1,k1=jZ f.op g.op:=⟨_,rfl⟩;rw[<-hk1]
 by_cases z1:k1=0
 rotate_left
 ·have zz:(k1==0)=false:=ay z1
  have hhd:bZ f g=k1:=by unfold bZ nz;rw[<-hk1,if_neg z1]
  clear hk1;have Sv:=hid hhd;clear hhd;go_upto_region 12 with(fail)
  go_wp2_with fail
  go_loopw [5,6] (fun s q wr=>∃i:Nat,i<=f.args.length/\s = .int .i64 (nz (bZ f g) (gG (f.args.take i) (g.args.take i)))/\q = .int .i64 (i:Int)/\Below W.heap.size W wr) (fun _ q _=>f.args.length-(intOf q).toNat)
  case atStart=>exact⟨0,Nat.zero_le _,by simp only[List.take_zero,gG,rJ];rw[Sv.out],rfl,Below.refl _ _⟩
  case round =>
   obtain⟨i,hi,rfl,rfl,hb⟩:=hrel;obtain⟨x0,x1,x2,x3,x4,xl⟩:=(dO.out.below hb).cells;obtain⟨y0,y1,y2,y3,y4,yl⟩:=(WB.out.below hb).cells;have HB:=hid hb;have dG:=hid (aT.out.trans (hb.mono aT.out.size));obtain⟨cc,hcc⟩:∃cc,cc=nz (bZ f g) (gG (f.args.take i) (g.args.take i)):=⟨_,rfl⟩;rw[<-hcc];have sN:=hid hcc;clear hb hcc
   by_cases hlt:i<f.args.length
   ·have hii:(i:Int)<f.args.length:=by omega
    by_cases hz:cc=0
    ·subst hz
     have hgl:f.args.length=g.args.length:=gQ (jd sN.out.symm);have hlt2:i<g.args.length:=by omega
     have hii2:(i:Int)<g.args.length:=by omega
     obtain⟨b1,o1,A1,c1,x,rfl,HX,hx⟩:=(HA.out.keep (Keeps.of_below dG.out fun _ h=>h)).get hlt;obtain⟨b2,o2,A2,c2,y,rfl,HY,hy⟩:=(HA2.out.keep (Keeps.of_below dG.out fun _ h=>h)).get hlt2;obtain⟨xd,xA,p0,p1,p2,p3,p4,pa⟩:=hx;obtain⟨yd,xB,q0,q1,q2,q3,q4,qa⟩:=hy
     have aO:Hid (∀W',Below wr.heap.size wr W'->Calls Tryz.prog 86 #[.agg #[.int .i64 x.op,.string x.name,.int .i64 x.val,.int .i64 x.bound,.slice A1 x.args.length c1],.agg #[.int .i64 y.op,.string y.name,.int .i64 y.val,.int .i64 y.bound,.slice A2 y.args.length c2]] W' fun e w'=>e = .returned (.int .i64 (x.cmp y))/\Below wr.heap.size wr w'):=hid fun W' hb=>by
      have:=HIH.out i hlt (D:=fun _=>True) (E:=fun _=>True) y _ _ W' (by rw[HX.out];exact⟨A1,c1,rfl,pa.any hb⟩) ⟨A2,c2,rfl,qa.any hb⟩;rw[HX.out]at this;refine this.mono ?_;rintro e w' ⟨rfl,hb'⟩;exact⟨rfl,hb.trans (hb'.mono hb.size)⟩
     have aI:Hid (∀W':World,Below wr.heap.size wr W'->W'.cell? ⟨w.heap.size,4,none⟩=some (.slice (some ⟨b1,o1,none⟩) f.args.length c)/\W'.cell? ⟨w.heap.size+1,4,none⟩=some (.slice (some ⟨b2,o2,none⟩) g.args.length c')/\W'.cell? ⟨b1,o1+i*5,none⟩=some (.int .i64 x.op)/\W'.cell? ⟨b1,o1+i*5+1,none⟩=some (.string x.name)/\W'.cell? ⟨b1,o1+i*5+2,none⟩=some (.int .i64 x.val)/\W'.cell? ⟨b1,o1+i*5+3,none⟩=some (.int .i64 x.bound)/\W'.cell? ⟨b1,o1+i*5+4,none⟩=some (.slice A1 x.args.length c1)/\W'.cell? ⟨b2,o2+i*5,none⟩=some (.int .i64 y.op)/\W'.cell? ⟨b2,o2+i*5+1,none⟩=some (.string y.name)/\W'.cell? ⟨b2,o2+i*5+2,none⟩=some (.int .i64 y.val)/\W'.cell? ⟨b2,o2+i*5+3,none⟩=some (.int .i64 y.bound)/\W'.cell? ⟨b2,o2+i*5+4,none⟩=some (.slice A2 y.args.length c2)):=hid fun W' hb =>
      ⟨(hb.cell (p:=⟨w.heap.size,4,none⟩) xl).trans x4,(hb.cell (p:=⟨w.heap.size+1,4,none⟩) yl).trans y4,(hb.cell (p:=⟨b1,o1+i*5,none⟩) xA).trans p0,(hb.cell (p:=⟨b1,o1+i*5+1,none⟩) xA).trans p1,(hb.cell (p:=⟨b1,o1+i*5+2,none⟩) xA).trans p2,(hb.cell (p:=⟨b1,o1+i*5+3,none⟩) xA).trans p3,(hb.cell (p:=⟨b1,o1+i*5+4,none⟩) xA).trans p4,(hb.cell (p:=⟨b2,o2+i*5,none⟩) xB).trans q0,(hb.cell (p:=⟨b2,o2+i*5+1,none⟩) xB).trans q1,(hb.cell (p:=⟨b2,o2+i*5+2,none⟩) xB).trans q2,(hb.cell (p:=⟨b2,o2+i*5+3,none⟩) xB).trans q3,(hb.cell (p:=⟨b2,o2+i*5+4,none⟩) xB).trans q4⟩
     have HI1:=hid (show Below wr.heap.size wr wr.drew from(Below.refl _ _).drew);have HI2:=hid (show∀i,Below wr.heap.size wr (wr.drewN i)from fun i=>(aV.n wr i).below _)
     have hsn:nz (bZ f g) (gG (f.args.take (i+1)) (g.args.take (i+1)))=x.cmp y:=by
      rw[aU f.args default hlt,aU g.args default hlt2,HX.out,HY.out,nN _ _ (by simp;omega),<-o7,<-sN.out];rfl
     have wC:=hid hsn;clear pa qa hsn hgl;go_upto_region 15 with(fail)
     go_region_held3 (fun W':World=>W'.cell? ⟨w.heap.size,4,none⟩=some (.slice (some ⟨b1,o1,none⟩) f.args.length c)/\W'.cell? ⟨w.heap.size+1,4,none⟩=some (.slice (some ⟨b2,o2,none⟩) g.args.length c')/\W'.cell? ⟨b1,o1+i*5,none⟩=some (.int .i64 x.op)/\W'.cell? ⟨b1,o1+i*5+1,none⟩=some (.string x.name)/\W'.cell? ⟨b1,o1+i*5+2,none⟩=some (.int .i64 x.val)/\W'.cell? ⟨b1,o1+i*5+3,none⟩=some (.int .i64 x.bound)/\W'.cell? ⟨b1,o1+i*5+4,none⟩=some (.slice A1 x.args.length c1)/\W'.cell? ⟨b2,o2+i*5,none⟩=some (.int .i64 y.op)/\W'.cell? ⟨b2,o2+i*5+1,none⟩=some (.string y.name)/\W'.cell? ⟨b2,o2+i*5+2,none⟩=some (.int .i64 y.val)/\W'.cell? ⟨b2,o2+i*5+3,none⟩=some (.int .i64 y.bound)/\W'.cell? ⟨b2,o2+i*5+4,none⟩=some (.slice A2 y.args.length c2))
      (first|(with_reducible exact aI.out _ hI)|(go_keep;done))
      ((go_at_call 86;refine(aO.out _ (by first|exact HI1.out|exact HI2.out _)).mono ?_;rintro e W9 ⟨rfl,hI⟩))
     all_goals
      have oD:=hid (HB.out.trans (hI.mono HB.out.size));clear hI x0 x1 x2 x3 x4 y0 y1 y2 y3 y4 p0 p1 p2 p3 p4 q0 q1 q2 q3 q4;go_wp2_with fail
      go_roundw
      case rel=>exact⟨i+1,by omega,by rw[wC.out],by go_num,oD.out⟩
      case measure=>simp[intOf];omega
    ·have hzz:(cc==0)=false:=ay hz
     have hres:f.cmp g=cc:=by
      rw[cmp_eq];exact yu sN.out hz
     have dZ:=hid hres;clear hres;go_wp2_with fail
     go_ret
     exact⟨bD (by rw[dZ.out]),dG.out⟩
   ·have hres:f.cmp g=cc:=by
     rw[cmp_eq,sN.out,List.take_of_length_le (by omega)]
     by_cases hh:bZ f g=0
     ·rw[List.take_of_length_le (by have:=gQ hh;omega)]
     ·unfold nz;rw[if_neg hh,if_neg hh]
    have dZ:=hid hres;clear hres;go_wp2_with fail
    go_ret
    exact⟨bD (by rw[dZ.out]),dG.out⟩
 subst z1;have Z1:=hid hk1.symm;clear hk1
 by_cases hn:(f.name.toList==g.name.toList)=true
 rotate_left
 ·have hn:(f.name.toList==g.name.toList)=false:=by simpa using hn
  cases hlt:Op.bytesLess f.name.toList g.name.toList
  ·have hhd:bZ f g=1:=by unfold bZ;rw[Z1.out,dJ];unfold rC;rw[hn,hlt];rfl
   have Sv:=hid hhd;clear hhd;go_upto_region 12 with(fail)
   go_wp2_with fail
   go_loopw [5,6] (fun s q wr=>∃i:Nat,i<=f.args.length/\s = .int .i64 (nz (bZ f g) (gG (f.args.take i) (g.args.take i)))/\q = .int .i64 (i:Int)/\Below W.heap.size W wr) (fun _ q _=>f.args.length-(intOf q).toNat)
   case atStart=>exact⟨0,Nat.zero_le _,by simp only[List.take_zero,gG,rJ];rw[Sv.out],rfl,Below.refl _ _⟩
   case round =>
    obtain⟨i,hi,rfl,rfl,hb⟩:=hrel;obtain⟨x0,x1,x2,x3,x4,xl⟩:=(dO.out.below hb).cells;obtain⟨y0,y1,y2,y3,y4,yl⟩:=(WB.out.below hb).cells;have HB:=hid hb;have dG:=hid (aT.out.trans (hb.mono aT.out.size));obtain⟨cc,hcc⟩:∃cc,cc=nz (bZ f g) (gG (f.args.take i) (g.args.take i)):=⟨_,rfl⟩;rw[<-hcc];have sN:=hid hcc;clear hb hcc
    by_cases hlt:i<f.args.length
    ·have hii:(i:Int)<f.args.length:=by omega
     by_cases hz:cc=0
     ·subst hz
      have hgl:f.args.length=g.args.length:=gQ (jd sN.out.symm);have hlt2:i<g.args.length:=by omega
      have hii2:(i:Int)<g.args.length:=by omega
      obtain⟨b1,o1,A1,c1,x,rfl,HX,hx⟩:=(HA.out.keep (Keeps.of_below dG.out fun _ h=>h)).get hlt;obtain⟨b2,o2,A2,c2,y,rfl,HY,hy⟩:=(HA2.out.keep (Keeps.of_below dG.out fun _ h=>h)).get hlt2;obtain⟨xd,xA,p0,p1,p2,p3,p4,pa⟩:=hx;obtain⟨yd,xB,q0,q1,q2,q3,q4,qa⟩:=hy
      have aO:Hid (∀W',Below wr.heap.size wr W'->Calls Tryz.prog 86 #[.agg #[.int .i64 x.op,.string x.name,.int .i64 x.val,.int .i64 x.bound,.slice A1 x.args.length c1],.agg #[.int .i64 y.op,.string y.name,.int .i64 y.val,.int .i64 y.bound,.slice A2 y.args.length c2]] W' fun e w'=>e = .returned (.int .i64 (x.cmp y))/\Below wr.heap.size wr w'):=hid fun W' hb=>by
       have:=HIH.out i hlt (D:=fun _=>True) (E:=fun _=>True) y _ _ W' (by rw[HX.out];exact⟨A1,c1,rfl,pa.any hb⟩) ⟨A2,c2,rfl,qa.any hb⟩;rw[HX.out]at this;refine this.mono ?_;rintro e w' ⟨rfl,hb'⟩;exact⟨rfl,hb.trans (hb'.mono hb.size)⟩
      have aI:Hid (∀W':World,Below wr.heap.size wr W'->W'.cell? ⟨w.heap.size,4,none⟩=some (.slice (some ⟨b1,o1,none⟩) f.args.length c)/\W'.cell? ⟨w.heap.size+1,4,none⟩=some (.slice (some ⟨b2,o2,none⟩) g.args.length c')/\W'.cell? ⟨b1,o1+i*5,none⟩=some (.int .i64 x.op)/\W'.cell? ⟨b1,o1+i*5+1,none⟩=some (.string x.name)/\W'.cell? ⟨b1,o1+i*5+2,none⟩=some (.int .i64 x.val)/\W'.cell? ⟨b1,o1+i*5+3,none⟩=some (.int .i64 x.bound)/\W'.cell? ⟨b1,o1+i*5+4,none⟩=some (.slice A1 x.args.length c1)/\W'.cell? ⟨b2,o2+i*5,none⟩=some (.int .i64 y.op)/\W'.cell? ⟨b2,o2+i*5+1,none⟩=some (.string y.name)/\W'.cell? ⟨b2,o2+i*5+2,none⟩=some (.int .i64 y.val)/\W'.cell? ⟨b2,o2+i*5+3,none⟩=some (.int .i64 y.bound)/\W'.cell? ⟨b2,o2+i*5+4,none⟩=some (.slice A2 y.args.length c2)):=hid fun W' hb =>
       ⟨(hb.cell (p:=⟨w.heap.size,4,none⟩) xl).trans x4,(hb.cell (p:=⟨w.heap.size+1,4,none⟩) yl).trans y4,(hb.cell (p:=⟨b1,o1+i*5,none⟩) xA).trans p0,(hb.cell (p:=⟨b1,o1+i*5+1,none⟩) xA).trans p1,(hb.cell (p:=⟨b1,o1+i*5+2,none⟩) xA).trans p2,(hb.cell (p:=⟨b1,o1+i*5+3,none⟩) xA).trans p3,(hb.cell (p:=⟨b1,o1+i*5+4,none⟩) xA).trans p4,(hb.cell (p:=⟨b2,o2+i*5,none⟩) xB).trans q0,(hb.cell (p:=⟨b2,o2+i*5+1,none⟩) xB).trans q1,(hb.cell (p:=⟨b2,o2+i*5+2,none⟩) xB).trans q2,(hb.cell (p:=⟨b2,o2+i*5+3,none⟩) xB).trans q3,(hb.cell (p:=⟨b2,o2+i*5+4,none⟩) xB).trans q4⟩
      have HI1:=hid (show Below wr.heap.size wr wr.drew from(Below.refl _ _).drew);have HI2:=hid (show∀i,Below wr.heap.size wr (wr.drewN i)from fun i=>(aV.n wr i).below _)
      have hsn:nz (bZ f g) (gG (f.args.take (i+1)) (g.args.take (i+1)))=x.cmp y:=by
       rw[aU f.args default hlt,aU g.args default hlt2,HX.out,HY.out,nN _ _ (by simp;omega),<-o7,<-sN.out];rfl
      have wC:=hid hsn;clear pa qa hsn hgl;go_upto_region 15 with(fail)
      go_region_held3 (fun W':World=>W'.cell? ⟨w.heap.size,4,none⟩=some (.slice (some ⟨b1,o1,none⟩) f.args.length c)/\W'.cell? ⟨w.heap.size+1,4,none⟩=some (.slice (some ⟨b2,o2,none⟩) g.args.length c')/\W'.cell? ⟨b1,o1+i*5,none⟩=some (.int .i64 x.op)/\W'.cell? ⟨b1,o1+i*5+1,none⟩=some (.string x.name)/\W'.cell? ⟨b1,o1+i*5+2,none⟩=some (.int .i64 x.val)/\W'.cell? ⟨b1,o1+i*5+3,none⟩=some (.int .i64 x.bound)/\W'.cell? ⟨b1,o1+i*5+4,none⟩=some (.slice A1 x.args.length c1)/\W'.cell? ⟨b2,o2+i*5,none⟩=some (.int .i64 y.op)/\W'.cell? ⟨b2,o2+i*5+1,none⟩=some (.string y.name)/\W'.cell? ⟨b2,o2+i*5+2,none⟩=some (.int .i64 y.val)/\W'.cell? ⟨b2,o2+i*5+3,none⟩=some (.int .i64 y.bound)/\W'.cell? ⟨b2,o2+i*5+4,none⟩=some (.slice A2 y.args.length c2))
       (first|(with_reducible exact aI.out _ hI)|(go_keep;done))
       ((go_at_call 86;refine(aO.out _ (by first|exact HI1.out|exact HI2.out _)).mono ?_;rintro e W9 ⟨rfl,hI⟩))
      all_goals
       have oD:=hid (HB.out.trans (hI.mono HB.out.size));clear hI x0 x1 x2 x3 x4 y0 y1 y2 y3 y4 p0 p1 p2 p3 p4 q0 q1 q2 q3 q4;go_wp2_with fail
       go_roundw
       case rel=>exact⟨i+1,by omega,by rw[wC.out],by go_num,oD.out⟩
       case measure=>simp[intOf];omega
     ·have hzz:(cc==0)=false:=ay hz
      have hres:f.cmp g=cc:=by
       rw[cmp_eq];exact yu sN.out hz
      have dZ:=hid hres;clear hres;go_wp2_with fail
      go_ret
      exact⟨bD (by rw[dZ.out]),dG.out⟩
    ·have hres:f.cmp g=cc:=by
      rw[cmp_eq,sN.out,List.take_of_length_le (by omega)]
      by_cases hh:bZ f g=0
      ·rw[List.take_of_length_le (by have:=gQ hh;omega)]
      ·unfold nz;rw[if_neg hh,if_neg hh]
     have dZ:=hid hres;clear hres;go_wp2_with fail
     go_ret
     exact⟨bD (by rw[dZ.out]),dG.out⟩
  ·have hhd:bZ f g = -1:=by unfold bZ;rw[Z1.out,dJ];unfold rC;rw[hn,hlt];rfl
   have Sv:=hid hhd;clear hhd;go_upto_region 12 with(fail)
   go_wp2_with fail
   go_loopw [5,6] (fun s q wr=>∃i:Nat,i<=f.args.length/\s = .int .i64 (nz (bZ f g) (gG (f.args.take i) (g.args.take i)))/\q = .int .i64 (i:Int)/\Below W.heap.size W wr) (fun _ q _=>f.args.length-(intOf q).toNat)
   case atStart=>exact⟨0,Nat.zero_le _,by simp only[List.take_zero,gG,rJ];rw[Sv.out],rfl,Below.refl _ _⟩
   case round =>
    obtain⟨i,hi,rfl,rfl,hb⟩:=hrel;obtain⟨x0,x1,x2,x3,x4,xl⟩:=(dO.out.below hb).cells;obtain⟨y0,y1,y2,y3,y4,yl⟩:=(WB.out.below hb).cells;have HB:=hid hb;have dG:=hid (aT.out.trans (hb.mono aT.out.size));obtain⟨cc,hcc⟩:∃cc,cc=nz (bZ f g) (gG (f.args.take i) (g.args.take i)):=⟨_,rfl⟩;rw[<-hcc];have sN:=hid hcc;clear hb hcc
    by_cases hlt:i<f.args.length
    ·have hii:(i:Int)<f.args.length:=by omega
     by_cases hz:cc=0
     ·subst hz
      have hgl:f.args.length=g.args.length:=gQ (jd sN.out.symm);have hlt2:i<g.args.length:=by omega
      have hii2:(i:Int)<g.args.length:=by omega
      obtain⟨b1,o1,A1,c1,x,rfl,HX,hx⟩:=(HA.out.keep (Keeps.of_below dG.out fun _ h=>h)).get hlt;obtain⟨b2,o2,A2,c2,y,rfl,HY,hy⟩:=(HA2.out.keep (Keeps.of_below dG.out fun _ h=>h)).get hlt2;obtain⟨xd,xA,p0,p1,p2,p3,p4,pa⟩:=hx;obtain⟨yd,xB,q0,q1,q2,q3,q4,qa⟩:=hy
      have aO:Hid (∀W',Below wr.heap.size wr W'->Calls Tryz.prog 86 #[.agg #[.int .i64 x.op,.string x.name,.int .i64 x.val,.int .i64 x.bound,.slice A1 x.args.length c1],.agg #[.int .i64 y.op,.string y.name,.int .i64 y.val,.int .i64 y.bound,.slice A2 y.args.length c2]] W' fun e w'=>e = .returned (.int .i64 (x.cmp y))/\Below wr.heap.size wr w'):=hid fun W' hb=>by
       have:=HIH.out i hlt (D:=fun _=>True) (E:=fun _=>True) y _ _ W' (by rw[HX.out];exact⟨A1,c1,rfl,pa.any hb⟩) ⟨A2,c2,rfl,qa.any hb⟩;rw[HX.out]at this;refine this.mono ?_;rintro e w' ⟨rfl,hb'⟩;exact⟨rfl,hb.trans (hb'.mono hb.size)⟩
      have aI:Hid (∀W':World,Below wr.heap.size wr W'->W'.cell? ⟨w.heap.size,4,none⟩=some (.slice (some ⟨b1,o1,none⟩) f.args.length c)/\W'.cell? ⟨w.heap.size+1,4,none⟩=some (.slice (some ⟨b2,o2,none⟩) g.args.length c')/\W'.cell? ⟨b1,o1+i*5,none⟩=some (.int .i64 x.op)/\W'.cell? ⟨b1,o1+i*5+1,none⟩=some (.string x.name)/\W'.cell? ⟨b1,o1+i*5+2,none⟩=some (.int .i64 x.val)/\W'.cell? ⟨b1,o1+i*5+3,none⟩=some (.int .i64 x.bound)/\W'.cell? ⟨b1,o1+i*5+4,none⟩=some (.slice A1 x.args.length c1)/\W'.cell? ⟨b2,o2+i*5,none⟩=some (.int .i64 y.op)/\W'.cell? ⟨b2,o2+i*5+1,none⟩=some (.string y.name)/\W'.cell? ⟨b2,o2+i*5+2,none⟩=some (.int .i64 y.val)/\W'.cell? ⟨b2,o2+i*5+3,none⟩=some (.int .i64 y.bound)/\W'.cell? ⟨b2,o2+i*5+4,none⟩=some (.slice A2 y.args.length c2)):=hid fun W' hb =>
       ⟨(hb.cell (p:=⟨w.heap.size,4,none⟩) xl).trans x4,(hb.cell (p:=⟨w.heap.size+1,4,none⟩) yl).trans y4,(hb.cell (p:=⟨b1,o1+i*5,none⟩) xA).trans p0,(hb.cell (p:=⟨b1,o1+i*5+1,none⟩) xA).trans p1,(hb.cell (p:=⟨b1,o1+i*5+2,none⟩) xA).trans p2,(hb.cell (p:=⟨b1,o1+i*5+3,none⟩) xA).trans p3,(hb.cell (p:=⟨b1,o1+i*5+4,none⟩) xA).trans p4,(hb.cell (p:=⟨b2,o2+i*5,none⟩) xB).trans q0,(hb.cell (p:=⟨b2,o2+i*5+1,none⟩) xB).trans q1,(hb.cell (p:=⟨b2,o2+i*5+2,none⟩) xB).trans q2,(hb.cell (p:=⟨b2,o2+i*5+3,none⟩) xB).trans q3,(hb.cell (p:=⟨b2,o2+i*5+4,none⟩) xB).trans q4⟩
      have HI1:=hid (show Below wr.heap.size wr wr.drew from(Below.refl _ _).drew);have HI2:=hid (show∀i,Below wr.heap.size wr (wr.drewN i)from fun i=>(aV.n wr i).below _)
      have hsn:nz (bZ f g) (gG (f.args.take (i+1)) (g.args.take (i+1)))=x.cmp y:=by
       rw[aU f.args default hlt,aU g.args default hlt2,HX.out,HY.out,nN _ _ (by simp;omega),<-o7,<-sN.out];rfl
      have wC:=hid hsn;clear pa qa hsn hgl;go_upto_region 15 with(fail)
      go_region_held3 (fun W':World=>W'.cell? ⟨w.heap.size,4,none⟩=some (.slice (some ⟨b1,o1,none⟩) f.args.length c)/\W'.cell? ⟨w.heap.size+1,4,none⟩=some (.slice (some ⟨b2,o2,none⟩) g.args.length c')/\W'.cell? ⟨b1,o1+i*5,none⟩=some (.int .i64 x.op)/\W'.cell? ⟨b1,o1+i*5+1,none⟩=some (.string x.name)/\W'.cell? ⟨b1,o1+i*5+2,none⟩=some (.int .i64 x.val)/\W'.cell? ⟨b1,o1+i*5+3,none⟩=some (.int .i64 x.bound)/\W'.cell? ⟨b1,o1+i*5+4,none⟩=some (.slice A1 x.args.length c1)/\W'.cell? ⟨b2,o2+i*5,none⟩=some (.int .i64 y.op)/\W'.cell? ⟨b2,o2+i*5+1,none⟩=some (.string y.name)/\W'.cell? ⟨b2,o2+i*5+2,none⟩=some (.int .i64 y.val)/\W'.cell? ⟨b2,o2+i*5+3,none⟩=some (.int .i64 y.bound)/\W'.cell? ⟨b2,o2+i*5+4,none⟩=some (.slice A2 y.args.length c2))
       (first|(with_reducible exact aI.out _ hI)|(go_keep;done))
       ((go_at_call 86;refine(aO.out _ (by first|exact HI1.out|exact HI2.out _)).mono ?_;rintro e W9 ⟨rfl,hI⟩))
      all_goals
       have oD:=hid (HB.out.trans (hI.mono HB.out.size));clear hI x0 x1 x2 x3 x4 y0 y1 y2 y3 y4 p0 p1 p2 p3 p4 q0 q1 q2 q3 q4;go_wp2_with fail
       go_roundw
       case rel=>exact⟨i+1,by omega,by rw[wC.out],by go_num,oD.out⟩
       case measure=>simp[intOf];omega
     ·have hzz:(cc==0)=false:=ay hz
      have hres:f.cmp g=cc:=by
       rw[cmp_eq];exact yu sN.out hz
      have dZ:=hid hres;clear hres;go_wp2_with fail
      go_ret
      exact⟨bD (by rw[dZ.out]),dG.out⟩
    ·have hres:f.cmp g=cc:=by
      rw[cmp_eq,sN.out,List.take_of_length_le (by omega)]
      by_cases hh:bZ f g=0
      ·rw[List.take_of_length_le (by have:=gQ hh;omega)]
      ·unfold nz;rw[if_neg hh,if_neg hh]
     have dZ:=hid hres;clear hres;go_wp2_with fail
     go_ret
     exact⟨bD (by rw[dZ.out]),dG.out⟩
 have Z2:=hid (show rC f.name g.name=0 by unfold rC;rw[hn];rfl);go_wp2_with fail
 refine(yD f.val g.val W).mono ?_;rintro e w1 ⟨rfl,hw⟩;subst w1;obtain⟨k3,hk3⟩:∃k3,k3=jZ f.val g.val:=⟨_,rfl⟩;rw[<-hk3]
 by_cases z3:k3=0
 rotate_left
 ·have zz:(k3==0)=false:=ay z3
  have hhd:bZ f g=k3:=by unfold bZ;rw[Z1.out,dJ,Z2.out,dJ];unfold nz;rw[<-hk3,if_neg z3]
  clear hk3;have Sv:=hid hhd;clear hhd;go_upto_region 12 with(fail)
  go_wp2_with fail
  go_loopw [5,6] (fun s q wr=>∃i:Nat,i<=f.args.length/\s = .int .i64 (nz (bZ f g) (gG (f.args.take i) (g.args.take i)))/\q = .int .i64 (i:Int)/\Below W.heap.size W wr) (fun _ q _=>f.args.length-(intOf q).toNat)
  case atStart=>exact⟨0,Nat.zero_le _,by simp only[List.take_zero,gG,rJ];rw[Sv.out],rfl,Below.refl _ _⟩
  case round =>
   obtain⟨i,hi,rfl,rfl,hb⟩:=hrel;obtain⟨x0,x1,x2,x3,x4,xl⟩:=(dO.out.below hb).cells;obtain⟨y0,y1,y2,y3,y4,yl⟩:=(WB.out.below hb).cells;have HB:=hid hb;have dG:=hid (aT.out.trans (hb.mono aT.out.size));obtain⟨cc,hcc⟩:∃cc,cc=nz (bZ f g) (gG (f.args.take i) (g.args.take i)):=⟨_,rfl⟩;rw[<-hcc];have sN:=hid hcc;clear hb hcc
   by_cases hlt:i<f.args.length
   ·have hii:(i:Int)<f.args.length:=by omega
    by_cases hz:cc=0
    ·subst hz
     have hgl:f.args.length=g.args.length:=gQ (jd sN.out.symm);have hlt2:i<g.args.length:=by omega
     have hii2:(i:Int)<g.args.length:=by omega
     obtain⟨b1,o1,A1,c1,x,rfl,HX,hx⟩:=(HA.out.keep (Keeps.of_below dG.out fun _ h=>h)).get hlt;obtain⟨b2,o2,A2,c2,y,rfl,HY,hy⟩:=(HA2.out.keep (Keeps.of_below dG.out fun _ h=>h)).get hlt2;obtain⟨xd,xA,p0,p1,p2,p3,p4,pa⟩:=hx;obtain⟨yd,xB,q0,q1,q2,q3,q4,qa⟩:=hy
     have aO:Hid (∀W',Below wr.heap.size wr W'->Calls Tryz.prog 86 #[.agg #[.int .i64 x.op,.string x.name,.int .i64 x.val,.int .i64 x.bound,.slice A1 x.args.length c1],.agg #[.int .i64 y.op,.string y.name,.int .i64 y.val,.int .i64 y.bound,.slice A2 y.args.length c2]] W' fun e w'=>e = .returned (.int .i64 (x.cmp y))/\Below wr.heap.size wr w'):=hid fun W' hb=>by
      have:=HIH.out i hlt (D:=fun _=>True) (E:=fun _=>True) y _ _ W' (by rw[HX.out];exact⟨A1,c1,rfl,pa.any hb⟩) ⟨A2,c2,rfl,qa.any hb⟩;rw[HX.out]at this;refine this.mono ?_;rintro e w' ⟨rfl,hb'⟩;exact⟨rfl,hb.trans (hb'.mono hb.size)⟩
     have aI:Hid (∀W':World,Below wr.heap.size wr W'->W'.cell? ⟨w.heap.size,4,none⟩=some (.slice (some ⟨b1,o1,none⟩) f.args.length c)/\W'.cell? ⟨w.heap.size+1,4,none⟩=some (.slice (some ⟨b2,o2,none⟩) g.args.length c')/\W'.cell? ⟨b1,o1+i*5,none⟩=some (.int .i64 x.op)/\W'.cell? ⟨b1,o1+i*5+1,none⟩=some (.string x.name)/\W'.cell? ⟨b1,o1+i*5+2,none⟩=some (.int .i64 x.val)/\W'.cell? ⟨b1,o1+i*5+3,none⟩=some (.int .i64 x.bound)/\W'.cell? ⟨b1,o1+i*5+4,none⟩=some (.slice A1 x.args.length c1)/\W'.cell? ⟨b2,o2+i*5,none⟩=some (.int .i64 y.op)/\W'.cell? ⟨b2,o2+i*5+1,none⟩=some (.string y.name)/\W'.cell? ⟨b2,o2+i*5+2,none⟩=some (.int .i64 y.val)/\W'.cell? ⟨b2,o2+i*5+3,none⟩=some (.int .i64 y.bound)/\W'.cell? ⟨b2,o2+i*5+4,none⟩=some (.slice A2 y.args.length c2)):=hid fun W' hb =>
      ⟨(hb.cell (p:=⟨w.heap.size,4,none⟩) xl).trans x4,(hb.cell (p:=⟨w.heap.size+1,4,none⟩) yl).trans y4,(hb.cell (p:=⟨b1,o1+i*5,none⟩) xA).trans p0,(hb.cell (p:=⟨b1,o1+i*5+1,none⟩) xA).trans p1,(hb.cell (p:=⟨b1,o1+i*5+2,none⟩) xA).trans p2,(hb.cell (p:=⟨b1,o1+i*5+3,none⟩) xA).trans p3,(hb.cell (p:=⟨b1,o1+i*5+4,none⟩) xA).trans p4,(hb.cell (p:=⟨b2,o2+i*5,none⟩) xB).trans q0,(hb.cell (p:=⟨b2,o2+i*5+1,none⟩) xB).trans q1,(hb.cell (p:=⟨b2,o2+i*5+2,none⟩) xB).trans q2,(hb.cell (p:=⟨b2,o2+i*5+3,none⟩) xB).trans q3,(hb.cell (p:=⟨b2,o2+i*5+4,none⟩) xB).trans q4⟩
     have HI1:=hid (show Below wr.heap.size wr wr.drew from(Below.refl _ _).drew);have HI2:=hid (show∀i,Below wr.heap.size wr (wr.drewN i)from fun i=>(aV.n wr i).below _)
     have hsn:nz (bZ f g) (gG (f.args.take (i+1)) (g.args.take (i+1)))=x.cmp y:=by
      rw[aU f.args default hlt,aU g.args default hlt2,HX.out,HY.out,nN _ _ (by simp;omega),<-o7,<-sN.out];rfl
     have wC:=hid hsn;clear pa qa hsn hgl;go_upto_region 15 with(fail)
     go_region_held3 (fun W':World=>W'.cell? ⟨w.heap.size,4,none⟩=some (.slice (some ⟨b1,o1,none⟩) f.args.length c)/\W'.cell? ⟨w.heap.size+1,4,none⟩=some (.slice (some ⟨b2,o2,none⟩) g.args.length c')/\W'.cell? ⟨b1,o1+i*5,none⟩=some (.int .i64 x.op)/\W'.cell? ⟨b1,o1+i*5+1,none⟩=some (.string x.name)/\W'.cell? ⟨b1,o1+i*5+2,none⟩=some (.int .i64 x.val)/\W'.cell? ⟨b1,o1+i*5+3,none⟩=some (.int .i64 x.bound)/\W'.cell? ⟨b1,o1+i*5+4,none⟩=some (.slice A1 x.args.length c1)/\W'.cell? ⟨b2,o2+i*5,none⟩=some (.int .i64 y.op)/\W'.cell? ⟨b2,o2+i*5+1,none⟩=some (.string y.name)/\W'.cell? ⟨b2,o2+i*5+2,none⟩=some (.int .i64 y.val)/\W'.cell? ⟨b2,o2+i*5+3,none⟩=some (.int .i64 y.bound)/\W'.cell? ⟨b2,o2+i*5+4,none⟩=some (.slice A2 y.args.length c2))
      (first|(with_reducible exact aI.out _ hI)|(go_keep;done))
      ((go_at_call 86;refine(aO.out _ (by first|exact HI1.out|exact HI2.out _)).mono ?_;rintro e W9 ⟨rfl,hI⟩))
     all_goals
      have oD:=hid (HB.out.trans (hI.mono HB.out.size));clear hI x0 x1 x2 x3 x4 y0 y1 y2 y3 y4 p0 p1 p2 p3 p4 q0 q1 q2 q3 q4;go_wp2_with fail
      go_roundw
      case rel=>exact⟨i+1,by omega,by rw[wC.out],by go_num,oD.out⟩
      case measure=>simp[intOf];omega
    ·have hzz:(cc==0)=false:=ay hz
     have hres:f.cmp g=cc:=by
      rw[cmp_eq];exact yu sN.out hz
     have dZ:=hid hres;clear hres;go_wp2_with fail
     go_ret
     exact⟨bD (by rw[dZ.out]),dG.out⟩
   ·have hres:f.cmp g=cc:=by
     rw[cmp_eq,sN.out,List.take_of_length_le (by omega)]
     by_cases hh:bZ f g=0
     ·rw[List.take_of_length_le (by have:=gQ hh;omega)]
     ·unfold nz;rw[if_neg hh,if_neg hh]
    have dZ:=hid hres;clear hres;go_wp2_with fail
    go_ret
    exact⟨bD (by rw[dZ.out]),dG.out⟩
 subst z3;have Z3:=hid hk3.symm;clear hk3;go_wp2_with fail
 refine(yD f.bound g.bound W).mono ?_;rintro e w1 ⟨rfl,hw⟩;subst w1;obtain⟨k4,hk4⟩:∃k4,k4=jZ f.bound g.bound:=⟨_,rfl⟩;rw[<-hk4]
 by_cases z4:k4=0
 rotate_left
 ·have zz:(k4==0)=false:=ay z4
  have hhd:bZ f g=k4:=by unfold bZ;rw[Z1.out,dJ,Z2.out,dJ,Z3.out,dJ];unfold nz;rw[<-hk4,if_neg z4]
  clear hk4;have Sv:=hid hhd;clear hhd;go_upto_region 12 with(fail)
  go_wp2_with fail
  go_loopw [5,6] (fun s q wr=>∃i:Nat,i<=f.args.length/\s = .int .i64 (nz (bZ f g) (gG (f.args.take i) (g.args.take i)))/\q = .int .i64 (i:Int)/\Below W.heap.size W wr) (fun _ q _=>f.args.length-(intOf q).toNat)
  case atStart=>exact⟨0,Nat.zero_le _,by simp only[List.take_zero,gG,rJ];rw[Sv.out],rfl,Below.refl _ _⟩
  case round =>
   obtain⟨i,hi,rfl,rfl,hb⟩:=hrel;obtain⟨x0,x1,x2,x3,x4,xl⟩:=(dO.out.below hb).cells;obtain⟨y0,y1,y2,y3,y4,yl⟩:=(WB.out.below hb).cells;have HB:=hid hb;have dG:=hid (aT.out.trans (hb.mono aT.out.size));obtain⟨cc,hcc⟩:∃cc,cc=nz (bZ f g) (gG (f.args.take i) (g.args.take i)):=⟨_,rfl⟩;rw[<-hcc];have sN:=hid hcc;clear hb hcc
   by_cases hlt:i<f.args.length
   ·have hii:(i:Int)<f.args.length:=by omega
    by_cases hz:cc=0
    ·subst hz
     have hgl:f.args.length=g.args.length:=gQ (jd sN.out.symm);have hlt2:i<g.args.length:=by omega
     have hii2:(i:Int)<g.args.length:=by omega
     obtain⟨b1,o1,A1,c1,x,rfl,HX,hx⟩:=(HA.out.keep (Keeps.of_below dG.out fun _ h=>h)).get hlt;obtain⟨b2,o2,A2,c2,y,rfl,HY,hy⟩:=(HA2.out.keep (Keeps.of_below dG.out fun _ h=>h)).get hlt2;obtain⟨xd,xA,p0,p1,p2,p3,p4,pa⟩:=hx;obtain⟨yd,xB,q0,q1,q2,q3,q4,qa⟩:=hy
     have aO:Hid (∀W',Below wr.heap.size wr W'->Calls Tryz.prog 86 #[.agg #[.int .i64 x.op,.string x.name,.int .i64 x.val,.int .i64 x.bound,.slice A1 x.args.length c1],.agg #[.int .i64 y.op,.string y.name,.int .i64 y.val,.int .i64 y.bound,.slice A2 y.args.length c2]] W' fun e w'=>e = .returned (.int .i64 (x.cmp y))/\Below wr.heap.size wr w'):=hid fun W' hb=>by
      have:=HIH.out i hlt (D:=fun _=>True) (E:=fun _=>True) y _ _ W' (by rw[HX.out];exact⟨A1,c1,rfl,pa.any hb⟩) ⟨A2,c2,rfl,qa.any hb⟩;rw[HX.out]at this;refine this.mono ?_;rintro e w' ⟨rfl,hb'⟩;exact⟨rfl,hb.trans (hb'.mono hb.size)⟩
     have aI:Hid (∀W':World,Below wr.heap.size wr W'->W'.cell? ⟨w.heap.size,4,none⟩=some (.slice (some ⟨b1,o1,none⟩) f.args.length c)/\W'.cell? ⟨w.heap.size+1,4,none⟩=some (.slice (some ⟨b2,o2,none⟩) g.args.length c')/\W'.cell? ⟨b1,o1+i*5,none⟩=some (.int .i64 x.op)/\W'.cell? ⟨b1,o1+i*5+1,none⟩=some (.string x.name)/\W'.cell? ⟨b1,o1+i*5+2,none⟩=some (.int .i64 x.val)/\W'.cell? ⟨b1,o1+i*5+3,none⟩=some (.int .i64 x.bound)/\W'.cell? ⟨b1,o1+i*5+4,none⟩=some (.slice A1 x.args.length c1)/\W'.cell? ⟨b2,o2+i*5,none⟩=some (.int .i64 y.op)/\W'.cell? ⟨b2,o2+i*5+1,none⟩=some (.string y.name)/\W'.cell? ⟨b2,o2+i*5+2,none⟩=some (.int .i64 y.val)/\W'.cell? ⟨b2,o2+i*5+3,none⟩=some (.int .i64 y.bound)/\W'.cell? ⟨b2,o2+i*5+4,none⟩=some (.slice A2 y.args.length c2)):=hid fun W' hb =>
      ⟨(hb.cell (p:=⟨w.heap.size,4,none⟩) xl).trans x4,(hb.cell (p:=⟨w.heap.size+1,4,none⟩) yl).trans y4,(hb.cell (p:=⟨b1,o1+i*5,none⟩) xA).trans p0,(hb.cell (p:=⟨b1,o1+i*5+1,none⟩) xA).trans p1,(hb.cell (p:=⟨b1,o1+i*5+2,none⟩) xA).trans p2,(hb.cell (p:=⟨b1,o1+i*5+3,none⟩) xA).trans p3,(hb.cell (p:=⟨b1,o1+i*5+4,none⟩) xA).trans p4,(hb.cell (p:=⟨b2,o2+i*5,none⟩) xB).trans q0,(hb.cell (p:=⟨b2,o2+i*5+1,none⟩) xB).trans q1,(hb.cell (p:=⟨b2,o2+i*5+2,none⟩) xB).trans q2,(hb.cell (p:=⟨b2,o2+i*5+3,none⟩) xB).trans q3,(hb.cell (p:=⟨b2,o2+i*5+4,none⟩) xB).trans q4⟩
     have HI1:=hid (show Below wr.heap.size wr wr.drew from(Below.refl _ _).drew);have HI2:=hid (show∀i,Below wr.heap.size wr (wr.drewN i)from fun i=>(aV.n wr i).below _)
     have hsn:nz (bZ f g) (gG (f.args.take (i+1)) (g.args.take (i+1)))=x.cmp y:=by
      rw[aU f.args default hlt,aU g.args default hlt2,HX.out,HY.out,nN _ _ (by simp;omega),<-o7,<-sN.out];rfl
     have wC:=hid hsn;clear pa qa hsn hgl;go_upto_region 15 with(fail)
     go_region_held3 (fun W':World=>W'.cell? ⟨w.heap.size,4,none⟩=some (.slice (some ⟨b1,o1,none⟩) f.args.length c)/\W'.cell? ⟨w.heap.size+1,4,none⟩=some (.slice (some ⟨b2,o2,none⟩) g.args.length c')/\W'.cell? ⟨b1,o1+i*5,none⟩=some (.int .i64 x.op)/\W'.cell? ⟨b1,o1+i*5+1,none⟩=some (.string x.name)/\W'.cell? ⟨b1,o1+i*5+2,none⟩=some (.int .i64 x.val)/\W'.cell? ⟨b1,o1+i*5+3,none⟩=some (.int .i64 x.bound)/\W'.cell? ⟨b1,o1+i*5+4,none⟩=some (.slice A1 x.args.length c1)/\W'.cell? ⟨b2,o2+i*5,none⟩=some (.int .i64 y.op)/\W'.cell? ⟨b2,o2+i*5+1,none⟩=some (.string y.name)/\W'.cell? ⟨b2,o2+i*5+2,none⟩=some (.int .i64 y.val)/\W'.cell? ⟨b2,o2+i*5+3,none⟩=some (.int .i64 y.bound)/\W'.cell? ⟨b2,o2+i*5+4,none⟩=some (.slice A2 y.args.length c2))
      (first|(with_reducible exact aI.out _ hI)|(go_keep;done))
      ((go_at_call 86;refine(aO.out _ (by first|exact HI1.out|exact HI2.out _)).mono ?_;rintro e W9 ⟨rfl,hI⟩))
     all_goals
      have oD:=hid (HB.out.trans (hI.mono HB.out.size));clear hI x0 x1 x2 x3 x4 y0 y1 y2 y3 y4 p0 p1 p2 p3 p4 q0 q1 q2 q3 q4;go_wp2_with fail
      go_roundw
      case rel=>exact⟨i+1,by omega,by rw[wC.out],by go_num,oD.out⟩
      case measure=>simp[intOf];omega
    ·have hzz:(cc==0)=false:=ay hz
     have hres:f.cmp g=cc:=by
      rw[cmp_eq];exact yu sN.out hz
     have dZ:=hid hres;clear hres;go_wp2_with fail
     go_ret
     exact⟨bD (by rw[dZ.out]),dG.out⟩
   ·have hres:f.cmp g=cc:=by
     rw[cmp_eq,sN.out,List.take_of_length_le (by omega)]
     by_cases hh:bZ f g=0
     ·rw[List.take_of_length_le (by have:=gQ hh;omega)]
     ·unfold nz;rw[if_neg hh,if_neg hh]
    have dZ:=hid hres;clear hres;go_wp2_with fail
    go_ret
    exact⟨bD (by rw[dZ.out]),dG.out⟩
 subst z4;have Z4:=hid hk4.symm;clear hk4;go_wp2_with fail
 refine(yD (f.args.length:Int) (g.args.length:Int) W).mono ?_;rintro e w1 ⟨rfl,hw⟩;subst w1;obtain⟨k5,hk5⟩:∃k5,k5=jZ (f.args.length:Int) (g.args.length:Int):=⟨_,rfl⟩;rw[<-hk5];have hhd:bZ f g=k5:=by unfold bZ;rw[Z1.out,dJ,Z2.out,dJ,Z3.out,dJ,Z4.out,dJ,hk5]
 clear hk5;have Sv:=hid hhd;clear hhd;go_upto_region 12 with(fail)
 go_wp2_with fail
 go_loopw [5,6] (fun s q wr=>∃i:Nat,i<=f.args.length/\s = .int .i64 (nz (bZ f g) (gG (f.args.take i) (g.args.take i)))/\q = .int .i64 (i:Int)/\Below W.heap.size W wr) (fun _ q _=>f.args.length-(intOf q).toNat)
 case atStart=>exact⟨0,Nat.zero_le _,by simp only[List.take_zero,gG,rJ];rw[Sv.out],rfl,Below.refl _ _⟩
 case round =>
  obtain⟨i,hi,rfl,rfl,hb⟩:=hrel;obtain⟨x0,x1,x2,x3,x4,xl⟩:=(dO.out.below hb).cells;obtain⟨y0,y1,y2,y3,y4,yl⟩:=(WB.out.below hb).cells;have HB:=hid hb;have dG:=hid (aT.out.trans (hb.mono aT.out.size));obtain⟨cc,hcc⟩:∃cc,cc=nz (bZ f g) (gG (f.args.take i) (g.args.take i)):=⟨_,rfl⟩;rw[<-hcc];have sN:=hid hcc;clear hb hcc
  by_cases hlt:i<f.args.length
  ·have hii:(i:Int)<f.args.length:=by omega
   by_cases hz:cc=0
   ·subst hz
    have hgl:f.args.length=g.args.length:=gQ (jd sN.out.symm);have hlt2:i<g.args.length:=by omega
    have hii2:(i:Int)<g.args.length:=by omega
    obtain⟨b1,o1,A1,c1,x,rfl,HX,hx⟩:=(HA.out.keep (Keeps.of_below dG.out fun _ h=>h)).get hlt;obtain⟨b2,o2,A2,c2,y,rfl,HY,hy⟩:=(HA2.out.keep (Keeps.of_below dG.out fun _ h=>h)).get hlt2;obtain⟨xd,xA,p0,p1,p2,p3,p4,pa⟩:=hx;obtain⟨yd,xB,q0,q1,q2,q3,q4,qa⟩:=hy
    have aO:Hid (∀W',Below wr.heap.size wr W'->Calls Tryz.prog 86 #[.agg #[.int .i64 x.op,.string x.name,.int .i64 x.val,.int .i64 x.bound,.slice A1 x.args.length c1],.agg #[.int .i64 y.op,.string y.name,.int .i64 y.val,.int .i64 y.bound,.slice A2 y.args.length c2]] W' fun e w'=>e = .returned (.int .i64 (x.cmp y))/\Below wr.heap.size wr w'):=hid fun W' hb=>by
     have:=HIH.out i hlt (D:=fun _=>True) (E:=fun _=>True) y _ _ W' (by rw[HX.out];exact⟨A1,c1,rfl,pa.any hb⟩) ⟨A2,c2,rfl,qa.any hb⟩;rw[HX.out]at this;refine this.mono ?_;rintro e w' ⟨rfl,hb'⟩;exact⟨rfl,hb.trans (hb'.mono hb.size)⟩
    have aI:Hid (∀W':World,Below wr.heap.size wr W'->W'.cell? ⟨w.heap.size,4,none⟩=some (.slice (some ⟨b1,o1,none⟩) f.args.length c)/\W'.cell? ⟨w.heap.size+1,4,none⟩=some (.slice (some ⟨b2,o2,none⟩) g.args.length c')/\W'.cell? ⟨b1,o1+i*5,none⟩=some (.int .i64 x.op)/\W'.cell? ⟨b1,o1+i*5+1,none⟩=some (.string x.name)/\W'.cell? ⟨b1,o1+i*5+2,none⟩=some (.int .i64 x.val)/\W'.cell? ⟨b1,o1+i*5+3,none⟩=some (.int .i64 x.bound)/\W'.cell? ⟨b1,o1+i*5+4,none⟩=some (.slice A1 x.args.length c1)/\W'.cell? ⟨b2,o2+i*5,none⟩=some (.int .i64 y.op)/\W'.cell? ⟨b2,o2+i*5+1,none⟩=some (.string y.name)/\W'.cell? ⟨b2,o2+i*5+2,none⟩=some (.int .i64 y.val)/\W'.cell? ⟨b2,o2+i*5+3,none⟩=some (.int .i64 y.bound)/\W'.cell? ⟨b2,o2+i*5+4,none⟩=some (.slice A2 y.args.length c2)):=hid fun W' hb =>
     ⟨(hb.cell (p:=⟨w.heap.size,4,none⟩) xl).trans x4,(hb.cell (p:=⟨w.heap.size+1,4,none⟩) yl).trans y4,(hb.cell (p:=⟨b1,o1+i*5,none⟩) xA).trans p0,(hb.cell (p:=⟨b1,o1+i*5+1,none⟩) xA).trans p1,(hb.cell (p:=⟨b1,o1+i*5+2,none⟩) xA).trans p2,(hb.cell (p:=⟨b1,o1+i*5+3,none⟩) xA).trans p3,(hb.cell (p:=⟨b1,o1+i*5+4,none⟩) xA).trans p4,(hb.cell (p:=⟨b2,o2+i*5,none⟩) xB).trans q0,(hb.cell (p:=⟨b2,o2+i*5+1,none⟩) xB).trans q1,(hb.cell (p:=⟨b2,o2+i*5+2,none⟩) xB).trans q2,(hb.cell (p:=⟨b2,o2+i*5+3,none⟩) xB).trans q3,(hb.cell (p:=⟨b2,o2+i*5+4,none⟩) xB).trans q4⟩
    have HI1:=hid (show Below wr.heap.size wr wr.drew from(Below.refl _ _).drew);have HI2:=hid (show∀i,Below wr.heap.size wr (wr.drewN i)from fun i=>(aV.n wr i).below _)
    have hsn:nz (bZ f g) (gG (f.args.take (i+1)) (g.args.take (i+1)))=x.cmp y:=by
     rw[aU f.args default hlt,aU g.args default hlt2,HX.out,HY.out,nN _ _ (by simp;omega),<-o7,<-sN.out];rfl
    have wC:=hid hsn;clear pa qa hsn hgl;go_upto_region 15 with(fail)
    go_region_held3 (fun W':World=>W'.cell? ⟨w.heap.size,4,none⟩=some (.slice (some ⟨b1,o1,none⟩) f.args.length c)/\W'.cell? ⟨w.heap.size+1,4,none⟩=some (.slice (some ⟨b2,o2,none⟩) g.args.length c')/\W'.cell? ⟨b1,o1+i*5,none⟩=some (.int .i64 x.op)/\W'.cell? ⟨b1,o1+i*5+1,none⟩=some (.string x.name)/\W'.cell? ⟨b1,o1+i*5+2,none⟩=some (.int .i64 x.val)/\W'.cell? ⟨b1,o1+i*5+3,none⟩=some (.int .i64 x.bound)/\W'.cell? ⟨b1,o1+i*5+4,none⟩=some (.slice A1 x.args.length c1)/\W'.cell? ⟨b2,o2+i*5,none⟩=some (.int .i64 y.op)/\W'.cell? ⟨b2,o2+i*5+1,none⟩=some (.string y.name)/\W'.cell? ⟨b2,o2+i*5+2,none⟩=some (.int .i64 y.val)/\W'.cell? ⟨b2,o2+i*5+3,none⟩=some (.int .i64 y.bound)/\W'.cell? ⟨b2,o2+i*5+4,none⟩=some (.slice A2 y.args.length c2))
     (first|(with_reducible exact aI.out _ hI)|(go_keep;done))
     ((go_at_call 86;refine(aO.out _ (by first|exact HI1.out|exact HI2.out _)).mono ?_;rintro e W9 ⟨rfl,hI⟩))
    all_goals
     have oD:=hid (HB.out.trans (hI.mono HB.out.size));clear hI x0 x1 x2 x3 x4 y0 y1 y2 y3 y4 p0 p1 p2 p3 p4 q0 q1 q2 q3 q4;go_wp2_with fail
     go_roundw
     case rel=>exact⟨i+1,by omega,by rw[wC.out],by go_num,oD.out⟩
     case measure=>simp[intOf];omega
   ·have hzz:(cc==0)=false:=ay hz
    have hres:f.cmp g=cc:=by
     rw[cmp_eq];exact yu sN.out hz
    have dZ:=hid hres;clear hres;go_wp2_with fail
    go_ret
    exact⟨bD (by rw[dZ.out]),dG.out⟩
  ·have hres:f.cmp g=cc:=by
    rw[cmp_eq,sN.out,List.take_of_length_le (by omega)]
    by_cases hh:bZ f g=0
    ·rw[List.take_of_length_le (by have:=gQ hh;omega)]
    ·unfold nz;rw[if_neg hh,if_neg hh]
   have dZ:=hid hres;clear hres;go_wp2_with fail
   go_ret
   exact⟨bD (by rw[dZ.out]),dG.out⟩
end Go.Proofs.YtdpbgcmfeajigaaGreatDoor
