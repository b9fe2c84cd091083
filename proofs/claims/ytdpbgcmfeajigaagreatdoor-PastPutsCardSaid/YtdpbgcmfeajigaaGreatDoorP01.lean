/-
  Walk of the reference: Compare.
-/
import Derived.Test.YtdpbgcmfeajigaaGreatDoorP00
set_option linter.unusedSimpArgs false
set_option linter.unusedVariables false
set_option maxHeartbeats 8000000
set_option maxRecDepth 100000
namespace Go.Proofs.YtdpbgcmfeajigaaGreatDoor
open Go.RowKit
attribute [local go_sem] ak
def nz (c d:Int):Int:=if c=0 then d else c
theorem rC (c:Int):nz c 0=c:=by unfold nz;split <;> simp_all
theorem dH (c:Int):nz 0 c=c:=rfl
theorem oP (a b c:Int):nz (nz a b) c=nz a (nz b c):=by unfold nz;by_cases h:a=0 <;> simp[h]
theorem iT {a b:Int}(h:nz a b=0):a=0:=by unfold nz at h;by_cases e:a=0 <;> simp_all
def oK (a b:ByteArray):Int:=if a.toList==b.toList then 0 else if Op.bytesLess a.toList b.toList then -1 else 1
def bY (f g:Fm):Int:=nz (jR f.op g.op) (nz (oK f.name g.name) (nz (jR f.val g.val) (nz (jR f.bound g.bound) (jR f.args.length g.args.length))))
mutual
def Fm.cmp:Fm->Fm->Int
 | .mk o n v b l,.mk o' n' v' b' l'=>nz (nz (jR o o') (nz (oK n n') (nz (jR v v') (nz (jR b b') (jR l.length l'.length))))) (fV l l')
def fV:List Fm->List Fm->Int
 | f :: l,g :: m=>nz (f.cmp g) (fV l m)
 | [],_=>0
 | _ :: _,[]=>0
end
theorem cmp_eq (f g:Fm):f.cmp g=nz (bY f g) (fV f.args g.args):=by cases f;cases g;simp only[Fm.cmp,bY,Fm.op,Fm.name,Fm.val,Fm.bound,Fm.args]
theorem ny:∀(l m:List Fm) {f g:Fm},l.length=m.length->fV (l ++ [f]) (m ++ [g])=nz (fV l m) (f.cmp g)
 | [],[],f,g,_=>by simp[fV,dH,rC]
 | x :: l,y :: m,f,g,h=>by
  have:=ny l m (f:=f) (g:=g) (by simpa using h);simp only[List.cons_append,fV,this,oP]
 | [],y :: m,_,_,h=>by cases h
 | x :: l,[],_,_,h=>by cases h
theorem jd {a b:Int}:jR a b=0 ↔ a=b:=by
 unfold jR
 by_cases h1:a<b
 ·rw[if_pos h1];omega
 ·rw[if_neg h1]
  by_cases h2:b<a
  ·rw[if_pos h2];omega
  ·rw[if_neg h2];omega
theorem gy {f g:Fm}(h:bY f g=0):f.args.length=g.args.length:=by
 unfold bY at h;have h1:=iT h;rw[h1,dH]at h;have h2:=iT h;rw[h2,dH]at h;have h3:=iT h;rw[h3,dH]at h;have h4:=iT h;rw[h4,dH]at h;have:=jd.1 h;omega
theorem IU:∀(l m:List Fm) (i:Nat),fV (l.take i) (m.take i)≠0->fV l m=fV (l.take i) (m.take i)
 | [],_,_,h=>by simp[fV]at h
 | _ :: _,[],0,h=>by simp[fV]at h
 | _ :: _,[],_+1,h=>by simp[fV]at h
 | _ :: _,_ :: _,0,h=>by simp[fV]at h
 | x :: l,y :: m,i+1,h=>by
  simp only[List.take_succ_cons,fV]at h⊢;unfold nz at h⊢
  by_cases e:x.cmp y=0
  ·rw[if_pos e]at h
   rw[if_pos e,if_pos e];exact IU l m i h
  ·rw[if_neg e,if_neg e]
theorem xQ {f g:Fm}{i:Nat}{cc:Int}(h:cc=nz (bY f g) (fV (f.args.take i) (g.args.take i)))(hz:cc≠0):nz (bY f g) (fV f.args g.args)=cc:=by
 rw[h]at hz⊢;unfold nz at hz⊢
 by_cases e:bY f g=0
 ·rw[if_pos e]at hz
  rw[if_pos e,if_pos e];exact IU _ _ _ hz
 ·rw[if_neg e,if_neg e]
theorem Zq (f:Fm):∀{D E:Dom} (g:Fm) (v v':Value) (w:World) (h:bG w D v f) (h':bG w E v' g),
  Calls Tryz.prog 86 #[v,v'] w fun e w'=>e = .returned (.int .i64 (f.cmp g))/\Below w.heap.size w w':=by
 refine Fm.induct (P:=fun f=>∀{D E:Dom} (g:Fm) (v v':Value) (w:World) (h:bG w D v f) (h':bG w E v' g),Calls Tryz.prog 86 #[v,v'] w fun e w'=>e = .returned (.int .i64 (f.cmp g))/\Below w.heap.size w w') ?_ f;intro f ih D E g v v' w h h';have HIH:=hid ih;obtain⟨A,c,rfl,ha⟩:=h;obtain⟨A',c',rfl,ha'⟩:=h';have HA:=hid ha.old;have HA2:=hid ha'.old;have hal:=ha.len.1;have hal':=ha'.len.1;clear ih ha ha'
 go_enter Tryz.func86,Tryz.ntmps86
 go_upto_region 1 with(fail)
 refine aH fun W hW=>?_;obtain⟨w1,h1⟩:∃w1,w1=w.alloc (.cells #[.int .i64 f.op,.string f.name,.int .i64 f.val,.int .i64 f.bound,.slice A f.args.length c] 24):=⟨_,rfl⟩;have s1:w1.heap.size=w.heap.size+1:=by rw[h1];simp
 have b1:Below w.heap.size w w1:=by rw[h1];go_grown
 have m1:dI w1 w.heap.size f A c:=by rw[h1];exact dI.new w f A c
 rw[<-h1]at hW;have b2:Below w1.heap.size w1 W:=by rw[hW];go_grown
 have fE:=hid (m1.below b2);have HBY:=hid (show dI W (w.heap.size+1) g A' c' by rw[hW,<-s1];exact dI.new w1 g A' c');have aY:=hid (b1.trans (b2.mono b1.size));obtain⟨x0,x1,x2,x3,x4,xl⟩:=fE.out.cells;obtain⟨y0,y1,y2,y3,y4,yl⟩:=HBY.out.cells;clear hW h1 s1 b1 m1 b2;go_wp2_with fail
 refine(xX f.op g.op W).mono ?_;rintro e w1 ⟨rfl,hw⟩;subst w1;obtain⟨k1,hk1⟩:∃k1,k1=jR f.op g.op:=⟨_,rfl⟩;rw[<-hk1]
 by_cases z1:k1=0
 rotate_left
 ·have zz:(k1==0)=false:=au z1
  have hhd:bY f g=k1:=by unfold bY nz;rw[<-hk1,if_neg z1]
  clear hk1;have Tf:=hid hhd;clear hhd;go_upto_region 12 with(fail)
  go_wp2_with fail
  go_loopw [5,6] (fun s q wr=>∃i:Nat,i<=f.args.length/\s = .int .i64 (nz (bY f g) (fV (f.args.take i) (g.args.take i)))/\q = .int .i64 (i:Int)/\Below W.heap.size W wr) (fun _ q _=>f.args.length-(intOf q).toNat)
  case atStart=>exact⟨0,Nat.zero_le _,by simp only[List.take_zero,fV,rC];rw[Tf.out],rfl,Below.refl _ _⟩
  case round =>
   obtain⟨i,hi,rfl,rfl,hb⟩:=hrel;obtain⟨x0,x1,x2,x3,x4,xl⟩:=(fE.out.below hb).cells;obtain⟨y0,y1,y2,y3,y4,yl⟩:=(HBY.out.below hb).cells;have HB:=hid hb;have dJ:=hid (aY.out.trans (hb.mono aY.out.size));obtain⟨cc,hcc⟩:∃cc,cc=nz (bY f g) (fV (f.args.take i) (g.args.take i)):=⟨_,rfl⟩;rw[<-hcc];have rY:=hid hcc;clear hb hcc
   by_cases hlt:i<f.args.length
   ·have hii:(i:Int)<f.args.length:=by omega
    by_cases hz:cc=0
    ·subst hz
     have hgl:f.args.length=g.args.length:=gy (iT rY.out.symm);have hlt2:i<g.args.length:=by omega
     have hii2:(i:Int)<g.args.length:=by omega
     obtain⟨b1,o1,A1,c1,x,rfl,HX,hx⟩:=(HA.out.keep (Keeps.of_below dJ.out fun _ h=>h)).get hlt;obtain⟨b2,o2,A2,c2,y,rfl,HY,hy⟩:=(HA2.out.keep (Keeps.of_below dJ.out fun _ h=>h)).get hlt2;obtain⟨xd,wW,p0,p1,p2,p3,p4,pa⟩:=hx;obtain⟨yd,wX,q0,q1,q2,q3,q4,qa⟩:=hy
     have aO:Hid (∀W',Below wr.heap.size wr W'->Calls Tryz.prog 86 #[.agg #[.int .i64 x.op,.string x.name,.int .i64 x.val,.int .i64 x.bound,.slice A1 x.args.length c1],.agg #[.int .i64 y.op,.string y.name,.int .i64 y.val,.int .i64 y.bound,.slice A2 y.args.length c2]] W' fun e w'=>e = .returned (.int .i64 (x.cmp y))/\Below wr.heap.size wr w'):=hid fun W' hb=>by
      have:=HIH.out i hlt (D:=fun _=>True) (E:=fun _=>True) y _ _ W' (by rw[HX.out];exact⟨A1,c1,rfl,pa.any hb⟩) ⟨A2,c2,rfl,qa.any hb⟩;rw[HX.out]at this;refine this.mono ?_;rintro e w' ⟨rfl,hb'⟩;exact⟨rfl,hb.trans (hb'.mono hb.size)⟩
     have aK:Hid (∀W':World,Below wr.heap.size wr W'->W'.cell? ⟨w.heap.size,4,none⟩=some (.slice (some ⟨b1,o1,none⟩) f.args.length c)/\W'.cell? ⟨w.heap.size+1,4,none⟩=some (.slice (some ⟨b2,o2,none⟩) g.args.length c')/\W'.cell? ⟨b1,o1+i*5,none⟩=some (.int .i64 x.op)/\W'.cell? ⟨b1,o1+i*5+1,none⟩=some (.string x.name)/\W'.cell? ⟨b1,o1+i*5+2,none⟩=some (.int .i64 x.val)/\W'.cell? ⟨b1,o1+i*5+3,none⟩=some (.int .i64 x.bound)/\W'.cell? ⟨b1,o1+i*5+4,none⟩=some (.slice A1 x.args.length c1)/\W'.cell? ⟨b2,o2+i*5,none⟩=some (.int .i64 y.op)/\W'.cell? ⟨b2,o2+i*5+1,none⟩=some (.string y.name)/\W'.cell? ⟨b2,o2+i*5+2,none⟩=some (.int .i64 y.val)/\W'.cell? ⟨b2,o2+i*5+3,none⟩=some (.int .i64 y.bound)/\W'.cell? ⟨b2,o2+i*5+4,none⟩=some (.slice A2 y.args.length c2)):=hid fun W' hb =>
      ⟨(hb.cell (p:=⟨w.heap.size,4,none⟩) xl).trans x4,(hb.cell (p:=⟨w.heap.size+1,4,none⟩) yl).trans y4,(hb.cell (p:=⟨b1,o1+i*5,none⟩) wW).trans p0,(hb.cell (p:=⟨b1,o1+i*5+1,none⟩) wW).trans p1,(hb.cell (p:=⟨b1,o1+i*5+2,none⟩) wW).trans p2,(hb.cell (p:=⟨b1,o1+i*5+3,none⟩) wW).trans p3,(hb.cell (p:=⟨b1,o1+i*5+4,none⟩) wW).trans p4,(hb.cell (p:=⟨b2,o2+i*5,none⟩) wX).trans q0,(hb.cell (p:=⟨b2,o2+i*5+1,none⟩) wX).trans q1,(hb.cell (p:=⟨b2,o2+i*5+2,none⟩) wX).trans q2,(hb.cell (p:=⟨b2,o2+i*5+3,none⟩) wX).trans q3,(hb.cell (p:=⟨b2,o2+i*5+4,none⟩) wX).trans q4⟩
     have HI1:=hid (show Below wr.heap.size wr wr.drew from(Below.refl _ _).drew);have HI2:=hid (show∀i,Below wr.heap.size wr (wr.drewN i)from fun i=>(aU.n wr i).below _)
     have hsn:nz (bY f g) (fV (f.args.take (i+1)) (g.args.take (i+1)))=x.cmp y:=by
      rw[aT f.args default hlt,aT g.args default hlt2,HX.out,HY.out,ny _ _ (by simp;omega),<-oP,<-rY.out];rfl
     have vU:=hid hsn;clear pa qa hsn hgl;go_upto_region 15 with(fail)
     go_region_held3 (fun W':World=>W'.cell? ⟨w.heap.size,4,none⟩=some (.slice (some ⟨b1,o1,none⟩) f.args.length c)/\W'.cell? ⟨w.heap.size+1,4,none⟩=some (.slice (some ⟨b2,o2,none⟩) g.args.length c')/\W'.cell? ⟨b1,o1+i*5,none⟩=some (.int .i64 x.op)/\W'.cell? ⟨b1,o1+i*5+1,none⟩=some (.string x.name)/\W'.cell? ⟨b1,o1+i*5+2,none⟩=some (.int .i64 x.val)/\W'.cell? ⟨b1,o1+i*5+3,none⟩=some (.int .i64 x.bound)/\W'.cell? ⟨b1,o1+i*5+4,none⟩=some (.slice A1 x.args.length c1)/\W'.cell? ⟨b2,o2+i*5,none⟩=some (.int .i64 y.op)/\W'.cell? ⟨b2,o2+i*5+1,none⟩=some (.string y.name)/\W'.cell? ⟨b2,o2+i*5+2,none⟩=some (.int .i64 y.val)/\W'.cell? ⟨b2,o2+i*5+3,none⟩=some (.int .i64 y.bound)/\W'.cell? ⟨b2,o2+i*5+4,none⟩=some (.slice A2 y.args.length c2))
      (first|(with_reducible exact aK.out _ hI)|(go_keep;done))
      ((go_at_call 86;refine(aO.out _ (by first|exact HI1.out|exact HI2.out _)).mono ?_;rintro e W9 ⟨rfl,hI⟩))
     all_goals
      have qV:=hid (HB.out.trans (hI.mono HB.out.size));clear hI x0 x1 x2 x3 x4 y0 y1 y2 y3 y4 p0 p1 p2 p3 p4 q0 q1 q2 q3 q4;go_wp2_with fail
      go_roundw
      case rel=>exact⟨i+1,by omega,by rw[vU.out],by go_num,qV.out⟩
      case measure=>simp[intOf];omega
    ·have hzz:(cc==0)=false:=au hz
     have hres:f.cmp g=cc:=by
      rw[cmp_eq];exact xQ rY.out hz
     have dY:=hid hres;clear hres;go_wp2_with fail
     go_ret
     exact⟨bn (by rw[dY.out]),dJ.out⟩
   ·have hres:f.cmp g=cc:=by
     rw[cmp_eq,rY.out,List.take_of_length_le (by omega)]
     by_cases hh:bY f g=0
     ·rw[List.take_of_length_le (by have:=gy hh;omega)]
     ·unfold nz;rw[if_neg hh,if_neg hh]
    have dY:=hid hres;clear hres;go_wp2_with fail
    go_ret
    exact⟨bn (by rw[dY.out]),dJ.out⟩
 subst z1;have Z1:=hid hk1.symm;clear hk1
 by_cases hn:(f.name.toList==g.name.toList)=true
 rotate_left
 ·have hn:(f.name.toList==g.name.toList)=false:=by simpa using hn
  cases hlt:Op.bytesLess f.name.toList g.name.toList
  ·have hhd:bY f g=1:=by unfold bY;rw[Z1.out,dH];unfold oK;rw[hn,hlt];rfl
   have Tf:=hid hhd;clear hhd;go_upto_region 12 with(fail)
   go_wp2_with fail
   go_loopw [5,6] (fun s q wr=>∃i:Nat,i<=f.args.length/\s = .int .i64 (nz (bY f g) (fV (f.args.take i) (g.args.take i)))/\q = .int .i64 (i:Int)/\Below W.heap.size W wr) (fun _ q _=>f.args.length-(intOf q).toNat)
   case atStart=>exact⟨0,Nat.zero_le _,by simp only[List.take_zero,fV,rC];rw[Tf.out],rfl,Below.refl _ _⟩
   case round =>
    obtain⟨i,hi,rfl,rfl,hb⟩:=hrel;obtain⟨x0,x1,x2,x3,x4,xl⟩:=(fE.out.below hb).cells;obtain⟨y0,y1,y2,y3,y4,yl⟩:=(HBY.out.below hb).cells;have HB:=hid hb;have dJ:=hid (aY.out.trans (hb.mono aY.out.size));obtain⟨cc,hcc⟩:∃cc,cc=nz (bY f g) (fV (f.args.take i) (g.args.take i)):=⟨_,rfl⟩;rw[<-hcc];have rY:=hid hcc;clear hb hcc
    by_cases hlt:i<f.args.length
    ·have hii:(i:Int)<f.args.length:=by omega
     by_cases hz:cc=0
     ·subst hz
      have hgl:f.args.length=g.args.length:=gy (iT rY.out.symm);have hlt2:i<g.args.length:=by omega
      have hii2:(i:Int)<g.args.length:=by omega
      obtain⟨b1,o1,A1,c1,x,rfl,HX,hx⟩:=(HA.out.keep (Keeps.of_below dJ.out fun _ h=>h)).get hlt;obtain⟨b2,o2,A2,c2,y,rfl,HY,hy⟩:=(HA2.out.keep (Keeps.of_below dJ.out fun _ h=>h)).get hlt2;obtain⟨xd,wW,p0,p1,p2,p3,p4,pa⟩:=hx;obtain⟨yd,wX,q0,q1,q2,q3,q4,qa⟩:=hy
      have aO:Hid (∀W',Below wr.heap.size wr W'->Calls Tryz.prog 86 #[.agg #[.int .i64 x.op,.string x.name,.int .i64 x.val,.int .i64 x.bound,.slice A1 x.args.length c1],.agg #[.int .i64 y.op,.string y.name,.int .i64 y.val,.int .i64 y.bound,.slice A2 y.args.length c2]] W' fun e w'=>e = .returned (.int .i64 (x.cmp y))/\Below wr.heap.size wr w'):=hid fun W' hb=>by
       have:=HIH.out i hlt (D:=fun _=>True) (E:=fun _=>True) y _ _ W' (by rw[HX.out];exact⟨A1,c1,rfl,pa.any hb⟩) ⟨A2,c2,rfl,qa.any hb⟩;rw[HX.out]at this;refine this.mono ?_;rintro e w' ⟨rfl,hb'⟩;exact⟨rfl,hb.trans (hb'.mono hb.size)⟩
      have aK:Hid (∀W':World,Below wr.heap.size wr W'->W'.cell? ⟨w.heap.size,4,none⟩=some (.slice (some ⟨b1,o1,none⟩) f.args.length c)/\W'.cell? ⟨w.heap.size+1,4,none⟩=some (.slice (some ⟨b2,o2,none⟩) g.args.length c')/\W'.cell? ⟨b1,o1+i*5,none⟩=some (.int .i64 x.op)/\W'.cell? ⟨b1,o1+i*5+1,none⟩=some (.string x.name)/\W'.cell? ⟨b1,o1+i*5+2,none⟩=some (.int .i64 x.val)/\W'.cell? ⟨b1,o1+i*5+3,none⟩=some (.int .i64 x.bound)/\W'.cell? ⟨b1,o1+i*5+4,none⟩=some (.slice A1 x.args.length c1)/\W'.cell? ⟨b2,o2+i*5,none⟩=some (.int .i64 y.op)/\W'.cell? ⟨b2,o2+i*5+1,none⟩=some (.string y.name)/\W'.cell? ⟨b2,o2+i*5+2,none⟩=some (.int .i64 y.val)/\W'.cell? ⟨b2,o2+i*5+3,none⟩=some (.int .i64 y.bound)/\W'.cell? ⟨b2,o2+i*5+4,none⟩=some (.slice A2 y.args.length c2)):=hid fun W' hb =>
       ⟨(hb.cell (p:=⟨w.heap.size,4,none⟩) xl).trans x4,(hb.cell (p:=⟨w.heap.size+1,4,none⟩) yl).trans y4,(hb.cell (p:=⟨b1,o1+i*5,none⟩) wW).trans p0,(hb.cell (p:=⟨b1,o1+i*5+1,none⟩) wW).trans p1,(hb.cell (p:=⟨b1,o1+i*5+2,none⟩) wW).trans p2,(hb.cell (p:=⟨b1,o1+i*5+3,none⟩) wW).trans p3,(hb.cell (p:=⟨b1,o1+i*5+4,none⟩) wW).trans p4,(hb.cell (p:=⟨b2,o2+i*5,none⟩) wX).trans q0,(hb.cell (p:=⟨b2,o2+i*5+1,none⟩) wX).trans q1,(hb.cell (p:=⟨b2,o2+i*5+2,none⟩) wX).trans q2,(hb.cell (p:=⟨b2,o2+i*5+3,none⟩) wX).trans q3,(hb.cell (p:=⟨b2,o2+i*5+4,none⟩) wX).trans q4⟩
      have HI1:=hid (show Below wr.heap.size wr wr.drew from(Below.refl _ _).drew);have HI2:=hid (show∀i,Below wr.heap.size wr (wr.drewN i)from fun i=>(aU.n wr i).below _)
      have hsn:nz (bY f g) (fV (f.args.take (i+1)) (g.args.take (i+1)))=x.cmp y:=by
       rw[aT f.args default hlt,aT g.args default hlt2,HX.out,HY.out,ny _ _ (by simp;omega),<-oP,<-rY.out];rfl
      have vU:=hid hsn;clear pa qa hsn hgl;go_upto_region 15 with(fail)
      go_region_held3 (fun W':World=>W'.cell? ⟨w.heap.size,4,none⟩=some (.slice (some ⟨b1,o1,none⟩) f.args.length c)/\W'.cell? ⟨w.heap.size+1,4,none⟩=some (.slice (some ⟨b2,o2,none⟩) g.args.length c')/\W'.cell? ⟨b1,o1+i*5,none⟩=some (.int .i64 x.op)/\W'.cell? ⟨b1,o1+i*5+1,none⟩=some (.string x.name)/\W'.cell? ⟨b1,o1+i*5+2,none⟩=some (.int .i64 x.val)/\W'.cell? ⟨b1,o1+i*5+3,none⟩=some (.int .i64 x.bound)/\W'.cell? ⟨b1,o1+i*5+4,none⟩=some (.slice A1 x.args.length c1)/\W'.cell? ⟨b2,o2+i*5,none⟩=some (.int .i64 y.op)/\W'.cell? ⟨b2,o2+i*5+1,none⟩=some (.string y.name)/\W'.cell? ⟨b2,o2+i*5+2,none⟩=some (.int .i64 y.val)/\W'.cell? ⟨b2,o2+i*5+3,none⟩=some (.int .i64 y.bound)/\W'.cell? ⟨b2,o2+i*5+4,none⟩=some (.slice A2 y.args.length c2))
       (first|(with_reducible exact aK.out _ hI)|(go_keep;done))
       ((go_at_call 86;refine(aO.out _ (by first|exact HI1.out|exact HI2.out _)).mono ?_;rintro e W9 ⟨rfl,hI⟩))
      all_goals
       have qV:=hid (HB.out.trans (hI.mono HB.out.size));clear hI x0 x1 x2 x3 x4 y0 y1 y2 y3 y4 p0 p1 p2 p3 p4 q0 q1 q2 q3 q4;go_wp2_with fail
       go_roundw
       case rel=>exact⟨i+1,by omega,by rw[vU.out],by go_num,qV.out⟩
       case measure=>simp[intOf];omega
     ·have hzz:(cc==0)=false:=au hz
      have hres:f.cmp g=cc:=by
       rw[cmp_eq];exact xQ rY.out hz
      have dY:=hid hres;clear hres;go_wp2_with fail
      go_ret
      exact⟨bn (by rw[dY.out]),dJ.out⟩
    ·have hres:f.cmp g=cc:=by
      rw[cmp_eq,rY.out,List.take_of_length_le (by omega)]
      by_cases hh:bY f g=0
      ·rw[List.take_of_length_le (by have:=gy hh;omega)]
      ·unfold nz;rw[if_neg hh,if_neg hh]
     have dY:=hid hres;clear hres;go_wp2_with fail
     go_ret
     exact⟨bn (by rw[dY.out]),dJ.out⟩
  ·have hhd:bY f g = -1:=by unfold bY;rw[Z1.out,dH];unfold oK;rw[hn,hlt];rfl
   have Tf:=hid hhd;clear hhd;go_upto_region 12 with(fail)
   go_wp2_with fail
   go_loopw [5,6] (fun s q wr=>∃i:Nat,i<=f.args.length/\s = .int .i64 (nz (bY f g) (fV (f.args.take i) (g.args.take i)))/\q = .int .i64 (i:Int)/\Below W.heap.size W wr) (fun _ q _=>f.args.length-(intOf q).toNat)
   case atStart=>exact⟨0,Nat.zero_le _,by simp only[List.take_zero,fV,rC];rw[Tf.out],rfl,Below.refl _ _⟩
   case round =>
    obtain⟨i,hi,rfl,rfl,hb⟩:=hrel;obtain⟨x0,x1,x2,x3,x4,xl⟩:=(fE.out.below hb).cells;obtain⟨y0,y1,y2,y3,y4,yl⟩:=(HBY.out.below hb).cells;have HB:=hid hb;have dJ:=hid (aY.out.trans (hb.mono aY.out.size));obtain⟨cc,hcc⟩:∃cc,cc=nz (bY f g) (fV (f.args.take i) (g.args.take i)):=⟨_,rfl⟩;rw[<-hcc];have rY:=hid hcc;clear hb hcc
    by_cases hlt:i<f.args.length
    ·have hii:(i:Int)<f.args.length:=by omega
     by_cases hz:cc=0
     ·subst hz
      have hgl:f.args.length=g.args.length:=gy (iT rY.out.symm);have hlt2:i<g.args.length:=by omega
      have hii2:(i:Int)<g.args.length:=by omega
      obtain⟨b1,o1,A1,c1,x,rfl,HX,hx⟩:=(HA.out.keep (Keeps.of_below dJ.out fun _ h=>h)).get hlt;obtain⟨b2,o2,A2,c2,y,rfl,HY,hy⟩:=(HA2.out.keep (Keeps.of_below dJ.out fun _ h=>h)).get hlt2;obtain⟨xd,wW,p0,p1,p2,p3,p4,pa⟩:=hx;obtain⟨yd,wX,q0,q1,q2,q3,q4,qa⟩:=hy
      have aO:Hid (∀W',Below wr.heap.size wr W'->Calls Tryz.prog 86 #[.agg #[.int .i64 x.op,.string x.name,.int .i64 x.val,.int .i64 x.bound,.slice A1 x.args.length c1],.agg #[.int .i64 y.op,.string y.name,.int .i64 y.val,.int .i64 y.bound,.slice A2 y.args.length c2]] W' fun e w'=>e = .returned (.int .i64 (x.cmp y))/\Below wr.heap.size wr w'):=hid fun W' hb=>by
       have:=HIH.out i hlt (D:=fun _=>True) (E:=fun _=>True) y _ _ W' (by rw[HX.out];exact⟨A1,c1,rfl,pa.any hb⟩) ⟨A2,c2,rfl,qa.any hb⟩;rw[HX.out]at this;refine this.mono ?_;rintro e w' ⟨rfl,hb'⟩;exact⟨rfl,hb.trans (hb'.mono hb.size)⟩
      have aK:Hid (∀W':World,Below wr.heap.size wr W'->W'.cell? ⟨w.heap.size,4,none⟩=some (.slice (some ⟨b1,o1,none⟩) f.args.length c)/\W'.cell? ⟨w.heap.size+1,4,none⟩=some (.slice (some ⟨b2,o2,none⟩) g.args.length c')/\W'.cell? ⟨b1,o1+i*5,none⟩=some (.int .i64 x.op)/\W'.cell? ⟨b1,o1+i*5+1,none⟩=some (.string x.name)/\W'.cell? ⟨b1,o1+i*5+2,none⟩=some (.int .i64 x.val)/\W'.cell? ⟨b1,o1+i*5+3,none⟩=some (.int .i64 x.bound)/\W'.cell? ⟨b1,o1+i*5+4,none⟩=some (.slice A1 x.args.length c1)/\W'.cell? ⟨b2,o2+i*5,none⟩=some (.int .i64 y.op)/\W'.cell? ⟨b2,o2+i*5+1,none⟩=some (.string y.name)/\W'.cell? ⟨b2,o2+i*5+2,none⟩=some (.int .i64 y.val)/\W'.cell? ⟨b2,o2+i*5+3,none⟩=some (.int .i64 y.bound)/\W'.cell? ⟨b2,o2+i*5+4,none⟩=some (.slice A2 y.args.length c2)):=hid fun W' hb =>
       ⟨(hb.cell (p:=⟨w.heap.size,4,none⟩) xl).trans x4,(hb.cell (p:=⟨w.heap.size+1,4,none⟩) yl).trans y4,(hb.cell (p:=⟨b1,o1+i*5,none⟩) wW).trans p0,(hb.cell (p:=⟨b1,o1+i*5+1,none⟩) wW).trans p1,(hb.cell (p:=⟨b1,o1+i*5+2,none⟩) wW).trans p2,(hb.cell (p:=⟨b1,o1+i*5+3,none⟩) wW).trans p3,(hb.cell (p:=⟨b1,o1+i*5+4,none⟩) wW).trans p4,(hb.cell (p:=⟨b2,o2+i*5,none⟩) wX).trans q0,(hb.cell (p:=⟨b2,o2+i*5+1,none⟩) wX).trans q1,(hb.cell (p:=⟨b2,o2+i*5+2,none⟩) wX).trans q2,(hb.cell (p:=⟨b2,o2+i*5+3,none⟩) wX).trans q3,(hb.cell (p:=⟨b2,o2+i*5+4,none⟩) wX).trans q4⟩
      have HI1:=hid (show Below wr.heap.size wr wr.drew from(Below.refl _ _).drew);have HI2:=hid (show∀i,Below wr.heap.size wr (wr.drewN i)from fun i=>(aU.n wr i).below _)
      have hsn:nz (bY f g) (fV (f.args.take (i+1)) (g.args.take (i+1)))=x.cmp y:=by
       rw[aT f.args default hlt,aT g.args default hlt2,HX.out,HY.out,ny _ _ (by simp;omega),<-oP,<-rY.out];rfl
      have vU:=hid hsn;clear pa qa hsn hgl;go_upto_region 15 with(fail)
      go_region_held3 (fun W':World=>W'.cell? ⟨w.heap.size,4,none⟩=some (.slice (some ⟨b1,o1,none⟩) f.args.length c)/\W'.cell? ⟨w.heap.size+1,4,none⟩=some (.slice (some ⟨b2,o2,none⟩) g.args.length c')/\W'.cell? ⟨b1,o1+i*5,none⟩=some (.int .i64 x.op)/\W'.cell? ⟨b1,o1+i*5+1,none⟩=some (.string x.name)/\W'.cell? ⟨b1,o1+i*5+2,none⟩=some (.int .i64 x.val)/\W'.cell? ⟨b1,o1+i*5+3,none⟩=some (.int .i64 x.bound)/\W'.cell? ⟨b1,o1+i*5+4,none⟩=some (.slice A1 x.args.length c1)/\W'.cell? ⟨b2,o2+i*5,none⟩=some (.int .i64 y.op)/\W'.cell? ⟨b2,o2+i*5+1,none⟩=some (.string y.name)/\W'.cell? ⟨b2,o2+i*5+2,none⟩=some (.int .i64 y.val)/\W'.cell? ⟨b2,o2+i*5+3,none⟩=some (.int .i64 y.bound)/\W'.cell? ⟨b2,o2+i*5+4,none⟩=some (.slice A2 y.args.length c2))
       (first|(with_reducible exact aK.out _ hI)|(go_keep;done))
       ((go_at_call 86;refine(aO.out _ (by first|exact HI1.out|exact HI2.out _)).mono ?_;rintro e W9 ⟨rfl,hI⟩))
      all_goals
       have qV:=hid (HB.out.trans (hI.mono HB.out.size));clear hI x0 x1 x2 x3 x4 y0 y1 y2 y3 y4 p0 p1 p2 p3 p4 q0 q1 q2 q3 q4;go_wp2_with fail
       go_roundw
       case rel=>exact⟨i+1,by omega,by rw[vU.out],by go_num,qV.out⟩
       case measure=>simp[intOf];omega
     ·have hzz:(cc==0)=false:=au hz
      have hres:f.cmp g=cc:=by
       rw[cmp_eq];exact xQ rY.out hz
      have dY:=hid hres;clear hres;go_wp2_with fail
      go_ret
      exact⟨bn (by rw[dY.out]),dJ.out⟩
    ·have hres:f.cmp g=cc:=by
      rw[cmp_eq,rY.out,List.take_of_length_le (by omega)]
      by_cases hh:bY f g=0
      ·rw[List.take_of_length_le (by have:=gy hh;omega)]
      ·unfold nz;rw[if_neg hh,if_neg hh]
     have dY:=hid hres;clear hres;go_wp2_with fail
     go_ret
     exact⟨bn (by rw[dY.out]),dJ.out⟩
 have Z2:=hid (show oK f.name g.name=0 by unfold oK;rw[hn];rfl);go_wp2_with fail
 refine(xX f.val g.val W).mono ?_;rintro e w1 ⟨rfl,hw⟩;subst w1;obtain⟨k3,hk3⟩:∃k3,k3=jR f.val g.val:=⟨_,rfl⟩;rw[<-hk3]
 by_cases z3:k3=0
 rotate_left
 ·have zz:(k3==0)=false:=au z3
  have hhd:bY f g=k3:=by unfold bY;rw[Z1.out,dH,Z2.out,dH];unfold nz;rw[<-hk3,if_neg z3]
  clear hk3;have Tf:=hid hhd;clear hhd;go_upto_region 12 with(fail)
  go_wp2_with fail
  go_loopw [5,6] (fun s q wr=>∃i:Nat,i<=f.args.length/\s = .int .i64 (nz (bY f g) (fV (f.args.take i) (g.args.take i)))/\q = .int .i64 (i:Int)/\Below W.heap.size W wr) (fun _ q _=>f.args.length-(intOf q).toNat)
  case atStart=>exact⟨0,Nat.zero_le _,by simp only[List.take_zero,fV,rC];rw[Tf.out],rfl,Below.refl _ _⟩
  case round =>
   obtain⟨i,hi,rfl,rfl,hb⟩:=hrel;obtain⟨x0,x1,x2,x3,x4,xl⟩:=(fE.out.below hb).cells;obtain⟨y0,y1,y2,y3,y4,yl⟩:=(HBY.out.below hb).cells;have HB:=hid hb;have dJ:=hid (aY.out.trans (hb.mono aY.out.size));obtain⟨cc,hcc⟩:∃cc,cc=nz (bY f g) (fV (f.args.take i) (g.args.take i)):=⟨_,rfl⟩;rw[<-hcc];have rY:=hid hcc;clear hb hcc
   by_cases hlt:i<f.args.length
   ·have hii:(i:Int)<f.args.length:=by omega
    by_cases hz:cc=0
    ·subst hz
     have hgl:f.args.length=g.args.length:=gy (iT rY.out.symm);have hlt2:i<g.args.length:=by omega
     have hii2:(i:Int)<g.args.length:=by omega
     obtain⟨b1,o1,A1,c1,x,rfl,HX,hx⟩:=(HA.out.keep (Keeps.of_below dJ.out fun _ h=>h)).get hlt;obtain⟨b2,o2,A2,c2,y,rfl,HY,hy⟩:=(HA2.out.keep (Keeps.of_below dJ.out fun _ h=>h)).get hlt2;obtain⟨xd,wW,p0,p1,p2,p3,p4,pa⟩:=hx;obtain⟨yd,wX,q0,q1,q2,q3,q4,qa⟩:=hy
     have aO:Hid (∀W',Below wr.heap.size wr W'->Calls Tryz.prog 86 #[.agg #[.int .i64 x.op,.string x.name,.int .i64 x.val,.int .i64 x.bound,.slice A1 x.args.length c1],.agg #[.int .i64 y.op,.string y.name,.int .i64 y.val,.int .i64 y.bound,.slice A2 y.args.length c2]] W' fun e w'=>e = .returned (.int .i64 (x.cmp y))/\Below wr.heap.size wr w'):=hid fun W' hb=>by
      have:=HIH.out i hlt (D:=fun _=>True) (E:=fun _=>True) y _ _ W' (by rw[HX.out];exact⟨A1,c1,rfl,pa.any hb⟩) ⟨A2,c2,rfl,qa.any hb⟩;rw[HX.out]at this;refine this.mono ?_;rintro e w' ⟨rfl,hb'⟩;exact⟨rfl,hb.trans (hb'.mono hb.size)⟩
     have aK:Hid (∀W':World,Below wr.heap.size wr W'->W'.cell? ⟨w.heap.size,4,none⟩=some (.slice (some ⟨b1,o1,none⟩) f.args.length c)/\W'.cell? ⟨w.heap.size+1,4,none⟩=some (.slice (some ⟨b2,o2,none⟩) g.args.length c')/\W'.cell? ⟨b1,o1+i*5,none⟩=some (.int .i64 x.op)/\W'.cell? ⟨b1,o1+i*5+1,none⟩=some (.string x.name)/\W'.cell? ⟨b1,o1+i*5+2,none⟩=some (.int .i64 x.val)/\W'.cell? ⟨b1,o1+i*5+3,none⟩=some (.int .i64 x.bound)/\W'.cell? ⟨b1,o1+i*5+4,none⟩=some (.slice A1 x.args.length c1)/\W'.cell? ⟨b2,o2+i*5,none⟩=some (.int .i64 y.op)/\W'.cell? ⟨b2,o2+i*5+1,none⟩=some (.string y.name)/\W'.cell? ⟨b2,o2+i*5+2,none⟩=some (.int .i64 y.val)/\W'.cell? ⟨b2,o2+i*5+3,none⟩=some (.int .i64 y.bound)/\W'.cell? ⟨b2,o2+i*5+4,none⟩=some (.slice A2 y.args.length c2)):=hid fun W' hb =>
      ⟨(hb.cell (p:=⟨w.heap.size,4,none⟩) xl).trans x4,(hb.cell (p:=⟨w.heap.size+1,4,none⟩) yl).trans y4,(hb.cell (p:=⟨b1,o1+i*5,none⟩) wW).trans p0,(hb.cell (p:=⟨b1,o1+i*5+1,none⟩) wW).trans p1,(hb.cell (p:=⟨b1,o1+i*5+2,none⟩) wW).trans p2,(hb.cell (p:=⟨b1,o1+i*5+3,none⟩) wW).trans p3,(hb.cell (p:=⟨b1,o1+i*5+4,none⟩) wW).trans p4,(hb.cell (p:=⟨b2,o2+i*5,none⟩) wX).trans q0,(hb.cell (p:=⟨b2,o2+i*5+1,none⟩) wX).trans q1,(hb.cell (p:=⟨b2,o2+i*5+2,none⟩) wX).trans q2,(hb.cell (p:=⟨b2,o2+i*5+3,none⟩) wX).trans q3,(hb.cell (p:=⟨b2,o2+i*5+4,none⟩) wX).trans q4⟩
     have HI1:=hid (show Below wr.heap.size wr wr.drew from(Below.refl _ _).drew);have HI2:=hid (show∀i,Below wr.heap.size wr (wr.drewN i)from fun i=>(aU.n wr i).below _)
     have hsn:nz (bY f g) (fV (f.args.take (i+1)) (g.args.take (i+1)))=x.cmp y:=by
      rw[aT f.args default hlt,aT g.args default hlt2,HX.out,HY.out,ny _ _ (by simp;omega),<-oP,<-rY.out];rfl
     have vU:=hid hsn;clear pa qa hsn hgl;go_upto_region 15 with(fail)
     go_region_held3 (fun W':World=>W'.cell? ⟨w.heap.size,4,none⟩=some (.slice (some ⟨b1,o1,none⟩) f.args.length c)/\W'.cell? ⟨w.heap.size+1,4,none⟩=some (.slice (some ⟨b2,o2,none⟩) g.args.length c')/\W'.cell? ⟨b1,o1+i*5,none⟩=some (.int .i64 x.op)/\W'.cell? ⟨b1,o1+i*5+1,none⟩=some (.string x.name)/\W'.cell? ⟨b1,o1+i*5+2,none⟩=some (.int .i64 x.val)/\W'.cell? ⟨b1,o1+i*5+3,none⟩=some (.int .i64 x.bound)/\W'.cell? ⟨b1,o1+i*5+4,none⟩=some (.slice A1 x.args.length c1)/\W'.cell? ⟨b2,o2+i*5,none⟩=some (.int .i64 y.op)/\W'.cell? ⟨b2,o2+i*5+1,none⟩=some (.string y.name)/\W'.cell? ⟨b2,o2+i*5+2,none⟩=some (.int .i64 y.val)/\W'.cell? ⟨b2,o2+i*5+3,none⟩=some (.int .i64 y.bound)/\W'.cell? ⟨b2,o2+i*5+4,none⟩=some (.slice A2 y.args.length c2))
      (first|(with_reducible exact aK.out _ hI)|(go_keep;done))
      ((go_at_call 86;refine(aO.out _ (by first|exact HI1.out|exact HI2.out _)).mono ?_;rintro e W9 ⟨rfl,hI⟩))
     all_goals
      have qV:=hid (HB.out.trans (hI.mono HB.out.size));clear hI x0 x1 x2 x3 x4 y0 y1 y2 y3 y4 p0 p1 p2 p3 p4 q0 q1 q2 q3 q4;go_wp2_with fail
      go_roundw
      case rel=>exact⟨i+1,by omega,by rw[vU.out],by go_num,qV.out⟩
      case measure=>simp[intOf];omega
    ·have hzz:(cc==0)=false:=au hz
     have hres:f.cmp g=cc:=by
      rw[cmp_eq];exact xQ rY.out hz
     have dY:=hid hres;clear hres;go_wp2_with fail
     go_ret
     exact⟨bn (by rw[dY.out]),dJ.out⟩
   ·have hres:f.cmp g=cc:=by
     rw[cmp_eq,rY.out,List.take_of_length_le (by omega)]
     by_cases hh:bY f g=0
     ·rw[List.take_of_length_le (by have:=gy hh;omega)]
     ·unfold nz;rw[if_neg hh,if_neg hh]
    have dY:=hid hres;clear hres;go_wp2_with fail
    go_ret
    exact⟨bn (by rw[dY.out]),dJ.out⟩
 subst z3;have Z3:=hid hk3.symm;clear hk3;go_wp2_with fail
 refine(xX f.bound g.bound W).mono ?_;rintro e w1 ⟨rfl,hw⟩;subst w1;obtain⟨k4,hk4⟩:∃k4,k4=jR f.bound g.bound:=⟨_,rfl⟩;rw[<-hk4]
 by_cases z4:k4=0
 rotate_left
 ·have zz:(k4==0)=false:=au z4
  have hhd:bY f g=k4:=by unfold bY;rw[Z1.out,dH,Z2.out,dH,Z3.out,dH];unfold nz;rw[<-hk4,if_neg z4]
  clear hk4;have Tf:=hid hhd;clear hhd;go_upto_region 12 with(fail)
  go_wp2_with fail
  go_loopw [5,6] (fun s q wr=>∃i:Nat,i<=f.args.length/\s = .int .i64 (nz (bY f g) (fV (f.args.take i) (g.args.take i)))/\q = .int .i64 (i:Int)/\Below W.heap.size W wr) (fun _ q _=>f.args.length-(intOf q).toNat)
  case atStart=>exact⟨0,Nat.zero_le _,by simp only[List.take_zero,fV,rC];rw[Tf.out],rfl,Below.refl _ _⟩
  case round =>
   obtain⟨i,hi,rfl,rfl,hb⟩:=hrel;obtain⟨x0,x1,x2,x3,x4,xl⟩:=(fE.out.below hb).cells;obtain⟨y0,y1,y2,y3,y4,yl⟩:=(HBY.out.below hb).cells;have HB:=hid hb;have dJ:=hid (aY.out.trans (hb.mono aY.out.size));obtain⟨cc,hcc⟩:∃cc,cc=nz (bY f g) (fV (f.args.take i) (g.args.take i)):=⟨_,rfl⟩;rw[<-hcc];have rY:=hid hcc;clear hb hcc
   by_cases hlt:i<f.args.length
   ·have hii:(i:Int)<f.args.length:=by omega
    by_cases hz:cc=0
    ·subst hz
     have hgl:f.args.length=g.args.length:=gy (iT rY.out.symm);have hlt2:i<g.args.length:=by omega
     have hii2:(i:Int)<g.args.length:=by omega
     obtain⟨b1,o1,A1,c1,x,rfl,HX,hx⟩:=(HA.out.keep (Keeps.of_below dJ.out fun _ h=>h)).get hlt;obtain⟨b2,o2,A2,c2,y,rfl,HY,hy⟩:=(HA2.out.keep (Keeps.of_below dJ.out fun _ h=>h)).get hlt2;obtain⟨xd,wW,p0,p1,p2,p3,p4,pa⟩:=hx;obtain⟨yd,wX,q0,q1,q2,q3,q4,qa⟩:=hy
     have aO:Hid (∀W',Below wr.heap.size wr W'->Calls Tryz.prog 86 #[.agg #[.int .i64 x.op,.string x.name,.int .i64 x.val,.int .i64 x.bound,.slice A1 x.args.length c1],.agg #[.int .i64 y.op,.string y.name,.int .i64 y.val,.int .i64 y.bound,.slice A2 y.args.length c2]] W' fun e w'=>e = .returned (.int .i64 (x.cmp y))/\Below wr.heap.size wr w'):=hid fun W' hb=>by
      have:=HIH.out i hlt (D:=fun _=>True) (E:=fun _=>True) y _ _ W' (by rw[HX.out];exact⟨A1,c1,rfl,pa.any hb⟩) ⟨A2,c2,rfl,qa.any hb⟩;rw[HX.out]at this;refine this.mono ?_;rintro e w' ⟨rfl,hb'⟩;exact⟨rfl,hb.trans (hb'.mono hb.size)⟩
     have aK:Hid (∀W':World,Below wr.heap.size wr W'->W'.cell? ⟨w.heap.size,4,none⟩=some (.slice (some ⟨b1,o1,none⟩) f.args.length c)/\W'.cell? ⟨w.heap.size+1,4,none⟩=some (.slice (some ⟨b2,o2,none⟩) g.args.length c')/\W'.cell? ⟨b1,o1+i*5,none⟩=some (.int .i64 x.op)/\W'.cell? ⟨b1,o1+i*5+1,none⟩=some (.string x.name)/\W'.cell? ⟨b1,o1+i*5+2,none⟩=some (.int .i64 x.val)/\W'.cell? ⟨b1,o1+i*5+3,none⟩=some (.int .i64 x.bound)/\W'.cell? ⟨b1,o1+i*5+4,none⟩=some (.slice A1 x.args.length c1)/\W'.cell? ⟨b2,o2+i*5,none⟩=some (.int .i64 y.op)/\W'.cell? ⟨b2,o2+i*5+1,none⟩=some (.string y.name)/\W'.cell? ⟨b2,o2+i*5+2,none⟩=some (.int .i64 y.val)/\W'.cell? ⟨b2,o2+i*5+3,none⟩=some (.int .i64 y.bound)/\W'.cell? ⟨b2,o2+i*5+4,none⟩=some (.slice A2 y.args.length c2)):=hid fun W' hb =>
      ⟨(hb.cell (p:=⟨w.heap.size,4,none⟩) xl).trans x4,(hb.cell (p:=⟨w.heap.size+1,4,none⟩) yl).trans y4,(hb.cell (p:=⟨b1,o1+i*5,none⟩) wW).trans p0,(hb.cell (p:=⟨b1,o1+i*5+1,none⟩) wW).trans p1,(hb.cell (p:=⟨b1,o1+i*5+2,none⟩) wW).trans p2,(hb.cell (p:=⟨b1,o1+i*5+3,none⟩) wW).trans p3,(hb.cell (p:=⟨b1,o1+i*5+4,none⟩) wW).trans p4,(hb.cell (p:=⟨b2,o2+i*5,none⟩) wX).trans q0,(hb.cell (p:=⟨b2,o2+i*5+1,none⟩) wX).trans q1,(hb.cell (p:=⟨b2,o2+i*5+2,none⟩) wX).trans q2,(hb.cell (p:=⟨b2,o2+i*5+3,none⟩) wX).trans q3,(hb.cell (p:=⟨b2,o2+i*5+4,none⟩) wX).trans q4⟩
     have HI1:=hid (show Below wr.heap.size wr wr.drew from(Below.refl _ _).drew);have HI2:=hid (show∀i,Below wr.heap.size wr (wr.drewN i)from fun i=>(aU.n wr i).below _)
     have hsn:nz (bY f g) (fV (f.args.take (i+1)) (g.args.take (i+1)))=x.cmp y:=by
      rw[aT f.args default hlt,aT g.args default hlt2,HX.out,HY.out,ny _ _ (by simp;omega),<-oP,<-rY.out];rfl
     have vU:=hid hsn;clear pa qa hsn hgl;go_upto_region 15 with(fail)
     go_region_held3 (fun W':World=>W'.cell? ⟨w.heap.size,4,none⟩=some (.slice (some ⟨b1,o1,none⟩) f.args.length c)/\W'.cell? ⟨w.heap.size+1,4,none⟩=some (.slice (some ⟨b2,o2,none⟩) g.args.length c')/\W'.cell? ⟨b1,o1+i*5,none⟩=some (.int .i64 x.op)/\W'.cell? ⟨b1,o1+i*5+1,none⟩=some (.string x.name)/\W'.cell? ⟨b1,o1+i*5+2,none⟩=some (.int .i64 x.val)/\W'.cell? ⟨b1,o1+i*5+3,none⟩=some (.int .i64 x.bound)/\W'.cell? ⟨b1,o1+i*5+4,none⟩=some (.slice A1 x.args.length c1)/\W'.cell? ⟨b2,o2+i*5,none⟩=some (.int .i64 y.op)/\W'.cell? ⟨b2,o2+i*5+1,none⟩=some (.string y.name)/\W'.cell? ⟨b2,o2+i*5+2,none⟩=some (.int .i64 y.val)/\W'.cell? ⟨b2,o2+i*5+3,none⟩=some (.int .i64 y.bound)/\W'.cell? ⟨b2,o2+i*5+4,none⟩=some (.slice A2 y.args.length c2))
      (first|(with_reducible exact aK.out _ hI)|(go_keep;done))
      ((go_at_call 86;refine(aO.out _ (by first|exact HI1.out|exact HI2.out _)).mono ?_;rintro e W9 ⟨rfl,hI⟩))
     all_goals
      have qV:=hid (HB.out.trans (hI.mono HB.out.size));clear hI x0 x1 x2 x3 x4 y0 y1 y2 y3 y4 p0 p1 p2 p3 p4 q0 q1 q2 q3 q4;go_wp2_with fail
      go_roundw
      case rel=>exact⟨i+1,by omega,by rw[vU.out],by go_num,qV.out⟩
      case measure=>simp[intOf];omega
    ·have hzz:(cc==0)=false:=au hz
     have hres:f.cmp g=cc:=by
      rw[cmp_eq];exact xQ rY.out hz
     have dY:=hid hres;clear hres;go_wp2_with fail
     go_ret
     exact⟨bn (by rw[dY.out]),dJ.out⟩
   ·have hres:f.cmp g=cc:=by
     rw[cmp_eq,rY.out,List.take_of_length_le (by omega)]
     by_cases hh:bY f g=0
     ·rw[List.take_of_length_le (by have:=gy hh;omega)]
     ·unfold nz;rw[if_neg hh,if_neg hh]
    have dY:=hid hres;clear hres;go_wp2_with fail
    go_ret
    exact⟨bn (by rw[dY.out]),dJ.out⟩
 subst z4;have Z4:=hid hk4.symm;clear hk4;go_wp2_with fail
 refine(xX (f.args.length:Int) (g.args.length:Int) W).mono ?_;rintro e w1 ⟨rfl,hw⟩;subst w1;obtain⟨k5,hk5⟩:∃k5,k5=jR (f.args.length:Int) (g.args.length:Int):=⟨_,rfl⟩;rw[<-hk5];have hhd:bY f g=k5:=by unfold bY;rw[Z1.out,dH,Z2.out,dH,Z3.out,dH,Z4.out,dH,hk5]
 clear hk5;have Tf:=hid hhd;clear hhd;go_upto_region 12 with(fail)
 go_wp2_with fail
 go_loopw [5,6] (fun s q wr=>∃i:Nat,i<=f.args.length/\s = .int .i64 (nz (bY f g) (fV (f.args.take i) (g.args.take i)))/\q = .int .i64 (i:Int)/\Below W.heap.size W wr) (fun _ q _=>f.args.length-(intOf q).toNat)
 case atStart=>exact⟨0,Nat.zero_le _,by simp only[List.take_zero,fV,rC];rw[Tf.out],rfl,Below.refl _ _⟩
 case round =>
  obtain⟨i,hi,rfl,rfl,hb⟩:=hrel;obtain⟨x0,x1,x2,x3,x4,xl⟩:=(fE.out.below hb).cells;obtain⟨y0,y1,y2,y3,y4,yl⟩:=(HBY.out.below hb).cells;have HB:=hid hb;have dJ:=hid (aY.out.trans (hb.mono aY.out.size));obtain⟨cc,hcc⟩:∃cc,cc=nz (bY f g) (fV (f.args.take i) (g.args.take i)):=⟨_,rfl⟩;rw[<-hcc];have rY:=hid hcc;clear hb hcc
  by_cases hlt:i<f.args.length
  ·have hii:(i:Int)<f.args.length:=by omega
   by_cases hz:cc=0
   ·subst hz
    have hgl:f.args.length=g.args.length:=gy (iT rY.out.symm);have hlt2:i<g.args.length:=by omega
    have hii2:(i:Int)<g.args.length:=by omega
    obtain⟨b1,o1,A1,c1,x,rfl,HX,hx⟩:=(HA.out.keep (Keeps.of_below dJ.out fun _ h=>h)).get hlt;obtain⟨b2,o2,A2,c2,y,rfl,HY,hy⟩:=(HA2.out.keep (Keeps.of_below dJ.out fun _ h=>h)).get hlt2;obtain⟨xd,wW,p0,p1,p2,p3,p4,pa⟩:=hx;obtain⟨yd,wX,q0,q1,q2,q3,q4,qa⟩:=hy
    have aO:Hid (∀W',Below wr.heap.size wr W'->Calls Tryz.prog 86 #[.agg #[.int .i64 x.op,.string x.name,.int .i64 x.val,.int .i64 x.bound,.slice A1 x.args.length c1],.agg #[.int .i64 y.op,.string y.name,.int .i64 y.val,.int .i64 y.bound,.slice A2 y.args.length c2]] W' fun e w'=>e = .returned (.int .i64 (x.cmp y))/\Below wr.heap.size wr w'):=hid fun W' hb=>by
     have:=HIH.out i hlt (D:=fun _=>True) (E:=fun _=>True) y _ _ W' (by rw[HX.out];exact⟨A1,c1,rfl,pa.any hb⟩) ⟨A2,c2,rfl,qa.any hb⟩;rw[HX.out]at this;refine this.mono ?_;rintro e w' ⟨rfl,hb'⟩;exact⟨rfl,hb.trans (hb'.mono hb.size)⟩
    have aK:Hid (∀W':World,Below wr.heap.size wr W'->W'.cell? ⟨w.heap.size,4,none⟩=some (.slice (some ⟨b1,o1,none⟩) f.args.length c)/\W'.cell? ⟨w.heap.size+1,4,none⟩=some (.slice (some ⟨b2,o2,none⟩) g.args.length c')/\W'.cell? ⟨b1,o1+i*5,none⟩=some (.int .i64 x.op)/\W'.cell? ⟨b1,o1+i*5+1,none⟩=some (.string x.name)/\W'.cell? ⟨b1,o1+i*5+2,none⟩=some (.int .i64 x.val)/\W'.cell? ⟨b1,o1+i*5+3,none⟩=some (.int .i64 x.bound)/\W'.cell? ⟨b1,o1+i*5+4,none⟩=some (.slice A1 x.args.length c1)/\W'.cell? ⟨b2,o2+i*5,none⟩=some (.int .i64 y.op)/\W'.cell? ⟨b2,o2+i*5+1,none⟩=some (.string y.name)/\W'.cell? ⟨b2,o2+i*5+2,none⟩=some (.int .i64 y.val)/\W'.cell? ⟨b2,o2+i*5+3,none⟩=some (.int .i64 y.bound)/\W'.cell? ⟨b2,o2+i*5+4,none⟩=some (.slice A2 y.args.length c2)):=hid fun W' hb =>
     ⟨(hb.cell (p:=⟨w.heap.size,4,none⟩) xl).trans x4,(hb.cell (p:=⟨w.heap.size+1,4,none⟩) yl).trans y4,(hb.cell (p:=⟨b1,o1+i*5,none⟩) wW).trans p0,(hb.cell (p:=⟨b1,o1+i*5+1,none⟩) wW).trans p1,(hb.cell (p:=⟨b1,o1+i*5+2,none⟩) wW).trans p2,(hb.cell (p:=⟨b1,o1+i*5+3,none⟩) wW).trans p3,(hb.cell (p:=⟨b1,o1+i*5+4,none⟩) wW).trans p4,(hb.cell (p:=⟨b2,o2+i*5,none⟩) wX).trans q0,(hb.cell (p:=⟨b2,o2+i*5+1,none⟩) wX).trans q1,(hb.cell (p:=⟨b2,o2+i*5+2,none⟩) wX).trans q2,(hb.cell (p:=⟨b2,o2+i*5+3,none⟩) wX).trans q3,(hb.cell (p:=⟨b2,o2+i*5+4,none⟩) wX).trans q4⟩
    have HI1:=hid (show Below wr.heap.size wr wr.drew from(Below.refl _ _).drew);have HI2:=hid (show∀i,Below wr.heap.size wr (wr.drewN i)from fun i=>(aU.n wr i).below _)
    have hsn:nz (bY f g) (fV (f.args.take (i+1)) (g.args.take (i+1)))=x.cmp y:=by
     rw[aT f.args default hlt,aT g.args default hlt2,HX.out,HY.out,ny _ _ (by simp;omega),<-oP,<-rY.out];rfl
    have vU:=hid hsn;clear pa qa hsn hgl;go_upto_region 15 with(fail)
    go_region_held3 (fun W':World=>W'.cell? ⟨w.heap.size,4,none⟩=some (.slice (some ⟨b1,o1,none⟩) f.args.length c)/\W'.cell? ⟨w.heap.size+1,4,none⟩=some (.slice (some ⟨b2,o2,none⟩) g.args.length c')/\W'.cell? ⟨b1,o1+i*5,none⟩=some (.int .i64 x.op)/\W'.cell? ⟨b1,o1+i*5+1,none⟩=some (.string x.name)/\W'.cell? ⟨b1,o1+i*5+2,none⟩=some (.int .i64 x.val)/\W'.cell? ⟨b1,o1+i*5+3,none⟩=some (.int .i64 x.bound)/\W'.cell? ⟨b1,o1+i*5+4,none⟩=some (.slice A1 x.args.length c1)/\W'.cell? ⟨b2,o2+i*5,none⟩=some (.int .i64 y.op)/\W'.cell? ⟨b2,o2+i*5+1,none⟩=some (.string y.name)/\W'.cell? ⟨b2,o2+i*5+2,none⟩=some (.int .i64 y.val)/\W'.cell? ⟨b2,o2+i*5+3,none⟩=some (.int .i64 y.bound)/\W'.cell? ⟨b2,o2+i*5+4,none⟩=some (.slice A2 y.args.length c2))
     (first|(with_reducible exact aK.out _ hI)|(go_keep;done))
     ((go_at_call 86;refine(aO.out _ (by first|exact HI1.out|exact HI2.out _)).mono ?_;rintro e W9 ⟨rfl,hI⟩))
    all_goals
     have qV:=hid (HB.out.trans (hI.mono HB.out.size));clear hI x0 x1 x2 x3 x4 y0 y1 y2 y3 y4 p0 p1 p2 p3 p4 q0 q1 q2 q3 q4;go_wp2_with fail
     go_roundw
     case rel=>exact⟨i+1,by omega,by rw[vU.out],by go_num,qV.out⟩
     case measure=>simp[intOf];omega
   ·have hzz:(cc==0)=false:=au hz
    have hres:f.cmp g=cc:=by
     rw[cmp_eq];exact xQ rY.out hz
    have dY:=hid hres;clear hres;go_wp2_with fail
    go_ret
    exact⟨bn (by rw[dY.out]),dJ.out⟩
  ·have hres:f.cmp g=cc:=by
    rw[cmp_eq,rY.out,List.take_of_length_le (by omega)]
    by_cases hh:bY f g=0
    ·rw[List.take_of_length_le (by have:=gy hh;omega)]
    ·unfold nz;rw[if_neg hh,if_neg hh]
   have dY:=hid hres;clear hres;go_wp2_with fail
   go_ret
   exact⟨bn (by rw[dY.out]),dJ.out⟩
end Go.Proofs.YtdpbgcmfeajigaaGreatDoor
