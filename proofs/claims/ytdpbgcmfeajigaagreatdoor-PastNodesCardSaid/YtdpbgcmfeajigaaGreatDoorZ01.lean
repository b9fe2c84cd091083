/-
  Walk of the reference: Compare.
-/
import Derived.Test.YtdpbgcmfeajigaaGreatDoorZ00
set_option linter.unusedSimpArgs false
set_option linter.unusedVariables false
set_option maxHeartbeats 8000000
set_option maxRecDepth 100000
namespace Go.Proofs.YtdpbgcmfeajigaaGreatDoor
open Go.RowKit
attribute [local go_sem] qab
def nz (c d:Int):Int:=if c=0 then d else c
theorem qgs (c:Int):nz c 0=c:=by unfold nz;split <;> simp_all
theorem qa7 (c:Int):nz 0 c=c:=rfl
theorem qfb (a b c:Int):nz (nz a b) c=nz a (nz b c):=by unfold nz;by_cases h:a=0 <;> simp [h]
theorem qcy {a b:Int} (h:nz a b=0):a=0:=by unfold nz at h;by_cases e:a=0 <;> simp_all
def qkw (a b:ByteArray):Int:=if a.toList == b.toList then 0 else if Op.bytesLess a.toList b.toList then -1 else 1
def qba (f g:Fm):Int:=nz (qgj f.op g.op) (nz (qkw f.name g.name) (nz (qgj f.val g.val) (nz (qgj f.bound g.bound) (qgj f.args.length g.args.length))))
mutual
def Fm.cmp:Fm→Fm→Int
 | .mk o n v b l,.mk o' n' v' b' l'=>nz (nz (qgj o o') (nz (qkw n n') (nz (qgj v v') (nz (qgj b b') (qgj l.length l'.length))))) (qd2 l l')
def qd2:List Fm→List Fm→Int
 | f :: l,g :: m=>nz (f.cmp g) (qd2 l m)
 | [],_=>0
 | _ :: _,[]=>0
end
theorem cmp_eq (f g:Fm):f.cmp g=nz (qba f g) (qd2 f.args g.args):=by cases f;cases g;simp only [Fm.cmp,qba,Fm.op,Fm.name,Fm.val,Fm.bound,Fm.args]
theorem qe6 : ∀ (l m:List Fm) {f g:Fm},l.length=m.length→qd2 (l ++ [f]) (m ++ [g])=nz (qd2 l m) (f.cmp g)
 | [],[],f,g,_=>by simp [qd2,qa7,qgs]
 | x :: l,y :: m,f,g,h=>by
  have:=qe6 l m (f:=f) (g:=g) (by simpa using h)
  simp only [List.cons_append,qd2,this,qfb]
 | [],y :: m,_,_,h=>by cases h
 | x :: l,[],_,_,h=>by cases h
theorem qc8 {a b:Int} : qgj a b=0 ↔ a=b:=by
 unfold qgj
 by_cases h1:a < b
 ·rw [if_pos h1];omega
 ·rw [if_neg h1]
  by_cases h2:b < a
  ·rw [if_pos h2];omega
  ·rw [if_neg h2];omega
theorem qb3 {f g:Fm} (h:qba f g=0):f.args.length=g.args.length:=by
 unfold qba at h
 have h1:=qcy h
 rw [h1,qa7] at h
 have h2:=qcy h
 rw [h2,qa7] at h
 have h3:=qcy h
 rw [h3,qa7] at h
 have h4:=qcy h
 rw [h4,qa7] at h
 have:=qc8.1 h
 omega
theorem cmps_take : ∀ (l m:List Fm) (i:Nat),qd2 (l.take i) (m.take i)≠0→qd2 l m=qd2 (l.take i) (m.take i)
 | [],_,_,h=>by simp [qd2] at h
 | _ :: _,[],0,h=>by simp [qd2] at h
 | _ :: _,[],_+1,h=>by simp [qd2] at h
 | _ :: _,_ :: _,0,h=>by simp [qd2] at h
 | x :: l,y :: m,i+1,h=>by
  simp only [List.take_succ_cons,qd2] at h ⊢
  unfold nz at h ⊢
  by_cases e:x.cmp y=0
  ·rw [if_pos e] at h
   rw [if_pos e,if_pos e]
   exact cmps_take l m i h
  ·rw [if_neg e,if_neg e]
theorem qja {f g:Fm} {i:Nat} {cc:Int} (h:cc=nz (qba f g) (qd2 (f.args.take i) (g.args.take i))) (hz:cc≠0):nz (qba f g) (qd2 f.args g.args)=cc:=by
 rw [h] at hz ⊢
 unfold nz at hz ⊢
 by_cases e:qba f g=0
 ·rw [if_pos e] at hz
  rw [if_pos e,if_pos e]
  exact cmps_take _ _ _ hz
 ·rw [if_neg e,if_neg e]
theorem rcmp_any (f:Fm) : ∀ {D E:Dom} (g:Fm) (v v':Value) (w:World) (h:qbj w D v f) (h':qbj w E v' g),
  Calls Tryz.prog 86 #[v,v'] w fun e w'=>e = .returned (.int .i64 (f.cmp g))∧Below w.heap.size w w':=by
 refine Fm.induct (P:=fun f => ∀ {D E:Dom} (g:Fm) (v v':Value) (w:World) (h:qbj w D v f) (h':qbj w E v' g),Calls Tryz.prog 86 #[v,v'] w fun e w'=>e = .returned (.int .i64 (f.cmp g))∧Below w.heap.size w w') ?_ f
 intro f ih D E g v v' w h h'
 have HIH:=hid ih
 obtain ⟨A,c,rfl,ha⟩:=h
 obtain ⟨A',c',rfl,ha'⟩:=h'
 have HA:=hid ha.old
 have HA2:=hid ha'.old
 have hal:=ha.len.1
 have hal':=ha'.len.1
 clear ih ha ha'
 go_enter Tryz.func86,Tryz.ntmps86
 go_upto_region 1 with (fail)
 refine qai fun W hW => ?_
 obtain ⟨w1,h1⟩ : ∃ w1,w1=w.alloc (.cells #[.int .i64 f.op,.string f.name,.int .i64 f.val,.int .i64 f.bound,.slice A f.args.length c] 24):=⟨_,rfl⟩
 have s1:w1.heap.size=w.heap.size+1:=by rw [h1];simp
 have b1:Below w.heap.size w w1:=by rw [h1];go_grown
 have m1:qcj w1 w.heap.size f A c:=by rw [h1];exact qcj.new w f A c
 rw [←h1] at hW
 have b2:Below w1.heap.size w1 W:=by rw [hW];go_grown
 have HBX:=hid (m1.below b2)
 have HBY:=hid (show qcj W (w.heap.size+1) g A' c' by rw [hW,←s1];exact qcj.new w1 g A' c')
 have HBW:=hid (b1.trans (b2.mono b1.size))
 obtain ⟨x0,x1,x2,x3,x4,xl⟩:=HBX.out.cells
 obtain ⟨y0,y1,y2,y3,y4,yl⟩:=HBY.out.cells
 clear hW h1 s1 b1 m1 b2
 go_wp2_with fail
 refine (qh8 f.op g.op W).mono ?_
 rintro e w1 ⟨rfl,hw⟩
 subst w1
 obtain ⟨k1,hk1⟩ : ∃ k1,k1=qgj f.op g.op:=⟨_,rfl⟩
 rw [←hk1]
 by_cases z1:k1=0
 rotate_left
 ·have zz:(k1 == 0)=false:=qac z1
  have hhd:qba f g=k1:=by unfold qba nz;rw [←hk1,if_neg z1]
  clear hk1
  have HHD:=hid hhd
  clear hhd
  go_upto_region 12 with (fail)
  go_wp2_with fail
  go_loopw [5,6] (fun s q wr => ∃ i:Nat,i≤f.args.length∧s = .int .i64 (nz (qba f g) (qd2 (f.args.take i) (g.args.take i)))∧q = .int .i64 (i:Int)∧Below W.heap.size W wr) (fun _ q _=>f.args.length - (intOf q).toNat)
  case atStart=>exact ⟨0,Nat.zero_le _,by simp only [List.take_zero,qd2,qgs];rw [HHD.out],rfl,Below.refl _ _⟩
  case round =>
   obtain ⟨i,hi,rfl,rfl,hb⟩:=hrel
   obtain ⟨x0,x1,x2,x3,x4,xl⟩:=(HBX.out.below hb).cells
   obtain ⟨y0,y1,y2,y3,y4,yl⟩:=(HBY.out.below hb).cells
   have HB:=hid hb
   have HBR:=hid (HBW.out.trans (hb.mono HBW.out.size))
   obtain ⟨cc,hcc⟩ : ∃ cc,cc=nz (qba f g) (qd2 (f.args.take i) (g.args.take i)):=⟨_,rfl⟩
   rw [←hcc]
   have HCC:=hid hcc
   clear hb hcc
   by_cases hlt:i < f.args.length
   ·have hii:(i:Int) < f.args.length:=by omega
    by_cases hz:cc=0
    ·subst hz
     have hgl:f.args.length=g.args.length:=qb3 (qcy HCC.out.symm)
     have hlt2:i < g.args.length:=by omega
     have hii2:(i:Int) < g.args.length:=by omega
     obtain ⟨b1,o1,A1,c1,x,rfl,HX,hx⟩:=(HA.out.keep (Keeps.of_below HBR.out fun _ h=>h)).get hlt
     obtain ⟨b2,o2,A2,c2,y,rfl,HY,hy⟩:=(HA2.out.keep (Keeps.of_below HBR.out fun _ h=>h)).get hlt2
     obtain ⟨xd,xl',p0,p1,p2,p3,p4,pa⟩:=hx
     obtain ⟨yd,yl',q0,q1,q2,q3,q4,qa⟩:=hy
     have HCALL:Hid (∀ W',Below wr.heap.size wr W'→Calls Tryz.prog 86 #[.agg #[.int .i64 x.op,.string x.name,.int .i64 x.val,.int .i64 x.bound,.slice A1 x.args.length c1],.agg #[.int .i64 y.op,.string y.name,.int .i64 y.val,.int .i64 y.bound,.slice A2 y.args.length c2]] W' fun e w'=>e = .returned (.int .i64 (x.cmp y))∧Below wr.heap.size wr w'):=hid fun W' hb=>by
      have:=HIH.out i hlt (D:=fun _=>True) (E:=fun _=>True) y _ _ W' (by rw [HX.out];exact ⟨A1,c1,rfl,pa.any hb⟩) ⟨A2,c2,rfl,qa.any hb⟩
      rw [HX.out] at this
      refine this.mono ?_
      rintro e w' ⟨rfl,hb'⟩
      exact ⟨rfl,hb.trans (hb'.mono hb.size)⟩
     have HCELL:Hid (∀ W':World,Below wr.heap.size wr W'→W'.cell? ⟨w.heap.size,4,none⟩=some (.slice (some ⟨b1,o1,none⟩) f.args.length c)∧W'.cell? ⟨w.heap.size+1,4,none⟩=some (.slice (some ⟨b2,o2,none⟩) g.args.length c')∧W'.cell? ⟨b1,o1+i * 5,none⟩=some (.int .i64 x.op)∧W'.cell? ⟨b1,o1+i * 5+1,none⟩=some (.string x.name)∧W'.cell? ⟨b1,o1+i * 5+2,none⟩=some (.int .i64 x.val)∧W'.cell? ⟨b1,o1+i * 5+3,none⟩=some (.int .i64 x.bound)∧W'.cell? ⟨b1,o1+i * 5+4,none⟩=some (.slice A1 x.args.length c1)∧W'.cell? ⟨b2,o2+i * 5,none⟩=some (.int .i64 y.op)∧W'.cell? ⟨b2,o2+i * 5+1,none⟩=some (.string y.name)∧W'.cell? ⟨b2,o2+i * 5+2,none⟩=some (.int .i64 y.val)∧W'.cell? ⟨b2,o2+i * 5+3,none⟩=some (.int .i64 y.bound)∧W'.cell? ⟨b2,o2+i * 5+4,none⟩=some (.slice A2 y.args.length c2)):=hid fun W' hb =>
      ⟨(hb.cell (p:=⟨w.heap.size,4,none⟩) xl).trans x4,(hb.cell (p:=⟨w.heap.size+1,4,none⟩) yl).trans y4,(hb.cell (p:=⟨b1,o1+i * 5,none⟩) xl').trans p0,(hb.cell (p:=⟨b1,o1+i * 5+1,none⟩) xl').trans p1,(hb.cell (p:=⟨b1,o1+i * 5+2,none⟩) xl').trans p2,(hb.cell (p:=⟨b1,o1+i * 5+3,none⟩) xl').trans p3,(hb.cell (p:=⟨b1,o1+i * 5+4,none⟩) xl').trans p4,(hb.cell (p:=⟨b2,o2+i * 5,none⟩) yl').trans q0,(hb.cell (p:=⟨b2,o2+i * 5+1,none⟩) yl').trans q1,(hb.cell (p:=⟨b2,o2+i * 5+2,none⟩) yl').trans q2,(hb.cell (p:=⟨b2,o2+i * 5+3,none⟩) yl').trans q3,(hb.cell (p:=⟨b2,o2+i * 5+4,none⟩) yl').trans q4⟩
     have HI1:=hid (show Below wr.heap.size wr wr.drew from (Below.refl _ _).drew)
     have HI2:=hid (show ∀ i,Below wr.heap.size wr (wr.drewN i) from fun i=>(qap.n wr i).below _)
     have hsn:nz (qba f g) (qd2 (f.args.take (i+1)) (g.args.take (i+1)))=x.cmp y:=by
      rw [qam f.args default hlt,qam g.args default hlt2,HX.out,HY.out,qe6 _ _ (by simp;omega),←qfb,←HCC.out];rfl
     have HSN:=hid hsn
     clear pa qa hsn hgl
     go_upto_region 15 with (fail)
     go_region_held3 (fun W':World=>W'.cell? ⟨w.heap.size,4,none⟩=some (.slice (some ⟨b1,o1,none⟩) f.args.length c)∧W'.cell? ⟨w.heap.size+1,4,none⟩=some (.slice (some ⟨b2,o2,none⟩) g.args.length c')∧W'.cell? ⟨b1,o1+i * 5,none⟩=some (.int .i64 x.op)∧W'.cell? ⟨b1,o1+i * 5+1,none⟩=some (.string x.name)∧W'.cell? ⟨b1,o1+i * 5+2,none⟩=some (.int .i64 x.val)∧W'.cell? ⟨b1,o1+i * 5+3,none⟩=some (.int .i64 x.bound)∧W'.cell? ⟨b1,o1+i * 5+4,none⟩=some (.slice A1 x.args.length c1)∧W'.cell? ⟨b2,o2+i * 5,none⟩=some (.int .i64 y.op)∧W'.cell? ⟨b2,o2+i * 5+1,none⟩=some (.string y.name)∧W'.cell? ⟨b2,o2+i * 5+2,none⟩=some (.int .i64 y.val)∧W'.cell? ⟨b2,o2+i * 5+3,none⟩=some (.int .i64 y.bound)∧W'.cell? ⟨b2,o2+i * 5+4,none⟩=some (.slice A2 y.args.length c2))
      (first | (with_reducible exact HCELL.out _ hI) | (go_keep;done))
      ((go_at_call 86;refine (HCALL.out _ (by first | exact HI1.out | exact HI2.out _)).mono ?_;rintro e W9 ⟨rfl,hI⟩))
     all_goals
      have HB9:=hid (HB.out.trans (hI.mono HB.out.size))
      clear hI x0 x1 x2 x3 x4 y0 y1 y2 y3 y4 p0 p1 p2 p3 p4 q0 q1 q2 q3 q4
      go_wp2_with fail
      go_roundw
      case rel=>exact ⟨i+1,by omega,by rw [HSN.out],by go_num,HB9.out⟩
      case measure=>simp [intOf];omega
    ·have hzz:(cc == 0)=false:=qac hz
     have hres:f.cmp g=cc:=by
      rw [cmp_eq]
      exact qja HCC.out hz
     have HRES:=hid hres
     clear hres
     go_wp2_with fail
     go_ret
     exact ⟨qas (by rw [HRES.out]),HBR.out⟩
   ·have hres:f.cmp g=cc:=by
     rw [cmp_eq,HCC.out,List.take_of_length_le (by omega)]
     by_cases hh:qba f g=0
     ·rw [List.take_of_length_le (by have:=qb3 hh;omega)]
     ·unfold nz;rw [if_neg hh,if_neg hh]
    have HRES:=hid hres
    clear hres
    go_wp2_with fail
    go_ret
    exact ⟨qas (by rw [HRES.out]),HBR.out⟩
 subst z1
 have Z1:=hid hk1.symm
 clear hk1
 by_cases hn:(f.name.toList == g.name.toList)=true
 rotate_left
 ·have hn:(f.name.toList == g.name.toList)=false:=by simpa using hn
  cases hlt:Op.bytesLess f.name.toList g.name.toList
  ·have hhd:qba f g=1:=by unfold qba;rw [Z1.out,qa7];unfold qkw;rw [hn,hlt];rfl
   have HHD:=hid hhd
   clear hhd
   go_upto_region 12 with (fail)
   go_wp2_with fail
   go_loopw [5,6] (fun s q wr => ∃ i:Nat,i≤f.args.length∧s = .int .i64 (nz (qba f g) (qd2 (f.args.take i) (g.args.take i)))∧q = .int .i64 (i:Int)∧Below W.heap.size W wr) (fun _ q _=>f.args.length - (intOf q).toNat)
   case atStart=>exact ⟨0,Nat.zero_le _,by simp only [List.take_zero,qd2,qgs];rw [HHD.out],rfl,Below.refl _ _⟩
   case round =>
    obtain ⟨i,hi,rfl,rfl,hb⟩:=hrel
    obtain ⟨x0,x1,x2,x3,x4,xl⟩:=(HBX.out.below hb).cells
    obtain ⟨y0,y1,y2,y3,y4,yl⟩:=(HBY.out.below hb).cells
    have HB:=hid hb
    have HBR:=hid (HBW.out.trans (hb.mono HBW.out.size))
    obtain ⟨cc,hcc⟩ : ∃ cc,cc=nz (qba f g) (qd2 (f.args.take i) (g.args.take i)):=⟨_,rfl⟩
    rw [←hcc]
    have HCC:=hid hcc
    clear hb hcc
    by_cases hlt:i < f.args.length
    ·have hii:(i:Int) < f.args.length:=by omega
     by_cases hz:cc=0
     ·subst hz
      have hgl:f.args.length=g.args.length:=qb3 (qcy HCC.out.symm)
      have hlt2:i < g.args.length:=by omega
      have hii2:(i:Int) < g.args.length:=by omega
      obtain ⟨b1,o1,A1,c1,x,rfl,HX,hx⟩:=(HA.out.keep (Keeps.of_below HBR.out fun _ h=>h)).get hlt
      obtain ⟨b2,o2,A2,c2,y,rfl,HY,hy⟩:=(HA2.out.keep (Keeps.of_below HBR.out fun _ h=>h)).get hlt2
      obtain ⟨xd,xl',p0,p1,p2,p3,p4,pa⟩:=hx
      obtain ⟨yd,yl',q0,q1,q2,q3,q4,qa⟩:=hy
      have HCALL:Hid (∀ W',Below wr.heap.size wr W'→Calls Tryz.prog 86 #[.agg #[.int .i64 x.op,.string x.name,.int .i64 x.val,.int .i64 x.bound,.slice A1 x.args.length c1],.agg #[.int .i64 y.op,.string y.name,.int .i64 y.val,.int .i64 y.bound,.slice A2 y.args.length c2]] W' fun e w'=>e = .returned (.int .i64 (x.cmp y))∧Below wr.heap.size wr w'):=hid fun W' hb=>by
       have:=HIH.out i hlt (D:=fun _=>True) (E:=fun _=>True) y _ _ W' (by rw [HX.out];exact ⟨A1,c1,rfl,pa.any hb⟩) ⟨A2,c2,rfl,qa.any hb⟩
       rw [HX.out] at this
       refine this.mono ?_
       rintro e w' ⟨rfl,hb'⟩
       exact ⟨rfl,hb.trans (hb'.mono hb.size)⟩
      have HCELL:Hid (∀ W':World,Below wr.heap.size wr W'→W'.cell? ⟨w.heap.size,4,none⟩=some (.slice (some ⟨b1,o1,none⟩) f.args.length c)∧W'.cell? ⟨w.heap.size+1,4,none⟩=some (.slice (some ⟨b2,o2,none⟩) g.args.length c')∧W'.cell? ⟨b1,o1+i * 5,none⟩=some (.int .i64 x.op)∧W'.cell? ⟨b1,o1+i * 5+1,none⟩=some (.string x.name)∧W'.cell? ⟨b1,o1+i * 5+2,none⟩=some (.int .i64 x.val)∧W'.cell? ⟨b1,o1+i * 5+3,none⟩=some (.int .i64 x.bound)∧W'.cell? ⟨b1,o1+i * 5+4,none⟩=some (.slice A1 x.args.length c1)∧W'.cell? ⟨b2,o2+i * 5,none⟩=some (.int .i64 y.op)∧W'.cell? ⟨b2,o2+i * 5+1,none⟩=some (.string y.name)∧W'.cell? ⟨b2,o2+i * 5+2,none⟩=some (.int .i64 y.val)∧W'.cell? ⟨b2,o2+i * 5+3,none⟩=some (.int .i64 y.bound)∧W'.cell? ⟨b2,o2+i * 5+4,none⟩=some (.slice A2 y.args.length c2)):=hid fun W' hb =>
       ⟨(hb.cell (p:=⟨w.heap.size,4,none⟩) xl).trans x4,(hb.cell (p:=⟨w.heap.size+1,4,none⟩) yl).trans y4,(hb.cell (p:=⟨b1,o1+i * 5,none⟩) xl').trans p0,(hb.cell (p:=⟨b1,o1+i * 5+1,none⟩) xl').trans p1,(hb.cell (p:=⟨b1,o1+i * 5+2,none⟩) xl').trans p2,(hb.cell (p:=⟨b1,o1+i * 5+3,none⟩) xl').trans p3,(hb.cell (p:=⟨b1,o1+i * 5+4,none⟩) xl').trans p4,(hb.cell (p:=⟨b2,o2+i * 5,none⟩) yl').trans q0,(hb.cell (p:=⟨b2,o2+i * 5+1,none⟩) yl').trans q1,(hb.cell (p:=⟨b2,o2+i * 5+2,none⟩) yl').trans q2,(hb.cell (p:=⟨b2,o2+i * 5+3,none⟩) yl').trans q3,(hb.cell (p:=⟨b2,o2+i * 5+4,none⟩) yl').trans q4⟩
      have HI1:=hid (show Below wr.heap.size wr wr.drew from (Below.refl _ _).drew)
      have HI2:=hid (show ∀ i,Below wr.heap.size wr (wr.drewN i) from fun i=>(qap.n wr i).below _)
      have hsn:nz (qba f g) (qd2 (f.args.take (i+1)) (g.args.take (i+1)))=x.cmp y:=by
       rw [qam f.args default hlt,qam g.args default hlt2,HX.out,HY.out,qe6 _ _ (by simp;omega),←qfb,←HCC.out];rfl
      have HSN:=hid hsn
      clear pa qa hsn hgl
      go_upto_region 15 with (fail)
      go_region_held3 (fun W':World=>W'.cell? ⟨w.heap.size,4,none⟩=some (.slice (some ⟨b1,o1,none⟩) f.args.length c)∧W'.cell? ⟨w.heap.size+1,4,none⟩=some (.slice (some ⟨b2,o2,none⟩) g.args.length c')∧W'.cell? ⟨b1,o1+i * 5,none⟩=some (.int .i64 x.op)∧W'.cell? ⟨b1,o1+i * 5+1,none⟩=some (.string x.name)∧W'.cell? ⟨b1,o1+i * 5+2,none⟩=some (.int .i64 x.val)∧W'.cell? ⟨b1,o1+i * 5+3,none⟩=some (.int .i64 x.bound)∧W'.cell? ⟨b1,o1+i * 5+4,none⟩=some (.slice A1 x.args.length c1)∧W'.cell? ⟨b2,o2+i * 5,none⟩=some (.int .i64 y.op)∧W'.cell? ⟨b2,o2+i * 5+1,none⟩=some (.string y.name)∧W'.cell? ⟨b2,o2+i * 5+2,none⟩=some (.int .i64 y.val)∧W'.cell? ⟨b2,o2+i * 5+3,none⟩=some (.int .i64 y.bound)∧W'.cell? ⟨b2,o2+i * 5+4,none⟩=some (.slice A2 y.args.length c2))
       (first | (with_reducible exact HCELL.out _ hI) | (go_keep;done))
       ((go_at_call 86;refine (HCALL.out _ (by first | exact HI1.out | exact HI2.out _)).mono ?_;rintro e W9 ⟨rfl,hI⟩))
      all_goals
       have HB9:=hid (HB.out.trans (hI.mono HB.out.size))
       clear hI x0 x1 x2 x3 x4 y0 y1 y2 y3 y4 p0 p1 p2 p3 p4 q0 q1 q2 q3 q4
       go_wp2_with fail
       go_roundw
       case rel=>exact ⟨i+1,by omega,by rw [HSN.out],by go_num,HB9.out⟩
       case measure=>simp [intOf];omega
     ·have hzz:(cc == 0)=false:=qac hz
      have hres:f.cmp g=cc:=by
       rw [cmp_eq]
       exact qja HCC.out hz
      have HRES:=hid hres
      clear hres
      go_wp2_with fail
      go_ret
      exact ⟨qas (by rw [HRES.out]),HBR.out⟩
    ·have hres:f.cmp g=cc:=by
      rw [cmp_eq,HCC.out,List.take_of_length_le (by omega)]
      by_cases hh:qba f g=0
      ·rw [List.take_of_length_le (by have:=qb3 hh;omega)]
      ·unfold nz;rw [if_neg hh,if_neg hh]
     have HRES:=hid hres
     clear hres
     go_wp2_with fail
     go_ret
     exact ⟨qas (by rw [HRES.out]),HBR.out⟩
  ·have hhd:qba f g = -1:=by unfold qba;rw [Z1.out,qa7];unfold qkw;rw [hn,hlt];rfl
   have HHD:=hid hhd
   clear hhd
   go_upto_region 12 with (fail)
   go_wp2_with fail
   go_loopw [5,6] (fun s q wr => ∃ i:Nat,i≤f.args.length∧s = .int .i64 (nz (qba f g) (qd2 (f.args.take i) (g.args.take i)))∧q = .int .i64 (i:Int)∧Below W.heap.size W wr) (fun _ q _=>f.args.length - (intOf q).toNat)
   case atStart=>exact ⟨0,Nat.zero_le _,by simp only [List.take_zero,qd2,qgs];rw [HHD.out],rfl,Below.refl _ _⟩
   case round =>
    obtain ⟨i,hi,rfl,rfl,hb⟩:=hrel
    obtain ⟨x0,x1,x2,x3,x4,xl⟩:=(HBX.out.below hb).cells
    obtain ⟨y0,y1,y2,y3,y4,yl⟩:=(HBY.out.below hb).cells
    have HB:=hid hb
    have HBR:=hid (HBW.out.trans (hb.mono HBW.out.size))
    obtain ⟨cc,hcc⟩ : ∃ cc,cc=nz (qba f g) (qd2 (f.args.take i) (g.args.take i)):=⟨_,rfl⟩
    rw [←hcc]
    have HCC:=hid hcc
    clear hb hcc
    by_cases hlt:i < f.args.length
    ·have hii:(i:Int) < f.args.length:=by omega
     by_cases hz:cc=0
     ·subst hz
      have hgl:f.args.length=g.args.length:=qb3 (qcy HCC.out.symm)
      have hlt2:i < g.args.length:=by omega
      have hii2:(i:Int) < g.args.length:=by omega
      obtain ⟨b1,o1,A1,c1,x,rfl,HX,hx⟩:=(HA.out.keep (Keeps.of_below HBR.out fun _ h=>h)).get hlt
      obtain ⟨b2,o2,A2,c2,y,rfl,HY,hy⟩:=(HA2.out.keep (Keeps.of_below HBR.out fun _ h=>h)).get hlt2
      obtain ⟨xd,xl',p0,p1,p2,p3,p4,pa⟩:=hx
      obtain ⟨yd,yl',q0,q1,q2,q3,q4,qa⟩:=hy
      have HCALL:Hid (∀ W',Below wr.heap.size wr W'→Calls Tryz.prog 86 #[.agg #[.int .i64 x.op,.string x.name,.int .i64 x.val,.int .i64 x.bound,.slice A1 x.args.length c1],.agg #[.int .i64 y.op,.string y.name,.int .i64 y.val,.int .i64 y.bound,.slice A2 y.args.length c2]] W' fun e w'=>e = .returned (.int .i64 (x.cmp y))∧Below wr.heap.size wr w'):=hid fun W' hb=>by
       have:=HIH.out i hlt (D:=fun _=>True) (E:=fun _=>True) y _ _ W' (by rw [HX.out];exact ⟨A1,c1,rfl,pa.any hb⟩) ⟨A2,c2,rfl,qa.any hb⟩
       rw [HX.out] at this
       refine this.mono ?_
       rintro e w' ⟨rfl,hb'⟩
       exact ⟨rfl,hb.trans (hb'.mono hb.size)⟩
      have HCELL:Hid (∀ W':World,Below wr.heap.size wr W'→W'.cell? ⟨w.heap.size,4,none⟩=some (.slice (some ⟨b1,o1,none⟩) f.args.length c)∧W'.cell? ⟨w.heap.size+1,4,none⟩=some (.slice (some ⟨b2,o2,none⟩) g.args.length c')∧W'.cell? ⟨b1,o1+i * 5,none⟩=some (.int .i64 x.op)∧W'.cell? ⟨b1,o1+i * 5+1,none⟩=some (.string x.name)∧W'.cell? ⟨b1,o1+i * 5+2,none⟩=some (.int .i64 x.val)∧W'.cell? ⟨b1,o1+i * 5+3,none⟩=some (.int .i64 x.bound)∧W'.cell? ⟨b1,o1+i * 5+4,none⟩=some (.slice A1 x.args.length c1)∧W'.cell? ⟨b2,o2+i * 5,none⟩=some (.int .i64 y.op)∧W'.cell? ⟨b2,o2+i * 5+1,none⟩=some (.string y.name)∧W'.cell? ⟨b2,o2+i * 5+2,none⟩=some (.int .i64 y.val)∧W'.cell? ⟨b2,o2+i * 5+3,none⟩=some (.int .i64 y.bound)∧W'.cell? ⟨b2,o2+i * 5+4,none⟩=some (.slice A2 y.args.length c2)):=hid fun W' hb =>
       ⟨(hb.cell (p:=⟨w.heap.size,4,none⟩) xl).trans x4,(hb.cell (p:=⟨w.heap.size+1,4,none⟩) yl).trans y4,(hb.cell (p:=⟨b1,o1+i * 5,none⟩) xl').trans p0,(hb.cell (p:=⟨b1,o1+i * 5+1,none⟩) xl').trans p1,(hb.cell (p:=⟨b1,o1+i * 5+2,none⟩) xl').trans p2,(hb.cell (p:=⟨b1,o1+i * 5+3,none⟩) xl').trans p3,(hb.cell (p:=⟨b1,o1+i * 5+4,none⟩) xl').trans p4,(hb.cell (p:=⟨b2,o2+i * 5,none⟩) yl').trans q0,(hb.cell (p:=⟨b2,o2+i * 5+1,none⟩) yl').trans q1,(hb.cell (p:=⟨b2,o2+i * 5+2,none⟩) yl').trans q2,(hb.cell (p:=⟨b2,o2+i * 5+3,none⟩) yl').trans q3,(hb.cell (p:=⟨b2,o2+i * 5+4,none⟩) yl').trans q4⟩
      have HI1:=hid (show Below wr.heap.size wr wr.drew from (Below.refl _ _).drew)
      have HI2:=hid (show ∀ i,Below wr.heap.size wr (wr.drewN i) from fun i=>(qap.n wr i).below _)
      have hsn:nz (qba f g) (qd2 (f.args.take (i+1)) (g.args.take (i+1)))=x.cmp y:=by
       rw [qam f.args default hlt,qam g.args default hlt2,HX.out,HY.out,qe6 _ _ (by simp;omega),←qfb,←HCC.out];rfl
      have HSN:=hid hsn
      clear pa qa hsn hgl
      go_upto_region 15 with (fail)
      go_region_held3 (fun W':World=>W'.cell? ⟨w.heap.size,4,none⟩=some (.slice (some ⟨b1,o1,none⟩) f.args.length c)∧W'.cell? ⟨w.heap.size+1,4,none⟩=some (.slice (some ⟨b2,o2,none⟩) g.args.length c')∧W'.cell? ⟨b1,o1+i * 5,none⟩=some (.int .i64 x.op)∧W'.cell? ⟨b1,o1+i * 5+1,none⟩=some (.string x.name)∧W'.cell? ⟨b1,o1+i * 5+2,none⟩=some (.int .i64 x.val)∧W'.cell? ⟨b1,o1+i * 5+3,none⟩=some (.int .i64 x.bound)∧W'.cell? ⟨b1,o1+i * 5+4,none⟩=some (.slice A1 x.args.length c1)∧W'.cell? ⟨b2,o2+i * 5,none⟩=some (.int .i64 y.op)∧W'.cell? ⟨b2,o2+i * 5+1,none⟩=some (.string y.name)∧W'.cell? ⟨b2,o2+i * 5+2,none⟩=some (.int .i64 y.val)∧W'.cell? ⟨b2,o2+i * 5+3,none⟩=some (.int .i64 y.bound)∧W'.cell? ⟨b2,o2+i * 5+4,none⟩=some (.slice A2 y.args.length c2))
       (first | (with_reducible exact HCELL.out _ hI) | (go_keep;done))
       ((go_at_call 86;refine (HCALL.out _ (by first | exact HI1.out | exact HI2.out _)).mono ?_;rintro e W9 ⟨rfl,hI⟩))
      all_goals
       have HB9:=hid (HB.out.trans (hI.mono HB.out.size))
       clear hI x0 x1 x2 x3 x4 y0 y1 y2 y3 y4 p0 p1 p2 p3 p4 q0 q1 q2 q3 q4
       go_wp2_with fail
       go_roundw
       case rel=>exact ⟨i+1,by omega,by rw [HSN.out],by go_num,HB9.out⟩
       case measure=>simp [intOf];omega
     ·have hzz:(cc == 0)=false:=qac hz
      have hres:f.cmp g=cc:=by
       rw [cmp_eq]
       exact qja HCC.out hz
      have HRES:=hid hres
      clear hres
      go_wp2_with fail
      go_ret
      exact ⟨qas (by rw [HRES.out]),HBR.out⟩
    ·have hres:f.cmp g=cc:=by
      rw [cmp_eq,HCC.out,List.take_of_length_le (by omega)]
      by_cases hh:qba f g=0
      ·rw [List.take_of_length_le (by have:=qb3 hh;omega)]
      ·unfold nz;rw [if_neg hh,if_neg hh]
     have HRES:=hid hres
     clear hres
     go_wp2_with fail
     go_ret
     exact ⟨qas (by rw [HRES.out]),HBR.out⟩
 have Z2:=hid (show qkw f.name g.name=0 by unfold qkw;rw [hn];rfl)
 go_wp2_with fail
 refine (qh8 f.val g.val W).mono ?_
 rintro e w1 ⟨rfl,hw⟩
 subst w1
 obtain ⟨k3,hk3⟩ : ∃ k3,k3=qgj f.val g.val:=⟨_,rfl⟩
 rw [←hk3]
 by_cases z3:k3=0
 rotate_left
 ·have zz:(k3 == 0)=false:=qac z3
  have hhd:qba f g=k3:=by unfold qba;rw [Z1.out,qa7,Z2.out,qa7];unfold nz;rw [←hk3,if_neg z3]
  clear hk3
  have HHD:=hid hhd
  clear hhd
  go_upto_region 12 with (fail)
  go_wp2_with fail
  go_loopw [5,6] (fun s q wr => ∃ i:Nat,i≤f.args.length∧s = .int .i64 (nz (qba f g) (qd2 (f.args.take i) (g.args.take i)))∧q = .int .i64 (i:Int)∧Below W.heap.size W wr) (fun _ q _=>f.args.length - (intOf q).toNat)
  case atStart=>exact ⟨0,Nat.zero_le _,by simp only [List.take_zero,qd2,qgs];rw [HHD.out],rfl,Below.refl _ _⟩
  case round =>
   obtain ⟨i,hi,rfl,rfl,hb⟩:=hrel
   obtain ⟨x0,x1,x2,x3,x4,xl⟩:=(HBX.out.below hb).cells
   obtain ⟨y0,y1,y2,y3,y4,yl⟩:=(HBY.out.below hb).cells
   have HB:=hid hb
   have HBR:=hid (HBW.out.trans (hb.mono HBW.out.size))
   obtain ⟨cc,hcc⟩ : ∃ cc,cc=nz (qba f g) (qd2 (f.args.take i) (g.args.take i)):=⟨_,rfl⟩
   rw [←hcc]
   have HCC:=hid hcc
   clear hb hcc
   by_cases hlt:i < f.args.length
   ·have hii:(i:Int) < f.args.length:=by omega
    by_cases hz:cc=0
    ·subst hz
     have hgl:f.args.length=g.args.length:=qb3 (qcy HCC.out.symm)
     have hlt2:i < g.args.length:=by omega
     have hii2:(i:Int) < g.args.length:=by omega
     obtain ⟨b1,o1,A1,c1,x,rfl,HX,hx⟩:=(HA.out.keep (Keeps.of_below HBR.out fun _ h=>h)).get hlt
     obtain ⟨b2,o2,A2,c2,y,rfl,HY,hy⟩:=(HA2.out.keep (Keeps.of_below HBR.out fun _ h=>h)).get hlt2
     obtain ⟨xd,xl',p0,p1,p2,p3,p4,pa⟩:=hx
     obtain ⟨yd,yl',q0,q1,q2,q3,q4,qa⟩:=hy
     have HCALL:Hid (∀ W',Below wr.heap.size wr W'→Calls Tryz.prog 86 #[.agg #[.int .i64 x.op,.string x.name,.int .i64 x.val,.int .i64 x.bound,.slice A1 x.args.length c1],.agg #[.int .i64 y.op,.string y.name,.int .i64 y.val,.int .i64 y.bound,.slice A2 y.args.length c2]] W' fun e w'=>e = .returned (.int .i64 (x.cmp y))∧Below wr.heap.size wr w'):=hid fun W' hb=>by
      have:=HIH.out i hlt (D:=fun _=>True) (E:=fun _=>True) y _ _ W' (by rw [HX.out];exact ⟨A1,c1,rfl,pa.any hb⟩) ⟨A2,c2,rfl,qa.any hb⟩
      rw [HX.out] at this
      refine this.mono ?_
      rintro e w' ⟨rfl,hb'⟩
      exact ⟨rfl,hb.trans (hb'.mono hb.size)⟩
     have HCELL:Hid (∀ W':World,Below wr.heap.size wr W'→W'.cell? ⟨w.heap.size,4,none⟩=some (.slice (some ⟨b1,o1,none⟩) f.args.length c)∧W'.cell? ⟨w.heap.size+1,4,none⟩=some (.slice (some ⟨b2,o2,none⟩) g.args.length c')∧W'.cell? ⟨b1,o1+i * 5,none⟩=some (.int .i64 x.op)∧W'.cell? ⟨b1,o1+i * 5+1,none⟩=some (.string x.name)∧W'.cell? ⟨b1,o1+i * 5+2,none⟩=some (.int .i64 x.val)∧W'.cell? ⟨b1,o1+i * 5+3,none⟩=some (.int .i64 x.bound)∧W'.cell? ⟨b1,o1+i * 5+4,none⟩=some (.slice A1 x.args.length c1)∧W'.cell? ⟨b2,o2+i * 5,none⟩=some (.int .i64 y.op)∧W'.cell? ⟨b2,o2+i * 5+1,none⟩=some (.string y.name)∧W'.cell? ⟨b2,o2+i * 5+2,none⟩=some (.int .i64 y.val)∧W'.cell? ⟨b2,o2+i * 5+3,none⟩=some (.int .i64 y.bound)∧W'.cell? ⟨b2,o2+i * 5+4,none⟩=some (.slice A2 y.args.length c2)):=hid fun W' hb =>
      ⟨(hb.cell (p:=⟨w.heap.size,4,none⟩) xl).trans x4,(hb.cell (p:=⟨w.heap.size+1,4,none⟩) yl).trans y4,(hb.cell (p:=⟨b1,o1+i * 5,none⟩) xl').trans p0,(hb.cell (p:=⟨b1,o1+i * 5+1,none⟩) xl').trans p1,(hb.cell (p:=⟨b1,o1+i * 5+2,none⟩) xl').trans p2,(hb.cell (p:=⟨b1,o1+i * 5+3,none⟩) xl').trans p3,(hb.cell (p:=⟨b1,o1+i * 5+4,none⟩) xl').trans p4,(hb.cell (p:=⟨b2,o2+i * 5,none⟩) yl').trans q0,(hb.cell (p:=⟨b2,o2+i * 5+1,none⟩) yl').trans q1,(hb.cell (p:=⟨b2,o2+i * 5+2,none⟩) yl').trans q2,(hb.cell (p:=⟨b2,o2+i * 5+3,none⟩) yl').trans q3,(hb.cell (p:=⟨b2,o2+i * 5+4,none⟩) yl').trans q4⟩
     have HI1:=hid (show Below wr.heap.size wr wr.drew from (Below.refl _ _).drew)
     have HI2:=hid (show ∀ i,Below wr.heap.size wr (wr.drewN i) from fun i=>(qap.n wr i).below _)
     have hsn:nz (qba f g) (qd2 (f.args.take (i+1)) (g.args.take (i+1)))=x.cmp y:=by
      rw [qam f.args default hlt,qam g.args default hlt2,HX.out,HY.out,qe6 _ _ (by simp;omega),←qfb,←HCC.out];rfl
     have HSN:=hid hsn
     clear pa qa hsn hgl
     go_upto_region 15 with (fail)
     go_region_held3 (fun W':World=>W'.cell? ⟨w.heap.size,4,none⟩=some (.slice (some ⟨b1,o1,none⟩) f.args.length c)∧W'.cell? ⟨w.heap.size+1,4,none⟩=some (.slice (some ⟨b2,o2,none⟩) g.args.length c')∧W'.cell? ⟨b1,o1+i * 5,none⟩=some (.int .i64 x.op)∧W'.cell? ⟨b1,o1+i * 5+1,none⟩=some (.string x.name)∧W'.cell? ⟨b1,o1+i * 5+2,none⟩=some (.int .i64 x.val)∧W'.cell? ⟨b1,o1+i * 5+3,none⟩=some (.int .i64 x.bound)∧W'.cell? ⟨b1,o1+i * 5+4,none⟩=some (.slice A1 x.args.length c1)∧W'.cell? ⟨b2,o2+i * 5,none⟩=some (.int .i64 y.op)∧W'.cell? ⟨b2,o2+i * 5+1,none⟩=some (.string y.name)∧W'.cell? ⟨b2,o2+i * 5+2,none⟩=some (.int .i64 y.val)∧W'.cell? ⟨b2,o2+i * 5+3,none⟩=some (.int .i64 y.bound)∧W'.cell? ⟨b2,o2+i * 5+4,none⟩=some (.slice A2 y.args.length c2))
      (first | (with_reducible exact HCELL.out _ hI) | (go_keep;done))
      ((go_at_call 86;refine (HCALL.out _ (by first | exact HI1.out | exact HI2.out _)).mono ?_;rintro e W9 ⟨rfl,hI⟩))
     all_goals
      have HB9:=hid (HB.out.trans (hI.mono HB.out.size))
      clear hI x0 x1 x2 x3 x4 y0 y1 y2 y3 y4 p0 p1 p2 p3 p4 q0 q1 q2 q3 q4
      go_wp2_with fail
      go_roundw
      case rel=>exact ⟨i+1,by omega,by rw [HSN.out],by go_num,HB9.out⟩
      case measure=>simp [intOf];omega
    ·have hzz:(cc == 0)=false:=qac hz
     have hres:f.cmp g=cc:=by
      rw [cmp_eq]
      exact qja HCC.out hz
     have HRES:=hid hres
     clear hres
     go_wp2_with fail
     go_ret
     exact ⟨qas (by rw [HRES.out]),HBR.out⟩
   ·have hres:f.cmp g=cc:=by
     rw [cmp_eq,HCC.out,List.take_of_length_le (by omega)]
     by_cases hh:qba f g=0
     ·rw [List.take_of_length_le (by have:=qb3 hh;omega)]
     ·unfold nz;rw [if_neg hh,if_neg hh]
    have HRES:=hid hres
    clear hres
    go_wp2_with fail
    go_ret
    exact ⟨qas (by rw [HRES.out]),HBR.out⟩
 subst z3
 have Z3:=hid hk3.symm
 clear hk3
 go_wp2_with fail
 refine (qh8 f.bound g.bound W).mono ?_
 rintro e w1 ⟨rfl,hw⟩
 subst w1
 obtain ⟨k4,hk4⟩ : ∃ k4,k4=qgj f.bound g.bound:=⟨_,rfl⟩
 rw [←hk4]
 by_cases z4:k4=0
 rotate_left
 ·have zz:(k4 == 0)=false:=qac z4
  have hhd:qba f g=k4:=by unfold qba;rw [Z1.out,qa7,Z2.out,qa7,Z3.out,qa7];unfold nz;rw [←hk4,if_neg z4]
  clear hk4
  have HHD:=hid hhd
  clear hhd
  go_upto_region 12 with (fail)
  go_wp2_with fail
  go_loopw [5,6] (fun s q wr => ∃ i:Nat,i≤f.args.length∧s = .int .i64 (nz (qba f g) (qd2 (f.args.take i) (g.args.take i)))∧q = .int .i64 (i:Int)∧Below W.heap.size W wr) (fun _ q _=>f.args.length - (intOf q).toNat)
  case atStart=>exact ⟨0,Nat.zero_le _,by simp only [List.take_zero,qd2,qgs];rw [HHD.out],rfl,Below.refl _ _⟩
  case round =>
   obtain ⟨i,hi,rfl,rfl,hb⟩:=hrel
   obtain ⟨x0,x1,x2,x3,x4,xl⟩:=(HBX.out.below hb).cells
   obtain ⟨y0,y1,y2,y3,y4,yl⟩:=(HBY.out.below hb).cells
   have HB:=hid hb
   have HBR:=hid (HBW.out.trans (hb.mono HBW.out.size))
   obtain ⟨cc,hcc⟩ : ∃ cc,cc=nz (qba f g) (qd2 (f.args.take i) (g.args.take i)):=⟨_,rfl⟩
   rw [←hcc]
   have HCC:=hid hcc
   clear hb hcc
   by_cases hlt:i < f.args.length
   ·have hii:(i:Int) < f.args.length:=by omega
    by_cases hz:cc=0
    ·subst hz
     have hgl:f.args.length=g.args.length:=qb3 (qcy HCC.out.symm)
     have hlt2:i < g.args.length:=by omega
     have hii2:(i:Int) < g.args.length:=by omega
     obtain ⟨b1,o1,A1,c1,x,rfl,HX,hx⟩:=(HA.out.keep (Keeps.of_below HBR.out fun _ h=>h)).get hlt
     obtain ⟨b2,o2,A2,c2,y,rfl,HY,hy⟩:=(HA2.out.keep (Keeps.of_below HBR.out fun _ h=>h)).get hlt2
     obtain ⟨xd,xl',p0,p1,p2,p3,p4,pa⟩:=hx
     obtain ⟨yd,yl',q0,q1,q2,q3,q4,qa⟩:=hy
     have HCALL:Hid (∀ W',Below wr.heap.size wr W'→Calls Tryz.prog 86 #[.agg #[.int .i64 x.op,.string x.name,.int .i64 x.val,.int .i64 x.bound,.slice A1 x.args.length c1],.agg #[.int .i64 y.op,.string y.name,.int .i64 y.val,.int .i64 y.bound,.slice A2 y.args.length c2]] W' fun e w'=>e = .returned (.int .i64 (x.cmp y))∧Below wr.heap.size wr w'):=hid fun W' hb=>by
      have:=HIH.out i hlt (D:=fun _=>True) (E:=fun _=>True) y _ _ W' (by rw [HX.out];exact ⟨A1,c1,rfl,pa.any hb⟩) ⟨A2,c2,rfl,qa.any hb⟩
      rw [HX.out] at this
      refine this.mono ?_
      rintro e w' ⟨rfl,hb'⟩
      exact ⟨rfl,hb.trans (hb'.mono hb.size)⟩
     have HCELL:Hid (∀ W':World,Below wr.heap.size wr W'→W'.cell? ⟨w.heap.size,4,none⟩=some (.slice (some ⟨b1,o1,none⟩) f.args.length c)∧W'.cell? ⟨w.heap.size+1,4,none⟩=some (.slice (some ⟨b2,o2,none⟩) g.args.length c')∧W'.cell? ⟨b1,o1+i * 5,none⟩=some (.int .i64 x.op)∧W'.cell? ⟨b1,o1+i * 5+1,none⟩=some (.string x.name)∧W'.cell? ⟨b1,o1+i * 5+2,none⟩=some (.int .i64 x.val)∧W'.cell? ⟨b1,o1+i * 5+3,none⟩=some (.int .i64 x.bound)∧W'.cell? ⟨b1,o1+i * 5+4,none⟩=some (.slice A1 x.args.length c1)∧W'.cell? ⟨b2,o2+i * 5,none⟩=some (.int .i64 y.op)∧W'.cell? ⟨b2,o2+i * 5+1,none⟩=some (.string y.name)∧W'.cell? ⟨b2,o2+i * 5+2,none⟩=some (.int .i64 y.val)∧W'.cell? ⟨b2,o2+i * 5+3,none⟩=some (.int .i64 y.bound)∧W'.cell? ⟨b2,o2+i * 5+4,none⟩=some (.slice A2 y.args.length c2)):=hid fun W' hb =>
      ⟨(hb.cell (p:=⟨w.heap.size,4,none⟩) xl).trans x4,(hb.cell (p:=⟨w.heap.size+1,4,none⟩) yl).trans y4,(hb.cell (p:=⟨b1,o1+i * 5,none⟩) xl').trans p0,(hb.cell (p:=⟨b1,o1+i * 5+1,none⟩) xl').trans p1,(hb.cell (p:=⟨b1,o1+i * 5+2,none⟩) xl').trans p2,(hb.cell (p:=⟨b1,o1+i * 5+3,none⟩) xl').trans p3,(hb.cell (p:=⟨b1,o1+i * 5+4,none⟩) xl').trans p4,(hb.cell (p:=⟨b2,o2+i * 5,none⟩) yl').trans q0,(hb.cell (p:=⟨b2,o2+i * 5+1,none⟩) yl').trans q1,(hb.cell (p:=⟨b2,o2+i * 5+2,none⟩) yl').trans q2,(hb.cell (p:=⟨b2,o2+i * 5+3,none⟩) yl').trans q3,(hb.cell (p:=⟨b2,o2+i * 5+4,none⟩) yl').trans q4⟩
     have HI1:=hid (show Below wr.heap.size wr wr.drew from (Below.refl _ _).drew)
     have HI2:=hid (show ∀ i,Below wr.heap.size wr (wr.drewN i) from fun i=>(qap.n wr i).below _)
     have hsn:nz (qba f g) (qd2 (f.args.take (i+1)) (g.args.take (i+1)))=x.cmp y:=by
      rw [qam f.args default hlt,qam g.args default hlt2,HX.out,HY.out,qe6 _ _ (by simp;omega),←qfb,←HCC.out];rfl
     have HSN:=hid hsn
     clear pa qa hsn hgl
     go_upto_region 15 with (fail)
     go_region_held3 (fun W':World=>W'.cell? ⟨w.heap.size,4,none⟩=some (.slice (some ⟨b1,o1,none⟩) f.args.length c)∧W'.cell? ⟨w.heap.size+1,4,none⟩=some (.slice (some ⟨b2,o2,none⟩) g.args.length c')∧W'.cell? ⟨b1,o1+i * 5,none⟩=some (.int .i64 x.op)∧W'.cell? ⟨b1,o1+i * 5+1,none⟩=some (.string x.name)∧W'.cell? ⟨b1,o1+i * 5+2,none⟩=some (.int .i64 x.val)∧W'.cell? ⟨b1,o1+i * 5+3,none⟩=some (.int .i64 x.bound)∧W'.cell? ⟨b1,o1+i * 5+4,none⟩=some (.slice A1 x.args.length c1)∧W'.cell? ⟨b2,o2+i * 5,none⟩=some (.int .i64 y.op)∧W'.cell? ⟨b2,o2+i * 5+1,none⟩=some (.string y.name)∧W'.cell? ⟨b2,o2+i * 5+2,none⟩=some (.int .i64 y.val)∧W'.cell? ⟨b2,o2+i * 5+3,none⟩=some (.int .i64 y.bound)∧W'.cell? ⟨b2,o2+i * 5+4,none⟩=some (.slice A2 y.args.length c2))
      (first | (with_reducible exact HCELL.out _ hI) | (go_keep;done))
      ((go_at_call 86;refine (HCALL.out _ (by first | exact HI1.out | exact HI2.out _)).mono ?_;rintro e W9 ⟨rfl,hI⟩))
     all_goals
      have HB9:=hid (HB.out.trans (hI.mono HB.out.size))
      clear hI x0 x1 x2 x3 x4 y0 y1 y2 y3 y4 p0 p1 p2 p3 p4 q0 q1 q2 q3 q4
      go_wp2_with fail
      go_roundw
      case rel=>exact ⟨i+1,by omega,by rw [HSN.out],by go_num,HB9.out⟩
      case measure=>simp [intOf];omega
    ·have hzz:(cc == 0)=false:=qac hz
     have hres:f.cmp g=cc:=by
      rw [cmp_eq]
      exact qja HCC.out hz
     have HRES:=hid hres
     clear hres
     go_wp2_with fail
     go_ret
     exact ⟨qas (by rw [HRES.out]),HBR.out⟩
   ·have hres:f.cmp g=cc:=by
     rw [cmp_eq,HCC.out,List.take_of_length_le (by omega)]
     by_cases hh:qba f g=0
     ·rw [List.take_of_length_le (by have:=qb3 hh;omega)]
     ·unfold nz;rw [if_neg hh,if_neg hh]
    have HRES:=hid hres
    clear hres
    go_wp2_with fail
    go_ret
    exact ⟨qas (by rw [HRES.out]),HBR.out⟩
 subst z4
 have Z4:=hid hk4.symm
 clear hk4
 go_wp2_with fail
 refine (qh8 (f.args.length:Int) (g.args.length:Int) W).mono ?_
 rintro e w1 ⟨rfl,hw⟩
 subst w1
 obtain ⟨k5,hk5⟩ : ∃ k5,k5=qgj (f.args.length:Int) (g.args.length:Int):=⟨_,rfl⟩
 rw [←hk5]
 have hhd:qba f g=k5:=by unfold qba;rw [Z1.out,qa7,Z2.out,qa7,Z3.out,qa7,Z4.out,qa7,hk5]
 clear hk5
 have HHD:=hid hhd
 clear hhd
 go_upto_region 12 with (fail)
 go_wp2_with fail
 go_loopw [5,6] (fun s q wr => ∃ i:Nat,i≤f.args.length∧s = .int .i64 (nz (qba f g) (qd2 (f.args.take i) (g.args.take i)))∧q = .int .i64 (i:Int)∧Below W.heap.size W wr) (fun _ q _=>f.args.length - (intOf q).toNat)
 case atStart=>exact ⟨0,Nat.zero_le _,by simp only [List.take_zero,qd2,qgs];rw [HHD.out],rfl,Below.refl _ _⟩
 case round =>
  obtain ⟨i,hi,rfl,rfl,hb⟩:=hrel
  obtain ⟨x0,x1,x2,x3,x4,xl⟩:=(HBX.out.below hb).cells
  obtain ⟨y0,y1,y2,y3,y4,yl⟩:=(HBY.out.below hb).cells
  have HB:=hid hb
  have HBR:=hid (HBW.out.trans (hb.mono HBW.out.size))
  obtain ⟨cc,hcc⟩ : ∃ cc,cc=nz (qba f g) (qd2 (f.args.take i) (g.args.take i)):=⟨_,rfl⟩
  rw [←hcc]
  have HCC:=hid hcc
  clear hb hcc
  by_cases hlt:i < f.args.length
  ·have hii:(i:Int) < f.args.length:=by omega
   by_cases hz:cc=0
   ·subst hz
    have hgl:f.args.length=g.args.length:=qb3 (qcy HCC.out.symm)
    have hlt2:i < g.args.length:=by omega
    have hii2:(i:Int) < g.args.length:=by omega
    obtain ⟨b1,o1,A1,c1,x,rfl,HX,hx⟩:=(HA.out.keep (Keeps.of_below HBR.out fun _ h=>h)).get hlt
    obtain ⟨b2,o2,A2,c2,y,rfl,HY,hy⟩:=(HA2.out.keep (Keeps.of_below HBR.out fun _ h=>h)).get hlt2
    obtain ⟨xd,xl',p0,p1,p2,p3,p4,pa⟩:=hx
    obtain ⟨yd,yl',q0,q1,q2,q3,q4,qa⟩:=hy
    have HCALL:Hid (∀ W',Below wr.heap.size wr W'→Calls Tryz.prog 86 #[.agg #[.int .i64 x.op,.string x.name,.int .i64 x.val,.int .i64 x.bound,.slice A1 x.args.length c1],.agg #[.int .i64 y.op,.string y.name,.int .i64 y.val,.int .i64 y.bound,.slice A2 y.args.length c2]] W' fun e w'=>e = .returned (.int .i64 (x.cmp y))∧Below wr.heap.size wr w'):=hid fun W' hb=>by
     have:=HIH.out i hlt (D:=fun _=>True) (E:=fun _=>True) y _ _ W' (by rw [HX.out];exact ⟨A1,c1,rfl,pa.any hb⟩) ⟨A2,c2,rfl,qa.any hb⟩
     rw [HX.out] at this
     refine this.mono ?_
     rintro e w' ⟨rfl,hb'⟩
     exact ⟨rfl,hb.trans (hb'.mono hb.size)⟩
    have HCELL:Hid (∀ W':World,Below wr.heap.size wr W'→W'.cell? ⟨w.heap.size,4,none⟩=some (.slice (some ⟨b1,o1,none⟩) f.args.length c)∧W'.cell? ⟨w.heap.size+1,4,none⟩=some (.slice (some ⟨b2,o2,none⟩) g.args.length c')∧W'.cell? ⟨b1,o1+i * 5,none⟩=some (.int .i64 x.op)∧W'.cell? ⟨b1,o1+i * 5+1,none⟩=some (.string x.name)∧W'.cell? ⟨b1,o1+i * 5+2,none⟩=some (.int .i64 x.val)∧W'.cell? ⟨b1,o1+i * 5+3,none⟩=some (.int .i64 x.bound)∧W'.cell? ⟨b1,o1+i * 5+4,none⟩=some (.slice A1 x.args.length c1)∧W'.cell? ⟨b2,o2+i * 5,none⟩=some (.int .i64 y.op)∧W'.cell? ⟨b2,o2+i * 5+1,none⟩=some (.string y.name)∧W'.cell? ⟨b2,o2+i * 5+2,none⟩=some (.int .i64 y.val)∧W'.cell? ⟨b2,o2+i * 5+3,none⟩=some (.int .i64 y.bound)∧W'.cell? ⟨b2,o2+i * 5+4,none⟩=some (.slice A2 y.args.length c2)):=hid fun W' hb =>
     ⟨(hb.cell (p:=⟨w.heap.size,4,none⟩) xl).trans x4,(hb.cell (p:=⟨w.heap.size+1,4,none⟩) yl).trans y4,(hb.cell (p:=⟨b1,o1+i * 5,none⟩) xl').trans p0,(hb.cell (p:=⟨b1,o1+i * 5+1,none⟩) xl').trans p1,(hb.cell (p:=⟨b1,o1+i * 5+2,none⟩) xl').trans p2,(hb.cell (p:=⟨b1,o1+i * 5+3,none⟩) xl').trans p3,(hb.cell (p:=⟨b1,o1+i * 5+4,none⟩) xl').trans p4,(hb.cell (p:=⟨b2,o2+i * 5,none⟩) yl').trans q0,(hb.cell (p:=⟨b2,o2+i * 5+1,none⟩) yl').trans q1,(hb.cell (p:=⟨b2,o2+i * 5+2,none⟩) yl').trans q2,(hb.cell (p:=⟨b2,o2+i * 5+3,none⟩) yl').trans q3,(hb.cell (p:=⟨b2,o2+i * 5+4,none⟩) yl').trans q4⟩
    have HI1:=hid (show Below wr.heap.size wr wr.drew from (Below.refl _ _).drew)
    have HI2:=hid (show ∀ i,Below wr.heap.size wr (wr.drewN i) from fun i=>(qap.n wr i).below _)
    have hsn:nz (qba f g) (qd2 (f.args.take (i+1)) (g.args.take (i+1)))=x.cmp y:=by
     rw [qam f.args default hlt,qam g.args default hlt2,HX.out,HY.out,qe6 _ _ (by simp;omega),←qfb,←HCC.out];rfl
    have HSN:=hid hsn
    clear pa qa hsn hgl
    go_upto_region 15 with (fail)
    go_region_held3 (fun W':World=>W'.cell? ⟨w.heap.size,4,none⟩=some (.slice (some ⟨b1,o1,none⟩) f.args.length c)∧W'.cell? ⟨w.heap.size+1,4,none⟩=some (.slice (some ⟨b2,o2,none⟩) g.args.length c')∧W'.cell? ⟨b1,o1+i * 5,none⟩=some (.int .i64 x.op)∧W'.cell? ⟨b1,o1+i * 5+1,none⟩=some (.string x.name)∧W'.cell? ⟨b1,o1+i * 5+2,none⟩=some (.int .i64 x.val)∧W'.cell? ⟨b1,o1+i * 5+3,none⟩=some (.int .i64 x.bound)∧W'.cell? ⟨b1,o1+i * 5+4,none⟩=some (.slice A1 x.args.length c1)∧W'.cell? ⟨b2,o2+i * 5,none⟩=some (.int .i64 y.op)∧W'.cell? ⟨b2,o2+i * 5+1,none⟩=some (.string y.name)∧W'.cell? ⟨b2,o2+i * 5+2,none⟩=some (.int .i64 y.val)∧W'.cell? ⟨b2,o2+i * 5+3,none⟩=some (.int .i64 y.bound)∧W'.cell? ⟨b2,o2+i * 5+4,none⟩=some (.slice A2 y.args.length c2))
     (first | (with_reducible exact HCELL.out _ hI) | (go_keep;done))
     ((go_at_call 86;refine (HCALL.out _ (by first | exact HI1.out | exact HI2.out _)).mono ?_;rintro e W9 ⟨rfl,hI⟩))
    all_goals
     have HB9:=hid (HB.out.trans (hI.mono HB.out.size))
     clear hI x0 x1 x2 x3 x4 y0 y1 y2 y3 y4 p0 p1 p2 p3 p4 q0 q1 q2 q3 q4
     go_wp2_with fail
     go_roundw
     case rel=>exact ⟨i+1,by omega,by rw [HSN.out],by go_num,HB9.out⟩
     case measure=>simp [intOf];omega
   ·have hzz:(cc == 0)=false:=qac hz
    have hres:f.cmp g=cc:=by
     rw [cmp_eq]
     exact qja HCC.out hz
    have HRES:=hid hres
    clear hres
    go_wp2_with fail
    go_ret
    exact ⟨qas (by rw [HRES.out]),HBR.out⟩
  ·have hres:f.cmp g=cc:=by
    rw [cmp_eq,HCC.out,List.take_of_length_le (by omega)]
    by_cases hh:qba f g=0
    ·rw [List.take_of_length_le (by have:=qb3 hh;omega)]
    ·unfold nz;rw [if_neg hh,if_neg hh]
   have HRES:=hid hres
   clear hres
   go_wp2_with fail
   go_ret
   exact ⟨qas (by rw [HRES.out]),HBR.out⟩
end Go.Proofs.YtdpbgcmfeajigaaGreatDoor
