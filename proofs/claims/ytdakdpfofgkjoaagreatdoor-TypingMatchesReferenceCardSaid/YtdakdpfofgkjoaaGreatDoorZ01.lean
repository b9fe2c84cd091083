/-
  Walk of the reference: Compare.
-/
import Derived.Test.YtdakdpfofgkjoaaGreatDoorZ00
set_option linter.unusedSimpArgs false
set_option linter.unusedVariables false
set_option maxHeartbeats 8000000
set_option maxRecDepth 100000
namespace Go.Proofs.YtdakdpfofgkjoaaGreatDoor
open Go.RowKit
attribute [local go_sem] qad
def nz (c d:Int):Int:=if c=0 then d else c
theorem qhb (c:Int):nz c 0=c:=by unfold nz;split <;> simp_all
theorem qbk (c:Int):nz 0 c=c:=rfl
theorem qfp (a b c:Int):nz (nz a b) c=nz a (nz b c):=by unfold nz;by_cases h:a=0 <;> simp [h]
theorem qdn {a b:Int} (h:nz a b=0):a=0:=by unfold nz at h;by_cases e:a=0 <;> simp_all
def qli (a b:ByteArray):Int:=if a.toList == b.toList then 0 else if Op.bytesLess a.toList b.toList then -1 else 1
def qbp (f g:Fm):Int:=nz (qgy f.op g.op) (nz (qli f.name g.name) (nz (qgy f.val g.val) (nz (qgy f.bound g.bound) (qgy f.args.length g.args.length))))
mutual
def Fm.cmp:Fm→Fm→Int
 | .mk o n v b l,.mk o' n' v' b' l'=>nz (nz (qgy o o') (nz (qli n n') (nz (qgy v v') (nz (qgy b b') (qgy l.length l'.length))))) (qef l l')
def qef:List Fm→List Fm→Int
 | f :: l,g :: m=>nz (f.cmp g) (qef l m)
 | [],_=>0
 | _ :: _,[]=>0
end
theorem cmp_eq (f g:Fm):f.cmp g=nz (qbp f g) (qef f.args g.args):=by cases f;cases g;simp only [Fm.cmp,qbp,Fm.op,Fm.name,Fm.val,Fm.bound,Fm.args]
theorem qfj : ∀ (l m:List Fm) {f g:Fm},l.length=m.length→qef (l ++ [f]) (m ++ [g])=nz (qef l m) (f.cmp g)
 | [],[],f,g,_=>by simp [qef,qbk,qhb]
 | x :: l,y :: m,f,g,h=>by
  have:=qfj l m (f:=f) (g:=g) (by simpa using h)
  simp only [List.cons_append,qef,this,qfp]
 | [],y :: m,_,_,h=>by cases h
 | x :: l,[],_,_,h=>by cases h
theorem qdp {a b:Int} : qgy a b=0 ↔ a=b:=by
 unfold qgy
 by_cases h1:a < b
 ·rw [if_pos h1];omega
 ·rw [if_neg h1]
  by_cases h2:b < a
  ·rw [if_pos h2];omega
  ·rw [if_neg h2];omega
theorem qcl {f g:Fm} (h:qbp f g=0):f.args.length=g.args.length:=by
 unfold qbp at h
 have h1:=qdn h
 rw [h1,qbk] at h
 have h2:=qdn h
 rw [h2,qbk] at h
 have h3:=qdn h
 rw [h3,qbk] at h
 have h4:=qdn h
 rw [h4,qbk] at h
 have:=qdp.1 h
 omega
theorem cmps_take : ∀ (l m:List Fm) (i:Nat),qef (l.take i) (m.take i)≠0→qef l m=qef (l.take i) (m.take i)
 | [],_,_,h=>by simp [qef] at h
 | _ :: _,[],0,h=>by simp [qef] at h
 | _ :: _,[],_+1,h=>by simp [qef] at h
 | _ :: _,_ :: _,0,h=>by simp [qef] at h
 | x :: l,y :: m,i+1,h=>by
  simp only [List.take_succ_cons,qef] at h ⊢
  unfold nz at h ⊢
  by_cases e:x.cmp y=0
  ·rw [if_pos e] at h
   rw [if_pos e,if_pos e]
   exact cmps_take l m i h
  ·rw [if_neg e,if_neg e]
theorem qjt {f g:Fm} {i:Nat} {cc:Int} (h:cc=nz (qbp f g) (qef (f.args.take i) (g.args.take i))) (hz:cc≠0):nz (qbp f g) (qef f.args g.args)=cc:=by
 rw [h] at hz ⊢
 unfold nz at hz ⊢
 by_cases e:qbp f g=0
 ·rw [if_pos e] at hz
  rw [if_pos e,if_pos e]
  exact cmps_take _ _ _ hz
 ·rw [if_neg e,if_neg e]
theorem rcmp_any (f:Fm) : ∀ {D E:Dom} (g:Fm) (v v':Value) (w:World) (h:qby w D v f) (h':qby w E v' g),
  Calls Tryz.prog 44 #[v,v'] w fun e w'=>e = .returned (.int .i64 (f.cmp g))∧Below w.heap.size w w':=by
 refine Fm.induct (P:=fun f => ∀ {D E:Dom} (g:Fm) (v v':Value) (w:World) (h:qby w D v f) (h':qby w E v' g),Calls Tryz.prog 44 #[v,v'] w fun e w'=>e = .returned (.int .i64 (f.cmp g))∧Below w.heap.size w w') ?_ f
 intro f ih D E g v v' w h h'
 have HIH:=hid ih
 obtain ⟨A,c,rfl,ha⟩:=h
 obtain ⟨A',c',rfl,ha'⟩:=h'
 have HA:=hid ha.old
 have HA2:=hid ha'.old
 have hal:=ha.len.1
 have hal':=ha'.len.1
 clear ih ha ha'
 go_enter Tryz.func44,Tryz.ntmps44
 go_upto_region 1 with (fail)
 refine qai fun W hW => ?_
 obtain ⟨w1,h1⟩ : ∃ w1,w1=w.alloc (.cells #[.int .i64 f.op,.string f.name,.int .i64 f.val,.int .i64 f.bound,.slice A f.args.length c] 28):=⟨_,rfl⟩
 have s1:w1.heap.size=w.heap.size+1:=by rw [h1];simp
 have b1:Below w.heap.size w w1:=by rw [h1];go_grown
 have m1:qdd w1 w.heap.size f A c:=by rw [h1];exact qdd.new w f A c
 rw [←h1] at hW
 have b2:Below w1.heap.size w1 W:=by rw [hW];go_grown
 have HBX:=hid (m1.below b2)
 have HBY:=hid (show qdd W (w.heap.size+1) g A' c' by rw [hW,←s1];exact qdd.new w1 g A' c')
 have HBW:=hid (b1.trans (b2.mono b1.size))
 obtain ⟨x0,x1,x2,x3,x4,xl⟩:=HBX.out.cells
 obtain ⟨y0,y1,y2,y3,y4,yl⟩:=HBY.out.cells
 clear hW h1 s1 b1 m1 b2
 go_wp2_with fail
 refine (qis f.op g.op W).mono ?_
 rintro e w1 ⟨rfl,hw⟩
 subst w1
 obtain ⟨k1,hk1⟩ : ∃ k1,k1=qgy f.op g.op:=⟨_,rfl⟩
 rw [←hk1]
 by_cases z1:k1=0
 rotate_left
 ·have zz:(k1 == 0)=false:=qaf z1
  have hhd:qbp f g=k1:=by unfold qbp nz;rw [←hk1,if_neg z1]
  clear hk1
  have HHD:=hid hhd
  clear hhd
  go_upto_region 12 with (fail)
  go_wp2_with fail
  go_loopw [5,6] (fun s q wr => ∃ i:Nat,i≤f.args.length∧s = .int .i64 (nz (qbp f g) (qef (f.args.take i) (g.args.take i)))∧q = .int .i64 (i:Int)∧Below W.heap.size W wr) (fun _ q _=>f.args.length - (intOf q).toNat)
  case atStart=>exact ⟨0,Nat.zero_le _,by simp only [List.take_zero,qef,qhb];rw [HHD.out],rfl,Below.refl _ _⟩
  case round =>
   obtain ⟨i,hi,rfl,rfl,hb⟩:=hrel
   obtain ⟨x0,x1,x2,x3,x4,xl⟩:=(HBX.out.below hb).cells
   obtain ⟨y0,y1,y2,y3,y4,yl⟩:=(HBY.out.below hb).cells
   have HB:=hid hb
   have HBR:=hid (HBW.out.trans (hb.mono HBW.out.size))
   obtain ⟨cc,hcc⟩ : ∃ cc,cc=nz (qbp f g) (qef (f.args.take i) (g.args.take i)):=⟨_,rfl⟩
   rw [←hcc]
   have HCC:=hid hcc
   clear hb hcc
   by_cases hlt:i < f.args.length
   ·have hii:(i:Int) < f.args.length:=by omega
    by_cases hz:cc=0
    ·subst hz
     have hgl:f.args.length=g.args.length:=qcl (qdn HCC.out.symm)
     have hlt2:i < g.args.length:=by omega
     have hii2:(i:Int) < g.args.length:=by omega
     obtain ⟨b1,o1,A1,c1,x,rfl,HX,hx⟩:=(HA.out.keep (Keeps.of_below HBR.out fun _ h=>h)).get hlt
     obtain ⟨b2,o2,A2,c2,y,rfl,HY,hy⟩:=(HA2.out.keep (Keeps.of_below HBR.out fun _ h=>h)).get hlt2
     obtain ⟨xd,xl',p0,p1,p2,p3,p4,pa⟩:=hx
     obtain ⟨yd,yl',q0,q1,q2,q3,q4,qa⟩:=hy
     have HCALL:Hid (∀ W',Below wr.heap.size wr W'→Calls Tryz.prog 44 #[.agg #[.int .i64 x.op,.string x.name,.int .i64 x.val,.int .i64 x.bound,.slice A1 x.args.length c1],.agg #[.int .i64 y.op,.string y.name,.int .i64 y.val,.int .i64 y.bound,.slice A2 y.args.length c2]] W' fun e w'=>e = .returned (.int .i64 (x.cmp y))∧Below wr.heap.size wr w'):=hid fun W' hb=>by
      have:=HIH.out i hlt (D:=fun _=>True) (E:=fun _=>True) y _ _ W' (by rw [HX.out];exact ⟨A1,c1,rfl,pa.any hb⟩) ⟨A2,c2,rfl,qa.any hb⟩
      rw [HX.out] at this
      refine this.mono ?_
      rintro e w' ⟨rfl,hb'⟩
      exact ⟨rfl,hb.trans (hb'.mono hb.size)⟩
     have HCELL:Hid (∀ W':World,Below wr.heap.size wr W'→W'.cell? ⟨w.heap.size,4,none⟩=some (.slice (some ⟨b1,o1,none⟩) f.args.length c)∧W'.cell? ⟨w.heap.size+1,4,none⟩=some (.slice (some ⟨b2,o2,none⟩) g.args.length c')∧W'.cell? ⟨b1,o1+i * 5,none⟩=some (.int .i64 x.op)∧W'.cell? ⟨b1,o1+i * 5+1,none⟩=some (.string x.name)∧W'.cell? ⟨b1,o1+i * 5+2,none⟩=some (.int .i64 x.val)∧W'.cell? ⟨b1,o1+i * 5+3,none⟩=some (.int .i64 x.bound)∧W'.cell? ⟨b1,o1+i * 5+4,none⟩=some (.slice A1 x.args.length c1)∧W'.cell? ⟨b2,o2+i * 5,none⟩=some (.int .i64 y.op)∧W'.cell? ⟨b2,o2+i * 5+1,none⟩=some (.string y.name)∧W'.cell? ⟨b2,o2+i * 5+2,none⟩=some (.int .i64 y.val)∧W'.cell? ⟨b2,o2+i * 5+3,none⟩=some (.int .i64 y.bound)∧W'.cell? ⟨b2,o2+i * 5+4,none⟩=some (.slice A2 y.args.length c2)):=hid fun W' hb =>
      ⟨(hb.cell (p:=⟨w.heap.size,4,none⟩) xl).trans x4,(hb.cell (p:=⟨w.heap.size+1,4,none⟩) yl).trans y4,(hb.cell (p:=⟨b1,o1+i * 5,none⟩) xl').trans p0,(hb.cell (p:=⟨b1,o1+i * 5+1,none⟩) xl').trans p1,(hb.cell (p:=⟨b1,o1+i * 5+2,none⟩) xl').trans p2,(hb.cell (p:=⟨b1,o1+i * 5+3,none⟩) xl').trans p3,(hb.cell (p:=⟨b1,o1+i * 5+4,none⟩) xl').trans p4,(hb.cell (p:=⟨b2,o2+i * 5,none⟩) yl').trans q0,(hb.cell (p:=⟨b2,o2+i * 5+1,none⟩) yl').trans q1,(hb.cell (p:=⟨b2,o2+i * 5+2,none⟩) yl').trans q2,(hb.cell (p:=⟨b2,o2+i * 5+3,none⟩) yl').trans q3,(hb.cell (p:=⟨b2,o2+i * 5+4,none⟩) yl').trans q4⟩
     have HI1:=hid (show Below wr.heap.size wr wr.drew from (Below.refl _ _).drew)
     have HI2:=hid (show ∀ i,Below wr.heap.size wr (wr.drewN i) from fun i=>(qao.n wr i).below _)
     have hsn:nz (qbp f g) (qef (f.args.take (i+1)) (g.args.take (i+1)))=x.cmp y:=by
      rw [qan f.args default hlt,qan g.args default hlt2,HX.out,HY.out,qfj _ _ (by simp;omega),←qfp,←HCC.out];rfl
     have HSN:=hid hsn
     clear pa qa hsn hgl
     go_upto_region 15 with (fail)
     go_region_held3 (fun W':World=>W'.cell? ⟨w.heap.size,4,none⟩=some (.slice (some ⟨b1,o1,none⟩) f.args.length c)∧W'.cell? ⟨w.heap.size+1,4,none⟩=some (.slice (some ⟨b2,o2,none⟩) g.args.length c')∧W'.cell? ⟨b1,o1+i * 5,none⟩=some (.int .i64 x.op)∧W'.cell? ⟨b1,o1+i * 5+1,none⟩=some (.string x.name)∧W'.cell? ⟨b1,o1+i * 5+2,none⟩=some (.int .i64 x.val)∧W'.cell? ⟨b1,o1+i * 5+3,none⟩=some (.int .i64 x.bound)∧W'.cell? ⟨b1,o1+i * 5+4,none⟩=some (.slice A1 x.args.length c1)∧W'.cell? ⟨b2,o2+i * 5,none⟩=some (.int .i64 y.op)∧W'.cell? ⟨b2,o2+i * 5+1,none⟩=some (.string y.name)∧W'.cell? ⟨b2,o2+i * 5+2,none⟩=some (.int .i64 y.val)∧W'.cell? ⟨b2,o2+i * 5+3,none⟩=some (.int .i64 y.bound)∧W'.cell? ⟨b2,o2+i * 5+4,none⟩=some (.slice A2 y.args.length c2))
      (first | (with_reducible exact HCELL.out _ hI) | (go_keep;done))
      ((go_at_call 44;refine (HCALL.out _ (by first | exact HI1.out | exact HI2.out _)).mono ?_;rintro e W9 ⟨rfl,hI⟩))
     all_goals
      have HB9:=hid (HB.out.trans (hI.mono HB.out.size))
      clear hI x0 x1 x2 x3 x4 y0 y1 y2 y3 y4 p0 p1 p2 p3 p4 q0 q1 q2 q3 q4
      go_wp2_with fail
      go_roundw
      case rel=>exact ⟨i+1,by omega,by rw [HSN.out],by go_num,HB9.out⟩
      case measure=>simp [intOf];omega
    ·have hzz:(cc == 0)=false:=qaf hz
     have hres:f.cmp g=cc:=by
      rw [cmp_eq]
      exact qjt HCC.out hz
     have HRES:=hid hres
     clear hres
     go_wp2_with fail
     go_ret
     exact ⟨qau (by rw [HRES.out]),HBR.out⟩
   ·have hres:f.cmp g=cc:=by
     rw [cmp_eq,HCC.out,List.take_of_length_le (by omega)]
     by_cases hh:qbp f g=0
     ·rw [List.take_of_length_le (by have:=qcl hh;omega)]
     ·unfold nz;rw [if_neg hh,if_neg hh]
    have HRES:=hid hres
    clear hres
    go_wp2_with fail
    go_ret
    exact ⟨qau (by rw [HRES.out]),HBR.out⟩
 subst z1
 have Z1:=hid hk1.symm
 clear hk1
 by_cases hn:(f.name.toList == g.name.toList)=true
 rotate_left
 ·have hn:(f.name.toList == g.name.toList)=false:=by simpa using hn
  cases hlt:Op.bytesLess f.name.toList g.name.toList
  ·have hhd:qbp f g=1:=by unfold qbp;rw [Z1.out,qbk];unfold qli;rw [hn,hlt];rfl
   have HHD:=hid hhd
   clear hhd
   go_upto_region 12 with (fail)
   go_wp2_with fail
   go_loopw [5,6] (fun s q wr => ∃ i:Nat,i≤f.args.length∧s = .int .i64 (nz (qbp f g) (qef (f.args.take i) (g.args.take i)))∧q = .int .i64 (i:Int)∧Below W.heap.size W wr) (fun _ q _=>f.args.length - (intOf q).toNat)
   case atStart=>exact ⟨0,Nat.zero_le _,by simp only [List.take_zero,qef,qhb];rw [HHD.out],rfl,Below.refl _ _⟩
   case round =>
    obtain ⟨i,hi,rfl,rfl,hb⟩:=hrel
    obtain ⟨x0,x1,x2,x3,x4,xl⟩:=(HBX.out.below hb).cells
    obtain ⟨y0,y1,y2,y3,y4,yl⟩:=(HBY.out.below hb).cells
    have HB:=hid hb
    have HBR:=hid (HBW.out.trans (hb.mono HBW.out.size))
    obtain ⟨cc,hcc⟩ : ∃ cc,cc=nz (qbp f g) (qef (f.args.take i) (g.args.take i)):=⟨_,rfl⟩
    rw [←hcc]
    have HCC:=hid hcc
    clear hb hcc
    by_cases hlt:i < f.args.length
    ·have hii:(i:Int) < f.args.length:=by omega
     by_cases hz:cc=0
     ·subst hz
      have hgl:f.args.length=g.args.length:=qcl (qdn HCC.out.symm)
      have hlt2:i < g.args.length:=by omega
      have hii2:(i:Int) < g.args.length:=by omega
      obtain ⟨b1,o1,A1,c1,x,rfl,HX,hx⟩:=(HA.out.keep (Keeps.of_below HBR.out fun _ h=>h)).get hlt
      obtain ⟨b2,o2,A2,c2,y,rfl,HY,hy⟩:=(HA2.out.keep (Keeps.of_below HBR.out fun _ h=>h)).get hlt2
      obtain ⟨xd,xl',p0,p1,p2,p3,p4,pa⟩:=hx
      obtain ⟨yd,yl',q0,q1,q2,q3,q4,qa⟩:=hy
      have HCALL:Hid (∀ W',Below wr.heap.size wr W'→Calls Tryz.prog 44 #[.agg #[.int .i64 x.op,.string x.name,.int .i64 x.val,.int .i64 x.bound,.slice A1 x.args.length c1],.agg #[.int .i64 y.op,.string y.name,.int .i64 y.val,.int .i64 y.bound,.slice A2 y.args.length c2]] W' fun e w'=>e = .returned (.int .i64 (x.cmp y))∧Below wr.heap.size wr w'):=hid fun W' hb=>by
       have:=HIH.out i hlt (D:=fun _=>True) (E:=fun _=>True) y _ _ W' (by rw [HX.out];exact ⟨A1,c1,rfl,pa.any hb⟩) ⟨A2,c2,rfl,qa.any hb⟩
       rw [HX.out] at this
       refine this.mono ?_
       rintro e w' ⟨rfl,hb'⟩
       exact ⟨rfl,hb.trans (hb'.mono hb.size)⟩
      have HCELL:Hid (∀ W':World,Below wr.heap.size wr W'→W'.cell? ⟨w.heap.size,4,none⟩=some (.slice (some ⟨b1,o1,none⟩) f.args.length c)∧W'.cell? ⟨w.heap.size+1,4,none⟩=some (.slice (some ⟨b2,o2,none⟩) g.args.length c')∧W'.cell? ⟨b1,o1+i * 5,none⟩=some (.int .i64 x.op)∧W'.cell? ⟨b1,o1+i * 5+1,none⟩=some (.string x.name)∧W'.cell? ⟨b1,o1+i * 5+2,none⟩=some (.int .i64 x.val)∧W'.cell? ⟨b1,o1+i * 5+3,none⟩=some (.int .i64 x.bound)∧W'.cell? ⟨b1,o1+i * 5+4,none⟩=some (.slice A1 x.args.length c1)∧W'.cell? ⟨b2,o2+i * 5,none⟩=some (.int .i64 y.op)∧W'.cell? ⟨b2,o2+i * 5+1,none⟩=some (.string y.name)∧W'.cell? ⟨b2,o2+i * 5+2,none⟩=some (.int .i64 y.val)∧W'.cell? ⟨b2,o2+i * 5+3,none⟩=some (.int .i64 y.bound)∧W'.cell? ⟨b2,o2+i * 5+4,none⟩=some (.slice A2 y.args.length c2)):=hid fun W' hb =>
       ⟨(hb.cell (p:=⟨w.heap.size,4,none⟩) xl).trans x4,(hb.cell (p:=⟨w.heap.size+1,4,none⟩) yl).trans y4,(hb.cell (p:=⟨b1,o1+i * 5,none⟩) xl').trans p0,(hb.cell (p:=⟨b1,o1+i * 5+1,none⟩) xl').trans p1,(hb.cell (p:=⟨b1,o1+i * 5+2,none⟩) xl').trans p2,(hb.cell (p:=⟨b1,o1+i * 5+3,none⟩) xl').trans p3,(hb.cell (p:=⟨b1,o1+i * 5+4,none⟩) xl').trans p4,(hb.cell (p:=⟨b2,o2+i * 5,none⟩) yl').trans q0,(hb.cell (p:=⟨b2,o2+i * 5+1,none⟩) yl').trans q1,(hb.cell (p:=⟨b2,o2+i * 5+2,none⟩) yl').trans q2,(hb.cell (p:=⟨b2,o2+i * 5+3,none⟩) yl').trans q3,(hb.cell (p:=⟨b2,o2+i * 5+4,none⟩) yl').trans q4⟩
      have HI1:=hid (show Below wr.heap.size wr wr.drew from (Below.refl _ _).drew)
      have HI2:=hid (show ∀ i,Below wr.heap.size wr (wr.drewN i) from fun i=>(qao.n wr i).below _)
      have hsn:nz (qbp f g) (qef (f.args.take (i+1)) (g.args.take (i+1)))=x.cmp y:=by
       rw [qan f.args default hlt,qan g.args default hlt2,HX.out,HY.out,qfj _ _ (by simp;omega),←qfp,←HCC.out];rfl
      have HSN:=hid hsn
      clear pa qa hsn hgl
      go_upto_region 15 with (fail)
      go_region_held3 (fun W':World=>W'.cell? ⟨w.heap.size,4,none⟩=some (.slice (some ⟨b1,o1,none⟩) f.args.length c)∧W'.cell? ⟨w.heap.size+1,4,none⟩=some (.slice (some ⟨b2,o2,none⟩) g.args.length c')∧W'.cell? ⟨b1,o1+i * 5,none⟩=some (.int .i64 x.op)∧W'.cell? ⟨b1,o1+i * 5+1,none⟩=some (.string x.name)∧W'.cell? ⟨b1,o1+i * 5+2,none⟩=some (.int .i64 x.val)∧W'.cell? ⟨b1,o1+i * 5+3,none⟩=some (.int .i64 x.bound)∧W'.cell? ⟨b1,o1+i * 5+4,none⟩=some (.slice A1 x.args.length c1)∧W'.cell? ⟨b2,o2+i * 5,none⟩=some (.int .i64 y.op)∧W'.cell? ⟨b2,o2+i * 5+1,none⟩=some (.string y.name)∧W'.cell? ⟨b2,o2+i * 5+2,none⟩=some (.int .i64 y.val)∧W'.cell? ⟨b2,o2+i * 5+3,none⟩=some (.int .i64 y.bound)∧W'.cell? ⟨b2,o2+i * 5+4,none⟩=some (.slice A2 y.args.length c2))
       (first | (with_reducible exact HCELL.out _ hI) | (go_keep;done))
       ((go_at_call 44;refine (HCALL.out _ (by first | exact HI1.out | exact HI2.out _)).mono ?_;rintro e W9 ⟨rfl,hI⟩))
      all_goals
       have HB9:=hid (HB.out.trans (hI.mono HB.out.size))
       clear hI x0 x1 x2 x3 x4 y0 y1 y2 y3 y4 p0 p1 p2 p3 p4 q0 q1 q2 q3 q4
       go_wp2_with fail
       go_roundw
       case rel=>exact ⟨i+1,by omega,by rw [HSN.out],by go_num,HB9.out⟩
       case measure=>simp [intOf];omega
     ·have hzz:(cc == 0)=false:=qaf hz
      have hres:f.cmp g=cc:=by
       rw [cmp_eq]
       exact qjt HCC.out hz
      have HRES:=hid hres
      clear hres
      go_wp2_with fail
      go_ret
      exact ⟨qau (by rw [HRES.out]),HBR.out⟩
    ·have hres:f.cmp g=cc:=by
      rw [cmp_eq,HCC.out,List.take_of_length_le (by omega)]
      by_cases hh:qbp f g=0
      ·rw [List.take_of_length_le (by have:=qcl hh;omega)]
      ·unfold nz;rw [if_neg hh,if_neg hh]
     have HRES:=hid hres
     clear hres
     go_wp2_with fail
     go_ret
     exact ⟨qau (by rw [HRES.out]),HBR.out⟩
  ·have hhd:qbp f g = -1:=by unfold qbp;rw [Z1.out,qbk];unfold qli;rw [hn,hlt];rfl
   have HHD:=hid hhd
   clear hhd
   go_upto_region 12 with (fail)
   go_wp2_with fail
   go_loopw [5,6] (fun s q wr => ∃ i:Nat,i≤f.args.length∧s = .int .i64 (nz (qbp f g) (qef (f.args.take i) (g.args.take i)))∧q = .int .i64 (i:Int)∧Below W.heap.size W wr) (fun _ q _=>f.args.length - (intOf q).toNat)
   case atStart=>exact ⟨0,Nat.zero_le _,by simp only [List.take_zero,qef,qhb];rw [HHD.out],rfl,Below.refl _ _⟩
   case round =>
    obtain ⟨i,hi,rfl,rfl,hb⟩:=hrel
    obtain ⟨x0,x1,x2,x3,x4,xl⟩:=(HBX.out.below hb).cells
    obtain ⟨y0,y1,y2,y3,y4,yl⟩:=(HBY.out.below hb).cells
    have HB:=hid hb
    have HBR:=hid (HBW.out.trans (hb.mono HBW.out.size))
    obtain ⟨cc,hcc⟩ : ∃ cc,cc=nz (qbp f g) (qef (f.args.take i) (g.args.take i)):=⟨_,rfl⟩
    rw [←hcc]
    have HCC:=hid hcc
    clear hb hcc
    by_cases hlt:i < f.args.length
    ·have hii:(i:Int) < f.args.length:=by omega
     by_cases hz:cc=0
     ·subst hz
      have hgl:f.args.length=g.args.length:=qcl (qdn HCC.out.symm)
      have hlt2:i < g.args.length:=by omega
      have hii2:(i:Int) < g.args.length:=by omega
      obtain ⟨b1,o1,A1,c1,x,rfl,HX,hx⟩:=(HA.out.keep (Keeps.of_below HBR.out fun _ h=>h)).get hlt
      obtain ⟨b2,o2,A2,c2,y,rfl,HY,hy⟩:=(HA2.out.keep (Keeps.of_below HBR.out fun _ h=>h)).get hlt2
      obtain ⟨xd,xl',p0,p1,p2,p3,p4,pa⟩:=hx
      obtain ⟨yd,yl',q0,q1,q2,q3,q4,qa⟩:=hy
      have HCALL:Hid (∀ W',Below wr.heap.size wr W'→Calls Tryz.prog 44 #[.agg #[.int .i64 x.op,.string x.name,.int .i64 x.val,.int .i64 x.bound,.slice A1 x.args.length c1],.agg #[.int .i64 y.op,.string y.name,.int .i64 y.val,.int .i64 y.bound,.slice A2 y.args.length c2]] W' fun e w'=>e = .returned (.int .i64 (x.cmp y))∧Below wr.heap.size wr w'):=hid fun W' hb=>by
       have:=HIH.out i hlt (D:=fun _=>True) (E:=fun _=>True) y _ _ W' (by rw [HX.out];exact ⟨A1,c1,rfl,pa.any hb⟩) ⟨A2,c2,rfl,qa.any hb⟩
       rw [HX.out] at this
       refine this.mono ?_
       rintro e w' ⟨rfl,hb'⟩
       exact ⟨rfl,hb.trans (hb'.mono hb.size)⟩
      have HCELL:Hid (∀ W':World,Below wr.heap.size wr W'→W'.cell? ⟨w.heap.size,4,none⟩=some (.slice (some ⟨b1,o1,none⟩) f.args.length c)∧W'.cell? ⟨w.heap.size+1,4,none⟩=some (.slice (some ⟨b2,o2,none⟩) g.args.length c')∧W'.cell? ⟨b1,o1+i * 5,none⟩=some (.int .i64 x.op)∧W'.cell? ⟨b1,o1+i * 5+1,none⟩=some (.string x.name)∧W'.cell? ⟨b1,o1+i * 5+2,none⟩=some (.int .i64 x.val)∧W'.cell? ⟨b1,o1+i * 5+3,none⟩=some (.int .i64 x.bound)∧W'.cell? ⟨b1,o1+i * 5+4,none⟩=some (.slice A1 x.args.length c1)∧W'.cell? ⟨b2,o2+i * 5,none⟩=some (.int .i64 y.op)∧W'.cell? ⟨b2,o2+i * 5+1,none⟩=some (.string y.name)∧W'.cell? ⟨b2,o2+i * 5+2,none⟩=some (.int .i64 y.val)∧W'.cell? ⟨b2,o2+i * 5+3,none⟩=some (.int .i64 y.bound)∧W'.cell? ⟨b2,o2+i * 5+4,none⟩=some (.slice A2 y.args.length c2)):=hid fun W' hb =>
       ⟨(hb.cell (p:=⟨w.heap.size,4,none⟩) xl).trans x4,(hb.cell (p:=⟨w.heap.size+1,4,none⟩) yl).trans y4,(hb.cell (p:=⟨b1,o1+i * 5,none⟩) xl').trans p0,(hb.cell (p:=⟨b1,o1+i * 5+1,none⟩) xl').trans p1,(hb.cell (p:=⟨b1,o1+i * 5+2,none⟩) xl').trans p2,(hb.cell (p:=⟨b1,o1+i * 5+3,none⟩) xl').trans p3,(hb.cell (p:=⟨b1,o1+i * 5+4,none⟩) xl').trans p4,(hb.cell (p:=⟨b2,o2+i * 5,none⟩) yl').trans q0,(hb.cell (p:=⟨b2,o2+i * 5+1,none⟩) yl').trans q1,(hb.cell (p:=⟨b2,o2+i * 5+2,none⟩) yl').trans q2,(hb.cell (p:=⟨b2,o2+i * 5+3,none⟩) yl').trans q3,(hb.cell (p:=⟨b2,o2+i * 5+4,none⟩) yl').trans q4⟩
      have HI1:=hid (show Below wr.heap.size wr wr.drew from (Below.refl _ _).drew)
      have HI2:=hid (show ∀ i,Below wr.heap.size wr (wr.drewN i) from fun i=>(qao.n wr i).below _)
      have hsn:nz (qbp f g) (qef (f.args.take (i+1)) (g.args.take (i+1)))=x.cmp y:=by
       rw [qan f.args default hlt,qan g.args default hlt2,HX.out,HY.out,qfj _ _ (by simp;omega),←qfp,←HCC.out];rfl
      have HSN:=hid hsn
      clear pa qa hsn hgl
      go_upto_region 15 with (fail)
      go_region_held3 (fun W':World=>W'.cell? ⟨w.heap.size,4,none⟩=some (.slice (some ⟨b1,o1,none⟩) f.args.length c)∧W'.cell? ⟨w.heap.size+1,4,none⟩=some (.slice (some ⟨b2,o2,none⟩) g.args.length c')∧W'.cell? ⟨b1,o1+i * 5,none⟩=some (.int .i64 x.op)∧W'.cell? ⟨b1,o1+i * 5+1,none⟩=some (.string x.name)∧W'.cell? ⟨b1,o1+i * 5+2,none⟩=some (.int .i64 x.val)∧W'.cell? ⟨b1,o1+i * 5+3,none⟩=some (.int .i64 x.bound)∧W'.cell? ⟨b1,o1+i * 5+4,none⟩=some (.slice A1 x.args.length c1)∧W'.cell? ⟨b2,o2+i * 5,none⟩=some (.int .i64 y.op)∧W'.cell? ⟨b2,o2+i * 5+1,none⟩=some (.string y.name)∧W'.cell? ⟨b2,o2+i * 5+2,none⟩=some (.int .i64 y.val)∧W'.cell? ⟨b2,o2+i * 5+3,none⟩=some (.int .i64 y.bound)∧W'.cell? ⟨b2,o2+i * 5+4,none⟩=some (.slice A2 y.args.length c2))
       (first | (with_reducible exact HCELL.out _ hI) | (go_keep;done))
       ((go_at_call 44;refine (HCALL.out _ (by first | exact HI1.out | exact HI2.out _)).mono ?_;rintro e W9 ⟨rfl,hI⟩))
      all_goals
       have HB9:=hid (HB.out.trans (hI.mono HB.out.size))
       clear hI x0 x1 x2 x3 x4 y0 y1 y2 y3 y4 p0 p1 p2 p3 p4 q0 q1 q2 q3 q4
       go_wp2_with fail
       go_roundw
       case rel=>exact ⟨i+1,by omega,by rw [HSN.out],by go_num,HB9.out⟩
       case measure=>simp [intOf];omega
     ·have hzz:(cc == 0)=false:=qaf hz
      have hres:f.cmp g=cc:=by
       rw [cmp_eq]
       exact qjt HCC.out hz
      have HRES:=hid hres
      clear hres
      go_wp2_with fail
      go_ret
      exact ⟨qau (by rw [HRES.out]),HBR.out⟩
    ·have hres:f.cmp g=cc:=by
      rw [cmp_eq,HCC.out,List.take_of_length_le (by omega)]
      by_cases hh:qbp f g=0
      ·rw [List.take_of_length_le (by have:=qcl hh;omega)]
      ·unfold nz;rw [if_neg hh,if_neg hh]
     have HRES:=hid hres
     clear hres
     go_wp2_with fail
     go_ret
     exact ⟨qau (by rw [HRES.out]),HBR.out⟩
 have Z2:=hid (show qli f.name g.name=0 by unfold qli;rw [hn];rfl)
 go_wp2_with fail
 refine (qis f.val g.val W).mono ?_
 rintro e w1 ⟨rfl,hw⟩
 subst w1
 obtain ⟨k3,hk3⟩ : ∃ k3,k3=qgy f.val g.val:=⟨_,rfl⟩
 rw [←hk3]
 by_cases z3:k3=0
 rotate_left
 ·have zz:(k3 == 0)=false:=qaf z3
  have hhd:qbp f g=k3:=by unfold qbp;rw [Z1.out,qbk,Z2.out,qbk];unfold nz;rw [←hk3,if_neg z3]
  clear hk3
  have HHD:=hid hhd
  clear hhd
  go_upto_region 12 with (fail)
  go_wp2_with fail
  go_loopw [5,6] (fun s q wr => ∃ i:Nat,i≤f.args.length∧s = .int .i64 (nz (qbp f g) (qef (f.args.take i) (g.args.take i)))∧q = .int .i64 (i:Int)∧Below W.heap.size W wr) (fun _ q _=>f.args.length - (intOf q).toNat)
  case atStart=>exact ⟨0,Nat.zero_le _,by simp only [List.take_zero,qef,qhb];rw [HHD.out],rfl,Below.refl _ _⟩
  case round =>
   obtain ⟨i,hi,rfl,rfl,hb⟩:=hrel
   obtain ⟨x0,x1,x2,x3,x4,xl⟩:=(HBX.out.below hb).cells
   obtain ⟨y0,y1,y2,y3,y4,yl⟩:=(HBY.out.below hb).cells
   have HB:=hid hb
   have HBR:=hid (HBW.out.trans (hb.mono HBW.out.size))
   obtain ⟨cc,hcc⟩ : ∃ cc,cc=nz (qbp f g) (qef (f.args.take i) (g.args.take i)):=⟨_,rfl⟩
   rw [←hcc]
   have HCC:=hid hcc
   clear hb hcc
   by_cases hlt:i < f.args.length
   ·have hii:(i:Int) < f.args.length:=by omega
    by_cases hz:cc=0
    ·subst hz
     have hgl:f.args.length=g.args.length:=qcl (qdn HCC.out.symm)
     have hlt2:i < g.args.length:=by omega
     have hii2:(i:Int) < g.args.length:=by omega
     obtain ⟨b1,o1,A1,c1,x,rfl,HX,hx⟩:=(HA.out.keep (Keeps.of_below HBR.out fun _ h=>h)).get hlt
     obtain ⟨b2,o2,A2,c2,y,rfl,HY,hy⟩:=(HA2.out.keep (Keeps.of_below HBR.out fun _ h=>h)).get hlt2
     obtain ⟨xd,xl',p0,p1,p2,p3,p4,pa⟩:=hx
     obtain ⟨yd,yl',q0,q1,q2,q3,q4,qa⟩:=hy
     have HCALL:Hid (∀ W',Below wr.heap.size wr W'→Calls Tryz.prog 44 #[.agg #[.int .i64 x.op,.string x.name,.int .i64 x.val,.int .i64 x.bound,.slice A1 x.args.length c1],.agg #[.int .i64 y.op,.string y.name,.int .i64 y.val,.int .i64 y.bound,.slice A2 y.args.length c2]] W' fun e w'=>e = .returned (.int .i64 (x.cmp y))∧Below wr.heap.size wr w'):=hid fun W' hb=>by
      have:=HIH.out i hlt (D:=fun _=>True) (E:=fun _=>True) y _ _ W' (by rw [HX.out];exact ⟨A1,c1,rfl,pa.any hb⟩) ⟨A2,c2,rfl,qa.any hb⟩
      rw [HX.out] at this
      refine this.mono ?_
      rintro e w' ⟨rfl,hb'⟩
      exact ⟨rfl,hb.trans (hb'.mono hb.size)⟩
     have HCELL:Hid (∀ W':World,Below wr.heap.size wr W'→W'.cell? ⟨w.heap.size,4,none⟩=some (.slice (some ⟨b1,o1,none⟩) f.args.length c)∧W'.cell? ⟨w.heap.size+1,4,none⟩=some (.slice (some ⟨b2,o2,none⟩) g.args.length c')∧W'.cell? ⟨b1,o1+i * 5,none⟩=some (.int .i64 x.op)∧W'.cell? ⟨b1,o1+i * 5+1,none⟩=some (.string x.name)∧W'.cell? ⟨b1,o1+i * 5+2,none⟩=some (.int .i64 x.val)∧W'.cell? ⟨b1,o1+i * 5+3,none⟩=some (.int .i64 x.bound)∧W'.cell? ⟨b1,o1+i * 5+4,none⟩=some (.slice A1 x.args.length c1)∧W'.cell? ⟨b2,o2+i * 5,none⟩=some (.int .i64 y.op)∧W'.cell? ⟨b2,o2+i * 5+1,none⟩=some (.string y.name)∧W'.cell? ⟨b2,o2+i * 5+2,none⟩=some (.int .i64 y.val)∧W'.cell? ⟨b2,o2+i * 5+3,none⟩=some (.int .i64 y.bound)∧W'.cell? ⟨b2,o2+i * 5+4,none⟩=some (.slice A2 y.args.length c2)):=hid fun W' hb =>
      ⟨(hb.cell (p:=⟨w.heap.size,4,none⟩) xl).trans x4,(hb.cell (p:=⟨w.heap.size+1,4,none⟩) yl).trans y4,(hb.cell (p:=⟨b1,o1+i * 5,none⟩) xl').trans p0,(hb.cell (p:=⟨b1,o1+i * 5+1,none⟩) xl').trans p1,(hb.cell (p:=⟨b1,o1+i * 5+2,none⟩) xl').trans p2,(hb.cell (p:=⟨b1,o1+i * 5+3,none⟩) xl').trans p3,(hb.cell (p:=⟨b1,o1+i * 5+4,none⟩) xl').trans p4,(hb.cell (p:=⟨b2,o2+i * 5,none⟩) yl').trans q0,(hb.cell (p:=⟨b2,o2+i * 5+1,none⟩) yl').trans q1,(hb.cell (p:=⟨b2,o2+i * 5+2,none⟩) yl').trans q2,(hb.cell (p:=⟨b2,o2+i * 5+3,none⟩) yl').trans q3,(hb.cell (p:=⟨b2,o2+i * 5+4,none⟩) yl').trans q4⟩
     have HI1:=hid (show Below wr.heap.size wr wr.drew from (Below.refl _ _).drew)
     have HI2:=hid (show ∀ i,Below wr.heap.size wr (wr.drewN i) from fun i=>(qao.n wr i).below _)
     have hsn:nz (qbp f g) (qef (f.args.take (i+1)) (g.args.take (i+1)))=x.cmp y:=by
      rw [qan f.args default hlt,qan g.args default hlt2,HX.out,HY.out,qfj _ _ (by simp;omega),←qfp,←HCC.out];rfl
     have HSN:=hid hsn
     clear pa qa hsn hgl
     go_upto_region 15 with (fail)
     go_region_held3 (fun W':World=>W'.cell? ⟨w.heap.size,4,none⟩=some (.slice (some ⟨b1,o1,none⟩) f.args.length c)∧W'.cell? ⟨w.heap.size+1,4,none⟩=some (.slice (some ⟨b2,o2,none⟩) g.args.length c')∧W'.cell? ⟨b1,o1+i * 5,none⟩=some (.int .i64 x.op)∧W'.cell? ⟨b1,o1+i * 5+1,none⟩=some (.string x.name)∧W'.cell? ⟨b1,o1+i * 5+2,none⟩=some (.int .i64 x.val)∧W'.cell? ⟨b1,o1+i * 5+3,none⟩=some (.int .i64 x.bound)∧W'.cell? ⟨b1,o1+i * 5+4,none⟩=some (.slice A1 x.args.length c1)∧W'.cell? ⟨b2,o2+i * 5,none⟩=some (.int .i64 y.op)∧W'.cell? ⟨b2,o2+i * 5+1,none⟩=some (.string y.name)∧W'.cell? ⟨b2,o2+i * 5+2,none⟩=some (.int .i64 y.val)∧W'.cell? ⟨b2,o2+i * 5+3,none⟩=some (.int .i64 y.bound)∧W'.cell? ⟨b2,o2+i * 5+4,none⟩=some (.slice A2 y.args.length c2))
      (first | (with_reducible exact HCELL.out _ hI) | (go_keep;done))
      ((go_at_call 44;refine (HCALL.out _ (by first | exact HI1.out | exact HI2.out _)).mono ?_;rintro e W9 ⟨rfl,hI⟩))
     all_goals
      have HB9:=hid (HB.out.trans (hI.mono HB.out.size))
      clear hI x0 x1 x2 x3 x4 y0 y1 y2 y3 y4 p0 p1 p2 p3 p4 q0 q1 q2 q3 q4
      go_wp2_with fail
      go_roundw
      case rel=>exact ⟨i+1,by omega,by rw [HSN.out],by go_num,HB9.out⟩
      case measure=>simp [intOf];omega
    ·have hzz:(cc == 0)=false:=qaf hz
     have hres:f.cmp g=cc:=by
      rw [cmp_eq]
      exact qjt HCC.out hz
     have HRES:=hid hres
     clear hres
     go_wp2_with fail
     go_ret
     exact ⟨qau (by rw [HRES.out]),HBR.out⟩
   ·have hres:f.cmp g=cc:=by
     rw [cmp_eq,HCC.out,List.take_of_length_le (by omega)]
     by_cases hh:qbp f g=0
     ·rw [List.take_of_length_le (by have:=qcl hh;omega)]
     ·unfold nz;rw [if_neg hh,if_neg hh]
    have HRES:=hid hres
    clear hres
    go_wp2_with fail
    go_ret
    exact ⟨qau (by rw [HRES.out]),HBR.out⟩
 subst z3
 have Z3:=hid hk3.symm
 clear hk3
 go_wp2_with fail
 refine (qis f.bound g.bound W).mono ?_
 rintro e w1 ⟨rfl,hw⟩
 subst w1
 obtain ⟨k4,hk4⟩ : ∃ k4,k4=qgy f.bound g.bound:=⟨_,rfl⟩
 rw [←hk4]
 by_cases z4:k4=0
 rotate_left
 ·have zz:(k4 == 0)=false:=qaf z4
  have hhd:qbp f g=k4:=by unfold qbp;rw [Z1.out,qbk,Z2.out,qbk,Z3.out,qbk];unfold nz;rw [←hk4,if_neg z4]
  clear hk4
  have HHD:=hid hhd
  clear hhd
  go_upto_region 12 with (fail)
  go_wp2_with fail
  go_loopw [5,6] (fun s q wr => ∃ i:Nat,i≤f.args.length∧s = .int .i64 (nz (qbp f g) (qef (f.args.take i) (g.args.take i)))∧q = .int .i64 (i:Int)∧Below W.heap.size W wr) (fun _ q _=>f.args.length - (intOf q).toNat)
  case atStart=>exact ⟨0,Nat.zero_le _,by simp only [List.take_zero,qef,qhb];rw [HHD.out],rfl,Below.refl _ _⟩
  case round =>
   obtain ⟨i,hi,rfl,rfl,hb⟩:=hrel
   obtain ⟨x0,x1,x2,x3,x4,xl⟩:=(HBX.out.below hb).cells
   obtain ⟨y0,y1,y2,y3,y4,yl⟩:=(HBY.out.below hb).cells
   have HB:=hid hb
   have HBR:=hid (HBW.out.trans (hb.mono HBW.out.size))
   obtain ⟨cc,hcc⟩ : ∃ cc,cc=nz (qbp f g) (qef (f.args.take i) (g.args.take i)):=⟨_,rfl⟩
   rw [←hcc]
   have HCC:=hid hcc
   clear hb hcc
   by_cases hlt:i < f.args.length
   ·have hii:(i:Int) < f.args.length:=by omega
    by_cases hz:cc=0
    ·subst hz
     have hgl:f.args.length=g.args.length:=qcl (qdn HCC.out.symm)
     have hlt2:i < g.args.length:=by omega
     have hii2:(i:Int) < g.args.length:=by omega
     obtain ⟨b1,o1,A1,c1,x,rfl,HX,hx⟩:=(HA.out.keep (Keeps.of_below HBR.out fun _ h=>h)).get hlt
     obtain ⟨b2,o2,A2,c2,y,rfl,HY,hy⟩:=(HA2.out.keep (Keeps.of_below HBR.out fun _ h=>h)).get hlt2
     obtain ⟨xd,xl',p0,p1,p2,p3,p4,pa⟩:=hx
     obtain ⟨yd,yl',q0,q1,q2,q3,q4,qa⟩:=hy
     have HCALL:Hid (∀ W',Below wr.heap.size wr W'→Calls Tryz.prog 44 #[.agg #[.int .i64 x.op,.string x.name,.int .i64 x.val,.int .i64 x.bound,.slice A1 x.args.length c1],.agg #[.int .i64 y.op,.string y.name,.int .i64 y.val,.int .i64 y.bound,.slice A2 y.args.length c2]] W' fun e w'=>e = .returned (.int .i64 (x.cmp y))∧Below wr.heap.size wr w'):=hid fun W' hb=>by
      have:=HIH.out i hlt (D:=fun _=>True) (E:=fun _=>True) y _ _ W' (by rw [HX.out];exact ⟨A1,c1,rfl,pa.any hb⟩) ⟨A2,c2,rfl,qa.any hb⟩
      rw [HX.out] at this
      refine this.mono ?_
      rintro e w' ⟨rfl,hb'⟩
      exact ⟨rfl,hb.trans (hb'.mono hb.size)⟩
     have HCELL:Hid (∀ W':World,Below wr.heap.size wr W'→W'.cell? ⟨w.heap.size,4,none⟩=some (.slice (some ⟨b1,o1,none⟩) f.args.length c)∧W'.cell? ⟨w.heap.size+1,4,none⟩=some (.slice (some ⟨b2,o2,none⟩) g.args.length c')∧W'.cell? ⟨b1,o1+i * 5,none⟩=some (.int .i64 x.op)∧W'.cell? ⟨b1,o1+i * 5+1,none⟩=some (.string x.name)∧W'.cell? ⟨b1,o1+i * 5+2,none⟩=some (.int .i64 x.val)∧W'.cell? ⟨b1,o1+i * 5+3,none⟩=some (.int .i64 x.bound)∧W'.cell? ⟨b1,o1+i * 5+4,none⟩=some (.slice A1 x.args.length c1)∧W'.cell? ⟨b2,o2+i * 5,none⟩=some (.int .i64 y.op)∧W'.cell? ⟨b2,o2+i * 5+1,none⟩=some (.string y.name)∧W'.cell? ⟨b2,o2+i * 5+2,none⟩=some (.int .i64 y.val)∧W'.cell? ⟨b2,o2+i * 5+3,none⟩=some (.int .i64 y.bound)∧W'.cell? ⟨b2,o2+i * 5+4,none⟩=some (.slice A2 y.args.length c2)):=hid fun W' hb =>
      ⟨(hb.cell (p:=⟨w.heap.size,4,none⟩) xl).trans x4,(hb.cell (p:=⟨w.heap.size+1,4,none⟩) yl).trans y4,(hb.cell (p:=⟨b1,o1+i * 5,none⟩) xl').trans p0,(hb.cell (p:=⟨b1,o1+i * 5+1,none⟩) xl').trans p1,(hb.cell (p:=⟨b1,o1+i * 5+2,none⟩) xl').trans p2,(hb.cell (p:=⟨b1,o1+i * 5+3,none⟩) xl').trans p3,(hb.cell (p:=⟨b1,o1+i * 5+4,none⟩) xl').trans p4,(hb.cell (p:=⟨b2,o2+i * 5,none⟩) yl').trans q0,(hb.cell (p:=⟨b2,o2+i * 5+1,none⟩) yl').trans q1,(hb.cell (p:=⟨b2,o2+i * 5+2,none⟩) yl').trans q2,(hb.cell (p:=⟨b2,o2+i * 5+3,none⟩) yl').trans q3,(hb.cell (p:=⟨b2,o2+i * 5+4,none⟩) yl').trans q4⟩
     have HI1:=hid (show Below wr.heap.size wr wr.drew from (Below.refl _ _).drew)
     have HI2:=hid (show ∀ i,Below wr.heap.size wr (wr.drewN i) from fun i=>(qao.n wr i).below _)
     have hsn:nz (qbp f g) (qef (f.args.take (i+1)) (g.args.take (i+1)))=x.cmp y:=by
      rw [qan f.args default hlt,qan g.args default hlt2,HX.out,HY.out,qfj _ _ (by simp;omega),←qfp,←HCC.out];rfl
     have HSN:=hid hsn
     clear pa qa hsn hgl
     go_upto_region 15 with (fail)
     go_region_held3 (fun W':World=>W'.cell? ⟨w.heap.size,4,none⟩=some (.slice (some ⟨b1,o1,none⟩) f.args.length c)∧W'.cell? ⟨w.heap.size+1,4,none⟩=some (.slice (some ⟨b2,o2,none⟩) g.args.length c')∧W'.cell? ⟨b1,o1+i * 5,none⟩=some (.int .i64 x.op)∧W'.cell? ⟨b1,o1+i * 5+1,none⟩=some (.string x.name)∧W'.cell? ⟨b1,o1+i * 5+2,none⟩=some (.int .i64 x.val)∧W'.cell? ⟨b1,o1+i * 5+3,none⟩=some (.int .i64 x.bound)∧W'.cell? ⟨b1,o1+i * 5+4,none⟩=some (.slice A1 x.args.length c1)∧W'.cell? ⟨b2,o2+i * 5,none⟩=some (.int .i64 y.op)∧W'.cell? ⟨b2,o2+i * 5+1,none⟩=some (.string y.name)∧W'.cell? ⟨b2,o2+i * 5+2,none⟩=some (.int .i64 y.val)∧W'.cell? ⟨b2,o2+i * 5+3,none⟩=some (.int .i64 y.bound)∧W'.cell? ⟨b2,o2+i * 5+4,none⟩=some (.slice A2 y.args.length c2))
      (first | (with_reducible exact HCELL.out _ hI) | (go_keep;done))
      ((go_at_call 44;refine (HCALL.out _ (by first | exact HI1.out | exact HI2.out _)).mono ?_;rintro e W9 ⟨rfl,hI⟩))
     all_goals
      have HB9:=hid (HB.out.trans (hI.mono HB.out.size))
      clear hI x0 x1 x2 x3 x4 y0 y1 y2 y3 y4 p0 p1 p2 p3 p4 q0 q1 q2 q3 q4
      go_wp2_with fail
      go_roundw
      case rel=>exact ⟨i+1,by omega,by rw [HSN.out],by go_num,HB9.out⟩
      case measure=>simp [intOf];omega
    ·have hzz:(cc == 0)=false:=qaf hz
     have hres:f.cmp g=cc:=by
      rw [cmp_eq]
      exact qjt HCC.out hz
     have HRES:=hid hres
     clear hres
     go_wp2_with fail
     go_ret
     exact ⟨qau (by rw [HRES.out]),HBR.out⟩
   ·have hres:f.cmp g=cc:=by
     rw [cmp_eq,HCC.out,List.take_of_length_le (by omega)]
     by_cases hh:qbp f g=0
     ·rw [List.take_of_length_le (by have:=qcl hh;omega)]
     ·unfold nz;rw [if_neg hh,if_neg hh]
    have HRES:=hid hres
    clear hres
    go_wp2_with fail
    go_ret
    exact ⟨qau (by rw [HRES.out]),HBR.out⟩
 subst z4
 have Z4:=hid hk4.symm
 clear hk4
 go_wp2_with fail
 refine (qis (f.args.length:Int) (g.args.length:Int) W).mono ?_
 rintro e w1 ⟨rfl,hw⟩
 subst w1
 obtain ⟨k5,hk5⟩ : ∃ k5,k5=qgy (f.args.length:Int) (g.args.length:Int):=⟨_,rfl⟩
 rw [←hk5]
 have hhd:qbp f g=k5:=by unfold qbp;rw [Z1.out,qbk,Z2.out,qbk,Z3.out,qbk,Z4.out,qbk,hk5]
 clear hk5
 have HHD:=hid hhd
 clear hhd
 go_upto_region 12 with (fail)
 go_wp2_with fail
 go_loopw [5,6] (fun s q wr => ∃ i:Nat,i≤f.args.length∧s = .int .i64 (nz (qbp f g) (qef (f.args.take i) (g.args.take i)))∧q = .int .i64 (i:Int)∧Below W.heap.size W wr) (fun _ q _=>f.args.length - (intOf q).toNat)
 case atStart=>exact ⟨0,Nat.zero_le _,by simp only [List.take_zero,qef,qhb];rw [HHD.out],rfl,Below.refl _ _⟩
 case round =>
  obtain ⟨i,hi,rfl,rfl,hb⟩:=hrel
  obtain ⟨x0,x1,x2,x3,x4,xl⟩:=(HBX.out.below hb).cells
  obtain ⟨y0,y1,y2,y3,y4,yl⟩:=(HBY.out.below hb).cells
  have HB:=hid hb
  have HBR:=hid (HBW.out.trans (hb.mono HBW.out.size))
  obtain ⟨cc,hcc⟩ : ∃ cc,cc=nz (qbp f g) (qef (f.args.take i) (g.args.take i)):=⟨_,rfl⟩
  rw [←hcc]
  have HCC:=hid hcc
  clear hb hcc
  by_cases hlt:i < f.args.length
  ·have hii:(i:Int) < f.args.length:=by omega
   by_cases hz:cc=0
   ·subst hz
    have hgl:f.args.length=g.args.length:=qcl (qdn HCC.out.symm)
    have hlt2:i < g.args.length:=by omega
    have hii2:(i:Int) < g.args.length:=by omega
    obtain ⟨b1,o1,A1,c1,x,rfl,HX,hx⟩:=(HA.out.keep (Keeps.of_below HBR.out fun _ h=>h)).get hlt
    obtain ⟨b2,o2,A2,c2,y,rfl,HY,hy⟩:=(HA2.out.keep (Keeps.of_below HBR.out fun _ h=>h)).get hlt2
    obtain ⟨xd,xl',p0,p1,p2,p3,p4,pa⟩:=hx
    obtain ⟨yd,yl',q0,q1,q2,q3,q4,qa⟩:=hy
    have HCALL:Hid (∀ W',Below wr.heap.size wr W'→Calls Tryz.prog 44 #[.agg #[.int .i64 x.op,.string x.name,.int .i64 x.val,.int .i64 x.bound,.slice A1 x.args.length c1],.agg #[.int .i64 y.op,.string y.name,.int .i64 y.val,.int .i64 y.bound,.slice A2 y.args.length c2]] W' fun e w'=>e = .returned (.int .i64 (x.cmp y))∧Below wr.heap.size wr w'):=hid fun W' hb=>by
     have:=HIH.out i hlt (D:=fun _=>True) (E:=fun _=>True) y _ _ W' (by rw [HX.out];exact ⟨A1,c1,rfl,pa.any hb⟩) ⟨A2,c2,rfl,qa.any hb⟩
     rw [HX.out] at this
     refine this.mono ?_
     rintro e w' ⟨rfl,hb'⟩
     exact ⟨rfl,hb.trans (hb'.mono hb.size)⟩
    have HCELL:Hid (∀ W':World,Below wr.heap.size wr W'→W'.cell? ⟨w.heap.size,4,none⟩=some (.slice (some ⟨b1,o1,none⟩) f.args.length c)∧W'.cell? ⟨w.heap.size+1,4,none⟩=some (.slice (some ⟨b2,o2,none⟩) g.args.length c')∧W'.cell? ⟨b1,o1+i * 5,none⟩=some (.int .i64 x.op)∧W'.cell? ⟨b1,o1+i * 5+1,none⟩=some (.string x.name)∧W'.cell? ⟨b1,o1+i * 5+2,none⟩=some (.int .i64 x.val)∧W'.cell? ⟨b1,o1+i * 5+3,none⟩=some (.int .i64 x.bound)∧W'.cell? ⟨b1,o1+i * 5+4,none⟩=some (.slice A1 x.args.length c1)∧W'.cell? ⟨b2,o2+i * 5,none⟩=some (.int .i64 y.op)∧W'.cell? ⟨b2,o2+i * 5+1,none⟩=some (.string y.name)∧W'.cell? ⟨b2,o2+i * 5+2,none⟩=some (.int .i64 y.val)∧W'.cell? ⟨b2,o2+i * 5+3,none⟩=some (.int .i64 y.bound)∧W'.cell? ⟨b2,o2+i * 5+4,none⟩=some (.slice A2 y.args.length c2)):=hid fun W' hb =>
     ⟨(hb.cell (p:=⟨w.heap.size,4,none⟩) xl).trans x4,(hb.cell (p:=⟨w.heap.size+1,4,none⟩) yl).trans y4,(hb.cell (p:=⟨b1,o1+i * 5,none⟩) xl').trans p0,(hb.cell (p:=⟨b1,o1+i * 5+1,none⟩) xl').trans p1,(hb.cell (p:=⟨b1,o1+i * 5+2,none⟩) xl').trans p2,(hb.cell (p:=⟨b1,o1+i * 5+3,none⟩) xl').trans p3,(hb.cell (p:=⟨b1,o1+i * 5+4,none⟩) xl').trans p4,(hb.cell (p:=⟨b2,o2+i * 5,none⟩) yl').trans q0,(hb.cell (p:=⟨b2,o2+i * 5+1,none⟩) yl').trans q1,(hb.cell (p:=⟨b2,o2+i * 5+2,none⟩) yl').trans q2,(hb.cell (p:=⟨b2,o2+i * 5+3,none⟩) yl').trans q3,(hb.cell (p:=⟨b2,o2+i * 5+4,none⟩) yl').trans q4⟩
    have HI1:=hid (show Below wr.heap.size wr wr.drew from (Below.refl _ _).drew)
    have HI2:=hid (show ∀ i,Below wr.heap.size wr (wr.drewN i) from fun i=>(qao.n wr i).below _)
    have hsn:nz (qbp f g) (qef (f.args.take (i+1)) (g.args.take (i+1)))=x.cmp y:=by
     rw [qan f.args default hlt,qan g.args default hlt2,HX.out,HY.out,qfj _ _ (by simp;omega),←qfp,←HCC.out];rfl
    have HSN:=hid hsn
    clear pa qa hsn hgl
    go_upto_region 15 with (fail)
    go_region_held3 (fun W':World=>W'.cell? ⟨w.heap.size,4,none⟩=some (.slice (some ⟨b1,o1,none⟩) f.args.length c)∧W'.cell? ⟨w.heap.size+1,4,none⟩=some (.slice (some ⟨b2,o2,none⟩) g.args.length c')∧W'.cell? ⟨b1,o1+i * 5,none⟩=some (.int .i64 x.op)∧W'.cell? ⟨b1,o1+i * 5+1,none⟩=some (.string x.name)∧W'.cell? ⟨b1,o1+i * 5+2,none⟩=some (.int .i64 x.val)∧W'.cell? ⟨b1,o1+i * 5+3,none⟩=some (.int .i64 x.bound)∧W'.cell? ⟨b1,o1+i * 5+4,none⟩=some (.slice A1 x.args.length c1)∧W'.cell? ⟨b2,o2+i * 5,none⟩=some (.int .i64 y.op)∧W'.cell? ⟨b2,o2+i * 5+1,none⟩=some (.string y.name)∧W'.cell? ⟨b2,o2+i * 5+2,none⟩=some (.int .i64 y.val)∧W'.cell? ⟨b2,o2+i * 5+3,none⟩=some (.int .i64 y.bound)∧W'.cell? ⟨b2,o2+i * 5+4,none⟩=some (.slice A2 y.args.length c2))
     (first | (with_reducible exact HCELL.out _ hI) | (go_keep;done))
     ((go_at_call 44;refine (HCALL.out _ (by first | exact HI1.out | exact HI2.out _)).mono ?_;rintro e W9 ⟨rfl,hI⟩))
    all_goals
     have HB9:=hid (HB.out.trans (hI.mono HB.out.size))
     clear hI x0 x1 x2 x3 x4 y0 y1 y2 y3 y4 p0 p1 p2 p3 p4 q0 q1 q2 q3 q4
     go_wp2_with fail
     go_roundw
     case rel=>exact ⟨i+1,by omega,by rw [HSN.out],by go_num,HB9.out⟩
     case measure=>simp [intOf];omega
   ·have hzz:(cc == 0)=false:=qaf hz
    have hres:f.cmp g=cc:=by
     rw [cmp_eq]
     exact qjt HCC.out hz
    have HRES:=hid hres
    clear hres
    go_wp2_with fail
    go_ret
    exact ⟨qau (by rw [HRES.out]),HBR.out⟩
  ·have hres:f.cmp g=cc:=by
    rw [cmp_eq,HCC.out,List.take_of_length_le (by omega)]
    by_cases hh:qbp f g=0
    ·rw [List.take_of_length_le (by have:=qcl hh;omega)]
    ·unfold nz;rw [if_neg hh,if_neg hh]
   have HRES:=hid hres
   clear hres
   go_wp2_with fail
   go_ret
   exact ⟨qau (by rw [HRES.out]),HBR.out⟩
end Go.Proofs.YtdakdpfofgkjoaaGreatDoor
