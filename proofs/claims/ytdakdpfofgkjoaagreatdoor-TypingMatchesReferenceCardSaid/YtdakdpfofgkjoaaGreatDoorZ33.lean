/-
  The reference's canon.
-/
import Derived.Test.YtdakdpfofgkjoaaGreatDoorZ32
set_option linter.unusedSimpArgs false
set_option linter.unusedVariables false
set_option maxHeartbeats 8000000
set_option maxRecDepth 100000
namespace Go.Proofs.YtdakdpfofgkjoaaGreatDoor
open Go.RowKit Go.Shelf
attribute [local go_sem] qad qbo
theorem canZ_canon {f:Fm} {ins:Bool} (hb:allI qbg ins f) (h:f.op=5∨f.op=6):qak f=qbm f.op (f.args.map qak):=by
 rw [qda]
 unfold qh0
 rw [if_pos h]
theorem bare_in {f g:Fm} {ins:Bool} (hg:g∈f.args) (h:allI qbg ins f):allI qbg (ins || (qah f.op).past) g:=(qay.1 h).2 g hg
theorem can_flat4 {op:Int} {l:List Fm} {ins:Bool} (h : ∀ g,g∈l→allI qbg ins g) : ∀ x,x∈qbs op l→x.op=4→0 < x.args.length:=by
 intro x hx h4
 obtain ⟨g,hg,hp⟩:=flatR_mem hx
 unfold qe5 at hp
 split at hp
 ·exact qjg (bare_in hp (h g hg)) h4
 ·rw [List.mem_singleton] at hp
  subst hp
  exact qjg (h _ hg) h4
theorem take_snocC {f x:Fm} {k:Nat} (hk:k < f.args.length) (hx:f.args.getD k default=x):(f.args.map qak).take (k+1)=(f.args.map qak).take k ++ [qak x]:=by
 rw [←List.map_take,←List.map_take,qan _ default hk,hx,List.map_append]
 rfl
theorem can_next {f:Fm} (h:f.op=8):qak f=if isC ((f.args.map qak).getD 0 default)=true then (f.args.map qak).getD 0 default else .mk 8 f.name f.val 0 (f.args.map qak):=by
 rw [qda,h]
 unfold qh0
 simp
theorem can_til {f:Fm} (h:f.op=9):qak f=if (isC ((f.args.map qak).getD 1 default)=true∨((f.args.map qak).getD 0 default).op=2) then (f.args.map qak).getD 1 default else .mk 9 f.name f.val 0 (f.args.map qak):=by
 rw [qda,h]
 unfold qh0
 simp
theorem can_rel {f:Fm} (h:f.op=10):qak f=if (isC ((f.args.map qak).getD 1 default)=true∨((f.args.map qak).getD 0 default).op=1) then (f.args.map qak).getD 1 default else .mk 10 f.name f.val 0 (f.args.map qak):=by
 rw [qda,h]
 unfold qh0
 simp
theorem isC_1 {y:Fm} (h:y.op=1):isC y=true:=by unfold isC;rw [h];rfl
theorem isC_2 {y:Fm} (h:y.op=2):isC y=true:=by unfold isC;rw [h];rfl
theorem isC_0 {y:Fm} (h1 : ¬ y.op=1) (h2 : ¬ y.op=2) : ¬ isC y=true:=by
 unfold isC
 rw [decide_eq_false h1,decide_eq_false h2]
 decide
def RCanC (f:Fm):Prop := ∀ (ins:Bool) (v:Value) (w:World) (D:Dom),(∀ x,w.heap.size≤x→D x)→qby w D v f→allI qbg ins f→f.size≤1000000 →
 Calls Tryz.prog 96 #[v] w fun e w' => ∃ v',e = .returned v'∧qby w' D v' (qak f)∧Below w.heap.size w w'
theorem rcanon_any (f:Fm):RCanC f:=by
 refine Fm.induct (fun f ih => ?_) f
 intro ins v w D hD h hb hz
 obtain ⟨A,c,rfl,ha⟩:=h
 have hal:=qbx f.args
 have hal2:=Fm.size_eq f
 have hlen:f.args.length≤1000000:=by omega
 have HA:=hid (ha.mono (E:=fun x=>D x∧x < w.heap.size) fun x hx hl=>⟨hx,hl⟩)
 have HBQ:=hid hb
 have HSH:=hid (qdq (qay.1 hb).1).2.1
 have HLO:=hid (qdq (qay.1 hb).1).1
 have HZ:=hid hz
 have HIH:=hid ih
 clear ha hb hz hal hal2 ih
 obtain ⟨i0,hti,hz0,hz1,hz2⟩:=info_parts qbt
 have HTI:=hid hti
 have HZ0:=hid hz0
 have HZ1:=hid hz1
 have HZ2:=hid (show i0.bytes=64 from hz2)
 clear hti hz0 hz1 hz2
 go_enter Tryz.func96,Tryz.ntmps96
 go_upto_region 1 with (fail)
 refine qai fun W hW => ?_
 have HB:=hid (show Below w.heap.size w W by rw [hW];go_grown)
 have HO:=hid (show OB W w.heap.size f.op f.name f.val f.bound A f.args.length c by rw [hW];exact (qaq _ _ _ (by simp)).trans (at_new _ _ _ rfl))
 have HR:=hid (show OB W (w.heap.size+1) 0 ⟨#[]⟩ 0 0 none 0 0 by rw [hW];exact at_new _ _ _ (by simp))
 have HWS:=hid (show w.heap.size+1 < W.heap.size from lt_of_block HR.out)
 have HE:Hid (∀ k,W.heap.size≤k→D k∧k≠w.heap.size∧k≠w.heap.size+1):=hid fun k hk=>⟨hD k (by have:=HB.out.size;omega),by have:=HWS.out;omega,by have:=HWS.out;omega⟩
 clear hW
 go_wp2_with fail
 go_loopw [3,4] (fun r i wr => ∃ (k:Nat) (A':Option Addr) (c':Nat) (gs:List Fm) (sl:List (Option Addr × Nat)),k≤f.args.length∧Hid (gs=(f.args.map qak).take k)∧Hid (gs.length=k)∧r = .slice A' gs.length c'∧i = .int .i64 (k:Int)∧Hid (qjl wr W.heap.size (fun k=>D k∧k≠w.heap.size∧k≠w.heap.size+1) A' c' gs sl)∧Hid (Below W.heap.size W wr)) (fun _ i _=>f.args.length - (intOf i).toNat)
 case atStart=>exact ⟨0,none,0,[],[],Nat.zero_le _,by rw [List.take_zero];exact rfl,rfl,rfl,rfl,qjl.nil _ HE.out,Below.refl _ _⟩
 case round =>
  obtain ⟨k,A',c',gs,sl,hk,HGS,HGL,rfl,rfl,HROW,HBR⟩:=hrel
  have HBW:=hid (HB.out.trans (HBR.out.mono HB.out.size))
  have HOR:=hid (HO.out.below HBR.out)
  obtain ⟨f0,f1,f2,f3,f4,f5⟩:=HOR.out.cells
  by_cases hlt:k < f.args.length
  ·have hki:(k:Int) < f.args.length:=by omega
   have hk0:(0:Int)≤(k:Int):=by omega
   have HAr:=hid (HA.out.keep (Keeps.of_below HBW.out fun _ h=>h.2))
   obtain ⟨b1,o1,A1,c1,x,rfl,HX,hf1⟩:=HAr.out.get hlt
   have HFX:=hid hf1
   obtain ⟨-,hl1,y0,y1,y2,y3,y4, -⟩:=hf1
   have HXX:=hid HX.out
   have HLT:=hid hlt
   have HXS:=hid (show x.size≤1000000 by have h1:=qgu (f:=f) hlt;rw [HXX.out] at h1;have:=HZ.out;omega)
   have HXM:=hid (show x∈f.args by rw [←HXX.out];exact qa1 hlt)
   have HIX:=hid (show RCanC x by have h:=HIH.out k hlt;rw [HXX.out] at h;exact h)
   have hgl:gs.length≤1000000:=by have:=HGL.out;omega
   have HDC:Hid (∀ x,wr.heap.size≤x→(D x∧x≠w.heap.size∧x≠w.heap.size+1)∧(Value.slice A' gs.length c').ownBlock≠some x):=hid fun x hx=>⟨HE.out x (Nat.le_trans HBR.out.size hx),fun e=>by have:=(HROW.out.ge e).2;omega⟩
   have HXA:=hid (HFX.out.args.mono (E:=fun x=>(D x∧x≠w.heap.size∧x≠w.heap.size+1)∧(Value.slice A' gs.length c').ownBlock≠some x) fun q hq _=>⟨⟨hq.1,by have:=hq.2;omega,by have:=hq.2;omega⟩,fun e=>by have:=(HROW.out.ge e).1;have:=hq.2;have:=HWS.out;omega⟩)
   have HTK:=hid (take_snocC HLT.out HXX.out)
   have HCL:=hid (HIX.out _ (.agg #[.int .i64 x.op,.string x.name,.int .i64 x.val,.int .i64 x.bound,.slice A1 x.args.length c1]) wr (fun x=>(D x∧x≠w.heap.size∧x≠w.heap.size+1)∧(Value.slice A' gs.length c').ownBlock≠some x) HDC.out ⟨A1,c1,rfl,HXA.out⟩ (bare_in HXM.out HBQ.out) HXS.out)
   obtain ⟨y,hy⟩ : ∃ y,qak x=y:=⟨_,rfl⟩
   rw [hy] at HTK HCL
   clear hk HX hy
   go_wp2_with (first | (go_at_call 96;(with_reducible refine HCL.out.mono ?_);rintro e V1 ⟨v1,rfl,⟨A5,c5,rfl,ha5⟩,hb1⟩;have HA5:=hid ha5;have HB1:=hid hb1;have HR1:=hid (HROW.out.below hb1);have hone:=qb9 y (A5,c5);clear ha5 hb1) | (at_builtin;go_must (refine qat _ rfl (.tmp 12) (.tmp 19) 26 rfl W.heap.size 28 i0 _ 5 64 Tryz.underlying26 HTI.out HZ0.out HZ1.out HZ2.out rfl (by omega) (.slice A' gs.length c') gs.length _ rfl (own_below HR1.out.own (by go_grown)) _ (some ⟨V1.heap.size,0,none⟩) 1 1 _ rfl (Rd.fresh (D:=qbw) (n:=1) rfl trivial rfl (by decide)) hone (by omega) (qaz (by omega)) (by have:=HBR.out.size;have:=HB1.out.size;simp;omega) ?_);intro A7 c7 w7 hown7 hg7 hat7))
   have HG7:=hid hg7
   have HO7:=hid hown7
   have HAT:=hid hat7
   clear hown7 hg7 hat7
   go_roundw
   case rel =>
    refine ⟨k+1,A7,c7,gs ++ [y],sl ++ [(A5,c5)],by have:=HLT.out;omega,by rw [HTK.out,←HGS.out];exact rfl,by rw [List.length_append,HGL.out];exact rfl,by rw [List.length_append];rfl,by go_num,?_,?_⟩
    ·exact qjl.push (HR1.out.below ((Below.refl _ _).alloc (Nat.le_refl _) _)) HG7.out HO7.out HAT.out (HA5.out.belowD ((Below.refl _ _).alloc (Nat.le_refl _) _))
    ·exact Below.grown ((HBR.out.trans (HB1.out.mono HBR.out.size)).alloc (by have:=HBR.out.size;have:=HB1.out.size;omega) _) HG7.out (by have:=HBR.out.size;have:=HB1.out.size;simp;omega) fun k hk=>(HR1.out.ge hk).1
   case measure=>have:=HLT.out;simp [intOf];omega
  ·have hkl:k=f.args.length:=by omega
   have hii : ¬ (k:Int) < f.args.length:=by omega
   have HGA:=hid (show gs=f.args.map qak by rw [HGS.out,hkl,←List.length_map (f:=qak),List.take_length])
   have hgl:gs.length≤1000000:=by have:=HGL.out;omega
   have HGN:=hid (show gs.length=f.args.length by rw [HGL.out];exact hkl)
   have HRD:=hid (HROW.out.rd (by omega))
   have HRR:=hid (HR.out.below HBR.out)
   have HEr:Hid (∀ x,wr.heap.size≤x→D x∧x≠w.heap.size∧x≠w.heap.size+1):=hid fun x hx=>HE.out x (Nat.le_trans HBR.out.size hx)
   clear hk hkl HGS HROW HIH
   by_cases h56:f.op=5∨f.op=6
   ·have HKF0:=hid (show qak f=qbm f.op gs by rw [canZ_canon HBQ.out h56,HGA.out])
    have HOPC:=hid h56
    have HCN:=hid (show ∀ g,g∈gs→Can g from fun g hg=>by
     rw [HGA.out] at hg
     obtain ⟨x,hx,rfl⟩:=List.mem_map.1 hg
     exact canonZ_can x _ (bare_in hx HBQ.out))
    have HSS:=hid (show sizes gs≤1000000 by
     rw [HGA.out]
     have h1:=qcx (g:=qak) (l:=f.args) fun x _=>qd4 x
     have h2:=Fm.size_eq f
     have h3:=HZ.out
     omega)
    have HF4:=hid (can_flat4 (op:=f.op) (l:=gs) (ins:=ins || (qah f.op).past) fun g hg=>by
     rw [HGA.out] at hg
     obtain ⟨x,hx,rfl⟩:=List.mem_map.1 hg
     exact qfk x _ (bare_in hx HBQ.out) (by have h1:=qch hx;have h2:=Fm.size_eq f;have h3:=HZ.out;unfold manyN;omega))
    have HGT:=hid (qgi (E:=(fun k=>D k∧k≠w.heap.size∧k≠w.heap.size+1)) f.op HOPC.out gs A' gs.length c' wr HEr.out HRD.out rfl HCN.out HSS.out HF4.out)
    obtain ⟨z,hz⟩ : ∃ z,qbm f.op gs=z:=⟨_,rfl⟩
    rw [hz] at HGT HKF0
    have HKF:=hid HKF0.out
    clear hz
    obtain ⟨r0,r1,r2,r3,r4,r5⟩:=(HRR.out.below (Below.refl _ _)).cells
    have p0:=(HRR.out.below (Below.refl _ _)).free 0
    have p1:=(HRR.out.below (Below.refl _ _)).free 1
    have p2:=(HRR.out.below (Below.refl _ _)).free 2
    have p3:=(HRR.out.below (Below.refl _ _)).free 3
    have p4:=(HRR.out.below (Below.refl _ _)).free 4
    rcases h56 with h | h
    all_goals
     have HOPX:=hid h
     rw [h] at f0 HGT
     clear h
     go_wp2_with (go_at_call 59;(with_reducible refine HGT.out.mono ?_);rintro e U ⟨v1,rfl,⟨A5,c5,rfl,ha5⟩,hbu⟩;have HA5:=hid ha5;have HBU:=hid hbu;clear ha5 hbu r0 r1 r2 r3 r4 r5 p0 p1 p2 p3 p4;obtain ⟨r0,r1,r2,r3,r4,r5⟩:=(HRR.out.below HBU.out).cells;have p0:=(HRR.out.below HBU.out).free 0;have p1:=(HRR.out.below HBU.out).free 1;have p2:=(HRR.out.below HBU.out).free 2;have p3:=(HRR.out.below HBU.out).free 3;have p4:=(HRR.out.below HBU.out).free 4)
     refine qab fun W9 hW9 => ?_
     have hO9:OB W9 (w.heap.size+1) z.op z.name z.val z.bound A5 z.args.length c5:=by rw [hW9];exact qag (HRR.out.below HBU.out)
     have hC9:Chg (fun k=>k=w.heap.size+1) U W9:=by rw [hW9];exact qae _ _ _ _ _ _ _
     clear hW9 p0 p1 p2 p3 p4 r0 r1 r2 r3 r4 r5
     obtain ⟨r0,r1,r2,r3,r4,r5⟩:=hO9.cells
     exact bodyPost_ret (v := .agg #[.int .i64 (z.op),.string z.name,.int .i64 z.val,.int .i64 z.bound,.slice A5 z.args.length c5]) (by simp [results,Tryz.results96,go_sem,r0,r1,r2,r3,r4]) rfl ⟨_,rfl,by rw [HKF.out];exact ⟨A5,c5,rfl,((HA5.out).keep (hC9.keeps fun x _ hx hv=>hx.2.2 hv)).mono fun x hx _=>hx.1⟩,(qac HBW.out HBU.out).trans (hC9.below (B:=w.heap.size) (fun x hx hv=>by have hv':x=w.heap.size+1:=hv;omega) (qac HBW.out HBU.out).size)⟩
   by_cases h8:f.op=8∨f.op=9∨f.op=10
   ·have HBD:=hid (show f.bound=0 from qjm HSH.out (by rcases h8 with h | h | h <;> (rw [h];rfl)))
    rcases h8 with h | h | h
    ·have HOPX:=hid h
     have hgn:gs.length=1:=by
      obtain ⟨_,h1,h2,_⟩:=qbz HSH.out
      rw [h] at h1 h2
      have h1':1≤f.args.length:=h1
      have h2':f.args.length≤1:=h2
      have:=HGN.out
      omega
     have HCZ:=hid (can_next h)
     rw [←HGA.out] at HCZ
     rw [h] at f0
     clear h h56
     obtain ⟨b2,o2,A2,c2,y,rfl,HY,hf2⟩:=HRD.out.get (k:=0) (by omega)
     simp only [Nat.zero_mul,Nat.add_zero] at hf2
     have HFY:=hid hf2
     obtain ⟨-,hl2,y0,y1,y2,y3,y4, -⟩:=hf2
     have HYY:=hid (show gs.getD 0 default=y from HY.out)
     rw [HYY.out] at HCZ
     clear HY
     have hx0:(0:Int) < gs.length:=by omega
     by_cases e1:y.op=1
     ·have HKF:=hid (show qak f=y by rw [HCZ.out,if_pos (isC_1 e1)])
      have d1:(y.op == 1)=true:=qb6 e1
      clear e1
      obtain ⟨r0,r1,r2,r3,r4,r5⟩:=(HRR.out.below (Below.refl _ _)).cells
      have p0:=(HRR.out.below (Below.refl _ _)).free 0
      have p1:=(HRR.out.below (Below.refl _ _)).free 1
      have p2:=(HRR.out.below (Below.refl _ _)).free 2
      have p3:=(HRR.out.below (Below.refl _ _)).free 3
      have p4:=(HRR.out.below (Below.refl _ _)).free 4
      go_wp2_with fail
      refine qab fun W9 hW9 => ?_
      have hO9:OB W9 (w.heap.size+1) y.op y.name y.val y.bound A2 y.args.length c2:=by rw [hW9];exact qag (HRR.out.below (Below.refl _ _))
      have hC9:Chg (fun k=>k=w.heap.size+1) wr W9:=by rw [hW9];exact qae _ _ _ _ _ _ _
      clear hW9 p0 p1 p2 p3 p4 r0 r1 r2 r3 r4 r5
      obtain ⟨r0,r1,r2,r3,r4,r5⟩:=hO9.cells
      exact bodyPost_ret (v := .agg #[.int .i64 (y.op),.string y.name,.int .i64 y.val,.int .i64 y.bound,.slice A2 y.args.length c2]) (by simp [results,Tryz.results96,go_sem,r0,r1,r2,r3,r4]) rfl ⟨_,rfl,by rw [HKF.out];exact ⟨A2,c2,rfl,((HFY.out.args).keep (hC9.keeps fun x _ hx hv=>hx.2.2 hv)).mono fun x hx _=>hx.1⟩,(qac HBW.out (Below.refl _ _)).trans (hC9.below (B:=w.heap.size) (fun x hx hv=>by have hv':x=w.heap.size+1:=hv;omega) (qac HBW.out (Below.refl _ _)).size)⟩
     have d1:(y.op == 1)=false:=qar e1
     by_cases e2:y.op=2
     ·have HKF:=hid (show qak f=y by rw [HCZ.out,if_pos (isC_2 e2)])
      have d2:(y.op == 2)=true:=qb6 e2
      clear e1 e2
      obtain ⟨r0,r1,r2,r3,r4,r5⟩:=(HRR.out.below (Below.refl _ _)).cells
      have p0:=(HRR.out.below (Below.refl _ _)).free 0
      have p1:=(HRR.out.below (Below.refl _ _)).free 1
      have p2:=(HRR.out.below (Below.refl _ _)).free 2
      have p3:=(HRR.out.below (Below.refl _ _)).free 3
      have p4:=(HRR.out.below (Below.refl _ _)).free 4
      go_wp2_with fail
      refine qab fun W9 hW9 => ?_
      have hO9:OB W9 (w.heap.size+1) y.op y.name y.val y.bound A2 y.args.length c2:=by rw [hW9];exact qag (HRR.out.below (Below.refl _ _))
      have hC9:Chg (fun k=>k=w.heap.size+1) wr W9:=by rw [hW9];exact qae _ _ _ _ _ _ _
      clear hW9 p0 p1 p2 p3 p4 r0 r1 r2 r3 r4 r5
      obtain ⟨r0,r1,r2,r3,r4,r5⟩:=hO9.cells
      exact bodyPost_ret (v := .agg #[.int .i64 (y.op),.string y.name,.int .i64 y.val,.int .i64 y.bound,.slice A2 y.args.length c2]) (by simp [results,Tryz.results96,go_sem,r0,r1,r2,r3,r4]) rfl ⟨_,rfl,by rw [HKF.out];exact ⟨A2,c2,rfl,((HFY.out.args).keep (hC9.keeps fun x _ hx hv=>hx.2.2 hv)).mono fun x hx _=>hx.1⟩,(qac HBW.out (Below.refl _ _)).trans (hC9.below (B:=w.heap.size) (fun x hx hv=>by have hv':x=w.heap.size+1:=hv;omega) (qac HBW.out (Below.refl _ _)).size)⟩
     have d2:(y.op == 2)=false:=qar e2
     have HKF:=hid (show qak f = .mk 8 f.name f.val 0 gs by rw [HCZ.out,if_neg (isC_0 e1 e2)])
     clear e1 e2
     have q4:=HOR.out.free 4
     go_upto_region 20 with (fail)
     refine qai fun U hU => ?_
     have hcu:Chg (fun x=>x=w.heap.size) wr U:=by rw [hU];exact (Chg.refl (fun x=>x=w.heap.size) wr).set ⟨w.heap.size,4,none⟩ _ fun _=>rfl
     have HOU:=hid (show OB U w.heap.size f.op f.name f.val f.bound (some ⟨b2,o2,none⟩) 1 c' by show U.heap[_]? = _;rw [hU,qam HOR.out _];rfl)
     have HRU:=hid (show OB U (w.heap.size+1) 0 ⟨#[]⟩ 0 0 none 0 0 from hcu.box HRR.out (by show ¬ w.heap.size+1=w.heap.size;omega))
     have HRDU:=hid (HRD.out.keep (hcu.keeps fun x _ hx hv=>hx.2.1 hv))
     have HBWU:=hid (HBW.out.trans (hcu.below (B:=w.heap.size) (fun x hx hv=>by have hv':x=w.heap.size:=hv;omega) HBW.out.size))
     clear hU hcu f0 f1 f2 f3 f4 q4
     obtain ⟨f0,f1,f2,f3,f4,f5'⟩:=HOU.out.cells
     rw [HOPX.out] at f0
     obtain ⟨r0,r1,r2,r3,r4,r5⟩:=HRU.out.cells
     have p0:=HRU.out.free 0
     have p1:=HRU.out.free 1
     have p2:=HRU.out.free 2
     have p3:=HRU.out.free 3
     have p4:=HRU.out.free 4
     go_wp2_with fail
     refine qab fun W9 hW9 => ?_
     have hO9:OB W9 (w.heap.size+1) 8 f.name f.val f.bound (some ⟨b2,o2,none⟩) 1 c':=by rw [hW9];exact qag HRU.out
     have hC9:Chg (fun k=>k=w.heap.size+1) U W9:=by rw [hW9];exact qae _ _ _ _ _ _ _
     clear hW9 p0 p1 p2 p3 p4 r0 r1 r2 r3 r4 r5
     obtain ⟨r0,r1,r2,r3,r4,r5⟩:=hO9.cells
     exact bodyPost_ret (v := .agg #[.int .i64 (8),.string f.name,.int .i64 f.val,.int .i64 f.bound,.slice (some ⟨b2,o2,none⟩) 1 c']) (by simp [results,Tryz.results96,go_sem,r0,r1,r2,r3,r4]) rfl ⟨_,rfl,by rw [HKF.out];exact ⟨(some ⟨b2,o2,none⟩),c',(by rw [HBD.out];show Value.agg #[.int .i64 8,.string f.name,.int .i64 f.val,.int .i64 0,.slice (some ⟨b2,o2,none⟩) 1 c']=Value.agg #[.int .i64 8,.string f.name,.int .i64 f.val,.int .i64 0,.slice (some ⟨b2,o2,none⟩) gs.length c'];rw [hgn]),((HRDU.out).keep (hC9.keeps fun x _ hx hv=>hx.2.2 hv)).mono fun x hx _=>hx.1⟩,HBWU.out.trans (hC9.below (B:=w.heap.size) (fun x hx hv=>by have hv':x=w.heap.size+1:=hv;omega) HBWU.out.size)⟩
    ·have HOPX:=hid h
     have hgn:gs.length=2:=by
      obtain ⟨_,h1,h2,_⟩:=qbz HSH.out
      rw [h] at h1 h2
      have h1':2≤f.args.length:=h1
      have h2':f.args.length≤2:=h2
      have:=HGN.out
      omega
     have HCZ:=hid (can_til h)
     rw [←HGA.out] at HCZ
     rw [h] at f0
     clear h h56
     obtain ⟨b2,o2,A2,c2,y,rfl,HY,hf2⟩:=HRD.out.get (k:=0) (by omega)
     simp only [Nat.zero_mul,Nat.add_zero] at hf2
     have HFY:=hid hf2
     obtain ⟨-,hl2,y0,y1,y2,y3,y4, -⟩:=hf2
     have HYY:=hid (show gs.getD 0 default=y from HY.out)
     rw [HYY.out] at HCZ
     clear HY
     have hx0:(0:Int) < gs.length:=by omega
     obtain ⟨b3,o3,A3,c3,z,he,HZZ,hf3⟩:=HRD.out.get (k:=1) (by omega)
     cases he
     rw [Nat.one_mul] at hf3
     have HFZ:=hid hf3
     obtain ⟨-,hl3,z0,z1,z2,z3,z4, -⟩:=hf3
     have HZ2:=hid (show gs.getD 1 default=z from HZZ.out)
     rw [HZ2.out] at HCZ
     clear HZZ
     have hx1:(1:Int) < gs.length:=by omega
     by_cases e1:z.op=1
     ·have HKF:=hid (show qak f=z by rw [HCZ.out,if_pos (.inl (isC_1 e1))])
      have d1:(z.op == 1)=true:=qb6 e1
      clear e1
      obtain ⟨r0,r1,r2,r3,r4,r5⟩:=(HRR.out.below (Below.refl _ _)).cells
      have p0:=(HRR.out.below (Below.refl _ _)).free 0
      have p1:=(HRR.out.below (Below.refl _ _)).free 1
      have p2:=(HRR.out.below (Below.refl _ _)).free 2
      have p3:=(HRR.out.below (Below.refl _ _)).free 3
      have p4:=(HRR.out.below (Below.refl _ _)).free 4
      go_wp2_with fail
      refine qab fun W9 hW9 => ?_
      have hO9:OB W9 (w.heap.size+1) z.op z.name z.val z.bound A3 z.args.length c3:=by rw [hW9];exact qag (HRR.out.below (Below.refl _ _))
      have hC9:Chg (fun k=>k=w.heap.size+1) wr W9:=by rw [hW9];exact qae _ _ _ _ _ _ _
      clear hW9 p0 p1 p2 p3 p4 r0 r1 r2 r3 r4 r5
      obtain ⟨r0,r1,r2,r3,r4,r5⟩:=hO9.cells
      exact bodyPost_ret (v := .agg #[.int .i64 (z.op),.string z.name,.int .i64 z.val,.int .i64 z.bound,.slice A3 z.args.length c3]) (by simp [results,Tryz.results96,go_sem,r0,r1,r2,r3,r4]) rfl ⟨_,rfl,by rw [HKF.out];exact ⟨A3,c3,rfl,((HFZ.out.args).keep (hC9.keeps fun x _ hx hv=>hx.2.2 hv)).mono fun x hx _=>hx.1⟩,(qac HBW.out (Below.refl _ _)).trans (hC9.below (B:=w.heap.size) (fun x hx hv=>by have hv':x=w.heap.size+1:=hv;omega) (qac HBW.out (Below.refl _ _)).size)⟩
     have d1:(z.op == 1)=false:=qar e1
     by_cases e2:z.op=2
     ·have HKF:=hid (show qak f=z by rw [HCZ.out,if_pos (.inl (isC_2 e2))])
      have d2:(z.op == 2)=true:=qb6 e2
      clear e1 e2
      obtain ⟨r0,r1,r2,r3,r4,r5⟩:=(HRR.out.below (Below.refl _ _)).cells
      have p0:=(HRR.out.below (Below.refl _ _)).free 0
      have p1:=(HRR.out.below (Below.refl _ _)).free 1
      have p2:=(HRR.out.below (Below.refl _ _)).free 2
      have p3:=(HRR.out.below (Below.refl _ _)).free 3
      have p4:=(HRR.out.below (Below.refl _ _)).free 4
      go_wp2_with fail
      refine qab fun W9 hW9 => ?_
      have hO9:OB W9 (w.heap.size+1) z.op z.name z.val z.bound A3 z.args.length c3:=by rw [hW9];exact qag (HRR.out.below (Below.refl _ _))
      have hC9:Chg (fun k=>k=w.heap.size+1) wr W9:=by rw [hW9];exact qae _ _ _ _ _ _ _
      clear hW9 p0 p1 p2 p3 p4 r0 r1 r2 r3 r4 r5
      obtain ⟨r0,r1,r2,r3,r4,r5⟩:=hO9.cells
      exact bodyPost_ret (v := .agg #[.int .i64 (z.op),.string z.name,.int .i64 z.val,.int .i64 z.bound,.slice A3 z.args.length c3]) (by simp [results,Tryz.results96,go_sem,r0,r1,r2,r3,r4]) rfl ⟨_,rfl,by rw [HKF.out];exact ⟨A3,c3,rfl,((HFZ.out.args).keep (hC9.keeps fun x _ hx hv=>hx.2.2 hv)).mono fun x hx _=>hx.1⟩,(qac HBW.out (Below.refl _ _)).trans (hC9.below (B:=w.heap.size) (fun x hx hv=>by have hv':x=w.heap.size+1:=hv;omega) (qac HBW.out (Below.refl _ _)).size)⟩
     have d2:(z.op == 2)=false:=qar e2
     by_cases e3:y.op=2
     ·have HKF:=hid (show qak f=z by rw [HCZ.out,if_pos (.inr e3)])
      have d3:(y.op == 2)=true:=qb6 e3
      clear e1 e2 e3
      obtain ⟨r0,r1,r2,r3,r4,r5⟩:=(HRR.out.below (Below.refl _ _)).cells
      have p0:=(HRR.out.below (Below.refl _ _)).free 0
      have p1:=(HRR.out.below (Below.refl _ _)).free 1
      have p2:=(HRR.out.below (Below.refl _ _)).free 2
      have p3:=(HRR.out.below (Below.refl _ _)).free 3
      have p4:=(HRR.out.below (Below.refl _ _)).free 4
      go_wp2_with fail
      refine qab fun W9 hW9 => ?_
      have hO9:OB W9 (w.heap.size+1) z.op z.name z.val z.bound A3 z.args.length c3:=by rw [hW9];exact qag (HRR.out.below (Below.refl _ _))
      have hC9:Chg (fun k=>k=w.heap.size+1) wr W9:=by rw [hW9];exact qae _ _ _ _ _ _ _
      clear hW9 p0 p1 p2 p3 p4 r0 r1 r2 r3 r4 r5
      obtain ⟨r0,r1,r2,r3,r4,r5⟩:=hO9.cells
      exact bodyPost_ret (v := .agg #[.int .i64 (z.op),.string z.name,.int .i64 z.val,.int .i64 z.bound,.slice A3 z.args.length c3]) (by simp [results,Tryz.results96,go_sem,r0,r1,r2,r3,r4]) rfl ⟨_,rfl,by rw [HKF.out];exact ⟨A3,c3,rfl,((HFZ.out.args).keep (hC9.keeps fun x _ hx hv=>hx.2.2 hv)).mono fun x hx _=>hx.1⟩,(qac HBW.out (Below.refl _ _)).trans (hC9.below (B:=w.heap.size) (fun x hx hv=>by have hv':x=w.heap.size+1:=hv;omega) (qac HBW.out (Below.refl _ _)).size)⟩
     have d3:(y.op == 2)=false:=qar e3
     have HKF:=hid (show qak f = .mk 9 f.name f.val 0 gs by rw [HCZ.out,if_neg (fun h=>h.elim (isC_0 e1 e2) e3)])
     clear e1 e2 e3
     have q4:=HOR.out.free 4
     go_upto_region 20 with (fail)
     refine qai fun U hU => ?_
     have hcu:Chg (fun x=>x=w.heap.size) wr U:=by rw [hU];exact (Chg.refl (fun x=>x=w.heap.size) wr).set ⟨w.heap.size,4,none⟩ _ fun _=>rfl
     have HOU:=hid (show OB U w.heap.size f.op f.name f.val f.bound (some ⟨b2,o2,none⟩) 2 c' by show U.heap[_]? = _;rw [hU,qam HOR.out _];rfl)
     have HRU:=hid (show OB U (w.heap.size+1) 0 ⟨#[]⟩ 0 0 none 0 0 from hcu.box HRR.out (by show ¬ w.heap.size+1=w.heap.size;omega))
     have HRDU:=hid (HRD.out.keep (hcu.keeps fun x _ hx hv=>hx.2.1 hv))
     have HBWU:=hid (HBW.out.trans (hcu.below (B:=w.heap.size) (fun x hx hv=>by have hv':x=w.heap.size:=hv;omega) HBW.out.size))
     clear hU hcu f0 f1 f2 f3 f4 q4
     obtain ⟨f0,f1,f2,f3,f4,f5'⟩:=HOU.out.cells
     rw [HOPX.out] at f0
     obtain ⟨r0,r1,r2,r3,r4,r5⟩:=HRU.out.cells
     have p0:=HRU.out.free 0
     have p1:=HRU.out.free 1
     have p2:=HRU.out.free 2
     have p3:=HRU.out.free 3
     have p4:=HRU.out.free 4
     go_wp2_with fail
     refine qab fun W9 hW9 => ?_
     have hO9:OB W9 (w.heap.size+1) 9 f.name f.val f.bound (some ⟨b2,o2,none⟩) 2 c':=by rw [hW9];exact qag HRU.out
     have hC9:Chg (fun k=>k=w.heap.size+1) U W9:=by rw [hW9];exact qae _ _ _ _ _ _ _
     clear hW9 p0 p1 p2 p3 p4 r0 r1 r2 r3 r4 r5
     obtain ⟨r0,r1,r2,r3,r4,r5⟩:=hO9.cells
     exact bodyPost_ret (v := .agg #[.int .i64 (9),.string f.name,.int .i64 f.val,.int .i64 f.bound,.slice (some ⟨b2,o2,none⟩) 2 c']) (by simp [results,Tryz.results96,go_sem,r0,r1,r2,r3,r4]) rfl ⟨_,rfl,by rw [HKF.out];exact ⟨(some ⟨b2,o2,none⟩),c',(by rw [HBD.out];show Value.agg #[.int .i64 9,.string f.name,.int .i64 f.val,.int .i64 0,.slice (some ⟨b2,o2,none⟩) 2 c']=Value.agg #[.int .i64 9,.string f.name,.int .i64 f.val,.int .i64 0,.slice (some ⟨b2,o2,none⟩) gs.length c'];rw [hgn]),((HRDU.out).keep (hC9.keeps fun x _ hx hv=>hx.2.2 hv)).mono fun x hx _=>hx.1⟩,HBWU.out.trans (hC9.below (B:=w.heap.size) (fun x hx hv=>by have hv':x=w.heap.size+1:=hv;omega) HBWU.out.size)⟩
    ·have HOPX:=hid h
     have hgn:gs.length=2:=by
      obtain ⟨_,h1,h2,_⟩:=qbz HSH.out
      rw [h] at h1 h2
      have h1':2≤f.args.length:=h1
      have h2':f.args.length≤2:=h2
      have:=HGN.out
      omega
     have HCZ:=hid (can_rel h)
     rw [←HGA.out] at HCZ
     rw [h] at f0
     clear h h56
     obtain ⟨b2,o2,A2,c2,y,rfl,HY,hf2⟩:=HRD.out.get (k:=0) (by omega)
     simp only [Nat.zero_mul,Nat.add_zero] at hf2
     have HFY:=hid hf2
     obtain ⟨-,hl2,y0,y1,y2,y3,y4, -⟩:=hf2
     have HYY:=hid (show gs.getD 0 default=y from HY.out)
     rw [HYY.out] at HCZ
     clear HY
     have hx0:(0:Int) < gs.length:=by omega
     obtain ⟨b3,o3,A3,c3,z,he,HZZ,hf3⟩:=HRD.out.get (k:=1) (by omega)
     cases he
     rw [Nat.one_mul] at hf3
     have HFZ:=hid hf3
     obtain ⟨-,hl3,z0,z1,z2,z3,z4, -⟩:=hf3
     have HZ2:=hid (show gs.getD 1 default=z from HZZ.out)
     rw [HZ2.out] at HCZ
     clear HZZ
     have hx1:(1:Int) < gs.length:=by omega
     by_cases e1:z.op=1
     ·have HKF:=hid (show qak f=z by rw [HCZ.out,if_pos (.inl (isC_1 e1))])
      have d1:(z.op == 1)=true:=qb6 e1
      clear e1
      obtain ⟨r0,r1,r2,r3,r4,r5⟩:=(HRR.out.below (Below.refl _ _)).cells
      have p0:=(HRR.out.below (Below.refl _ _)).free 0
      have p1:=(HRR.out.below (Below.refl _ _)).free 1
      have p2:=(HRR.out.below (Below.refl _ _)).free 2
      have p3:=(HRR.out.below (Below.refl _ _)).free 3
      have p4:=(HRR.out.below (Below.refl _ _)).free 4
      go_wp2_with fail
      refine qab fun W9 hW9 => ?_
      have hO9:OB W9 (w.heap.size+1) z.op z.name z.val z.bound A3 z.args.length c3:=by rw [hW9];exact qag (HRR.out.below (Below.refl _ _))
      have hC9:Chg (fun k=>k=w.heap.size+1) wr W9:=by rw [hW9];exact qae _ _ _ _ _ _ _
      clear hW9 p0 p1 p2 p3 p4 r0 r1 r2 r3 r4 r5
      obtain ⟨r0,r1,r2,r3,r4,r5⟩:=hO9.cells
      exact bodyPost_ret (v := .agg #[.int .i64 (z.op),.string z.name,.int .i64 z.val,.int .i64 z.bound,.slice A3 z.args.length c3]) (by simp [results,Tryz.results96,go_sem,r0,r1,r2,r3,r4]) rfl ⟨_,rfl,by rw [HKF.out];exact ⟨A3,c3,rfl,((HFZ.out.args).keep (hC9.keeps fun x _ hx hv=>hx.2.2 hv)).mono fun x hx _=>hx.1⟩,(qac HBW.out (Below.refl _ _)).trans (hC9.below (B:=w.heap.size) (fun x hx hv=>by have hv':x=w.heap.size+1:=hv;omega) (qac HBW.out (Below.refl _ _)).size)⟩
     have d1:(z.op == 1)=false:=qar e1
     by_cases e2:z.op=2
     ·have HKF:=hid (show qak f=z by rw [HCZ.out,if_pos (.inl (isC_2 e2))])
      have d2:(z.op == 2)=true:=qb6 e2
      clear e1 e2
      obtain ⟨r0,r1,r2,r3,r4,r5⟩:=(HRR.out.below (Below.refl _ _)).cells
      have p0:=(HRR.out.below (Below.refl _ _)).free 0
      have p1:=(HRR.out.below (Below.refl _ _)).free 1
      have p2:=(HRR.out.below (Below.refl _ _)).free 2
      have p3:=(HRR.out.below (Below.refl _ _)).free 3
      have p4:=(HRR.out.below (Below.refl _ _)).free 4
      go_wp2_with fail
      refine qab fun W9 hW9 => ?_
      have hO9:OB W9 (w.heap.size+1) z.op z.name z.val z.bound A3 z.args.length c3:=by rw [hW9];exact qag (HRR.out.below (Below.refl _ _))
      have hC9:Chg (fun k=>k=w.heap.size+1) wr W9:=by rw [hW9];exact qae _ _ _ _ _ _ _
      clear hW9 p0 p1 p2 p3 p4 r0 r1 r2 r3 r4 r5
      obtain ⟨r0,r1,r2,r3,r4,r5⟩:=hO9.cells
      exact bodyPost_ret (v := .agg #[.int .i64 (z.op),.string z.name,.int .i64 z.val,.int .i64 z.bound,.slice A3 z.args.length c3]) (by simp [results,Tryz.results96,go_sem,r0,r1,r2,r3,r4]) rfl ⟨_,rfl,by rw [HKF.out];exact ⟨A3,c3,rfl,((HFZ.out.args).keep (hC9.keeps fun x _ hx hv=>hx.2.2 hv)).mono fun x hx _=>hx.1⟩,(qac HBW.out (Below.refl _ _)).trans (hC9.below (B:=w.heap.size) (fun x hx hv=>by have hv':x=w.heap.size+1:=hv;omega) (qac HBW.out (Below.refl _ _)).size)⟩
     have d2:(z.op == 2)=false:=qar e2
     by_cases e3:y.op=1
     ·have HKF:=hid (show qak f=z by rw [HCZ.out,if_pos (.inr e3)])
      have d3:(y.op == 1)=true:=qb6 e3
      clear e1 e2 e3
      obtain ⟨r0,r1,r2,r3,r4,r5⟩:=(HRR.out.below (Below.refl _ _)).cells
      have p0:=(HRR.out.below (Below.refl _ _)).free 0
      have p1:=(HRR.out.below (Below.refl _ _)).free 1
      have p2:=(HRR.out.below (Below.refl _ _)).free 2
      have p3:=(HRR.out.below (Below.refl _ _)).free 3
      have p4:=(HRR.out.below (Below.refl _ _)).free 4
      go_wp2_with fail
      refine qab fun W9 hW9 => ?_
      have hO9:OB W9 (w.heap.size+1) z.op z.name z.val z.bound A3 z.args.length c3:=by rw [hW9];exact qag (HRR.out.below (Below.refl _ _))
      have hC9:Chg (fun k=>k=w.heap.size+1) wr W9:=by rw [hW9];exact qae _ _ _ _ _ _ _
      clear hW9 p0 p1 p2 p3 p4 r0 r1 r2 r3 r4 r5
      obtain ⟨r0,r1,r2,r3,r4,r5⟩:=hO9.cells
      exact bodyPost_ret (v := .agg #[.int .i64 (z.op),.string z.name,.int .i64 z.val,.int .i64 z.bound,.slice A3 z.args.length c3]) (by simp [results,Tryz.results96,go_sem,r0,r1,r2,r3,r4]) rfl ⟨_,rfl,by rw [HKF.out];exact ⟨A3,c3,rfl,((HFZ.out.args).keep (hC9.keeps fun x _ hx hv=>hx.2.2 hv)).mono fun x hx _=>hx.1⟩,(qac HBW.out (Below.refl _ _)).trans (hC9.below (B:=w.heap.size) (fun x hx hv=>by have hv':x=w.heap.size+1:=hv;omega) (qac HBW.out (Below.refl _ _)).size)⟩
     have d3:(y.op == 1)=false:=qar e3
     have HKF:=hid (show qak f = .mk 10 f.name f.val 0 gs by rw [HCZ.out,if_neg (fun h=>h.elim (isC_0 e1 e2) e3)])
     clear e1 e2 e3
     have q4:=HOR.out.free 4
     go_upto_region 20 with (fail)
     refine qai fun U hU => ?_
     have hcu:Chg (fun x=>x=w.heap.size) wr U:=by rw [hU];exact (Chg.refl (fun x=>x=w.heap.size) wr).set ⟨w.heap.size,4,none⟩ _ fun _=>rfl
     have HOU:=hid (show OB U w.heap.size f.op f.name f.val f.bound (some ⟨b2,o2,none⟩) 2 c' by show U.heap[_]? = _;rw [hU,qam HOR.out _];rfl)
     have HRU:=hid (show OB U (w.heap.size+1) 0 ⟨#[]⟩ 0 0 none 0 0 from hcu.box HRR.out (by show ¬ w.heap.size+1=w.heap.size;omega))
     have HRDU:=hid (HRD.out.keep (hcu.keeps fun x _ hx hv=>hx.2.1 hv))
     have HBWU:=hid (HBW.out.trans (hcu.below (B:=w.heap.size) (fun x hx hv=>by have hv':x=w.heap.size:=hv;omega) HBW.out.size))
     clear hU hcu f0 f1 f2 f3 f4 q4
     obtain ⟨f0,f1,f2,f3,f4,f5'⟩:=HOU.out.cells
     rw [HOPX.out] at f0
     obtain ⟨r0,r1,r2,r3,r4,r5⟩:=HRU.out.cells
     have p0:=HRU.out.free 0
     have p1:=HRU.out.free 1
     have p2:=HRU.out.free 2
     have p3:=HRU.out.free 3
     have p4:=HRU.out.free 4
     go_wp2_with fail
     refine qab fun W9 hW9 => ?_
     have hO9:OB W9 (w.heap.size+1) 10 f.name f.val f.bound (some ⟨b2,o2,none⟩) 2 c':=by rw [hW9];exact qag HRU.out
     have hC9:Chg (fun k=>k=w.heap.size+1) U W9:=by rw [hW9];exact qae _ _ _ _ _ _ _
     clear hW9 p0 p1 p2 p3 p4 r0 r1 r2 r3 r4 r5
     obtain ⟨r0,r1,r2,r3,r4,r5⟩:=hO9.cells
     exact bodyPost_ret (v := .agg #[.int .i64 (10),.string f.name,.int .i64 f.val,.int .i64 f.bound,.slice (some ⟨b2,o2,none⟩) 2 c']) (by simp [results,Tryz.results96,go_sem,r0,r1,r2,r3,r4]) rfl ⟨_,rfl,by rw [HKF.out];exact ⟨(some ⟨b2,o2,none⟩),c',(by rw [HBD.out];show Value.agg #[.int .i64 10,.string f.name,.int .i64 f.val,.int .i64 0,.slice (some ⟨b2,o2,none⟩) 2 c']=Value.agg #[.int .i64 10,.string f.name,.int .i64 f.val,.int .i64 0,.slice (some ⟨b2,o2,none⟩) gs.length c'];rw [hgn]),((HRDU.out).keep (hC9.keeps fun x _ hx hv=>hx.2.2 hv)).mono fun x hx _=>hx.1⟩,HBWU.out.trans (hC9.below (B:=w.heap.size) (fun x hx hv=>by have hv':x=w.heap.size+1:=hv;omega) HBWU.out.size)⟩
   have HKF:=hid (show qak f = .mk f.op f.name f.val 0 gs by
    rw [qda,HGA.out]
    unfold qh0
    rw [if_neg h56,if_neg (fun h=>h8 (.inl h.1)),if_neg (fun h=>h8 (.inr (.inl h.1))),if_neg (fun h=>h8 (.inr (.inr h.1)))])
   have HBD:=hid (show f.bound=0 from qjm HSH.out (by
    have h:=HLO.out
    rcases qdt (qbz HSH.out).1 with h' | h' | h' | h' | h' | h' | h' | h' | h' | h' | h' | h' | h' | h' | h' | h' | h' | h' | h' <;> rw [h'] at h ⊢ <;> first | rfl | cases h))
   have d5:(f.op == 5)=false:=qar (by omega)
   have d6:(f.op == 6)=false:=qar (by omega)
   have d8:(f.op == 8)=false:=qar (by omega)
   have d9:(f.op == 9)=false:=qar (by omega)
   have d10:(f.op == 10)=false:=qar (by omega)
   clear h56 h8
   have q4:=HOR.out.free 4
   go_upto_region 20 with (fail)
   refine qai fun U hU => ?_
   have hcu:Chg (fun x=>x=w.heap.size) wr U:=by rw [hU];exact (Chg.refl (fun x=>x=w.heap.size) wr).set ⟨w.heap.size,4,none⟩ _ fun _=>rfl
   have HOU:=hid (show OB U w.heap.size f.op f.name f.val f.bound A' gs.length c' by show U.heap[_]? = _;rw [hU,qam HOR.out _];rfl)
   have HRU:=hid (show OB U (w.heap.size+1) 0 ⟨#[]⟩ 0 0 none 0 0 from hcu.box HRR.out (by show ¬ w.heap.size+1=w.heap.size;omega))
   have HRDU:=hid (HRD.out.keep (hcu.keeps fun x _ hx hv=>hx.2.1 hv))
   have HBWU:=hid (HBW.out.trans (hcu.below (B:=w.heap.size) (fun x hx hv=>by have hv':x=w.heap.size:=hv;omega) HBW.out.size))
   clear hU hcu f0 f1 f2 f3 f4 q4
   obtain ⟨f0,f1,f2,f3,f4,f5'⟩:=HOU.out.cells
   obtain ⟨r0,r1,r2,r3,r4,r5⟩:=HRU.out.cells
   have p0:=HRU.out.free 0
   have p1:=HRU.out.free 1
   have p2:=HRU.out.free 2
   have p3:=HRU.out.free 3
   have p4:=HRU.out.free 4
   go_wp2_with fail
   refine qab fun W9 hW9 => ?_
   have hO9:OB W9 (w.heap.size+1) f.op f.name f.val f.bound A' gs.length c':=by rw [hW9];exact qag HRU.out
   have hC9:Chg (fun k=>k=w.heap.size+1) U W9:=by rw [hW9];exact qae _ _ _ _ _ _ _
   clear hW9 p0 p1 p2 p3 p4 r0 r1 r2 r3 r4 r5
   obtain ⟨r0,r1,r2,r3,r4,r5⟩:=hO9.cells
   exact bodyPost_ret (v := .agg #[.int .i64 (f.op),.string f.name,.int .i64 f.val,.int .i64 f.bound,.slice A' gs.length c']) (by simp [results,Tryz.results96,go_sem,r0,r1,r2,r3,r4]) rfl ⟨_,rfl,by rw [HKF.out];exact ⟨A',c',by rw [HBD.out];rfl,((HRDU.out).keep (hC9.keeps fun x _ hx hv=>hx.2.2 hv)).mono fun x hx _=>hx.1⟩,HBWU.out.trans (hC9.below (B:=w.heap.size) (fun x hx hv=>by have hv':x=w.heap.size+1:=hv;omega) HBWU.out.size)⟩
end Go.Proofs.YtdakdpfofgkjoaaGreatDoor
