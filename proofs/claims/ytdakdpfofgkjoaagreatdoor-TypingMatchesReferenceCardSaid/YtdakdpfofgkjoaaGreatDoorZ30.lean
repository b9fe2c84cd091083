/-
  Parts of a proof: ZH ZI ZJ ZK.
-/
import Derived.Test.YtdakdpfofgkjoaaGreatDoorZ29
import Derived.Test.YtdakdpfofgkjoaaGreatDoorZ28
set_option linter.unusedSimpArgs false
set_option linter.unusedVariables false
set_option maxHeartbeats 8000000
set_option maxRecDepth 100000
namespace Go.Proofs.YtdakdpfofgkjoaaGreatDoor
open Go.RowKit Go.Shelf
attribute [local go_sem] qad
theorem qj6 {l:List Fm} {n:Nat} (h : ∀ x,x∈l→x.depth≤n):depths l≤n:=by
 induction l with
 | nil=>simp [depths]
 | cons x l ih =>
  have h1:=h x (by simp)
  have h2:=ih fun y hy=>h y (by simp [hy])
  simp only [depths]
  omega
theorem argsK_mem {neg:Bool} {f y:Fm} (h:y∈qce neg f) : ∃ x b,x∈f.args∧y=kf b x:=by
 unfold qce at h
 obtain ⟨i,hi,rfl⟩:=List.getElem_of_mem h
 have hi':i < f.args.length:=by rw [qii] at hi;exact hi
 have e:=kfs_get (qcz neg f.op) (qdr neg f.op) f.args i hi'
 refine ⟨f.args.getD i default,if i=0 then qcz neg f.op else qdr neg f.op,qa1 hi',?_⟩
 rw [←e]
 simp [List.getD,hi]
theorem extD_le (f:Fm) : ∀ neg,qbu f=true→qh7 neg f≤20 * f.depth:=by
 induction f using Fm.ind with
 | h f ih =>
  intro neg hn
  have hs:=qju hn
  have he:=ext_law (neg:=neg) hs
  have ha:depths (qce neg f)≤20 * depths f.args:=qj6 fun y hy=>by
   obtain ⟨x,b,hx,rfl⟩:=argsK_mem hy
   have h1:=ih x hx b (qhu hx hn)
   have h2:=qdc hx
   unfold qh7 at h1
   omega
  have hd:=Fm.depth_eq f
  have hb:=qfd hs
  by_cases h3:f.op=3∧neg=true
  ·have:=(he.is_ h3.1 h3.2).2;omega
  ·by_cases h4:f.op=4
   ·have:=(he.not_ h4).2;omega
   ·by_cases h5:f.op=11∨f.op=12∨f.op=18∨f.op=19
    ·have:=(he.lone h5).2;omega
    ·by_cases h6:f.op=13∨f.op=14
     ·have:=(he.rep h6).2;omega
     ·have:=(he.gen h4 (by omega) (by omega) (by omega) (by omega) (by omega) (by omega) (fun h=>by cases neg;rfl;exact absurd ⟨h,rfl⟩ h3)).2
      omega
theorem argsD_le (f:Fm) (neg:Bool) (hn:qbu f=true):depths (qce neg f)≤20 * f.depth:=qj6 fun y hy=>by
 obtain ⟨x,b,hx,rfl⟩:=argsK_mem hy
 have h1:=extD_le x b (qhu hx hn)
 have h2:=qdc hx
 have hd:=Fm.depth_eq f
 unfold qh7 at h1
 omega
theorem depthsR_take (l:List Fm) (k:Nat):depths (l.take k)≤depths l:=qj6 fun x hx=>qdc (List.mem_of_mem_take hx)
theorem ret_ext {f:Fm} {neg:Bool} {a b:Int} (ha:a=(qhh neg f:Int)) (hb:b=(qh7 neg f:Int)):Ending.returned (.tuple #[.int .i64 a,.int .i64 b])=Ending.returned (.tuple #[.int .i64 (qhh neg f:Int),.int .i64 (qh7 neg f:Int)]):=by rw [ha,hb]
def RExtC (f:Fm):Prop := ∀ (neg:Bool) (v:Value) (w:World) (D:Dom),qby w D v f→qbu f=true→f.size≤1000000 →
 Calls Tryz.prog 54 #[v,.bool neg] w fun e w'=>e = .returned (.tuple #[.int .i64 (qhh neg f:Int),.int .i64 (qh7 neg f:Int)])∧Below w.heap.size w w'
theorem rextent_any (f:Fm):RExtC f:=by
 refine Fm.induct (fun f ih => ?_) f
 intro neg v w D h hn hz
 obtain ⟨A,c,rfl,ha⟩:=h
 have hsh:=qju hn
 have hal:=qbx f.args
 have hal2:=Fm.size_eq f
 have hlen:f.args.length≤1000000:=by omega
 have hdep:depths (qce neg f)≤20000000:=by have h1:=argsD_le f neg hn;have h2:=qca f;omega
 have HA:=hid ha.old
 have HN:=hid hn
 have HSH:=hid hsh
 have HZ:=hid hz
 have HIH:=hid ih
 have HEX:=hid (ext_law (neg:=neg) hsh)
 have HDP:=hid hdep
 clear ha hn hsh hz hal hal2 ih hdep
 go_enter Tryz.func54,Tryz.ntmps54
 go_upto_region 1 with (fail)
 refine qai fun W hW => ?_
 have HB:=hid (show Below w.heap.size w W by rw [hW];go_grown)
 have HO:=hid (show OB W w.heap.size f.op f.name f.val f.bound A f.args.length c by rw [hW];exact at_new _ _ _ rfl)
 clear hW
 obtain ⟨f0,f1,f2,f3,f4,f5⟩:=HO.out.cells
 by_cases h3:f.op=3∧neg=true
 ·obtain ⟨h3,rfl⟩:=h3
  have he:=HEX.out.is_ h3 rfl
  have HE1:=hid he.1
  have HE2:=hid he.2
  rw [h3] at f0
  clear h3 he
  go_wp2_with fail
  exact bodyPost_ret (v := .tuple #[.int .i64 2,.int .i64 2]) (by simp [results,Tryz.results54,go_sem]) rfl ⟨ret_ext (by rw [HE1.out];rfl) (by rw [HE2.out];rfl),HB.out⟩
 have HNG:Hid (f.op=3→neg=false):=hid fun h=>by cases neg;rfl;exact absurd ⟨h,rfl⟩ h3
 clear h3
 rename_i K1 hK1
 refine qd2 K1 (List.range' 12 6) (fun us W'=>us 17 = .bool false∧W'=W) ?_ ?_
 rotate_left
 ·intro HTAIL
  have HTL:=hid HTAIL
  clear HTAIL hK1
  by_cases h:f.op=3
  ·obtain rfl:=HNG.out h
   rw [h] at f0
   clear h
   go_wp2_with fail
   refine qap HTL.out ⟨rfl,rfl⟩ ?_
   kernel_rfl
  ·have d3:(f.op == 3)=false:=qar h
   clear h
   go_wp2_with fail
   refine qap HTL.out ⟨rfl,rfl⟩ ?_
   kernel_rfl
 intro us W' ⟨h17,hw'⟩
 apply hK1
 simp only [qdy,List.range',List.range'_succ,Act.put,List.setIfInBounds_toArray,List.set_cons_zero,List.set_cons_succ,Nat.reduceAdd,h17]
 rw [hw']
 clear hK1 h17 hw' f0 f1 f2 f3 f4 f5
 go_wp2_with fail
 go_loopw [6,7,8] (fun s d i wr => ∃ k sn dn:Nat,k≤f.args.length∧Hid (sn=1+qfo ((qce neg f).take k))∧Hid (dn=depths ((qce neg f).take k))∧s = .int .i64 (sn:Int)∧d = .int .i64 (dn:Int)∧i = .int .i64 (k:Int)∧Hid (Below W.heap.size W wr)) (fun _ _ i _=>f.args.length - (intOf i).toNat)
 case atStart=>exact ⟨0,1,0,Nat.zero_le _,rfl,rfl,rfl,rfl,rfl,Below.refl _ _⟩
 case round =>
  obtain ⟨k,sn,dn,hk,HSN,HDN,rfl,rfl,rfl,HBR⟩:=hrel
  have HBW:=hid (HB.out.trans (HBR.out.mono HB.out.size))
  have HOR:=hid (HO.out.below HBR.out)
  obtain ⟨f0,f1,f2,f3,f4,f5⟩:=HOR.out.cells
  have hs1:1≤sn:=by have:=HSN.out;omega
  have hs2:sn≤1001000000:=by have h1:=HSN.out;have h2:=capsZ_le ((qce neg f).take k);have h3:((qce neg f).take k).length≤k:=(by rw [List.length_take];omega);omega
  have hd2:dn≤20000000:=by have h1:=HDN.out;have h2:=depthsR_take (qce neg f) k;have:=HDP.out;omega
  by_cases hlt:k < f.args.length
  ·have hki:(k:Int) < f.args.length:=by omega
   have hk0:(0:Int)≤(k:Int):=by omega
   have HAr:=hid (HA.out.keep (Keeps.of_below HBW.out fun _ h=>h))
   obtain ⟨b1,o1,A1,c1,x,rfl,HX,hf1⟩:=HAr.out.get hlt
   have HFX:=hid hf1
   obtain ⟨-,hl1,y0,y1,y2,y3,y4, -⟩:=hf1
   have HXX:=hid HX.out
   have HLT:=hid hlt
   have HXS:=hid (show x.size≤1000000 by have h1:=qgu (f:=f) hlt;rw [HXX.out] at h1;have:=HZ.out;omega)
   have HXM:=hid (show x∈f.args by rw [←HXX.out];exact qa1 hlt)
   have HXN:=hid (qhu HXM.out HN.out)
   have HIX:=hid (show RExtC x by have h:=HIH.out k hlt;rw [HXX.out] at h;exact h)
   clear hk HX
   by_cases h4:f.op=4
   ·have d4:(f.op == 4)=true:=qb6 h4
    have HF:=hid (show (if k=0 then qcz neg f.op else qdr neg f.op) = !neg by rw [h4];cases k <;> rfl)
    clear h4
    have HTK:=hid (qd5 (neg:=neg) HLT.out HXX.out (nf := !neg) HF.out)
    have HCL:=hid (HIX.out (!neg) (.agg #[.int .i64 x.op,.string x.name,.int .i64 x.val,.int .i64 x.bound,.slice A1 x.args.length c1]) wr _ ⟨A1,c1,rfl,HFX.out.args⟩ HXN.out HXS.out)
    obtain ⟨sx,hsx⟩ : ∃ sx,qhh (!neg) x=sx:=⟨_,rfl⟩
    obtain ⟨dx,hdx⟩ : ∃ dx,qh7 (!neg) x=dx:=⟨_,rfl⟩
    have hsx2:sx≤1000:=by rw [←hsx];exact Nat.min_le_right _ _
    have hdx2:dx≤20000000:=by rw [←hdx];have h1:=extD_le x (!neg) HXN.out;have h2:=qca x;have:=HXS.out;omega
    rw [hsx,hdx] at HCL
    have HN1:=hid (show sn+sx=1+qfo ((qce neg f).take (k+1)) by rw [HTK.out,qeu,HSN.out,←hsx];show _=1+(_+(qga _+0));unfold qhh;omega)
    have HN2:=hid (show max dn dx=depths ((qce neg f).take (k+1)) by rw [HTK.out,qcr,HDN.out,←hdx];show _=max _ (max _ 0);unfold qh7;omega)
    clear hsx hdx
    by_cases hmn:dn < dx
    ·have h1:(dn:Int) < (dx:Int):=by omega
     have h2 : ¬ (dx:Int) < (dn:Int):=by omega
     have HMX:=hid (show max dn dx=dx by omega)
     clear hmn
     go_wp2_with (go_at_call 54;(with_reducible refine HCL.out.mono ?_);rintro e V1 ⟨rfl,hb1⟩;have HB1:=hid hb1;clear hb1)
     go_roundw
     case rel=>exact ⟨k+1,sn+sx,dx,by have:=HLT.out;omega,HN1.out,by rw [←HN2.out,HMX.out];exact rfl,by go_num,by go_num,by go_num,HBR.out.trans (HB1.out.mono HBR.out.size)⟩
     case measure=>have:=HLT.out;simp [intOf];omega
    ·have h1 : ¬ (dn:Int) < (dx:Int):=by omega
     have HMX:=hid (show max dn dx=dn by omega)
     clear hmn
     go_wp2_with (go_at_call 54;(with_reducible refine HCL.out.mono ?_);rintro e V1 ⟨rfl,hb1⟩;have HB1:=hid hb1;clear hb1)
     go_roundw
     case rel=>exact ⟨k+1,sn+sx,dn,by have:=HLT.out;omega,HN1.out,by rw [←HN2.out,HMX.out];exact rfl,by go_num,by go_num,by go_num,HBR.out.trans (HB1.out.mono HBR.out.size)⟩
     case measure=>have:=HLT.out;simp [intOf];omega
   have d4:(f.op == 4)=false:=qar h4
   by_cases h7:f.op=7
   ·have d7:(f.op == 7)=true:=qb6 h7
    by_cases hz:k=0
    ·have dz:((k:Int) == 0)=true:=qb6 (by omega)
     have HF:=hid (show (if k=0 then qcz neg f.op else qdr neg f.op) = !neg by rw [h7,if_pos hz];rfl)
     clear h4 h7 hz
     have HTK:=hid (qd5 (neg:=neg) HLT.out HXX.out (nf := !neg) HF.out)
     have HCL:=hid (HIX.out (!neg) (.agg #[.int .i64 x.op,.string x.name,.int .i64 x.val,.int .i64 x.bound,.slice A1 x.args.length c1]) wr _ ⟨A1,c1,rfl,HFX.out.args⟩ HXN.out HXS.out)
     obtain ⟨sx,hsx⟩ : ∃ sx,qhh (!neg) x=sx:=⟨_,rfl⟩
     obtain ⟨dx,hdx⟩ : ∃ dx,qh7 (!neg) x=dx:=⟨_,rfl⟩
     have hsx2:sx≤1000:=by rw [←hsx];exact Nat.min_le_right _ _
     have hdx2:dx≤20000000:=by rw [←hdx];have h1:=extD_le x (!neg) HXN.out;have h2:=qca x;have:=HXS.out;omega
     rw [hsx,hdx] at HCL
     have HN1:=hid (show sn+sx=1+qfo ((qce neg f).take (k+1)) by rw [HTK.out,qeu,HSN.out,←hsx];show _=1+(_+(qga _+0));unfold qhh;omega)
     have HN2:=hid (show max dn dx=depths ((qce neg f).take (k+1)) by rw [HTK.out,qcr,HDN.out,←hdx];show _=max _ (max _ 0);unfold qh7;omega)
     clear hsx hdx
     by_cases hmn:dn < dx
     ·have h1:(dn:Int) < (dx:Int):=by omega
      have h2 : ¬ (dx:Int) < (dn:Int):=by omega
      have HMX:=hid (show max dn dx=dx by omega)
      clear hmn
      go_wp2_with (go_at_call 54;(with_reducible refine HCL.out.mono ?_);rintro e V1 ⟨rfl,hb1⟩;have HB1:=hid hb1;clear hb1)
      go_roundw
      case rel=>exact ⟨k+1,sn+sx,dx,by have:=HLT.out;omega,HN1.out,by rw [←HN2.out,HMX.out];exact rfl,by go_num,by go_num,by go_num,HBR.out.trans (HB1.out.mono HBR.out.size)⟩
      case measure=>have:=HLT.out;simp [intOf];omega
     ·have h1 : ¬ (dn:Int) < (dx:Int):=by omega
      have HMX:=hid (show max dn dx=dn by omega)
      clear hmn
      go_wp2_with (go_at_call 54;(with_reducible refine HCL.out.mono ?_);rintro e V1 ⟨rfl,hb1⟩;have HB1:=hid hb1;clear hb1)
      go_roundw
      case rel=>exact ⟨k+1,sn+sx,dn,by have:=HLT.out;omega,HN1.out,by rw [←HN2.out,HMX.out];exact rfl,by go_num,by go_num,by go_num,HBR.out.trans (HB1.out.mono HBR.out.size)⟩
      case measure=>have:=HLT.out;simp [intOf];omega
    ·have dz:((k:Int) == 0)=false:=qar (by omega)
     have HF:=hid (show (if k=0 then qcz neg f.op else qdr neg f.op)=neg by rw [h7,if_neg hz];rfl)
     clear h4 h7 hz
     have HTK:=hid (qd5 (neg:=neg) HLT.out HXX.out (nf:=neg) HF.out)
     have HCL:=hid (HIX.out (neg) (.agg #[.int .i64 x.op,.string x.name,.int .i64 x.val,.int .i64 x.bound,.slice A1 x.args.length c1]) wr _ ⟨A1,c1,rfl,HFX.out.args⟩ HXN.out HXS.out)
     obtain ⟨sx,hsx⟩ : ∃ sx,qhh (neg) x=sx:=⟨_,rfl⟩
     obtain ⟨dx,hdx⟩ : ∃ dx,qh7 (neg) x=dx:=⟨_,rfl⟩
     have hsx2:sx≤1000:=by rw [←hsx];exact Nat.min_le_right _ _
     have hdx2:dx≤20000000:=by rw [←hdx];have h1:=extD_le x (neg) HXN.out;have h2:=qca x;have:=HXS.out;omega
     rw [hsx,hdx] at HCL
     have HN1:=hid (show sn+sx=1+qfo ((qce neg f).take (k+1)) by rw [HTK.out,qeu,HSN.out,←hsx];show _=1+(_+(qga _+0));unfold qhh;omega)
     have HN2:=hid (show max dn dx=depths ((qce neg f).take (k+1)) by rw [HTK.out,qcr,HDN.out,←hdx];show _=max _ (max _ 0);unfold qh7;omega)
     clear hsx hdx
     by_cases hmn:dn < dx
     ·have h1:(dn:Int) < (dx:Int):=by omega
      have h2 : ¬ (dx:Int) < (dn:Int):=by omega
      have HMX:=hid (show max dn dx=dx by omega)
      clear hmn
      go_wp2_with (go_at_call 54;(with_reducible refine HCL.out.mono ?_);rintro e V1 ⟨rfl,hb1⟩;have HB1:=hid hb1;clear hb1)
      go_roundw
      case rel=>exact ⟨k+1,sn+sx,dx,by have:=HLT.out;omega,HN1.out,by rw [←HN2.out,HMX.out];exact rfl,by go_num,by go_num,by go_num,HBR.out.trans (HB1.out.mono HBR.out.size)⟩
      case measure=>have:=HLT.out;simp [intOf];omega
     ·have h1 : ¬ (dn:Int) < (dx:Int):=by omega
      have HMX:=hid (show max dn dx=dn by omega)
      clear hmn
      go_wp2_with (go_at_call 54;(with_reducible refine HCL.out.mono ?_);rintro e V1 ⟨rfl,hb1⟩;have HB1:=hid hb1;clear hb1)
      go_roundw
      case rel=>exact ⟨k+1,sn+sx,dn,by have:=HLT.out;omega,HN1.out,by rw [←HN2.out,HMX.out];exact rfl,by go_num,by go_num,by go_num,HBR.out.trans (HB1.out.mono HBR.out.size)⟩
      case measure=>have:=HLT.out;simp [intOf];omega
   ·have d7:(f.op == 7)=false:=qar h7
    have HF:=hid (show (if k=0 then qcz neg f.op else qdr neg f.op)=neg by unfold qcz qdr;rw [if_neg (show ¬ (f.op=4∨f.op=7) from fun h=>h.elim h4 h7),if_neg h4];cases k <;> rfl)
    clear h4 h7
    have HTK:=hid (qd5 (neg:=neg) HLT.out HXX.out (nf:=neg) HF.out)
    have HCL:=hid (HIX.out (neg) (.agg #[.int .i64 x.op,.string x.name,.int .i64 x.val,.int .i64 x.bound,.slice A1 x.args.length c1]) wr _ ⟨A1,c1,rfl,HFX.out.args⟩ HXN.out HXS.out)
    obtain ⟨sx,hsx⟩ : ∃ sx,qhh (neg) x=sx:=⟨_,rfl⟩
    obtain ⟨dx,hdx⟩ : ∃ dx,qh7 (neg) x=dx:=⟨_,rfl⟩
    have hsx2:sx≤1000:=by rw [←hsx];exact Nat.min_le_right _ _
    have hdx2:dx≤20000000:=by rw [←hdx];have h1:=extD_le x (neg) HXN.out;have h2:=qca x;have:=HXS.out;omega
    rw [hsx,hdx] at HCL
    have HN1:=hid (show sn+sx=1+qfo ((qce neg f).take (k+1)) by rw [HTK.out,qeu,HSN.out,←hsx];show _=1+(_+(qga _+0));unfold qhh;omega)
    have HN2:=hid (show max dn dx=depths ((qce neg f).take (k+1)) by rw [HTK.out,qcr,HDN.out,←hdx];show _=max _ (max _ 0);unfold qh7;omega)
    clear hsx hdx
    by_cases hmn:dn < dx
    ·have h1:(dn:Int) < (dx:Int):=by omega
     have h2 : ¬ (dx:Int) < (dn:Int):=by omega
     have HMX:=hid (show max dn dx=dx by omega)
     clear hmn
     go_wp2_with (go_at_call 54;(with_reducible refine HCL.out.mono ?_);rintro e V1 ⟨rfl,hb1⟩;have HB1:=hid hb1;clear hb1)
     go_roundw
     case rel=>exact ⟨k+1,sn+sx,dx,by have:=HLT.out;omega,HN1.out,by rw [←HN2.out,HMX.out];exact rfl,by go_num,by go_num,by go_num,HBR.out.trans (HB1.out.mono HBR.out.size)⟩
     case measure=>have:=HLT.out;simp [intOf];omega
    ·have h1 : ¬ (dn:Int) < (dx:Int):=by omega
     have HMX:=hid (show max dn dx=dn by omega)
     clear hmn
     go_wp2_with (go_at_call 54;(with_reducible refine HCL.out.mono ?_);rintro e V1 ⟨rfl,hb1⟩;have HB1:=hid hb1;clear hb1)
     go_roundw
     case rel=>exact ⟨k+1,sn+sx,dn,by have:=HLT.out;omega,HN1.out,by rw [←HN2.out,HMX.out];exact rfl,by go_num,by go_num,by go_num,HBR.out.trans (HB1.out.mono HBR.out.size)⟩
     case measure=>have:=HLT.out;simp [intOf];omega
  ·have hii : ¬ (k:Int) < f.args.length:=by omega
   have hkl:k=f.args.length:=by omega
   have HTA:=hid (show (qce neg f).take k=qce neg f by rw [hkl,←argsK_len neg f,List.take_length])
   have HS2:=hid (show sn=1+qfo (qce neg f) by rw [HSN.out,HTA.out])
   have HD2:=hid (show dn=depths (qce neg f) by rw [HDN.out,HTA.out])
   clear hk hkl
   by_cases h4:f.op=4
   ·have HE1:=hid (show qhh neg f=qga (sn - 1) by rw [(HEX.out.not_ h4).1,HS2.out])
    have HE2:=hid (show (qh7 neg f:Int)=(dn:Int)+1 - 1 by rw [(HEX.out.not_ h4).2];have:=HD2.out;omega)
    rw [h4] at f0
    clear h4
    have HR1:=hid (show min ((sn:Int) - 1) 1000=(qhh neg f:Int) by rw [HE1.out];unfold qga;omega)
    go_wp2_with fail
    exact bodyPost_ret (v := .tuple #[.int .i64 (min ((sn:Int) - 1) 1000),.int .i64 ((dn:Int)+1 - 1)]) (by simp [results,Tryz.results54,go_sem]) rfl ⟨ret_ext HR1.out HE2.out.symm,HBW.out⟩
   by_cases h5:f.op=11∨f.op=12∨f.op=18∨f.op=19
   ·have HE1:=hid (show qhh neg f=qga (sn+1) by rw [(HEX.out.lone h5).1,HS2.out])
    have HE2:=hid (show (qh7 neg f:Int)=(dn:Int)+1 by rw [(HEX.out.lone h5).2];have:=HD2.out;omega)
    have HL:=hid (HEX.out.lone h5)
    rcases h5 with h | h | h | h
    all_goals
     rw [h] at f0
     clear h
     have HR1:=hid (show min ((sn:Int)+1) 1000=(qhh neg f:Int) by rw [HE1.out];unfold qga;omega)
     go_wp2_with fail
     exact bodyPost_ret (v := .tuple #[.int .i64 (min ((sn:Int)+1) 1000),.int .i64 ((dn:Int)+1)]) (by simp [results,Tryz.results54,go_sem]) rfl ⟨ret_ext HR1.out HE2.out.symm,HBW.out⟩
   by_cases h6:f.op=13∨f.op=14
   ·obtain ⟨nb,hnb,hnb2⟩ : ∃ nb:Nat,f.bound=(nb:Int)∧f.bound.toNat=nb:=⟨f.bound.toNat,by have:=(qfd HSH.out).1;omega,rfl⟩
    have hnb9:nb≤9:=by have:=(qfd HSH.out).2;omega
    have hs3:sn≤1001:=by
     obtain ⟨g0,hg0,hk0⟩:=qf1 neg HSH.out (show f.op=11∨f.op=12∨f.op=13∨f.op=14∨f.op=18∨f.op=19 by omega)
     have h1:=HS2.out
     rw [hk0] at h1
     have h2:qfo [kf neg g0]≤1000:=Nat.le_trans (capsZ_le _) (by simp)
     omega
    obtain ⟨m,hm⟩ : ∃ m,sn=m+1:=⟨sn - 1,by omega⟩
    have hq1:m * (nb+1)≤10000:=Nat.le_trans (Nat.mul_le_mul (show m≤1000 by omega) (show nb+1≤10 by omega)) (by omega)
    obtain ⟨qq,hqq⟩ : ∃ qq,m * (nb+1)=qq:=⟨_,rfl⟩
    have HQI:=hid (show (m:Int) * ((nb:Int)+1)=(qq:Int) by rw [←hqq];push_cast;rfl)
    have hwq:IntKind.i64.wrap ((m:Int) * ((nb:Int)+1))=(qq:Int):=by rw [HQI.out];exact IntWalk.i64_in _ (by omega)
    have HE1:=hid (show qhh neg f=qga (qq+2 * nb) by rw [(HEX.out.rep h6).1,←HS2.out,hnb2,hm,Nat.add_sub_cancel,hqq])
    have HE2:=hid (show (qh7 neg f:Int)=(dn:Int)+1 - 1+2 * (nb:Int) by rw [(HEX.out.rep h6).2,hnb2];have:=HD2.out;omega)
    rw [hnb] at f3
    have hqq9:qq≤10000:=by omega
    subst hm
    clear hnb hnb2 hqq hq1
    rcases h6 with h | h
    all_goals
     rw [h] at f0
     clear h
     have HR1:=hid (show min ((qq:Int)+2 * (nb:Int)) 1000=(qhh neg f:Int) by rw [HE1.out];unfold qga;omega)
     go_wp2_with fail
     exact bodyPost_ret (v := .tuple #[.int .i64 (min ((qq:Int)+2 * (nb:Int)) 1000),.int .i64 ((dn:Int)+1 - 1+2 * (nb:Int))]) (by simp [results,Tryz.results54,go_sem]) rfl ⟨ret_ext HR1.out HE2.out.symm,HBW.out⟩
   have HEG:=hid (HEX.out.gen h4 (by omega) (by omega) (by omega) (by omega) (by omega) (by omega) HNG.out)
   have HE1:=hid (show qhh neg f=qga sn by rw [HEG.out.1,HS2.out])
   have HE2:=hid (show (qh7 neg f:Int)=(dn:Int)+1 by rw [HEG.out.2];have:=HD2.out;omega)
   have d4:(f.op == 4)=false:=qar (by omega)
   have d11:(f.op == 11)=false:=qar (by omega)
   have d12:(f.op == 12)=false:=qar (by omega)
   have d18:(f.op == 18)=false:=qar (by omega)
   have d19:(f.op == 19)=false:=qar (by omega)
   have d13:(f.op == 13)=false:=qar (by omega)
   have d14:(f.op == 14)=false:=qar (by omega)
   clear h4 h5 h6
   have HR1:=hid (show min ((sn:Int)) 1000=(qhh neg f:Int) by rw [HE1.out];unfold qga;omega)
   go_wp2_with fail
   exact bodyPost_ret (v := .tuple #[.int .i64 (min ((sn:Int)) 1000),.int .i64 ((dn:Int)+1)]) (by simp [results,Tryz.results54,go_sem]) rfl ⟨ret_ext HR1.out HE2.out.symm,HBW.out⟩
end Go.Proofs.YtdakdpfofgkjoaaGreatDoor
namespace Go.Proofs.YtdakdpfofgkjoaaGreatDoor
open Go.RowKit Go.Shelf
attribute [local go_sem] qad qbo
theorem looseR_eq (f:Fm):qfr f=qa3 f:=(looseB_ref f).symm
theorem validR_eq (f:Fm):qh4 f=qb5 f:=(validB_ref f).symm
def qgv (f:Fm):Fm:=if qa3 f then f else qbb
theorem valid_nodesR {f:Fm} (h:qb5 f=true):qbu f=true:=by
 rw [validB_ref] at h
 simp only [Bool.and_eq_true] at h
 exact h.2
theorem qkp {f:Fm} (h:qa3 f=true):qbu f=true∧f.size≤400:=by
 rw [looseB_ref] at h
 simp only [Bool.and_eq_true,decide_eq_true_eq] at h
 exact ⟨h.1.1.2,h.1.1.1.1⟩
theorem rform_c (f:Fm) (neg:Bool) (v:Value) (w:World) (D:Dom) (hD : ∀ x,w.heap.size≤x→D x) (h:qby w D v f) (hn:qbu f=true) (hz:f.size≤1000000) :
  Calls Tryz.prog 55 #[v,.bool neg] w fun e w' => ∃ v',e = .returned v'∧qby w' D v' (kf neg f)∧Below w.heap.size w w':=rform_any f neg v w D hD h hn hz
theorem qg6 (f:Fm) (v:Value) (w:World) (D:Dom) (h:qby w D v f) :
  Calls Tryz.prog 57 #[v] w fun e w' => ∃ v',e = .returned v'∧qby w' D v' (qgv f)∧Below w.heap.size w w':=by
 obtain ⟨A,c,rfl,ha⟩:=h
 have HA:=hid (ha.mono (E:=fun x=>D x∧x≠w.heap.size+1) fun x hx hl=>⟨hx,by omega⟩)
 clear ha
 go_enter Tryz.func57,Tryz.ntmps57
 go_upto_region 1 with (fail)
 refine qai fun W hW => ?_
 have HB:=hid (show Below w.heap.size w W by rw [hW];go_grown)
 have HO:=hid (show OB W w.heap.size f.op f.name f.val f.bound A f.args.length c by rw [hW];exact (qaq _ _ _ (by simp)).trans (at_new _ _ _ rfl))
 have HR:=hid (show OB W (w.heap.size+1) 0 ⟨#[]⟩ 0 0 none 0 0 by rw [hW];exact at_new _ _ _ (by simp))
 clear hW
 have HAW:=hid (HA.out.belowD HB.out)
 obtain ⟨f0,f1,f2,f3,f4,f5⟩:=HO.out.cells
 have HL:=hid (qjp (D:=fun x=>D x∧x≠w.heap.size+1) f (.agg #[.int .i64 f.op,.string f.name,.int .i64 f.val,.int .i64 f.bound,.slice A f.args.length c]) W ⟨A,c,rfl,HAW.out⟩)
 rw [looseR_eq] at HL
 cases hl:qa3 f
 ·rw [hl] at HL
  have HKF:=hid (show qgv f=qbb by unfold qgv;rw [hl];rfl)
  clear hl
  go_wp2_with (go_at_call 56;(with_reducible refine HL.out.mono ?_);rintro e U ⟨rfl,hbu⟩;have HBU:=hid hbu;obtain ⟨r0,r1,r2,r3,r4,r5⟩:=(HR.out.below HBU.out).cells;have p0:=(HR.out.below HBU.out).free 0;have p1:=(HR.out.below HBU.out).free 1;have p2:=(HR.out.below HBU.out).free 2;have p3:=(HR.out.below HBU.out).free 3;have p4:=(HR.out.below HBU.out).free 4)
  refine qab fun W9 hW9 => ?_
  have hO9:OB W9 (w.heap.size+1) (0) ⟨#[]⟩ (0) (0) none 0 0:=by rw [hW9];exact qag (HR.out.below HBU.out)
  have hC9:Chg (fun k=>k=w.heap.size+1) U W9:=by rw [hW9];exact qae _ _ _ _ _ _ _
  clear hW9 p0 p1 p2 p3 p4 r0 r1 r2 r3 r4 r5
  obtain ⟨r0,r1,r2,r3,r4,r5⟩:=hO9.cells
  exact bodyPost_ret (v := .agg #[.int .i64 (0),.string ⟨#[]⟩,.int .i64 (0),.int .i64 (0),.slice none 0 0]) (by simp [results,Tryz.results57,go_sem,r0,r1,r2,r3,r4]) rfl ⟨_,rfl,by rw [HKF.out];exact ⟨none,0,rfl,(((show RdA U (fun k=>D k∧k≠w.heap.size+1) qbb.args none 0 from RdA.nil _ _ _ (Nat.zero_le _))).keep (hC9.keeps fun x _ hx hv=>hx.2 hv)).mono fun x hx _=>hx.1⟩,(qac HB.out HBU.out).trans (hC9.below (B:=w.heap.size) (fun x hx hv=>by have hv':x=w.heap.size+1:=hv;omega) (qac HB.out HBU.out).size)⟩
 ·rw [hl] at HL
  have HKF:=hid (show qgv f=f by unfold qgv;rw [hl];rfl)
  clear hl
  go_wp2_with (go_at_call 56;(with_reducible refine HL.out.mono ?_);rintro e U ⟨rfl,hbu⟩;have HBU:=hid hbu;obtain ⟨r0,r1,r2,r3,r4,r5⟩:=(HR.out.below HBU.out).cells;have p0:=(HR.out.below HBU.out).free 0;have p1:=(HR.out.below HBU.out).free 1;have p2:=(HR.out.below HBU.out).free 2;have p3:=(HR.out.below HBU.out).free 3;have p4:=(HR.out.below HBU.out).free 4;obtain ⟨x0,x1,x2,x3,x4,x5⟩:=(HO.out.below hbu).cells)
  refine qab fun W9 hW9 => ?_
  have hO9:OB W9 (w.heap.size+1) (f.op) f.name (f.val) (f.bound) A f.args.length c:=by rw [hW9];exact qag (HR.out.below HBU.out)
  have hC9:Chg (fun k=>k=w.heap.size+1) U W9:=by rw [hW9];exact qae _ _ _ _ _ _ _
  clear hW9 p0 p1 p2 p3 p4 r0 r1 r2 r3 r4 r5
  obtain ⟨r0,r1,r2,r3,r4,r5⟩:=hO9.cells
  exact bodyPost_ret (v := .agg #[.int .i64 (f.op),.string f.name,.int .i64 (f.val),.int .i64 (f.bound),.slice A f.args.length c]) (by simp [results,Tryz.results57,go_sem,r0,r1,r2,r3,r4]) rfl ⟨_,rfl,by rw [HKF.out];exact ⟨A,c,rfl,((HAW.out.belowD HBU.out).keep (hC9.keeps fun x _ hx hv=>hx.2 hv)).mono fun x hx _=>hx.1⟩,(qac HB.out HBU.out).trans (hC9.below (B:=w.heap.size) (fun x hx hv=>by have hv':x=w.heap.size+1:=hv;omega) (qac HB.out HBU.out).size)⟩
theorem rnot_any (f:Fm) (v:Value) (w:World) (D:Dom) (hD : ∀ x,w.heap.size≤x→D x) (h:qby w D v f) :
  Calls Tryz.prog 33 #[v] w fun e w' => ∃ v',e = .returned v'∧qby w' D v' (notZ f)∧Below w.heap.size w w':=by
 obtain ⟨A,c,rfl,ha⟩:=h
 have HA:=hid (ha.mono (E:=fun x=>D x∧x≠w.heap.size+1) fun x hx hl=>⟨hx,by omega⟩)
 clear ha
 go_enter Tryz.func33,Tryz.ntmps33
 go_upto_region 1 with (fail)
 refine qai fun W hW => ?_
 have HB:=hid (show Below w.heap.size w W by rw [hW];go_grown)
 have HO:=hid (show OB W w.heap.size f.op f.name f.val f.bound A f.args.length c by rw [hW];exact (qaq _ _ _ (by simp)).trans (at_new _ _ _ rfl))
 have HR:=hid (show OB W (w.heap.size+1) 0 ⟨#[]⟩ 0 0 none 0 0 by rw [hW];exact at_new _ _ _ (by simp))
 have HDE:Hid (∀ x,W.heap.size≤x→D x∧x≠w.heap.size+1):=hid fun x hx=>⟨hD x (by have:=HB.out.size;omega),by have:=lt_of_block HR.out;omega⟩
 clear hW
 have HAW:=hid (HA.out.belowD HB.out)
 obtain ⟨f0,f1,f2,f3,f4,f5⟩:=HO.out.cells
 have HL:=hid (qjp (D:=fun x=>D x∧x≠w.heap.size+1) f (.agg #[.int .i64 f.op,.string f.name,.int .i64 f.val,.int .i64 f.bound,.slice A f.args.length c]) W ⟨A,c,rfl,HAW.out⟩)
 rw [looseR_eq] at HL
 cases hl:qa3 f
 ·rw [hl] at HL
  have HKF:=hid (show notZ f=qbb by unfold notZ;rw [hl];rfl)
  clear hl
  go_wp2_with (go_at_call 56;(with_reducible refine HL.out.mono ?_);rintro e U ⟨rfl,hbu⟩;have HBU:=hid hbu;obtain ⟨r0,r1,r2,r3,r4,r5⟩:=(HR.out.below HBU.out).cells;have p0:=(HR.out.below HBU.out).free 0;have p1:=(HR.out.below HBU.out).free 1;have p2:=(HR.out.below HBU.out).free 2;have p3:=(HR.out.below HBU.out).free 3;have p4:=(HR.out.below HBU.out).free 4)
  refine qab fun W9 hW9 => ?_
  have hO9:OB W9 (w.heap.size+1) (0) ⟨#[]⟩ (0) (0) none 0 0:=by rw [hW9];exact qag (HR.out.below HBU.out)
  have hC9:Chg (fun k=>k=w.heap.size+1) U W9:=by rw [hW9];exact qae _ _ _ _ _ _ _
  clear hW9 p0 p1 p2 p3 p4 r0 r1 r2 r3 r4 r5
  obtain ⟨r0,r1,r2,r3,r4,r5⟩:=hO9.cells
  exact bodyPost_ret (v := .agg #[.int .i64 (0),.string ⟨#[]⟩,.int .i64 (0),.int .i64 (0),.slice none 0 0]) (by simp [results,Tryz.results33,go_sem,r0,r1,r2,r3,r4]) rfl ⟨_,rfl,by rw [HKF.out];exact ⟨none,0,rfl,(((show RdA U (fun k=>D k∧k≠w.heap.size+1) qbb.args none 0 from RdA.nil _ _ _ (Nat.zero_le _))).keep (hC9.keeps fun x _ hx hv=>hx.2 hv)).mono fun x hx _=>hx.1⟩,(qac HB.out HBU.out).trans (hC9.below (B:=w.heap.size) (fun x hx hv=>by have hv':x=w.heap.size+1:=hv;omega) (qac HB.out HBU.out).size)⟩
 ·rw [hl] at HL
  have HKF:=hid (show notZ f=qgv (kf true f) by
   have hb:=(qcj hl).2.2
   have hbb:allI qbg false (kf true f):=kf_bare f false (qh2 (fun x hx=>by unfold qbg at hx;unfold qku;simp only [Bool.and_eq_true] at hx;exact hx.1.1.2) hb) (qh2 (fun x hx=>by unfold qbg at hx;unfold qj0;simp only [Bool.and_eq_true] at hx;exact hx.1.2) hb) true
   unfold notZ qgv
   rw [hl,Bool.true_and]
   by_cases hf:qa9 (kf true f) 400 60=true
   ·have h1:qa3 (kf true f)=true:=by unfold qa3;rw [hf,Bool.true_and];exact hbb
    rw [hf,h1]
   ·have h1:qa3 (kf true f)=false:=by unfold qa3;rw [Bool.eq_false_iff.2 hf];rfl
    rw [Bool.eq_false_iff.2 hf,h1])
  have HNO:=hid (qkp hl)
  clear hl
  obtain ⟨y,hy⟩ : ∃ y,kf true f=y:=⟨_,rfl⟩
  have HY:=hid hy
  rw [hy] at HKF
  clear hy
  obtain ⟨z,hz⟩ : ∃ z,qgv y=z:=⟨_,rfl⟩
  have HZ:=hid hz
  rw [hz] at HKF
  clear hz
  go_wp2_with (first | (go_at_call 56;(with_reducible refine HL.out.mono ?_);rintro e V1 ⟨rfl,hb1⟩;have HB1:=hid hb1;obtain ⟨x0,x1,x2,x3,x4,x5⟩:=(HO.out.below hb1).cells;clear hb1) | (go_at_call 55;(with_reducible refine (rform_c f true _ _ (fun x=>D x∧x≠w.heap.size+1) ?_ ?_ ?_ ?_).mono ?_);exact fun x hx=>HDE.out x (Nat.le_trans HB1.out.size hx);exact ⟨A,c,rfl,HAW.out.belowD HB1.out⟩;exact HNO.out.1;(have:=HNO.out.2;omega);rw [HY.out];rintro e V2 ⟨v2,rfl,h2,hb2⟩;have H2:=hid h2;have HB2:=hid (qac HB1.out hb2);clear h2 hb2) | (go_at_call 57;(with_reducible refine (qg6 y _ _ (fun x=>D x∧x≠w.heap.size+1) H2.out).mono ?_);rw [HZ.out];rintro e U ⟨v3,rfl,⟨A3,c3,rfl,ha3⟩,hbu⟩;have HA3:=hid ha3;have HBU:=hid (qac HB2.out hbu);clear ha3 hbu;obtain ⟨r0,r1,r2,r3,r4,r5⟩:=(HR.out.below HBU.out).cells;have p0:=(HR.out.below HBU.out).free 0;have p1:=(HR.out.below HBU.out).free 1;have p2:=(HR.out.below HBU.out).free 2;have p3:=(HR.out.below HBU.out).free 3;have p4:=(HR.out.below HBU.out).free 4))
  refine qab fun W9 hW9 => ?_
  have hO9:OB W9 (w.heap.size+1) (z.op) z.name (z.val) (z.bound) A3 z.args.length c3:=by rw [hW9];exact qag (HR.out.below HBU.out)
  have hC9:Chg (fun k=>k=w.heap.size+1) U W9:=by rw [hW9];exact qae _ _ _ _ _ _ _
  clear hW9 p0 p1 p2 p3 p4 r0 r1 r2 r3 r4 r5
  obtain ⟨r0,r1,r2,r3,r4,r5⟩:=hO9.cells
  exact bodyPost_ret (v := .agg #[.int .i64 (z.op),.string z.name,.int .i64 (z.val),.int .i64 (z.bound),.slice A3 z.args.length c3]) (by simp [results,Tryz.results33,go_sem,r0,r1,r2,r3,r4]) rfl ⟨_,rfl,by rw [HKF.out];exact ⟨A3,c3,rfl,((HA3.out).keep (hC9.keeps fun x _ hx hv=>hx.2 hv)).mono fun x hx _=>hx.1⟩,(qac HB.out HBU.out).trans (hC9.below (B:=w.heap.size) (fun x hx hv=>by have hv':x=w.heap.size+1:=hv;omega) (qac HB.out HBU.out).size)⟩
theorem rkernel_any (f:Fm) (v:Value) (w:World) (D:Dom) (hD : ∀ x,w.heap.size≤x→D x) (h:qby w D v f) :
  Calls Tryz.prog 32 #[v] w fun e w' => ∃ v',e = .returned (.tuple #[v',.int .i64 (qba f).2])∧qby w' D v' (qba f).1∧Below w.heap.size w w':=by
 obtain ⟨A,c,rfl,ha⟩:=h
 have HA:=hid (ha.mono (E:=fun x=>D x∧x≠w.heap.size+1) fun x hx hl=>⟨hx,by omega⟩)
 clear ha
 go_enter Tryz.func32,Tryz.ntmps32
 go_upto_region 1 with (fail)
 refine qai fun W hW => ?_
 have HB:=hid (show Below w.heap.size w W by rw [hW];go_grown)
 have HO:=hid (show OB W w.heap.size f.op f.name f.val f.bound A f.args.length c by rw [hW];exact (qaq _ _ _ (by simp)).trans (at_new _ _ _ rfl))
 have HR:=hid (show OB W (w.heap.size+1) 0 ⟨#[]⟩ 0 0 none 0 0 by rw [hW];exact at_new _ _ _ (by simp))
 have HDE:Hid (∀ x,W.heap.size≤x→D x∧x≠w.heap.size+1):=hid fun x hx=>⟨hD x (by have:=HB.out.size;omega),by have:=lt_of_block HR.out;omega⟩
 clear hW
 have HAW:=hid (HA.out.belowD HB.out)
 obtain ⟨f0,f1,f2,f3,f4,f5⟩:=HO.out.cells
 have HV:=hid (rvalid_any (D:=fun x=>D x∧x≠w.heap.size+1) f (.agg #[.int .i64 f.op,.string f.name,.int .i64 f.val,.int .i64 f.bound,.slice A f.args.length c]) W ⟨A,c,rfl,HAW.out⟩)
 rw [validR_eq] at HV
 have HLY:=hid (fun (W':World) (hb:Below W.heap.size W W')=>qki f (D:=fun x=>D x∧x≠w.heap.size+1) (.agg #[.int .i64 f.op,.string f.name,.int .i64 f.val,.int .i64 f.bound,.slice A f.args.length c]) W' ⟨A,c,rfl,HAW.out.belowD hb⟩)
 cases hv:qb5 f
 ·rw [hv] at HV
  have HKF:=hid (show qba f=(qbb,30) by unfold qba;rw [hv];rfl)
  clear hv
  go_wp2_with (go_at_call 40;(with_reducible refine HV.out.mono ?_);rintro e U ⟨rfl,hbu⟩;have HBU:=hid hbu;obtain ⟨r0,r1,r2,r3,r4,r5⟩:=(HR.out.below HBU.out).cells;have p0:=(HR.out.below HBU.out).free 0;have p1:=(HR.out.below HBU.out).free 1;have p2:=(HR.out.below HBU.out).free 2;have p3:=(HR.out.below HBU.out).free 3;have p4:=(HR.out.below HBU.out).free 4)
  refine qab fun W9 hW9 => ?_
  have hO9:OB W9 (w.heap.size+1) (0) ⟨#[]⟩ (0) (0) none 0 0:=by rw [hW9];exact qag (HR.out.below HBU.out)
  have hC9:Chg (fun k=>k=w.heap.size+1) U W9:=by rw [hW9];exact qae _ _ _ _ _ _ _
  clear hW9 p0 p1 p2 p3 p4 r0 r1 r2 r3 r4 r5
  obtain ⟨r0,r1,r2,r3,r4,r5⟩:=hO9.cells
  exact bodyPost_ret (v := .tuple #[.agg #[.int .i64 (0),.string ⟨#[]⟩,.int .i64 (0),.int .i64 (0),.slice none 0 0],.int .i64 30]) (by simp [results,Tryz.results32,go_sem,r0,r1,r2,r3,r4]) rfl ⟨_,by rw [HKF.out],by rw [HKF.out];exact ⟨none,0,rfl,(((show RdA U (fun k=>D k∧k≠w.heap.size+1) qbb.args none 0 from RdA.nil _ _ _ (Nat.zero_le _))).keep (hC9.keeps fun x _ hx hv=>hx.2 hv)).mono fun x hx _=>hx.1⟩,(qac HB.out HBU.out).trans (hC9.below (B:=w.heap.size) (fun x hx hv=>by have hv':x=w.heap.size+1:=hv;omega) (qac HB.out HBU.out).size)⟩
 rw [hv] at HV
 have HNO:=hid (valid_nodesR hv)
 have HZS:=hid (show f.size≤1000000 by unfold qb5 at hv;rw [Bool.and_eq_true,qcb] at hv;omega)
 cases hly:layL f
 ·rw [hly] at HLY
  have HKF:=hid (show qba f=(qbb,30) by unfold qba layB;rw [hv,show allB qj0 f=false from hly];rfl)
  clear hv hly
  go_wp2_with (first | (go_at_call 40;(with_reducible refine HV.out.mono ?_);rintro e V1 ⟨rfl,hb1⟩;have HB1:=hid hb1;obtain ⟨x0,x1,x2,x3,x4,x5⟩:=(HO.out.below hb1).cells;clear hb1) | (go_at_call 53;(with_reducible refine (HLY.out _ HB1.out).mono ?_);rintro e U ⟨rfl,hbu⟩;have HBU:=hid (qac HB1.out hbu);clear hbu;obtain ⟨r0,r1,r2,r3,r4,r5⟩:=(HR.out.below HBU.out).cells;have p0:=(HR.out.below HBU.out).free 0;have p1:=(HR.out.below HBU.out).free 1;have p2:=(HR.out.below HBU.out).free 2;have p3:=(HR.out.below HBU.out).free 3;have p4:=(HR.out.below HBU.out).free 4))
  refine qab fun W9 hW9 => ?_
  have hO9:OB W9 (w.heap.size+1) (0) ⟨#[]⟩ (0) (0) none 0 0:=by rw [hW9];exact qag (HR.out.below HBU.out)
  have hC9:Chg (fun k=>k=w.heap.size+1) U W9:=by rw [hW9];exact qae _ _ _ _ _ _ _
  clear hW9 p0 p1 p2 p3 p4 r0 r1 r2 r3 r4 r5
  obtain ⟨r0,r1,r2,r3,r4,r5⟩:=hO9.cells
  exact bodyPost_ret (v := .tuple #[.agg #[.int .i64 (0),.string ⟨#[]⟩,.int .i64 (0),.int .i64 (0),.slice none 0 0],.int .i64 30]) (by simp [results,Tryz.results32,go_sem,r0,r1,r2,r3,r4]) rfl ⟨_,by rw [HKF.out],by rw [HKF.out];exact ⟨none,0,rfl,(((show RdA U (fun k=>D k∧k≠w.heap.size+1) qbb.args none 0 from RdA.nil _ _ _ (Nat.zero_le _))).keep (hC9.keeps fun x _ hx hv=>hx.2 hv)).mono fun x hx _=>hx.1⟩,(qac HB.out HBU.out).trans (hC9.below (B:=w.heap.size) (fun x hx hv=>by have hv':x=w.heap.size+1:=hv;omega) (qac HB.out HBU.out).size)⟩
 rw [hly] at HLY
 have HEX:=hid (fun (W':World) (hb:Below W.heap.size W W')=>rextent_any f false (.agg #[.int .i64 f.op,.string f.name,.int .i64 f.val,.int .i64 f.bound,.slice A f.args.length c]) W' (fun x=>D x∧x≠w.heap.size+1) ⟨A,c,rfl,HAW.out.belowD hb⟩ HNO.out HZS.out)
 have hfit:=ext_fits (f:=f) false
 have HKZ:=hid (show qba f=(if qa9 (kf false f) 60 20 then (kf false f,0) else (qbb,2)) by unfold qba layB;rw [hv,show allB qj0 f=true from hly];rfl)
 clear hv hly
 obtain ⟨es,hes⟩ : ∃ es,qhh false f=es:=⟨_,rfl⟩
 obtain ⟨ed,hed⟩ : ∃ ed,qh7 false f=ed:=⟨_,rfl⟩
 rw [hes,hed] at HEX hfit
 clear hes hed
 have HFT:=hid hfit
 clear hfit
 by_cases h60:60 < es
 ·have hi60:60 < (es:Int):=by omega
  have HKF:=hid (show qba f=(qbb,2) by rw [HKZ.out,HFT.out,decide_eq_true h60];rfl)
  clear h60
  go_wp2_with (first | (go_at_call 40;(with_reducible refine HV.out.mono ?_);rintro e V1 ⟨rfl,hb1⟩;have HB1:=hid hb1;obtain ⟨x0,x1,x2,x3,x4,x5⟩:=(HO.out.below hb1).cells;clear hb1) | (go_at_call 53;(with_reducible refine (HLY.out _ HB1.out).mono ?_);rintro e V2 ⟨rfl,hb2⟩;have HB2:=hid (qac HB1.out hb2);obtain ⟨z0,z1,z2,z3,z4,z5⟩:=(HO.out.below HB2.out).cells;clear hb2 x0 x1 x2 x3 x4 x5) | (go_at_call 54;(with_reducible refine (HEX.out _ HB2.out).mono ?_);rintro e U ⟨rfl,hbu⟩;have HBU:=hid (qac HB2.out hbu);clear hbu;obtain ⟨r0,r1,r2,r3,r4,r5⟩:=(HR.out.below HBU.out).cells;have p0:=(HR.out.below HBU.out).free 0;have p1:=(HR.out.below HBU.out).free 1;have p2:=(HR.out.below HBU.out).free 2;have p3:=(HR.out.below HBU.out).free 3;have p4:=(HR.out.below HBU.out).free 4))
  refine qab fun W9 hW9 => ?_
  have hO9:OB W9 (w.heap.size+1) (0) ⟨#[]⟩ (0) (0) none 0 0:=by rw [hW9];exact qag (HR.out.below HBU.out)
  have hC9:Chg (fun k=>k=w.heap.size+1) U W9:=by rw [hW9];exact qae _ _ _ _ _ _ _
  clear hW9 p0 p1 p2 p3 p4 r0 r1 r2 r3 r4 r5
  obtain ⟨r0,r1,r2,r3,r4,r5⟩:=hO9.cells
  exact bodyPost_ret (v := .tuple #[.agg #[.int .i64 (0),.string ⟨#[]⟩,.int .i64 (0),.int .i64 (0),.slice none 0 0],.int .i64 2]) (by simp [results,Tryz.results32,go_sem,r0,r1,r2,r3,r4]) rfl ⟨_,by rw [HKF.out],by rw [HKF.out];exact ⟨none,0,rfl,(((show RdA U (fun k=>D k∧k≠w.heap.size+1) qbb.args none 0 from RdA.nil _ _ _ (Nat.zero_le _))).keep (hC9.keeps fun x _ hx hv=>hx.2 hv)).mono fun x hx _=>hx.1⟩,(qac HB.out HBU.out).trans (hC9.below (B:=w.heap.size) (fun x hx hv=>by have hv':x=w.heap.size+1:=hv;omega) (qac HB.out HBU.out).size)⟩
 have hi60 : ¬ 60 < (es:Int):=by omega
 by_cases h20:20 < ed
 ·have hi20:20 < (ed:Int):=by omega
  have HKF:=hid (show qba f=(qbb,2) by rw [HKZ.out,HFT.out,decide_eq_true h20,Bool.not_true,Bool.and_false];rfl)
  clear h60 h20
  go_wp2_with (first | (go_at_call 40;(with_reducible refine HV.out.mono ?_);rintro e V1 ⟨rfl,hb1⟩;have HB1:=hid hb1;obtain ⟨x0,x1,x2,x3,x4,x5⟩:=(HO.out.below hb1).cells;clear hb1) | (go_at_call 53;(with_reducible refine (HLY.out _ HB1.out).mono ?_);rintro e V2 ⟨rfl,hb2⟩;have HB2:=hid (qac HB1.out hb2);obtain ⟨z0,z1,z2,z3,z4,z5⟩:=(HO.out.below HB2.out).cells;clear hb2 x0 x1 x2 x3 x4 x5) | (go_at_call 54;(with_reducible refine (HEX.out _ HB2.out).mono ?_);rintro e U ⟨rfl,hbu⟩;have HBU:=hid (qac HB2.out hbu);clear hbu;obtain ⟨r0,r1,r2,r3,r4,r5⟩:=(HR.out.below HBU.out).cells;have p0:=(HR.out.below HBU.out).free 0;have p1:=(HR.out.below HBU.out).free 1;have p2:=(HR.out.below HBU.out).free 2;have p3:=(HR.out.below HBU.out).free 3;have p4:=(HR.out.below HBU.out).free 4))
  refine qab fun W9 hW9 => ?_
  have hO9:OB W9 (w.heap.size+1) (0) ⟨#[]⟩ (0) (0) none 0 0:=by rw [hW9];exact qag (HR.out.below HBU.out)
  have hC9:Chg (fun k=>k=w.heap.size+1) U W9:=by rw [hW9];exact qae _ _ _ _ _ _ _
  clear hW9 p0 p1 p2 p3 p4 r0 r1 r2 r3 r4 r5
  obtain ⟨r0,r1,r2,r3,r4,r5⟩:=hO9.cells
  exact bodyPost_ret (v := .tuple #[.agg #[.int .i64 (0),.string ⟨#[]⟩,.int .i64 (0),.int .i64 (0),.slice none 0 0],.int .i64 2]) (by simp [results,Tryz.results32,go_sem,r0,r1,r2,r3,r4]) rfl ⟨_,by rw [HKF.out],by rw [HKF.out];exact ⟨none,0,rfl,(((show RdA U (fun k=>D k∧k≠w.heap.size+1) qbb.args none 0 from RdA.nil _ _ _ (Nat.zero_le _))).keep (hC9.keeps fun x _ hx hv=>hx.2 hv)).mono fun x hx _=>hx.1⟩,(qac HB.out HBU.out).trans (hC9.below (B:=w.heap.size) (fun x hx hv=>by have hv':x=w.heap.size+1:=hv;omega) (qac HB.out HBU.out).size)⟩
 have hi20 : ¬ 20 < (ed:Int):=by omega
 have HKF:=hid (show qba f=(kf false f,0) by rw [HKZ.out,HFT.out,decide_eq_false h60,decide_eq_false h20];rfl)
 clear h60 h20
 obtain ⟨z,hz⟩ : ∃ z,kf false f=z:=⟨_,rfl⟩
 have HZ:=hid hz
 rw [hz] at HKF
 clear hz
 go_wp2_with (first | (go_at_call 40;(with_reducible refine HV.out.mono ?_);rintro e V1 ⟨rfl,hb1⟩;have HB1:=hid hb1;obtain ⟨x0,x1,x2,x3,x4,x5⟩:=(HO.out.below hb1).cells;clear hb1) | (go_at_call 53;(with_reducible refine (HLY.out _ HB1.out).mono ?_);rintro e V2 ⟨rfl,hb2⟩;have HB2:=hid (qac HB1.out hb2);obtain ⟨z0,z1,z2,z3,z4,z5⟩:=(HO.out.below HB2.out).cells;clear hb2 x0 x1 x2 x3 x4 x5) | (go_at_call 54;(with_reducible refine (HEX.out _ HB2.out).mono ?_);rintro e V3 ⟨rfl,hb3⟩;have HB3:=hid (qac HB2.out hb3);obtain ⟨x0,x1,x2,x3,x4,x5⟩:=(HO.out.below HB3.out).cells;clear hb3 z0 z1 z2 z3 z4 z5) | (go_at_call 55;(with_reducible refine (rform_c f false _ _ (fun x=>D x∧x≠w.heap.size+1) ?_ ?_ ?_ ?_).mono ?_);exact fun x hx=>HDE.out x (Nat.le_trans HB3.out.size hx);exact ⟨A,c,rfl,HAW.out.belowD HB3.out⟩;exact HNO.out;exact HZS.out;rw [HZ.out];rintro e U ⟨v3,rfl,⟨A3,c3,rfl,ha3⟩,hbu⟩;have HA3:=hid ha3;have HBU:=hid (qac HB3.out hbu);clear ha3 hbu;obtain ⟨r0,r1,r2,r3,r4,r5⟩:=(HR.out.below HBU.out).cells;have p0:=(HR.out.below HBU.out).free 0;have p1:=(HR.out.below HBU.out).free 1;have p2:=(HR.out.below HBU.out).free 2;have p3:=(HR.out.below HBU.out).free 3;have p4:=(HR.out.below HBU.out).free 4))
 refine qab fun W9 hW9 => ?_
 have hO9:OB W9 (w.heap.size+1) (z.op) z.name (z.val) (z.bound) A3 z.args.length c3:=by rw [hW9];exact qag (HR.out.below HBU.out)
 have hC9:Chg (fun k=>k=w.heap.size+1) U W9:=by rw [hW9];exact qae _ _ _ _ _ _ _
 clear hW9 p0 p1 p2 p3 p4 r0 r1 r2 r3 r4 r5
 obtain ⟨r0,r1,r2,r3,r4,r5⟩:=hO9.cells
 exact bodyPost_ret (v := .tuple #[.agg #[.int .i64 (z.op),.string z.name,.int .i64 (z.val),.int .i64 (z.bound),.slice A3 z.args.length c3],.int .i64 0]) (by simp [results,Tryz.results32,go_sem,r0,r1,r2,r3,r4]) rfl ⟨_,by rw [HKF.out],by rw [HKF.out];exact ⟨A3,c3,rfl,((HA3.out).keep (hC9.keeps fun x _ hx hv=>hx.2 hv)).mono fun x hx _=>hx.1⟩,(qac HB.out HBU.out).trans (hC9.below (B:=w.heap.size) (fun x hx hv=>by have hv':x=w.heap.size+1:=hv;omega) (qac HB.out HBU.out).size)⟩
end Go.Proofs.YtdakdpfofgkjoaaGreatDoor
namespace Go.Proofs.YtdakdpfofgkjoaaGreatDoor
open Go.RowKit Go.Shelf
attribute [local go_sem] qad qbo
theorem fslice_to (A:Option Addr) {n c k:Nat} (h:k≤c) (w:World):(Instr.slice 26 (.slice A n c) none (some (.int .i64 (k:Int))) none).run Tryz.prog w = .ok (.slice A k c) w:=by
 obtain ⟨i0,hti,hz0,hz1,hz2⟩:=info_parts qbt
 have ht:Tryz.prog.underlying 26=some (.slice 28):=Tryz.underlying26
 have ht':Tryz.prog.underlying 26=some (.slice (Tryz.prog.elem 26)):=by simp [Program.elem,ht]
 have he:Tryz.prog.elem 26=28:=by simp [Program.elem,ht]
 have hsz : ∀ w,(Go.sizeOf 28).run Tryz.prog w = .ok 5 w:=fun w=>by simp [sizeOf,typeInfo,hti,hz1]
 rw [run_slice_h w 26 _ _ _ ht' .i64 _ (by omega) (by omega),he,hsz]
 cases A <;> simp [Result.andThen,sliced,Addr.add]
theorem fslice_from (A:Option Addr) {n c k:Nat} (h:k≤n) (w:World):(Instr.slice 26 (.slice A n c) (some (.int .i64 (k:Int))) none none).run Tryz.prog w = .ok (.slice (if c=k then A else A.map (·.add (k * 5))) (n - k) (c - k)) w:=by
 obtain ⟨i0,hti,hz0,hz1,hz2⟩:=info_parts qbt
 have ht:Tryz.prog.underlying 26=some (.slice 28):=Tryz.underlying26
 have ht':Tryz.prog.underlying 26=some (.slice (Tryz.prog.elem 26)):=by simp [Program.elem,ht]
 have he:Tryz.prog.elem 26=28:=by simp [Program.elem,ht]
 have hsz : ∀ w,(Go.sizeOf 28).run Tryz.prog w = .ok 5 w:=fun w=>by simp [sizeOf,typeInfo,hti,hz1]
 rw [run_slice_l w 26 _ _ _ ht' .i64 _ (by omega) (by omega),he,hsz]
 simp [Result.andThen,sliced]
theorem flatR_take {α : Type} (f : α → List Value) (s:Nat) (hf : ∀ x,(f x).length=s) : ∀ (l:List α) (k:Nat),(l.flatMap f).take (k * s)=(l.take k).flatMap f
 | [],k=>by simp
 | x :: l,0=>by simp
 | x :: l,k+1=>by
  rw [List.flatMap_cons,List.take_succ_cons,List.flatMap_cons,List.take_append,hf,←flatR_take f s hf l k,List.take_of_length_le (by rw [hf,Nat.succ_mul];omega)]
  congr 2
  rw [Nat.succ_mul];omega
theorem flatR_dropF {α : Type} (f : α → List Value) (s:Nat) (hf : ∀ x,(f x).length=s) : ∀ (l:List α) (k:Nat),(l.flatMap f).drop (k * s)=(l.drop k).flatMap f
 | [],k=>by simp
 | x :: l,0=>by simp
 | x :: l,k+1=>by
  rw [List.flatMap_cons,List.drop_succ_cons,List.drop_append,hf,←flatR_dropF f s hf l k,List.drop_of_length_le (by rw [hf,Nat.succ_mul];omega),List.nil_append]
  congr 1
  rw [Nat.succ_mul];omega
theorem step_append_rf0 {P:Program} {w:World} {ops:Array Oper} {o:Oper} {a:Act} {K:Act→World→Prop} {Q:Exit→Act→World→Prop} {E:Prop} (hgd:o.guard=none) (s x:Operand) (t:TypeId)
  (ho:o.op = .call { callee := .builtin .append,args := #[s,x],argTypes := #[t,t] })
  (base:Nat) (e:TypeId) (i:TypeInfo) (z:Value) (size bytes:Nat) (ht:P.underlying t=some (.slice e)) (hi:P.info? e=some i) (hz:i.zero=some z)
  (hsize:i.size=size) (hby:i.bytes=bytes) (hzs:z.cells.size=size) (hsz:0 < size)
  (v:Value) (hs:a.eval s=v) (hown:w.ownsRow base e size v 0 [])
  (D:Dom) (A:Option Addr) (m c:Nat) (news:List Value) (hx:a.eval x = .slice A m c) (hr:Rd w D size A m c news) (h1 : ∀ u∈news,u.oneCell'=true)
  (hbytes:m * bytes≤140737488355328) (h63:m≤maxLen) (hbase:base≤w.heap.size)
  (h : ∀ A' c' w',w'.ownsRow base e size (.slice A' m c') m news→w.grownBy w' v.ownBlock→K (a.put o.dst (.slice A' m c')) w') :
  if Region.wanted o (yielded ops a.tmps)=true then Oper.wp P o a w K Q else E:=by
 refine qbj w hgd s x t ho base e i z size bytes ht hi hz hsize hby hzs hsz v 0 [] hs hown D A m c news hx hr h1 (by rw [Nat.zero_add];exact hbytes) (by rw [Nat.zero_add];exact h63) hbase fun A' c' w' h2 h3 _ => ?_
 rw [Nat.zero_add,List.nil_append] at h2
 rw [Nat.zero_add]
 exact h A' c' w' h2 h3
theorem zip_takeK {gs:List Fm} {sl:List (Option Addr × Nat)} (k:Nat):(gs.zip sl).take k=(gs.take k).zip (sl.take k):=by
 induction gs generalizing sl k with
 | nil=>simp
 | cons x gs ih =>
  cases sl with
  | nil=>cases k <;> simp
  | cons s sl=>cases k with
   | zero=>simp
   | succ k=>simp [ih]
theorem zip_dropK {gs:List Fm} {sl:List (Option Addr × Nat)} (k:Nat):(gs.zip sl).drop k=(gs.drop k).zip (sl.drop k):=by
 induction gs generalizing sl k with
 | nil=>simp
 | cons x gs ih =>
  cases sl with
  | nil=>cases k <;> simp
  | cons s sl=>cases k with
   | zero=>simp
   | succ k=>simp [ih]
theorem cellsF_takeK (gs:List Fm) (sl:List (Option Addr × Nat)) (k:Nat):(qav gs sl).take (k * 5)=qav (gs.take k) (sl.take k):=by
 unfold qav
 rw [flatR_take (fun p:Fm × (Option Addr × Nat)=>qbr p.1 p.2) 5 (fun _=>rfl),zip_takeK]
theorem cellsF_dropK (gs:List Fm) (sl:List (Option Addr × Nat)) (k:Nat):(qav gs sl).drop (k * 5)=qav (gs.drop k) (sl.drop k):=by
 unfold qav
 rw [flatR_dropF (fun p:Fm × (Option Addr × Nat)=>qbr p.1 p.2) 5 (fun _=>rfl),zip_dropK]
theorem cellsF_oneK (gs:List Fm) (sl:List (Option Addr × Nat)) : ∀ u∈qav gs sl,u.oneCell'=true:=by
 intro u hu
 unfold qav at hu
 obtain ⟨p,_,hu⟩:=List.mem_flatMap.1 hu
 exact qb9 _ _ u hu
def FBX (f:Fm) (A:Option Addr) (c:Nat):Obj := .cells #[.int .i64 f.op,.string f.name,.int .i64 f.val,.int .i64 f.bound,.slice A f.args.length c] 28 (0,0)
def EMF:Obj := .cells #[] 28 (0,0)
theorem lt_heapK {w:World} {i:Nat} {x:Obj} (h:w.heap[i]? = some x):i < w.heap.size:=by
 rcases Nat.lt_or_ge i w.heap.size with h1 | h1
 ·exact h1
 ·rw [Array.getElem?_eq_none h1] at h;cases h
theorem have_thenK {P Q:Prop} (h:P) (k:P→Q):Q:=k h
theorem kept_atK {w w':World} {g n:Nat} {x:Obj} (hk : ∀ (k:Nat) (x:Obj),k≠g→w.heap[k]? = some x→w'.heap[k]? = some x) (hn:n≠g) (hx:w.heap[n]? = some x):w'.heap[n]? = some x:=hk n x hn hx
theorem rd_fb {w:World} {t:Nat} {f:Fm} {A:Option Addr} {c:Nat} (h:w.heap[t]? = some (FBX f A c)):Rd w qbw 5 (some ⟨t,0,none⟩) 1 1 (qbr f (A,c)) :=
 ⟨⟨rfl,by omega,Nat.le_refl _,by omega⟩,fun _=>⟨t,0,rfl,trivial,lt_of_block h,fun j u hu=>by
  rw [Nat.zero_add]
  refine qaa h ?_
  rw [←Array.getElem?_toList]
  exact hu⟩⟩
section
variable {w U:World} {ops:Array Oper} {o:Oper} {a:Act} {K:Act→World→Prop} {Q:Exit→Act→World→Prop} {E:Prop}
theorem step_f1 (hgd:o.guard=none) (s x:Operand) (ho:o.op = .call { callee := .builtin .append,args := #[s,x],argTypes := #[26,26] })
  (g n d:Nat) (B:Option Addr) (news:List Value) (hs:a.eval s = .slice (some ⟨g,0,none⟩) 0 0) (hx:a.eval x = .slice B n d)
  (he:w.heap[g]? = some EMF) (hg:U.heap.size≤g) (hb:Below U.heap.size U w) (hr:Rd w qbw 5 B n d news) (h1 : ∀ u∈news,u.oneCell'=true) (hn:n≤1000000)
  (h : ∀ A' c' w',w'.ownsRow U.heap.size 28 5 (.slice A' n c') n news→(∀ (k:Nat) (x:Obj),k≠g→w.heap[k]? = some x→w'.heap[k]? = some x)→Below U.heap.size U w'→K (a.put o.dst (.slice A' n c')) w') :
  if Region.wanted o (yielded ops a.tmps)=true then Oper.wp Tryz.prog o a w K Q else E:=by
 obtain ⟨i0,hti,hz0,hz1,hz2⟩:=info_parts qbt
 have hz2':i0.bytes=64:=hz2
 refine step_append_rf0 hgd s x 26 ho U.heap.size 28 i0 _ 5 64 Tryz.underlying26 hti hz0 hz1 hz2' rfl (by omega) (.slice (some ⟨g,0,none⟩) 0 0) hs (qg8 hg he) qbw B n d news hx hr h1 (by omega) (qaz (by omega)) hb.size fun A' c' w' h2 h3 => ?_
 exact h A' c' w' h2 (fun k y hk hy=>(h3.block k (lt_heapK hy) (fun e=>hk (Option.some.inj (show some k=some g from e)))).trans hy) (Below.grown hb h3 hb.size (fun j hj=>by injection hj with hj;have:g=j:=hj;omega))
theorem step_f2 (hgd:o.guard=none) (s x:Operand) (ho:o.op = .call { callee := .builtin .append,args := #[s,x],argTypes := #[26,26] })
  (n c m d:Nat) (A B:Option Addr) (xs news:List Value) (hs:a.eval s = .slice A n c) (hx:a.eval x = .slice B m d)
  (hr:Rd w qbw 5 B m d news) (hown:w.ownsRow U.heap.size 28 5 (.slice A n c) n xs) (hb:Below U.heap.size U w) (h1 : ∀ u∈news,u.oneCell'=true) (hn:n≤2000000) (hm:m≤1000000)
  (h : ∀ A' c' w',w'.ownsRow U.heap.size 28 5 (.slice A' (n+m) c') (n+m) (xs ++ news)→Below U.heap.size U w'→K (a.put o.dst (.slice A' (n+m) c')) w') :
  if Region.wanted o (yielded ops a.tmps)=true then Oper.wp Tryz.prog o a w K Q else E:=by
 obtain ⟨i0,hti,hz0,hz1,hz2⟩:=info_parts qbt
 have hz2':i0.bytes=64:=hz2
 refine qbj w hgd s x 26 ho U.heap.size 28 i0 _ 5 64 Tryz.underlying26 hti hz0 hz1 hz2' rfl (by omega) (.slice A n c) n xs hs hown qbw B m d _ hx hr h1 (by omega) (qaz (by omega)) hb.size fun A' c' w' h2 h3 _ => ?_
 exact h A' c' w' h2 (Below.grown hb h3 hb.size (fun j hj=>(qdu hown hj).1))
end
theorem put_row {U w:World} {E:Dom} {k:Nat} {gs:List Fm} {sl:List (Option Addr × Nat)} {f:Fm} {s:Option Addr × Nat} {A':Option Addr} {c' n:Nat} (hE : ∀ x,U.heap.size≤x→E x) (hl:sl.length=gs.length) (ha : ∀ i,i < gs.length→RdA U E (gs.getD i default).args (sl.getD i (none,0)).1 (sl.getD i (none,0)).2) (hf:RdA U E f.args s.1 s.2) (hk:k≤gs.length) (hlen:gs.length≤1000000) (hb:Below U.heap.size U w)
  (hn:n=(gs.take k ++ f :: gs.drop k).length) (hown:w.ownsRow U.heap.size 28 5 (.slice A' n c') n (qav (gs.take k) (sl.take k) ++ qbr f s ++ qav (gs.drop k) (sl.drop k))):RdA w E (gs.take k ++ f :: gs.drop k) A' c':=by
 subst hn
 have hn1:(gs.take k ++ f :: gs.drop k).length=gs.length+1:=by simp;omega
 have hk1:(gs.take k).length=k:=by rw [List.length_take];omega
 have hk2:(sl.take k).length=k:=by rw [List.length_take];omega
 refine .mk _ _ _ (sl.take k ++ s :: sl.drop k) (by simp [hl]) ?_ fun i hi => ?_
 ·have e:qav (gs.take k ++ f :: gs.drop k) (sl.take k ++ s :: sl.drop k)=qav (gs.take k) (sl.take k) ++ qbr f s ++ qav (gs.drop k) (sl.drop k):=by
   rw [qeb (by rw [hk1,hk2]),qim,List.append_assoc]
  rw [e]
  exact Rd.own hown (by omega) fun g hg=>hE g hg
 ·have key : ∀ {l:List Fm} {C:Option Addr} {d:Nat},RdA U E l C d→RdA w E l C d:=fun h=>h.belowD hb
  by_cases h1:i < k
  ·have e1:(gs.take k ++ f :: gs.drop k).getD i default=gs.getD i default:=by simp [List.getD,List.getElem?_append_left (show i < (gs.take k).length by omega),List.getElem?_take,h1]
   have e2:(sl.take k ++ s :: sl.drop k).getD i (none,0)=sl.getD i (none,0):=by simp [List.getD,List.getElem?_append_left (show i < (sl.take k).length by omega),List.getElem?_take,h1]
   rw [e1,e2]
   exact key (ha i (by omega))
  ·by_cases h2:i=k
   ·subst h2
    have e1:(gs.take i ++ f :: gs.drop i).getD i default=f:=by simp [List.getD,List.getElem?_append_right (show (gs.take i).length≤i by omega),hk1]
    have e2:(sl.take i ++ s :: sl.drop i).getD i (none,0)=s:=by simp [List.getD,List.getElem?_append_right (show (sl.take i).length≤i by omega),hk2]
    rw [e1,e2]
    exact key hf
   ·obtain ⟨j,rfl⟩ : ∃ j,i=k+1+j:=⟨i - (k+1),by omega⟩
    have hj:k+j < gs.length:=by rw [hn1] at hi;omega
    have e1:(gs.take k ++ f :: gs.drop k).getD (k+1+j) default=gs.getD (k+j) default:=by
     simp only [List.getD_eq_getElem?_getD]
     rw [List.getElem?_append_right (by omega),hk1,show k+1+j - k=j+1 by omega,List.getElem?_cons_succ,List.getElem?_drop]
    have e2:(sl.take k ++ s :: sl.drop k).getD (k+1+j) (none,0)=sl.getD (k+j) (none,0):=by
     simp only [List.getD_eq_getElem?_getD]
     rw [List.getElem?_append_right (by omega),hk2,show k+1+j - k=j+1 by omega,List.getElem?_cons_succ,List.getElem?_drop]
    rw [e1,e2]
    exact key (ha _ hj)
def qkj (k:Nat):Code→Option Code
 | .region m ops d=>if m == k then some (.region m ops d) else none
 | .seq a b=>match qkj k a with
  | some c=>some c
  | none=>qkj k b
 | .block _ c=>qkj k c
 | .scope c=>qkj k c
 | .loop c=>qkj k c
 | .cond _ a b=>match qkj k a with
  | some c=>some c
  | none=>qkj k b
 | _=>none
theorem put6 {K:Act→World→Prop} {Qx:Exit→Act→World→Prop} {U:World} {E:Dom} {A:Option Addr} {c k bb m:Nat} {gs:List Fm} {f:Fm} {Af:Option Addr} {cf:Nat} {s1 s2 s4 s6 s7 s8 s9 s10 s11 s12 s13 s14 s15 s16 s17 s18 s19 s20 s21 s22 s23 s24 s25 s26 s27 s28 s29 s30 s31 s32 s33 s34 s35 s36 s37 s38 s39 s40 s41 s42 s43 s44 s45:Value}
  (HR:Hid (RdA U E gs A c)) (HBX:Hid (OB U bb f.op f.name f.val f.bound Af f.args.length cf)) (HFA:Hid (RdA U E f.args Af cf)) (HE:Hid (∀ x,U.heap.size≤x→E x)) (hk:k≤gs.length) (hm:k+m=gs.length) (hlen:gs.length≤1000000)
  (HTL:Hid (∀ (us:Nat→Value) (W':World),(fun us W'=>(∃ A8 c8,us 4 = .slice A8 (k+1+m) c8∧RdA W' E (gs.take k ++ f :: gs.drop k) A8 c8)∧Below U.heap.size U W') us W'→K (qdy ⟨#[.slice A gs.length c,s1,s2,.pointer (some ⟨bb,0,none⟩),s4,.int .i64 (k:Int),s6,s7,s8,s9,s10,s11,s12,s13,s14,s15,s16,s17,s18,s19,s20,s21,s22,s23,s24,s25,s26,s27,s28,s29,s30,s31,s32,s33,s34,s35,s36,s37,s38,s39,s40,s41,s42,s43,s44,s45],[]⟩ (4 :: List.range' 34 12) us) W')) :
  Code.wp Tryz.prog ((Tryz.f97.body.bind (qkj 6)).getD .skip) (Exit.then K Qx) ⟨#[.slice A gs.length c,s1,s2,.pointer (some ⟨bb,0,none⟩),s4,.int .i64 (k:Int),s6,s7,s8,s9,s10,s11,s12,s13,s14,s15,s16,s17,s18,s19,s20,s21,s22,s23,s24,s25,s26,s27,s28,s29,s30,s31,s32,s33,s34,s35,s36,s37,s38,s39,s40,s41,s42,s43,s44,s45],[]⟩ U:=by
 conv=>arg 2;whnf
 have hcp:=HR.out.len
 obtain ⟨sl,hsl,hrd,hargs⟩:=HR.out.out
 have HSL:=hid hsl
 have HAR:=hid hargs
 have HRD:=hid hrd
 have hsl1:=fun W=>fslice_to A (n:=gs.length) (c:=c) (k:=k) (by omega) W
 have hsl2:=fun W=>fslice_from A (n:=gs.length) (c:=c) (k:=k) hk W
 have HT1:Hid (∀ W:World,Below U.heap.size U W→Rd W qbw 5 A k c (qav (gs.take k) (sl.take k))):=hid fun W hb=>by
  rw [←cellsF_takeK]
  exact Rd.take (((Rd.old HRD.out).keep (Keeps.of_below hb fun _ h=>h)).mono fun _ _ _=>trivial) hk
 have HT2:Hid (∀ W:World,Below U.heap.size U W→Rd W qbw 5 (if c=k then A else A.map (·.add (k * 5))) (gs.length - k) (c - k) (qav (gs.drop k) (sl.drop k))):=hid fun W hb=>by
  rw [←cellsF_dropK]
  exact Rd.cut (((Rd.old HRD.out).keep (Keeps.of_below hb fun _ h=>h)).mono fun _ _ _=>trivial) hk
 obtain ⟨A5,hA5⟩ : ∃ A5,(if c=k then A else A.map (·.add (k * 5)))=A5:=⟨_,rfl⟩
 obtain ⟨c5,hc5⟩ : ∃ c5,c - k=c5:=⟨_,rfl⟩
 have hm2:gs.length - k=m:=by omega
 rw [hA5,hm2,hc5] at HT2
 simp only [hA5,hm2,hc5] at hsl2
 have HKM:=hid hm
 have HLE:=hid hlen
 have HKL:=hid hk
 have hk6:k≤1000000:=by omega
 have hm6:m≤1000000:=by omega
 clear hA5 hc5 hm2 hsl hrd hargs hm hlen hk
 have HO1:=hid (cellsF_oneK (gs.take k) (sl.take k))
 have HO2:=hid (qb9 f (Af,cf))
 have HO3:=hid (cellsF_oneK (gs.drop k) (sl.drop k))
 have HCELL:Hid (∀ W':World,Below U.heap.size U W'→W'.cell? ⟨bb,0,none⟩=some (.int .i64 f.op)∧W'.cell? ⟨bb,1,none⟩=some (.string f.name)∧W'.cell? ⟨bb,2,none⟩=some (.int .i64 f.val)∧W'.cell? ⟨bb,3,none⟩=some (.int .i64 f.bound)∧W'.cell? ⟨bb,4,none⟩=some (.slice Af f.args.length cf)):=hid fun W' hb'=>by
  obtain ⟨a0,a1,a2,a3,a4,_⟩:=(HBX.out.below hb').cells
  exact ⟨a0,a1,a2,a3,a4⟩
 obtain ⟨y0,y1,y2,y3,y4⟩:=HCELL.out _ (Below.refl _ _)
 have l0:bb < U.heap.size:=lt_of_block HBX.out
 first
  | go_region_held3 (fun W':World=>W'.cell? ⟨bb,0,none⟩=some (.int .i64 f.op)∧W'.cell? ⟨bb,1,none⟩=some (.string f.name)∧W'.cell? ⟨bb,2,none⟩=some (.int .i64 f.val)∧W'.cell? ⟨bb,3,none⟩=some (.int .i64 f.bound)∧W'.cell? ⟨bb,4,none⟩=some (.slice Af f.args.length cf))
    (first | (go_keep;done) | (with_reducible exact HCELL.out _ HB8.out) | (with_reducible exact HCELL.out _ HB7.out) | (with_reducible exact HCELL.out _ HB6.out) | ((with_reducible refine HCELL.out _ (qac HB7.out ?_));go_grown) | ((with_reducible refine HCELL.out _ (qac HB6.out ?_));go_grown) | ((with_reducible refine HCELL.out _ ?_);go_grown))
    (first
     | (refine step_f1 (U:=U) (by rfl) _ _ (by rfl) _ k c A (qav (gs.take k) (sl.take k)) (by rfl) (by rfl) ?_ ?_ ?_ ?_ HO1.out (by omega) ?_;(focus (first | exact at_new _ _ _ rfl | (refine at_new _ _ _ ?_;(focus (simp;done))) | (refine (qaq _ _ _ ?_).trans (at_new _ _ _ rfl);(focus (first | (simp;done) | (simp;omega)))) | (refine (qaq _ _ _ ?_).trans (at_new _ _ _ ?_);(focus (first | (simp;done) | (simp;omega)));(focus (simp;done)))));(focus (first | exact Nat.le_refl _ | omega));(focus (first | exact Below.refl _ _ | go_grown | exact (qao.n _ _).below _));(focus (refine HT1.out _ ?_;(focus (first | exact Below.refl _ _ | go_grown | exact (qao.n _ _).below _))));intro A6 c6 w6 hown6 hk6 hb6;have HB6:=hid hb6;have HO6:=hid hown6;(first | (refine have_thenK (P:=w6.heap[U.heap.size]? = some (FBX f Af cf)) (kept_atK hk6 ?_ ?_) fun hq => ?_;(focus (first | (simp;done) | omega));(focus (first | exact at_new _ _ _ rfl | (refine at_new _ _ _ ?_;(focus (simp;done))) | (refine (qaq _ _ _ ?_).trans (at_new _ _ _ rfl);(focus (first | (simp;done) | (simp;omega)))) | (refine (qaq _ _ _ ?_).trans (at_new _ _ _ ?_);(focus (first | (simp;done) | (simp;omega)));(focus (simp;done)))));have HTK:=hid hq;clear hq) | (refine have_thenK (P:=w6.heap[U.heap.size+1]? = some (FBX f Af cf)) (kept_atK hk6 ?_ ?_) fun hq => ?_;(focus (first | (simp;done) | omega));(focus (first | exact at_new _ _ _ rfl | (refine at_new _ _ _ ?_;(focus (simp;done))) | (refine (qaq _ _ _ ?_).trans (at_new _ _ _ rfl);(focus (first | (simp;done) | (simp;omega)))) | (refine (qaq _ _ _ ?_).trans (at_new _ _ _ ?_);(focus (first | (simp;done) | (simp;omega)));(focus (simp;done)))));have HTK:=hid hq;clear hq) | skip);clear hown6 hk6 hb6)
     | (refine step_f2 (U:=U) (by rfl) _ _ (by rfl) k c6 1 1 A6 _ (qav (gs.take k) (sl.take k)) (qbr f (Af,cf)) (by rfl) (by rfl) (rd_fb ?_) ?_ ?_ HO2.out (by omega) (by omega) ?_;(focus (first | exact HTK.out | exact (qaq _ _ _ (lt_heapK HTK.out)).trans HTK.out | (focus (first | exact at_new _ _ _ rfl | (refine at_new _ _ _ ?_;(focus (simp;done))) | (refine (qaq _ _ _ ?_).trans (at_new _ _ _ rfl);(focus (first | (simp;done) | (simp;omega)))) | (refine (qaq _ _ _ ?_).trans (at_new _ _ _ ?_);(focus (first | (simp;done) | (simp;omega)));(focus (simp;done)))))));(focus (refine own_below HO6.out ?_;(focus (first | exact Below.refl _ _ | go_grown | exact (qao.n _ _).below _))));(focus (refine qac HB6.out ?_;(focus (first | exact Below.refl _ _ | go_grown | exact (qao.n _ _).below _))));intro A7 c7 w7 hown7 hb7;have HB7:=hid hb7;have HO7:=hid hown7;clear hown7 hb7)
     | (refine step_f2 (U:=U) (by rfl) _ _ (by rfl) (k+1) c7 m c5 A7 A5 (qav (gs.take k) (sl.take k) ++ qbr f (Af,cf)) (qav (gs.drop k) (sl.drop k)) (by rfl) (by rfl) ?_ ?_ ?_ HO3.out (by omega) (by omega) ?_;(focus (refine HT2.out _ (qac HB7.out ?_);(focus (first | exact Below.refl _ _ | go_grown | exact (qao.n _ _).below _))));(focus (refine own_below HO7.out ?_;(focus (first | exact Below.refl _ _ | go_grown | exact (qao.n _ _).below _))));(focus (refine qac HB7.out ?_;(focus (first | exact Below.refl _ _ | go_grown | exact (qao.n _ _).below _))));intro A8 c8 w8 hown8 hb8;have HB8:=hid hb8;have HO8:=hid hown8;clear hown8 hb8)
    )
  | fail
 all_goals
  refine qap HTL.out ⟨⟨_,_,?_,put_row HE.out HSL.out HAR.out HFA.out HKL.out HLE.out HB8.out ?_ HO8.out⟩,HB8.out⟩ ?_
  ·rfl
  ·have:=HKM.out;have:=HKL.out;simp;omega
  ·kernel_rfl
end Go.Proofs.YtdakdpfofgkjoaaGreatDoor
namespace Go.Proofs.YtdakdpfofgkjoaaGreatDoor
open Go.RowKit Go.Shelf
attribute [local go_sem] qad qbo
theorem qla {E:Dom} (gs:List Fm) (f:Fm) (v:Value) (A:Option Addr) (n c:Nat) (w:World) (hE : ∀ x,w.heap.size≤x→E x) (h:RdA w E gs A c) (hn:n=gs.length) (hf:qby w E v f) (hlen:gs.length≤1000000) :
  Calls Tryz.prog 97 #[.slice A n c,v] w fun e w' => ∃ A' c',e = .returned (.slice A' (qfs f gs).length c')∧RdA w' E (qfs f gs) A' c'∧Below w.heap.size w w':=by
 subst hn
 obtain ⟨Af,cf,rfl,hfa⟩:=hf
 have HR:=hid h
 have HF:=hid hfa
 have HE:=hid hE
 clear h hfa hE
 go_enter Tryz.func97,Tryz.ntmps97
 go_upto_region 1 with (fail)
 refine qai fun W hW => ?_
 have HB:=hid (show Below w.heap.size w W by rw [hW];go_grown)
 have HO:=hid (show OB W w.heap.size f.op f.name f.val f.bound Af f.args.length cf by rw [hW];exact at_new _ _ _ rfl)
 have HWS:=hid (show w.heap.size < W.heap.size from lt_of_block HO.out)
 clear hW
 go_wp2_with fail
 go_loopw [5] (fun i wr => ∃ k:Nat,k≤gs.length∧i = .int .i64 (k:Int)∧Hid (∀ j,j < k→(gs.getD j default).cmp f < 0)∧Hid (Below W.heap.size W wr)) (fun i _=>gs.length - (intOf i).toNat)
 case atStart=>exact ⟨0,Nat.zero_le _,rfl,fun j hj=>absurd hj (Nat.not_lt_zero _),Below.refl _ _⟩
 case round =>
  obtain ⟨k,hk,rfl,HJ,HBR⟩:=hrel
  have HBW:=hid (qac HB.out HBR.out)
  have HRr:=hid (HR.out.belowD HBW.out)
  have HFr:=hid (HF.out.belowD HBW.out)
  have HOR:=hid (HO.out.below HBR.out)
  have HEr:Hid (∀ x,wr.heap.size≤x→E x):=hid fun x hx=>HE.out x (Nat.le_trans HBW.out.size hx)
  by_cases hlt:k < gs.length
  ·have hki:(k:Int) < gs.length:=by omega
   have hk0:(0:Int)≤(k:Int):=by omega
   obtain ⟨b1,o1,A1,c1,x,rfl,HX,hf1⟩:=HRr.out.get hlt
   have HFX:=hid hf1
   obtain ⟨-,hl1,y0,y1,y2,y3,y4, -⟩:=hf1
   obtain ⟨f0,f1,f2,f3,f4,f5⟩:=HOR.out.cells
   have HXX:=hid HX.out
   have HLT:=hid hlt
   clear HX hk
   have HCELL:Hid (∀ W':World,Below wr.heap.size wr W'→(fun W':World=>W'.cell? ⟨b1,o1+k * 5,none⟩=some (.int .i64 x.op)∧W'.cell? ⟨b1,o1+k * 5+1,none⟩=some (.string x.name)∧W'.cell? ⟨b1,o1+k * 5+2,none⟩=some (.int .i64 x.val)∧W'.cell? ⟨b1,o1+k * 5+3,none⟩=some (.int .i64 x.bound)∧W'.cell? ⟨b1,o1+k * 5+4,none⟩=some (.slice A1 x.args.length c1)∧W'.cell? ⟨w.heap.size,0,none⟩=some (.int .i64 f.op)∧W'.cell? ⟨w.heap.size,1,none⟩=some (.string f.name)∧W'.cell? ⟨w.heap.size,2,none⟩=some (.int .i64 f.val)∧W'.cell? ⟨w.heap.size,3,none⟩=some (.int .i64 f.bound)∧W'.cell? ⟨w.heap.size,4,none⟩=some (.slice Af f.args.length cf)) W'):=hid fun W' hb'=>by
    obtain ⟨a0,a1,a2,a3,a4⟩:=HFX.out.keepB hb'
    obtain ⟨z0,z1,z2,z3,z4,_⟩:=(HOR.out.below hb').cells
    exact ⟨a0,a1,a2,a3,a4,z0,z1,z2,z3,z4⟩
   have HCM:=hid (fun (W':World) (hb:Below wr.heap.size wr W')=>rcmp_any x (D:=E) (E:=E) f (.agg #[.int .i64 x.op,.string x.name,.int .i64 x.val,.int .i64 x.bound,.slice A1 x.args.length c1]) (.agg #[.int .i64 f.op,.string f.name,.int .i64 f.val,.int .i64 f.bound,.slice Af f.args.length cf]) W' ⟨A1,c1,rfl,HFX.out.args.belowD hb⟩ ⟨Af,cf,rfl,HFr.out.belowD hb⟩)
   obtain ⟨cm,hcm⟩ : ∃ cm,x.cmp f=cm:=⟨_,rfl⟩
   have HCMV:=hid hcm
   rw [hcm] at HCM
   clear hcm
   by_cases hlt0:cm < 0
   ·have hd0:decide (cm < 0)=true:=decide_eq_true hlt0
    have HL0:=hid hlt0
    clear hd0
    go_upto_region 2 with (fail)
    first
     | go_region_held3 (fun W':World=>W'.cell? ⟨b1,o1+k * 5,none⟩=some (.int .i64 x.op)∧W'.cell? ⟨b1,o1+k * 5+1,none⟩=some (.string x.name)∧W'.cell? ⟨b1,o1+k * 5+2,none⟩=some (.int .i64 x.val)∧W'.cell? ⟨b1,o1+k * 5+3,none⟩=some (.int .i64 x.bound)∧W'.cell? ⟨b1,o1+k * 5+4,none⟩=some (.slice A1 x.args.length c1)∧W'.cell? ⟨w.heap.size,0,none⟩=some (.int .i64 f.op)∧W'.cell? ⟨w.heap.size,1,none⟩=some (.string f.name)∧W'.cell? ⟨w.heap.size,2,none⟩=some (.int .i64 f.val)∧W'.cell? ⟨w.heap.size,3,none⟩=some (.int .i64 f.bound)∧W'.cell? ⟨w.heap.size,4,none⟩=some (.slice Af f.args.length cf))
       (first | (go_keep;done) | (with_reducible exact HCELL.out _ HB5.out) | ((with_reducible refine HCELL.out _ ?_);go_grown))
       ((go_at_call 44;(with_reducible refine (HCM.out _ ?_).mono ?_);(focus (first | exact Below.refl _ _ | go_grown | exact (qao.n _ _).below _));rintro e W5 ⟨rfl,hb5⟩;have HB5:=hid ((show Below wr.heap.size wr _ by first | exact Below.refl _ _ | go_grown | exact (qao.n _ _).below _).trans (hb5.mono (by first | exact Nat.le_refl _ | simp)));clear hb5))
     | fail
    all_goals
     go_wp2_with fail
     go_roundw
     case rel=>exact ⟨k+1,by have:=HLT.out;omega,by go_num,fun j hj=>by
      by_cases hjk:j < k
      ·exact HJ.out j hjk
      ·have:j=k:=by omega
       subst this
       rw [HXX.out,HCMV.out];exact HL0.out,HBR.out.trans (HB5.out.mono HBR.out.size)⟩
     case measure=>have:=HLT.out;simp [intOf];omega
   ·have HL0:=hid hlt0
    have HSA:=hid (fun (W':World) (hb:Below wr.heap.size wr W')=>qiq (D:=E) (E:=E) x f (.agg #[.int .i64 x.op,.string x.name,.int .i64 x.val,.int .i64 x.bound,.slice A1 x.args.length c1]) (.agg #[.int .i64 f.op,.string f.name,.int .i64 f.val,.int .i64 f.bound,.slice Af f.args.length cf]) W' ⟨A1,c1,rfl,HFX.out.args.belowD hb⟩ ⟨Af,cf,rfl,HFr.out.belowD hb⟩)
    rw [HCMV.out] at HSA
    go_upto_region 2 with (fail)
    first
     | go_region_held3 (fun W':World=>W'.cell? ⟨b1,o1+k * 5,none⟩=some (.int .i64 x.op)∧W'.cell? ⟨b1,o1+k * 5+1,none⟩=some (.string x.name)∧W'.cell? ⟨b1,o1+k * 5+2,none⟩=some (.int .i64 x.val)∧W'.cell? ⟨b1,o1+k * 5+3,none⟩=some (.int .i64 x.bound)∧W'.cell? ⟨b1,o1+k * 5+4,none⟩=some (.slice A1 x.args.length c1)∧W'.cell? ⟨w.heap.size,0,none⟩=some (.int .i64 f.op)∧W'.cell? ⟨w.heap.size,1,none⟩=some (.string f.name)∧W'.cell? ⟨w.heap.size,2,none⟩=some (.int .i64 f.val)∧W'.cell? ⟨w.heap.size,3,none⟩=some (.int .i64 f.bound)∧W'.cell? ⟨w.heap.size,4,none⟩=some (.slice Af f.args.length cf))
       (first | (go_keep;done) | (with_reducible exact HCELL.out _ HB5.out) | ((with_reducible refine HCELL.out _ ?_);go_grown))
       ((go_at_call 44;(with_reducible refine (HCM.out _ ?_).mono ?_);(focus (first | exact Below.refl _ _ | go_grown | exact (qao.n _ _).below _));rintro e W5 ⟨rfl,hb5⟩;have HB5:=hid ((show Below wr.heap.size wr _ by first | exact Below.refl _ _ | go_grown | exact (qao.n _ _).below _).trans (hb5.mono (by first | exact Nat.le_refl _ | simp)));clear hb5))
     | fail
    all_goals
     clear y0 y1 y2 y3 y4 f0 f1 f2 f3 f4
     obtain ⟨y0,y1,y2,y3,y4,f0,f1,f2,f3,f4⟩:=HCELL.out _ HB5.out
     have hl1':b1 < W5.heap.size:=Nat.lt_of_lt_of_le hl1 HB5.out.size
     have f5':w.heap.size < W5.heap.size:=Nat.lt_of_lt_of_le f5 HB5.out.size
     by_cases hz:cm=0
     ·have hdz:decide (cm=0)=true:=decide_eq_true hz
      have HIN:=hid (insF_same f gs k HLT.out HJ.out (by rw [HXX.out,HCMV.out];exact hz))
      rw [hdz] at HSA
      clear hz hdz
      go_upto_region 4 with (fail)
      first
       | go_region_held3 (fun W':World=>W'.cell? ⟨b1,o1+k * 5,none⟩=some (.int .i64 x.op)∧W'.cell? ⟨b1,o1+k * 5+1,none⟩=some (.string x.name)∧W'.cell? ⟨b1,o1+k * 5+2,none⟩=some (.int .i64 x.val)∧W'.cell? ⟨b1,o1+k * 5+3,none⟩=some (.int .i64 x.bound)∧W'.cell? ⟨b1,o1+k * 5+4,none⟩=some (.slice A1 x.args.length c1)∧W'.cell? ⟨w.heap.size,0,none⟩=some (.int .i64 f.op)∧W'.cell? ⟨w.heap.size,1,none⟩=some (.string f.name)∧W'.cell? ⟨w.heap.size,2,none⟩=some (.int .i64 f.val)∧W'.cell? ⟨w.heap.size,3,none⟩=some (.int .i64 f.bound)∧W'.cell? ⟨w.heap.size,4,none⟩=some (.slice Af f.args.length cf))
         (first | (go_keep;done) | (with_reducible exact HCELL.out _ HB6.out) | ((with_reducible refine HCELL.out _ (qac HB5.out ?_));go_grown))
         ((go_at_call 15;(with_reducible refine (HSA.out _ (qac HB5.out ?_)).mono ?_);(focus (first | exact Below.refl _ _ | go_grown | exact (qao.n _ _).below _));rintro e W6 ⟨rfl,hb6⟩;have HB6:=hid (qac HB5.out (qdh HB5.out (by first | exact Below.refl _ _ | go_grown | exact (qao.n _ _).below _) hb6));clear hb6))
       | fail
      all_goals
       go_wp2_with fail
       go_ret
       rw [HIN.out]
       exact ⟨_,_,rfl,HRr.out.belowD HB6.out,qac HBW.out HB6.out⟩
     ·have hdz:decide (cm=0)=false:=decide_eq_false hz
      have HIN:=hid (insF_put f gs k (Nat.le_of_lt HLT.out) HJ.out (fun _=>by rw [HXX.out,HCMV.out];have:=HL0.out;omega))
      rw [hdz] at HSA
      clear hz hdz
      go_upto_region 4 with (fail)
      first
       | go_region_held3 (fun W':World=>W'.cell? ⟨b1,o1+k * 5,none⟩=some (.int .i64 x.op)∧W'.cell? ⟨b1,o1+k * 5+1,none⟩=some (.string x.name)∧W'.cell? ⟨b1,o1+k * 5+2,none⟩=some (.int .i64 x.val)∧W'.cell? ⟨b1,o1+k * 5+3,none⟩=some (.int .i64 x.bound)∧W'.cell? ⟨b1,o1+k * 5+4,none⟩=some (.slice A1 x.args.length c1)∧W'.cell? ⟨w.heap.size,0,none⟩=some (.int .i64 f.op)∧W'.cell? ⟨w.heap.size,1,none⟩=some (.string f.name)∧W'.cell? ⟨w.heap.size,2,none⟩=some (.int .i64 f.val)∧W'.cell? ⟨w.heap.size,3,none⟩=some (.int .i64 f.bound)∧W'.cell? ⟨w.heap.size,4,none⟩=some (.slice Af f.args.length cf))
         (first | (go_keep;done) | (with_reducible exact HCELL.out _ HB6.out) | ((with_reducible refine HCELL.out _ (qac HB5.out ?_));go_grown))
         ((go_at_call 15;(with_reducible refine (HSA.out _ (qac HB5.out ?_)).mono ?_);(focus (first | exact Below.refl _ _ | go_grown | exact (qao.n _ _).below _));rintro e W6 ⟨rfl,hb6⟩;have HB6:=hid (qac HB5.out (qdh HB5.out (by first | exact Below.refl _ _ | go_grown | exact (qao.n _ _).below _) hb6));clear hb6))
       | fail
      all_goals
       go_upto_region 6 with (fail)
       rename_i K6 hK6
       refine qd2 K6 (4 :: List.range' 34 12) (fun us W'=>(∃ A8 c8,us 4 = .slice A8 (k+1+(gs.length - k)) c8∧RdA W' E (gs.take k ++ f :: gs.drop k) A8 c8)∧Below W6.heap.size W6 W') ?_ ?_
       rotate_left
       ·intro HTAIL
        exact put6 (hid (HRr.out.belowD HB6.out)) (hid (HOR.out.below HB6.out)) (hid (HFr.out.belowD HB6.out)) (hid fun x hx=>HEr.out x (Nat.le_trans HB6.out.size hx)) (Nat.le_of_lt HLT.out) (Nat.add_sub_cancel' (Nat.le_of_lt HLT.out)) hlen (hid HTAIL)
       rintro us W8 ⟨⟨A8,c8,hu4,hr8⟩,hb8⟩
       have HR8:=hid hr8
       have HB8:=hid hb8
       apply hK6
       simp only [qdy,List.range',List.range'_succ,Act.put,List.setIfInBounds_toArray,List.set_cons_zero,List.set_cons_succ,Nat.reduceAdd,hu4]
       clear hK6 hu4 hr8 hb8
       have HLN:=hid (show k+1+(gs.length - k)=(qfs f gs).length by rw [HIN.out];have:=(Nat.le_of_lt HLT.out);simp;omega)
       rw [HLN.out]
       go_wp2_with fail
       go_ret
       exact ⟨_,_,rfl,by rw [HIN.out];exact HR8.out,qac (qac HBW.out HB6.out) HB8.out⟩
  ·have hki : ¬ (k:Int) < gs.length:=by omega
   have hkl:k=gs.length:=by omega
   have hdk:decide ((k:Int) < (gs.length:Int))=false:=decide_eq_false hki
   have HIN:=hid (insF_put f gs k (by omega) HJ.out (fun h=>absurd h (by omega)))
   have HKL:=hid (show k≤gs.length by omega)
   clear hk hkl
   go_upto_region 2 with (fail)
   go_quiet (fail)
   go_upto_region 4 with (fail)
   refine qai fun W5 hW5 => ?_
   have HB5:=hid (show Below wr.heap.size wr W5 by rw [hW5];exact (qao.n _ _).below _)
   clear hW5
   go_quiet (fail)
   go_upto_region 6 with (fail)
   refine qai fun W6 hW6 => ?_
   have HB6:=hid (show Below wr.heap.size wr W6 by rw [hW6];exact HB5.out.trans ((qao.n _ _).below _))
   clear hW6
   rename_i K6 hK6
   refine qd2 K6 (4 :: List.range' 34 12) (fun us W'=>(∃ A8 c8,us 4 = .slice A8 (k+1+(gs.length - k)) c8∧RdA W' E (gs.take k ++ f :: gs.drop k) A8 c8)∧Below W6.heap.size W6 W') ?_ ?_
   rotate_left
   ·intro HTAIL
    exact put6 (hid (HRr.out.belowD HB6.out)) (hid (HOR.out.below HB6.out)) (hid (HFr.out.belowD HB6.out)) (hid fun x hx=>HEr.out x (Nat.le_trans HB6.out.size hx)) HKL.out (Nat.add_sub_cancel' HKL.out) hlen (hid HTAIL)
   rintro us W8 ⟨⟨A8,c8,hu4,hr8⟩,hb8⟩
   have HR8:=hid hr8
   have HB8:=hid hb8
   apply hK6
   simp only [qdy,List.range',List.range'_succ,Act.put,List.setIfInBounds_toArray,List.set_cons_zero,List.set_cons_succ,Nat.reduceAdd,hu4]
   clear hK6 hu4 hr8 hb8
   have HLN:=hid (show k+1+(gs.length - k)=(qfs f gs).length by rw [HIN.out];have:=HKL.out;simp;omega)
   rw [HLN.out]
   go_wp2_with fail
   go_ret
   exact ⟨_,_,rfl,by rw [HIN.out];exact HR8.out,qac (qac HBW.out HB6.out) HB8.out⟩
end Go.Proofs.YtdakdpfofgkjoaaGreatDoor
