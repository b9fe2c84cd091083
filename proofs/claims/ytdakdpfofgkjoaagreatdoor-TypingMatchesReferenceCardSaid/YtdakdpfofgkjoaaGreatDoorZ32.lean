/-
  The reference's gathered.
-/
import Derived.Test.YtdakdpfofgkjoaaGreatDoorZ31
set_option linter.unusedSimpArgs false
set_option linter.unusedVariables false
set_option maxHeartbeats 8000000
set_option maxRecDepth 100000
namespace Go.Proofs.YtdakdpfofgkjoaaGreatDoor
open Go.RowKit Go.Shelf
attribute [local go_sem] qad qbo
theorem qik (op:Int) (l:List Fm) (i:Nat):(qbs op (l.take i)).length≤(qbs op l).length:=by
 conv=>rhs;rw [←List.take_append_drop i l]
 unfold qbs
 rw [List.flatMap_append,List.length_append]
 omega
theorem setZ_many {op:Int} {s:List Fm} (ho:qky s=false) (h0 : ¬ s.length=0) (h1 : ¬ s.length=1):qic op s=opF op s:=by
 unfold qic
 rw [ho]
 match s,h0,h1 with
 | [],h0,_=>exact absurd rfl h0
 | [_],_,h1=>exact absurd rfl h1
 | _ :: _ :: _,_,_=>rfl
theorem bneI_fZ {a b:Int} (h:a=b):(a != b)=false:=by simp [h]
theorem qlb {op:Int} {l:List Fm} {x y:Fm} (hx:x∈l) (hy:y∈qe5 op x):y∈qbs op l:=by
 unfold qbs
 rw [List.mem_flatMap]
 exact ⟨x,hx,hy⟩
theorem accF_in {op:Int} {l:List Fm} {x:Fm} (h:x∈qkt op l):x∈l:=((accF_mem op l x).1 h).1
theorem qjk {op:Int} {l:List Fm} {i k:Nat} (hi:i < l.length) (hs:sizes l≤1000000):(qkt op (qbs op (l.take i) ++ (qe5 op (l.getD i default)).take k)).length≤1000000:=by
 have h1:=accF_len op (qbs op (l.take i) ++ (qe5 op (l.getD i default)).take k)
 have h2:=qik op l (i+1)
 rw [qf7 op l hi,List.length_append] at h2
 have h3:=qja op l
 rw [List.length_append,List.length_take] at h1
 omega
theorem qgi {E:Dom} (op:Int) (hop:op=5∨op=6) (l:List Fm) (A:Option Addr) (n c:Nat) (w:World) (hE : ∀ x,w.heap.size≤x→E x) (h:RdA w E l A c) (hn:n=l.length) (hcan : ∀ g,g∈l→Can g) (hs:sizes l≤1000000) (h4 : ∀ x,x∈qbs op l→x.op=4→0 < x.args.length) :
  Calls Tryz.prog 59 #[.int .i64 op,.slice A n c] w fun e w' => ∃ v',e = .returned v'∧qby w' E v' (qbm op l)∧Below w.heap.size w w':=by
 subst hn
 have hlen:=h.len.1
 have HA:=hid (h.mono (E:=fun x=>E x∧x≠w.heap.size) fun x hx hl=>⟨hx,by omega⟩)
 have HCAN:=hid hcan
 have HSZ:=hid hs
 have H4:=hid h4
 have HOP:=hid hop
 have hE':=hE
 clear h hcan hs h4
 go_enter Tryz.func59,Tryz.ntmps59
 go_upto_region 1 with (fail)
 refine qai fun W hW => ?_
 have HB:=hid (show Below w.heap.size w W by rw [hW];go_grown)
 have HR:=hid (show OB W w.heap.size 0 ⟨#[]⟩ 0 0 none 0 0 by rw [hW];exact at_new _ _ _ rfl)
 have HWS:=hid (show w.heap.size < W.heap.size from lt_of_block HR.out)
 have HEE:Hid (∀ x,W.heap.size≤x→E x∧x≠w.heap.size):=hid fun x hx=>⟨hE' x (by have:=HB.out.size;omega),by have:=HWS.out;omega⟩
 clear hW hE hE'
 go_upto_region 2 with (go_at_call 90;(with_reducible refine (qg2 _).mono ?_);rintro e V1 ⟨rfl,hb1⟩;have HB1:=hid hb1;clear hb1)
 obtain ⟨ub,hub⟩ : ∃ ub,ub=V1.heap.size:=⟨_,rfl⟩
 refine qai fun V2 hV2 => ?_
 have HB2:=hid (show Below W.heap.size W V2 by rw [hV2];exact HB1.out.alloc HB1.out.size _)
 have HU:=hid (show OB V2 ub 1 ⟨#[]⟩ 0 0 none 0 0 by rw [hV2,hub];exact at_new _ _ _ rfl)
 have HUG:=hid (show W.heap.size≤ub by rw [hub];exact HB1.out.size)
 rw [←hub]
 clear hV2 hub HB1
 go_upto_region 3 with (go_at_call 91;(with_reducible refine (qf0 _).mono ?_);rintro e V3 ⟨rfl,hb3⟩;have HB3:=hid hb3;clear hb3)
 obtain ⟨zb,hzb⟩ : ∃ zb,zb=V3.heap.size:=⟨_,rfl⟩
 refine qai fun V4 hV4 => ?_
 have HB34:=hid (show Below V2.heap.size V2 V4 by rw [hV4];exact HB3.out.alloc HB3.out.size _)
 have HZ:=hid (show OB V4 zb 2 ⟨#[]⟩ 0 0 none 0 0 by rw [hV4,hzb];exact at_new _ _ _ rfl)
 have HZG:=hid (show V2.heap.size≤zb by rw [hzb];exact HB3.out.size)
 have HU4:=hid (HU.out.below HB34.out)
 have HB4:=hid (qac HB2.out HB34.out)
 have HUZ:=hid (show ub≠zb by have:=lt_of_block HU.out;have:=HZG.out;omega)
 rw [←hzb]
 clear hV4 hzb HB3 HU
 obtain ⟨u0,u1,u2,u3,u4,u5⟩:=HU4.out.cells
 obtain ⟨z0,z1,z2,z3,z4,z5⟩:=HZ.out.cells
 rcases hop with rfl | rfl
 ·go_upto_region 5 with (fail)
  refine qai fun W5 hW5 => ?_
  have HB5:=hid (show Below W.heap.size W W5 by rw [hW5];exact HB4.out)
  have HU5:=hid (show OB W5 ub 1 ⟨#[]⟩ 0 0 none 0 0 by rw [hW5];exact HU4.out)
  have HZ5:=hid (show OB W5 zb 2 ⟨#[]⟩ 0 0 none 0 0 by rw [hW5];exact HZ.out)
  clear hW5 u0 u1 u2 u3 u4 u5 z0 z1 z2 z3 z4 z5
  go_wp2_with fail
  go_loopw [7,8] (fun r q wr => ∃ (i:Nat) (A':Option Addr) (c':Nat) (acc:List Fm),i≤l.length∧r = .slice A' acc.length c'∧q = .int .i64 (i:Int)∧Hid (acc=qkt 5 (qbs 5 (l.take i)))∧Hid (∀ z,z∈qbs 5 (l.take i)→z.op≠qcu 5)∧Hid (RdA wr (fun x=>E x∧x≠w.heap.size) acc A' c')∧Hid (Below W5.heap.size W5 wr)) (fun _ q _=>l.length - (intOf q).toNat)
  case atStart=>exact ⟨0,none,0,[],Nat.zero_le _,rfl,rfl,rfl,(fun z hz=>by cases hz),RdA.nil _ _ _ (Nat.zero_le _),Below.refl _ _⟩
  case round =>
   obtain ⟨i,A',c',acc,hi,rfl,rfl,HACC,HNZ,HROW,HBR⟩:=hrel
   have HBW:=hid (qac HB5.out HBR.out)
   by_cases hlt:i < l.length
   ·have hii:(i:Int) < l.length:=by omega
    have hi0:(0:Int)≤(i:Int):=by omega
    have HLT:=hid hlt
    have HAr:=hid ((HA.out.belowD HB.out).belowD HBW.out)
    obtain ⟨b1,o1,A1,c1,x,rfl,HX,hf1⟩:=HAr.out.get hlt
    have HFX:=hid hf1
    obtain ⟨-,hl1,y0,y1,y2,y3,y4, -⟩:=hf1
    have HXX:=hid HX.out
    have HXM:=hid (show x∈l by rw [←HXX.out];exact qa1 HLT.out)
    clear hi HX
    have HPARTS:Hid (∃ P,P=qe5 5 x):=hid ⟨_,rfl⟩
    by_cases hxo:x.op=5
    ·have dxo:(x.op == 5)=true:=qb6 hxo
     have HP:=hid (show qe5 5 x=x.args by unfold qe5;rw [if_pos hxo])
     clear hxo
     go_wp2_with fail
     refine qai fun W6 hW6 => ?_
     have HB6:=hid (show Below wr.heap.size wr W6 by rw [hW6];go_grown)
     have HPR:=hid (show RdA W6 (fun x=>E x∧x≠w.heap.size) x.args A1 c1 from HFX.out.args.belowD HB6.out)
     clear hW6 y0 y1 y2 y3 y4
     have hpl:(x.args).length≤1000000:=by first | (have h1:=qbx x.args;have h2:=Fm.size_eq x;have h3:=qch HXM.out;have h4:=HSZ.out;omega) | (simp;done)
     have HB56:=hid (qac HBR.out HB6.out)
     have HRO6:=hid (HROW.out.belowD HB6.out)
     go_loopw [7,10] (fun r q wr => ∃ (k:Nat) (A':Option Addr) (c':Nat) (acc:List Fm),k≤(x.args).length∧r = .slice A' acc.length c'∧q = .int .i64 (k:Int)∧Hid (acc=qkt 5 (qbs 5 (l.take i) ++ (x.args).take k))∧Hid (∀ z,z∈qbs 5 (l.take i) ++ (x.args).take k→z.op≠qcu 5)∧Hid (RdA wr (fun x=>E x∧x≠w.heap.size) acc A' c')∧Hid (Below W6.heap.size W6 wr)) (fun _ q _=>(x.args).length - (intOf q).toNat)
     case atStart=>exact ⟨0,A',c',acc,Nat.zero_le _,rfl,rfl,by rw [List.take_zero,List.append_nil];exact HACC.out,by rw [List.take_zero,List.append_nil];exact HNZ.out,HRO6.out,Below.refl _ _⟩
     case round =>
      obtain ⟨k,A'',c'',acc2,hk,rfl,rfl,HACC2,HNZ2,HROW2,HBK⟩:=hrel
      have HB6K:=hid (qac HB56.out HBK.out)
      have HBWK:=hid (qac HB5.out HB6K.out)
      by_cases hlk:k < (x.args).length
      ·have hki:(k:Int) < (x.args).length:=by omega
       have hk0:(0:Int)≤(k:Int):=by omega
       skip
       have HLK:=hid hlk
       obtain ⟨b3,o3,A3,c3,y,he,HY,hf3⟩:=(HPR.out.belowD HBK.out).get hlk
       cases he
       have HFY:=hid hf3
       obtain ⟨-,hl3,y0,y1,y2,y3,y4, -⟩:=hf3
       have HYY:=hid HY.out
       obtain ⟨z0,z1,z2,z3,z4,z5⟩:=(HZ5.out.below HB6K.out).cells
       obtain ⟨u0,u1,u2,u3,u4,u5⟩:=(HU5.out.below HB6K.out).cells
       have HYP:=hid (show y∈x.args by rw [←HYY.out];exact qa1 HLK.out)
       have HTK:=hid (show qbs 5 (l.take i) ++ (x.args).take (k+1)=qbs 5 (l.take i) ++ (x.args).take k ++ [y] by rw [qan _ default HLK.out,HYY.out,List.append_assoc])
       clear hk HY
       by_cases hz:y.op=2
       ·have dz:(y.op == 2)=true:=qb6 hz
        have HJJ:=hid (show qbm 5 l=opF 2 [] from qi7 (show ((5:Int)=5∨(5:Int)=6) from .inl rfl) HCAN.out (qlb HXM.out (by rw [HP.out];exact HYP.out)) hz)
        clear hz
        go_upto_region 15 with (fail)
        go_quiet (fail)
        go_upto_region 16 with (fail)
        refine qai fun U hU => ?_
        have HBU:=hid (show Below wr.heap.size wr U by rw [hU];exact (qao.n _ _).below _)
        clear hU y0 y1 y2 y3 y4 z0 z1 z2 z3 z4 u0 u1 u2 u3 u4
        obtain ⟨t0,t1,t2,t3,t4,t5⟩:=(HZ5.out.below (qac HB6K.out HBU.out)).cells
        have hrr:=HR.out.below (qac HBWK.out HBU.out)
        obtain ⟨r0,r1,r2,r3,r4,r5⟩:=hrr.cells
        have p0:=hrr.free 0
        have p1:=hrr.free 1
        have p2:=hrr.free 2
        have p3:=hrr.free 3
        have p4:=hrr.free 4
        have HRR:=hid hrr
        clear hrr
        go_wp2_with fail
        refine qab fun W9 hW9 => ?_
        have hO9:OB W9 w.heap.size 2 ⟨#[]⟩ 0 0 none 0 0:=by rw [hW9];exact qag HRR.out
        have hC9:Chg (fun k=>k=w.heap.size) U W9:=by rw [hW9];exact qae _ _ _ _ _ _ _
        clear hW9 p0 p1 p2 p3 p4 r0 r1 r2 r3 r4 r5
        obtain ⟨r0,r1,r2,r3,r4,r5⟩:=hO9.cells
        exact bodyPost_ret (v := .agg #[.int .i64 (2),.string ⟨#[]⟩,.int .i64 0,.int .i64 0,.slice none 0 0]) (by simp [results,Tryz.results59,go_sem,r0,r1,r2,r3,r4]) rfl ⟨_,rfl,by rw [HJJ.out];exact ⟨none,0,rfl,(((show RdA U (fun x=>E x∧x≠w.heap.size) [] none 0 from RdA.nil _ _ _ (Nat.zero_le _))).keep (hC9.keeps fun x _ hx hv=>hx.2 hv)).mono fun x hx _=>hx.1⟩,(qac HB.out (qac HBWK.out HBU.out)).trans (hC9.below (B:=w.heap.size) (fun x hx hv=>by have hv':x=w.heap.size:=hv;omega) (qac HB.out (qac HBWK.out HBU.out)).size)⟩
       ·have dz:(y.op == 2)=false:=qar hz
        have HNZ3:=hid (show ∀ z,z∈qbs 5 (l.take i) ++ (x.args).take (k+1)→z.op≠qcu 5 from fun z hz'=>by
         rw [HTK.out,List.mem_append] at hz'
         rcases hz' with h | h
         ·exact HNZ2.out z h
         ·rw [List.mem_singleton] at h
          rw [h];exact hz)
        clear hz
        by_cases hu:y.op=1
        ·have du:(y.op != 1)=false:=bneI_fZ hu
         have HAC:=hid (show acc2=qkt 5 (qbs 5 (l.take i) ++ (x.args).take (k+1)) by rw [HTK.out,qev,if_pos (show y.op=qdw 5 from hu)];exact HACC2.out)
         clear hu
         go_upto_region 15 with (fail)
         go_quiet (fail)
         go_upto_region 17 with (fail)
         refine qai fun U hU => ?_
         have HBU:=hid (show Below wr.heap.size wr U by rw [hU];exact (qao.n _ _).below _)
         clear hU y0 y1 y2 y3 y4 z0 z1 z2 z3 z4 u0 u1 u2 u3 u4
         obtain ⟨y0,y1,y2,y3,y4⟩:=HFY.out.keepB HBU.out
         obtain ⟨u0,u1,u2,u3,u4,u5'⟩:=(HU5.out.below (qac HB6K.out HBU.out)).cells
         have hl3':b3 < U.heap.size:=Nat.lt_of_lt_of_le hl3 HBU.out.size
         go_quiet (fail)
         go_wp2_with fail
         go_roundw
         case rel=>exact ⟨k+1,A'',c'',acc2,by have:=HLK.out;omega,rfl,by go_num,HAC.out,HNZ3.out,(HROW2.out.belowD HBU.out).belowD ((qao.n _ _).below _),qac HBK.out (HBU.out.trans ((qao.n _ _).below _))⟩
         case measure=>have:=HLK.out;simp [intOf];omega
        ·have du:(y.op != 1)=true:=qjf hu
         have HAC:=hid (show qfs y acc2=qkt 5 (qbs 5 (l.take i) ++ (x.args).take (k+1)) by rw [HTK.out,qev,if_neg (show ¬ y.op=qdw 5 from hu),HACC2.out])
         have HAL:=hid (show acc2.length≤1000000 by
          rw [HACC2.out,←HP.out,←HXX.out]
          exact qjk HLT.out HSZ.out)
         clear hu
         go_upto_region 15 with (fail)
         go_quiet (fail)
         go_upto_region 17 with (fail)
         refine qai fun U hU => ?_
         have HBU:=hid (show Below wr.heap.size wr U by rw [hU];exact (qao.n _ _).below _)
         clear hU y0 y1 y2 y3 y4 z0 z1 z2 z3 z4 u0 u1 u2 u3 u4
         obtain ⟨y0,y1,y2,y3,y4⟩:=HFY.out.keepB HBU.out
         obtain ⟨u0,u1,u2,u3,u4,u5'⟩:=(HU5.out.below (qac HB6K.out HBU.out)).cells
         have hl3':b3 < U.heap.size:=Nat.lt_of_lt_of_le hl3 HBU.out.size
         go_quiet (fail)
         go_upto_region 18 with (fail)
         refine qai fun U2 hU2 => ?_
         have HBU2:=hid (show Below wr.heap.size wr U2 by rw [hU2];exact HBU.out.trans ((qao.n _ _).below _))
         clear hU2 y0 y1 y2 y3 y4 u0 u1 u2 u3 u4
         obtain ⟨y0,y1,y2,y3,y4⟩:=HFY.out.keepB HBU2.out
         have hl3'':b3 < U2.heap.size:=Nat.lt_of_lt_of_le hl3 HBU2.out.size
         have HPU:=hid (qla (E:=(fun x=>E x∧x≠w.heap.size)) acc2 y (.agg #[.int .i64 y.op,.string y.name,.int .i64 y.val,.int .i64 y.bound,.slice A3 y.args.length c3]) A'' acc2.length c'' U2 (fun x hx=>HEE.out x (Nat.le_trans (qac HBWK.out HBU2.out).size hx)) (HROW2.out.belowD HBU2.out) rfl ⟨A3,c3,rfl,HFY.out.args.belowD HBU2.out⟩ HAL.out)
         go_wp2_with (go_at_call 97;(with_reducible refine HPU.out.mono ?_);rintro e U3 ⟨A9,c9,rfl,hr9,hb9⟩;have HR9:=hid hr9;have HB9:=hid (qac HBU2.out hb9);clear hr9 hb9)
         go_roundw
         case rel=>exact ⟨k+1,A9,c9,qfs y acc2,by have:=HLK.out;omega,rfl,by go_num,HAC.out,HNZ3.out,HR9.out,qac HBK.out HB9.out⟩
         case measure=>have:=HLK.out;simp [intOf];omega
      ·have hki : ¬ (k:Int) < (x.args).length:=by omega
       have HTA:=hid (show qbs 5 (l.take (i+1))=qbs 5 (l.take i) ++ (x.args).take k by rw [qf7 5 l HLT.out,HXX.out,HP.out,List.take_of_length_le (show (x.args).length≤k by omega)])
       clear hk
       go_wp2_with fail
       go_roundw
       case rel=>exact ⟨i+1,A'',c'',acc2,by have:=HLT.out;omega,rfl,by go_num,by rw [HTA.out];exact HACC2.out,by rw [HTA.out];exact HNZ2.out,HROW2.out,HB6K.out⟩
       case measure=>have:=HLT.out;simp [intOf];omega
    ·have dxo:(x.op == 5)=false:=qar hxo
     have HP:=hid (show qe5 5 x = [x] by unfold qe5;rw [if_neg hxo])
     clear hxo
     go_wp2_with fail
     refine qai fun W6 hW6 => ?_
     have HB6:=hid (show Below wr.heap.size wr W6 by rw [hW6];go_grown)
     have HPR:=hid (show RdA W6 (fun x=>E x∧x≠w.heap.size) [x] (some ⟨wr.heap.size,0,none⟩) 1 from RdA.litGe (sl := [(A1,c1)]) (HEE.out _ HBW.out.size) (by rw [hW6];exact at_new _ _ _ rfl) rfl rfl rfl (by omega) fun j hj=>by
      obtain rfl:j=0:=by simpa using hj
      exact HFX.out.args.belowD HB6.out)
     obtain ⟨B5,hB5⟩ : ∃ B5:Option Addr,B5=some ⟨wr.heap.size,0,none⟩:=⟨_,rfl⟩
     rw [←hB5] at HPR ⊢
     clear hB5 hW6 y0 y1 y2 y3 y4
     have hpl:([x]).length≤1000000:=by first | (have h1:=qbx x.args;have h2:=Fm.size_eq x;have h3:=qch HXM.out;have h4:=HSZ.out;omega) | (simp;done)
     have HB56:=hid (qac HBR.out HB6.out)
     have HRO6:=hid (HROW.out.belowD HB6.out)
     go_loopw [7,10] (fun r q wr => ∃ (k:Nat) (A':Option Addr) (c':Nat) (acc:List Fm),k≤([x]).length∧r = .slice A' acc.length c'∧q = .int .i64 (k:Int)∧Hid (acc=qkt 5 (qbs 5 (l.take i) ++ ([x]).take k))∧Hid (∀ z,z∈qbs 5 (l.take i) ++ ([x]).take k→z.op≠qcu 5)∧Hid (RdA wr (fun x=>E x∧x≠w.heap.size) acc A' c')∧Hid (Below W6.heap.size W6 wr)) (fun _ q _=>([x]).length - (intOf q).toNat)
     case atStart=>exact ⟨0,A',c',acc,Nat.zero_le _,rfl,rfl,by rw [List.take_zero,List.append_nil];exact HACC.out,by rw [List.take_zero,List.append_nil];exact HNZ.out,HRO6.out,Below.refl _ _⟩
     case round =>
      obtain ⟨k,A'',c'',acc2,hk,rfl,rfl,HACC2,HNZ2,HROW2,HBK⟩:=hrel
      have HB6K:=hid (qac HB56.out HBK.out)
      have HBWK:=hid (qac HB5.out HB6K.out)
      by_cases hlk:k < ([x]).length
      ·have hki:(k:Int) < ([x]).length:=by omega
       have hk0:(0:Int)≤(k:Int):=by omega
       have hki1:(k:Int) < 1:=by have:([x]:List Fm).length=1:=rfl;omega
       have HLK:=hid hlk
       obtain ⟨b3,o3,A3,c3,y,he,HY,hf3⟩:=(HPR.out.belowD HBK.out).get hlk
       cases he
       have HFY:=hid hf3
       obtain ⟨-,hl3,y0,y1,y2,y3,y4, -⟩:=hf3
       have HYY:=hid HY.out
       obtain ⟨z0,z1,z2,z3,z4,z5⟩:=(HZ5.out.below HB6K.out).cells
       obtain ⟨u0,u1,u2,u3,u4,u5⟩:=(HU5.out.below HB6K.out).cells
       have HYP:=hid (show y ∈ [x] by rw [←HYY.out];exact qa1 HLK.out)
       have HTK:=hid (show qbs 5 (l.take i) ++ ([x]).take (k+1)=qbs 5 (l.take i) ++ ([x]).take k ++ [y] by rw [qan _ default HLK.out,HYY.out,List.append_assoc])
       clear hk HY
       by_cases hz:y.op=2
       ·have dz:(y.op == 2)=true:=qb6 hz
        have HJJ:=hid (show qbm 5 l=opF 2 [] from qi7 (show ((5:Int)=5∨(5:Int)=6) from .inl rfl) HCAN.out (qlb HXM.out (by rw [HP.out];exact HYP.out)) hz)
        clear hz
        go_upto_region 15 with (fail)
        go_quiet (fail)
        go_upto_region 16 with (fail)
        refine qai fun U hU => ?_
        have HBU:=hid (show Below wr.heap.size wr U by rw [hU];exact (qao.n _ _).below _)
        clear hU y0 y1 y2 y3 y4 z0 z1 z2 z3 z4 u0 u1 u2 u3 u4
        obtain ⟨t0,t1,t2,t3,t4,t5⟩:=(HZ5.out.below (qac HB6K.out HBU.out)).cells
        have hrr:=HR.out.below (qac HBWK.out HBU.out)
        obtain ⟨r0,r1,r2,r3,r4,r5⟩:=hrr.cells
        have p0:=hrr.free 0
        have p1:=hrr.free 1
        have p2:=hrr.free 2
        have p3:=hrr.free 3
        have p4:=hrr.free 4
        have HRR:=hid hrr
        clear hrr
        go_wp2_with fail
        refine qab fun W9 hW9 => ?_
        have hO9:OB W9 w.heap.size 2 ⟨#[]⟩ 0 0 none 0 0:=by rw [hW9];exact qag HRR.out
        have hC9:Chg (fun k=>k=w.heap.size) U W9:=by rw [hW9];exact qae _ _ _ _ _ _ _
        clear hW9 p0 p1 p2 p3 p4 r0 r1 r2 r3 r4 r5
        obtain ⟨r0,r1,r2,r3,r4,r5⟩:=hO9.cells
        exact bodyPost_ret (v := .agg #[.int .i64 (2),.string ⟨#[]⟩,.int .i64 0,.int .i64 0,.slice none 0 0]) (by simp [results,Tryz.results59,go_sem,r0,r1,r2,r3,r4]) rfl ⟨_,rfl,by rw [HJJ.out];exact ⟨none,0,rfl,(((show RdA U (fun x=>E x∧x≠w.heap.size) [] none 0 from RdA.nil _ _ _ (Nat.zero_le _))).keep (hC9.keeps fun x _ hx hv=>hx.2 hv)).mono fun x hx _=>hx.1⟩,(qac HB.out (qac HBWK.out HBU.out)).trans (hC9.below (B:=w.heap.size) (fun x hx hv=>by have hv':x=w.heap.size:=hv;omega) (qac HB.out (qac HBWK.out HBU.out)).size)⟩
       ·have dz:(y.op == 2)=false:=qar hz
        have HNZ3:=hid (show ∀ z,z∈qbs 5 (l.take i) ++ ([x]).take (k+1)→z.op≠qcu 5 from fun z hz'=>by
         rw [HTK.out,List.mem_append] at hz'
         rcases hz' with h | h
         ·exact HNZ2.out z h
         ·rw [List.mem_singleton] at h
          rw [h];exact hz)
        clear hz
        by_cases hu:y.op=1
        ·have du:(y.op != 1)=false:=bneI_fZ hu
         have HAC:=hid (show acc2=qkt 5 (qbs 5 (l.take i) ++ ([x]).take (k+1)) by rw [HTK.out,qev,if_pos (show y.op=qdw 5 from hu)];exact HACC2.out)
         clear hu
         go_upto_region 15 with (fail)
         go_quiet (fail)
         go_upto_region 17 with (fail)
         refine qai fun U hU => ?_
         have HBU:=hid (show Below wr.heap.size wr U by rw [hU];exact (qao.n _ _).below _)
         clear hU y0 y1 y2 y3 y4 z0 z1 z2 z3 z4 u0 u1 u2 u3 u4
         obtain ⟨y0,y1,y2,y3,y4⟩:=HFY.out.keepB HBU.out
         obtain ⟨u0,u1,u2,u3,u4,u5'⟩:=(HU5.out.below (qac HB6K.out HBU.out)).cells
         have hl3':b3 < U.heap.size:=Nat.lt_of_lt_of_le hl3 HBU.out.size
         go_quiet (fail)
         go_wp2_with fail
         go_roundw
         case rel=>exact ⟨k+1,A'',c'',acc2,by have:=HLK.out;omega,rfl,by go_num,HAC.out,HNZ3.out,(HROW2.out.belowD HBU.out).belowD ((qao.n _ _).below _),qac HBK.out (HBU.out.trans ((qao.n _ _).below _))⟩
         case measure=>have:=HLK.out;simp [intOf];omega
        ·have du:(y.op != 1)=true:=qjf hu
         have HAC:=hid (show qfs y acc2=qkt 5 (qbs 5 (l.take i) ++ ([x]).take (k+1)) by rw [HTK.out,qev,if_neg (show ¬ y.op=qdw 5 from hu),HACC2.out])
         have HAL:=hid (show acc2.length≤1000000 by
          rw [HACC2.out,←HP.out,←HXX.out]
          exact qjk HLT.out HSZ.out)
         clear hu
         go_upto_region 15 with (fail)
         go_quiet (fail)
         go_upto_region 17 with (fail)
         refine qai fun U hU => ?_
         have HBU:=hid (show Below wr.heap.size wr U by rw [hU];exact (qao.n _ _).below _)
         clear hU y0 y1 y2 y3 y4 z0 z1 z2 z3 z4 u0 u1 u2 u3 u4
         obtain ⟨y0,y1,y2,y3,y4⟩:=HFY.out.keepB HBU.out
         obtain ⟨u0,u1,u2,u3,u4,u5'⟩:=(HU5.out.below (qac HB6K.out HBU.out)).cells
         have hl3':b3 < U.heap.size:=Nat.lt_of_lt_of_le hl3 HBU.out.size
         go_quiet (fail)
         go_upto_region 18 with (fail)
         refine qai fun U2 hU2 => ?_
         have HBU2:=hid (show Below wr.heap.size wr U2 by rw [hU2];exact HBU.out.trans ((qao.n _ _).below _))
         clear hU2 y0 y1 y2 y3 y4 u0 u1 u2 u3 u4
         obtain ⟨y0,y1,y2,y3,y4⟩:=HFY.out.keepB HBU2.out
         have hl3'':b3 < U2.heap.size:=Nat.lt_of_lt_of_le hl3 HBU2.out.size
         have HPU:=hid (qla (E:=(fun x=>E x∧x≠w.heap.size)) acc2 y (.agg #[.int .i64 y.op,.string y.name,.int .i64 y.val,.int .i64 y.bound,.slice A3 y.args.length c3]) A'' acc2.length c'' U2 (fun x hx=>HEE.out x (Nat.le_trans (qac HBWK.out HBU2.out).size hx)) (HROW2.out.belowD HBU2.out) rfl ⟨A3,c3,rfl,HFY.out.args.belowD HBU2.out⟩ HAL.out)
         go_wp2_with (go_at_call 97;(with_reducible refine HPU.out.mono ?_);rintro e U3 ⟨A9,c9,rfl,hr9,hb9⟩;have HR9:=hid hr9;have HB9:=hid (qac HBU2.out hb9);clear hr9 hb9)
         go_roundw
         case rel=>exact ⟨k+1,A9,c9,qfs y acc2,by have:=HLK.out;omega,rfl,by go_num,HAC.out,HNZ3.out,HR9.out,qac HBK.out HB9.out⟩
         case measure=>have:=HLK.out;simp [intOf];omega
      ·have hki : ¬ (k:Int) < ([x]).length:=by omega
       have HTA:=hid (show qbs 5 (l.take (i+1))=qbs 5 (l.take i) ++ ([x]).take k by rw [qf7 5 l HLT.out,HXX.out,HP.out,List.take_of_length_le (show ([x]).length≤k by omega)])
       clear hk
       go_wp2_with fail
       go_roundw
       case rel=>exact ⟨i+1,A'',c'',acc2,by have:=HLT.out;omega,rfl,by go_num,by rw [HTA.out];exact HACC2.out,by rw [HTA.out];exact HNZ2.out,HROW2.out,HB6K.out⟩
       case measure=>have:=HLT.out;simp [intOf];omega
   ·have hii : ¬ (i:Int) < l.length:=by omega
    have HTA:=hid (show l.take i=l from List.take_of_length_le (by omega))
    have HJO:=hid (show qbm 5 l=qic 5 acc by
     have h1:=HACC.out
     have h2:=HNZ.out
     rw [HTA.out] at h1 h2
     rw [gath_end (show ((5:Int)=5∨(5:Int)=6) from .inl rfl) HCAN.out h2,h1])
    have hal:acc.length≤1000000:=by have h1:=HACC.out;have h2:=accF_len 5 (qbs 5 (l.take i));have h3:=qik 5 l i;have h4:=qja 5 l;have h5:=HSZ.out;rw [←h1] at h2;omega
    have HO4:=hid (show ∀ f,f∈acc→f.op=4→0 < f.args.length from fun f hf=>by
     have h1:=HACC.out
     rw [HTA.out] at h1
     rw [h1] at hf
     exact H4.out f (accF_in hf))
    have HOPP:=hid (qkh acc A' acc.length c' wr HROW.out rfl HO4.out)
    clear hi
    cases hob:qky acc
    ·rw [hob] at HOPP
     by_cases h0:acc.length=0
     ·have hnil:acc = []:=List.eq_nil_of_length_eq_zero h0
      have HJJ:=hid (show qbm 5 l=opF 1 [] by rw [HJO.out,hnil];rfl)
      have d0:((acc.length:Int) == 0)=true:=qb6 (by omega)
      clear hob hnil h0
      go_upto_region 22 with (go_at_call 98;(with_reducible refine HOPP.out.mono ?_);rintro e U ⟨rfl,hbu⟩;have HBU:=hid hbu;clear hbu)
      obtain ⟨t0,t1,t2,t3,t4,t5⟩:=(HU5.out.below (qac HBR.out HBU.out)).cells
      have hrr:=HR.out.below (qac HBW.out HBU.out)
      obtain ⟨r0,r1,r2,r3,r4,r5⟩:=hrr.cells
      have p0:=hrr.free 0
      have p1:=hrr.free 1
      have p2:=hrr.free 2
      have p3:=hrr.free 3
      have p4:=hrr.free 4
      have HRR:=hid hrr
      clear hrr
      go_wp2_with fail
      refine qab fun W9 hW9 => ?_
      have hO9:OB W9 w.heap.size 1 ⟨#[]⟩ 0 0 none 0 0:=by rw [hW9];exact qag HRR.out
      have hC9:Chg (fun k=>k=w.heap.size) U W9:=by rw [hW9];exact qae _ _ _ _ _ _ _
      clear hW9 p0 p1 p2 p3 p4 r0 r1 r2 r3 r4 r5
      obtain ⟨r0,r1,r2,r3,r4,r5⟩:=hO9.cells
      exact bodyPost_ret (v := .agg #[.int .i64 (1),.string ⟨#[]⟩,.int .i64 0,.int .i64 0,.slice none 0 0]) (by simp [results,Tryz.results59,go_sem,r0,r1,r2,r3,r4]) rfl ⟨_,rfl,by rw [HJJ.out];exact ⟨none,0,rfl,(((show RdA U (fun x=>E x∧x≠w.heap.size) [] none 0 from RdA.nil _ _ _ (Nat.zero_le _))).keep (hC9.keeps fun x _ hx hv=>hx.2 hv)).mono fun x hx _=>hx.1⟩,(qac HB.out (qac HBW.out HBU.out)).trans (hC9.below (B:=w.heap.size) (fun x hx hv=>by have hv':x=w.heap.size:=hv;omega) (qac HB.out (qac HBW.out HBU.out)).size)⟩
     ·have d0:((acc.length:Int) == 0)=false:=qar (by omega)
      by_cases h1:acc.length=1
      ·obtain ⟨x,hx⟩:=List.length_eq_one_iff.1 h1
       have HJJ:=hid (show qbm 5 l=x by
        rw [HJO.out,hx]
        unfold qic
        rw [←hx,hob];rw [hx];rfl)
       have d1:((acc.length:Int) == 1)=true:=qb6 (by omega)
       have HX1:=hid hx
       have hx0:(0:Int) < acc.length:=by omega
       clear hob hx h0 h1
       have hroX:RdA wr (fun x=>E x∧x≠w.heap.size) [x] A' c':=by rw [←HX1.out];exact HROW.out
       obtain ⟨b2,o2,A2,c2,rfl,hfx⟩:=RdA.first hroX
       have HFX:=hid hfx
       clear hfx hroX
       go_upto_region 24 with (go_at_call 98;(with_reducible refine HOPP.out.mono ?_);rintro e U ⟨rfl,hbu⟩;have HBU:=hid hbu;clear hbu)
       obtain ⟨t0,t1,t2,t3,t4⟩:=HFX.out.keepB HBU.out
       have tl:b2 < U.heap.size:=Nat.lt_of_lt_of_le HFX.out.lt HBU.out.size
       have hrr:=HR.out.below (qac HBW.out HBU.out)
       obtain ⟨r0,r1,r2,r3,r4,r5⟩:=hrr.cells
       have p0:=hrr.free 0
       have p1:=hrr.free 1
       have p2:=hrr.free 2
       have p3:=hrr.free 3
       have p4:=hrr.free 4
       have HRR:=hid hrr
       clear hrr
       go_wp2_with fail
       refine qab fun W9 hW9 => ?_
       have hO9:OB W9 w.heap.size x.op x.name x.val x.bound A2 x.args.length c2:=by rw [hW9];exact qag HRR.out
       have hC9:Chg (fun k=>k=w.heap.size) U W9:=by rw [hW9];exact qae _ _ _ _ _ _ _
       clear hW9 p0 p1 p2 p3 p4 r0 r1 r2 r3 r4 r5
       obtain ⟨r0,r1,r2,r3,r4,r5⟩:=hO9.cells
       exact bodyPost_ret (v := .agg #[.int .i64 (x.op),.string x.name,.int .i64 x.val,.int .i64 x.bound,.slice A2 x.args.length c2]) (by simp [results,Tryz.results59,go_sem,r0,r1,r2,r3,r4]) rfl ⟨_,rfl,by rw [HJJ.out];exact ⟨A2,c2,rfl,((HFX.out.args.belowD HBU.out).keep (hC9.keeps fun x _ hx hv=>hx.2 hv)).mono fun x hx _=>hx.1⟩,(qac HB.out (qac HBW.out HBU.out)).trans (hC9.below (B:=w.heap.size) (fun x hx hv=>by have hv':x=w.heap.size:=hv;omega) (qac HB.out (qac HBW.out HBU.out)).size)⟩
      ·have d1:((acc.length:Int) == 1)=false:=qar (by omega)
       have HJJ:=hid (show qbm 5 l=opF 5 acc by rw [HJO.out];exact setZ_many hob h0 h1)
       clear hob h0 h1
       have HRR:=hid (fun (U:World) (hb:Below wr.heap.size wr U)=>HR.out.below (qac HBW.out hb))
       go_wp2_with (first | (go_at_call 98;(with_reducible refine HOPP.out.mono ?_);rintro e U1 ⟨rfl,hb1⟩;have HB1:=hid hb1;clear hb1) | (go_at_call 88;(with_reducible refine (qg3 _ _ _ _ _).mono ?_);rintro e U ⟨rfl,hbu⟩;have HBU:=hid (qac HB1.out hbu);clear hbu;obtain ⟨r0,r1,r2,r3,r4,r5⟩:=(HR.out.below (qac HBW.out HBU.out)).cells;have p0:=(HR.out.below (qac HBW.out HBU.out)).free 0;have p1:=(HR.out.below (qac HBW.out HBU.out)).free 1;have p2:=(HR.out.below (qac HBW.out HBU.out)).free 2;have p3:=(HR.out.below (qac HBW.out HBU.out)).free 3;have p4:=(HR.out.below (qac HBW.out HBU.out)).free 4))
       refine qab fun W9 hW9 => ?_
       have hO9:OB W9 w.heap.size 5 ⟨#[]⟩ 0 0 A' acc.length c':=by rw [hW9];exact qag (HRR.out _ HBU.out)
       have hC9:Chg (fun k=>k=w.heap.size) U W9:=by rw [hW9];exact qae _ _ _ _ _ _ _
       clear hW9 p0 p1 p2 p3 p4 r0 r1 r2 r3 r4 r5
       obtain ⟨r0,r1,r2,r3,r4,r5⟩:=hO9.cells
       exact bodyPost_ret (v := .agg #[.int .i64 (5),.string ⟨#[]⟩,.int .i64 0,.int .i64 0,.slice A' acc.length c']) (by simp [results,Tryz.results59,go_sem,r0,r1,r2,r3,r4]) rfl ⟨_,rfl,by rw [HJJ.out];exact ⟨A',c',rfl,((HROW.out.belowD HBU.out).keep (hC9.keeps fun x _ hx hv=>hx.2 hv)).mono fun x hx _=>hx.1⟩,(qac HB.out (qac HBW.out HBU.out)).trans (hC9.below (B:=w.heap.size) (fun x hx hv=>by have hv':x=w.heap.size:=hv;omega) (qac HB.out (qac HBW.out HBU.out)).size)⟩
    ·rw [hob] at HOPP
     have HJJ:=hid (show qbm 5 l=opF 2 [] by rw [HJO.out];unfold qic;rw [hob];rfl)
     clear hob
     go_upto_region 20 with (go_at_call 98;(with_reducible refine HOPP.out.mono ?_);rintro e U ⟨rfl,hbu⟩;have HBU:=hid hbu;clear hbu)
     obtain ⟨t0,t1,t2,t3,t4,t5⟩:=(HZ5.out.below (qac HBR.out HBU.out)).cells
     have hrr:=HR.out.below (qac HBW.out HBU.out)
     obtain ⟨r0,r1,r2,r3,r4,r5⟩:=hrr.cells
     have p0:=hrr.free 0
     have p1:=hrr.free 1
     have p2:=hrr.free 2
     have p3:=hrr.free 3
     have p4:=hrr.free 4
     have HRR:=hid hrr
     clear hrr
     go_wp2_with fail
     refine qab fun W9 hW9 => ?_
     have hO9:OB W9 w.heap.size 2 ⟨#[]⟩ 0 0 none 0 0:=by rw [hW9];exact qag HRR.out
     have hC9:Chg (fun k=>k=w.heap.size) U W9:=by rw [hW9];exact qae _ _ _ _ _ _ _
     clear hW9 p0 p1 p2 p3 p4 r0 r1 r2 r3 r4 r5
     obtain ⟨r0,r1,r2,r3,r4,r5⟩:=hO9.cells
     exact bodyPost_ret (v := .agg #[.int .i64 (2),.string ⟨#[]⟩,.int .i64 0,.int .i64 0,.slice none 0 0]) (by simp [results,Tryz.results59,go_sem,r0,r1,r2,r3,r4]) rfl ⟨_,rfl,by rw [HJJ.out];exact ⟨none,0,rfl,(((show RdA U (fun x=>E x∧x≠w.heap.size) [] none 0 from RdA.nil _ _ _ (Nat.zero_le _))).keep (hC9.keeps fun x _ hx hv=>hx.2 hv)).mono fun x hx _=>hx.1⟩,(qac HB.out (qac HBW.out HBU.out)).trans (hC9.below (B:=w.heap.size) (fun x hx hv=>by have hv':x=w.heap.size:=hv;omega) (qac HB.out (qac HBW.out HBU.out)).size)⟩
 ·have q0:=HU4.out.free 0
  have q1:=HU4.out.free 1
  have q2:=HU4.out.free 2
  have q3:=HU4.out.free 3
  have q4:=HU4.out.free 4
  have p0:=HZ.out.free 0
  have p1:=HZ.out.free 1
  have p2:=HZ.out.free 2
  have p3:=HZ.out.free 3
  have p4:=HZ.out.free 4
  have huz:=HUZ.out
  have hzu:zb≠ub:=fun e=>huz e.symm
  go_upto_region 5 with (fail)
  refine qai fun W5 hW5 => ?_
  have hc1:=qae V4 ub (.int .i64 2) (.string ⟨#[]⟩) (.int .i64 0) (.int .i64 0) (.slice none 0 0)
  obtain ⟨V5,hV5⟩ : ∃ V5,V5=(((((V4.setCell ⟨ub,0,none⟩ (.int .i64 2)).setCell ⟨ub,1,none⟩ (.string ⟨#[]⟩)).setCell ⟨ub,2,none⟩ (.int .i64 0)).setCell ⟨ub,3,none⟩ (.int .i64 0)).setCell ⟨ub,4,none⟩ (.slice none 0 0)):=⟨_,rfl⟩
  rw [←hV5] at hc1 hW5
  have hc2:=qae V5 zb (.int .i64 1) (.string ⟨#[]⟩) (.int .i64 0) (.int .i64 0) (.slice none 0 0)
  rw [←hW5] at hc2
  have hu5:OB V5 ub 2 ⟨#[]⟩ 0 0 none 0 0:=by rw [hV5];exact qag HU4.out
  have hz5:OB V5 zb 2 ⟨#[]⟩ 0 0 none 0 0:=hc1.box HZ.out (fun e=>HUZ.out e.symm)
  have HU5:=hid (show OB W5 ub 2 ⟨#[]⟩ 0 0 none 0 0 from hc2.box hu5 (fun e=>HUZ.out e))
  have HZ5:=hid (show OB W5 zb 1 ⟨#[]⟩ 0 0 none 0 0 by rw [hW5];exact qag hz5)
  have HB5:=hid (show Below W.heap.size W W5 from (HB4.out.trans (hc1.below (B:=W.heap.size) (fun x hx e=>by have:=HUG.out;have e':x=ub:=e;omega) HB4.out.size)).trans (hc2.below (B:=W.heap.size) (fun x hx e=>by have h1:=HZG.out;have h2:=HB2.out.size;have e':x=zb:=e;omega) (Nat.le_trans HB4.out.size hc1.size)))
  clear hW5 hV5 hc1 hc2 hu5 hz5 u0 u1 u2 u3 u4 u5 z0 z1 z2 z3 z4 z5 q0 q1 q2 q3 q4 p0 p1 p2 p3 p4 huz hzu
  go_wp2_with fail
  go_loopw [7,8] (fun r q wr => ∃ (i:Nat) (A':Option Addr) (c':Nat) (acc:List Fm),i≤l.length∧r = .slice A' acc.length c'∧q = .int .i64 (i:Int)∧Hid (acc=qkt 6 (qbs 6 (l.take i)))∧Hid (∀ z,z∈qbs 6 (l.take i)→z.op≠qcu 6)∧Hid (RdA wr (fun x=>E x∧x≠w.heap.size) acc A' c')∧Hid (Below W5.heap.size W5 wr)) (fun _ q _=>l.length - (intOf q).toNat)
  case atStart=>exact ⟨0,none,0,[],Nat.zero_le _,rfl,rfl,rfl,(fun z hz=>by cases hz),RdA.nil _ _ _ (Nat.zero_le _),Below.refl _ _⟩
  case round =>
   obtain ⟨i,A',c',acc,hi,rfl,rfl,HACC,HNZ,HROW,HBR⟩:=hrel
   have HBW:=hid (qac HB5.out HBR.out)
   by_cases hlt:i < l.length
   ·have hii:(i:Int) < l.length:=by omega
    have hi0:(0:Int)≤(i:Int):=by omega
    have HLT:=hid hlt
    have HAr:=hid ((HA.out.belowD HB.out).belowD HBW.out)
    obtain ⟨b1,o1,A1,c1,x,rfl,HX,hf1⟩:=HAr.out.get hlt
    have HFX:=hid hf1
    obtain ⟨-,hl1,y0,y1,y2,y3,y4, -⟩:=hf1
    have HXX:=hid HX.out
    have HXM:=hid (show x∈l by rw [←HXX.out];exact qa1 HLT.out)
    clear hi HX
    have HPARTS:Hid (∃ P,P=qe5 6 x):=hid ⟨_,rfl⟩
    by_cases hxo:x.op=6
    ·have dxo:(x.op == 6)=true:=qb6 hxo
     have HP:=hid (show qe5 6 x=x.args by unfold qe5;rw [if_pos hxo])
     clear hxo
     go_wp2_with fail
     refine qai fun W6 hW6 => ?_
     have HB6:=hid (show Below wr.heap.size wr W6 by rw [hW6];go_grown)
     have HPR:=hid (show RdA W6 (fun x=>E x∧x≠w.heap.size) x.args A1 c1 from HFX.out.args.belowD HB6.out)
     clear hW6 y0 y1 y2 y3 y4
     have hpl:(x.args).length≤1000000:=by first | (have h1:=qbx x.args;have h2:=Fm.size_eq x;have h3:=qch HXM.out;have h4:=HSZ.out;omega) | (simp;done)
     have HB56:=hid (qac HBR.out HB6.out)
     have HRO6:=hid (HROW.out.belowD HB6.out)
     go_loopw [7,10] (fun r q wr => ∃ (k:Nat) (A':Option Addr) (c':Nat) (acc:List Fm),k≤(x.args).length∧r = .slice A' acc.length c'∧q = .int .i64 (k:Int)∧Hid (acc=qkt 6 (qbs 6 (l.take i) ++ (x.args).take k))∧Hid (∀ z,z∈qbs 6 (l.take i) ++ (x.args).take k→z.op≠qcu 6)∧Hid (RdA wr (fun x=>E x∧x≠w.heap.size) acc A' c')∧Hid (Below W6.heap.size W6 wr)) (fun _ q _=>(x.args).length - (intOf q).toNat)
     case atStart=>exact ⟨0,A',c',acc,Nat.zero_le _,rfl,rfl,by rw [List.take_zero,List.append_nil];exact HACC.out,by rw [List.take_zero,List.append_nil];exact HNZ.out,HRO6.out,Below.refl _ _⟩
     case round =>
      obtain ⟨k,A'',c'',acc2,hk,rfl,rfl,HACC2,HNZ2,HROW2,HBK⟩:=hrel
      have HB6K:=hid (qac HB56.out HBK.out)
      have HBWK:=hid (qac HB5.out HB6K.out)
      by_cases hlk:k < (x.args).length
      ·have hki:(k:Int) < (x.args).length:=by omega
       have hk0:(0:Int)≤(k:Int):=by omega
       skip
       have HLK:=hid hlk
       obtain ⟨b3,o3,A3,c3,y,he,HY,hf3⟩:=(HPR.out.belowD HBK.out).get hlk
       cases he
       have HFY:=hid hf3
       obtain ⟨-,hl3,y0,y1,y2,y3,y4, -⟩:=hf3
       have HYY:=hid HY.out
       obtain ⟨z0,z1,z2,z3,z4,z5⟩:=(HZ5.out.below HB6K.out).cells
       obtain ⟨u0,u1,u2,u3,u4,u5⟩:=(HU5.out.below HB6K.out).cells
       have HYP:=hid (show y∈x.args by rw [←HYY.out];exact qa1 HLK.out)
       have HTK:=hid (show qbs 6 (l.take i) ++ (x.args).take (k+1)=qbs 6 (l.take i) ++ (x.args).take k ++ [y] by rw [qan _ default HLK.out,HYY.out,List.append_assoc])
       clear hk HY
       by_cases hz:y.op=1
       ·have dz:(y.op == 1)=true:=qb6 hz
        have HJJ:=hid (show qbm 6 l=opF 1 [] from qi7 (show ((6:Int)=5∨(6:Int)=6) from .inr rfl) HCAN.out (qlb HXM.out (by rw [HP.out];exact HYP.out)) hz)
        clear hz
        go_upto_region 15 with (fail)
        go_quiet (fail)
        go_upto_region 16 with (fail)
        refine qai fun U hU => ?_
        have HBU:=hid (show Below wr.heap.size wr U by rw [hU];exact (qao.n _ _).below _)
        clear hU y0 y1 y2 y3 y4 z0 z1 z2 z3 z4 u0 u1 u2 u3 u4
        obtain ⟨t0,t1,t2,t3,t4,t5⟩:=(HZ5.out.below (qac HB6K.out HBU.out)).cells
        have hrr:=HR.out.below (qac HBWK.out HBU.out)
        obtain ⟨r0,r1,r2,r3,r4,r5⟩:=hrr.cells
        have p0:=hrr.free 0
        have p1:=hrr.free 1
        have p2:=hrr.free 2
        have p3:=hrr.free 3
        have p4:=hrr.free 4
        have HRR:=hid hrr
        clear hrr
        go_wp2_with fail
        refine qab fun W9 hW9 => ?_
        have hO9:OB W9 w.heap.size 1 ⟨#[]⟩ 0 0 none 0 0:=by rw [hW9];exact qag HRR.out
        have hC9:Chg (fun k=>k=w.heap.size) U W9:=by rw [hW9];exact qae _ _ _ _ _ _ _
        clear hW9 p0 p1 p2 p3 p4 r0 r1 r2 r3 r4 r5
        obtain ⟨r0,r1,r2,r3,r4,r5⟩:=hO9.cells
        exact bodyPost_ret (v := .agg #[.int .i64 (1),.string ⟨#[]⟩,.int .i64 0,.int .i64 0,.slice none 0 0]) (by simp [results,Tryz.results59,go_sem,r0,r1,r2,r3,r4]) rfl ⟨_,rfl,by rw [HJJ.out];exact ⟨none,0,rfl,(((show RdA U (fun x=>E x∧x≠w.heap.size) [] none 0 from RdA.nil _ _ _ (Nat.zero_le _))).keep (hC9.keeps fun x _ hx hv=>hx.2 hv)).mono fun x hx _=>hx.1⟩,(qac HB.out (qac HBWK.out HBU.out)).trans (hC9.below (B:=w.heap.size) (fun x hx hv=>by have hv':x=w.heap.size:=hv;omega) (qac HB.out (qac HBWK.out HBU.out)).size)⟩
       ·have dz:(y.op == 1)=false:=qar hz
        have HNZ3:=hid (show ∀ z,z∈qbs 6 (l.take i) ++ (x.args).take (k+1)→z.op≠qcu 6 from fun z hz'=>by
         rw [HTK.out,List.mem_append] at hz'
         rcases hz' with h | h
         ·exact HNZ2.out z h
         ·rw [List.mem_singleton] at h
          rw [h];exact hz)
        clear hz
        by_cases hu:y.op=2
        ·have du:(y.op != 2)=false:=bneI_fZ hu
         have HAC:=hid (show acc2=qkt 6 (qbs 6 (l.take i) ++ (x.args).take (k+1)) by rw [HTK.out,qev,if_pos (show y.op=qdw 6 from hu)];exact HACC2.out)
         clear hu
         go_upto_region 15 with (fail)
         go_quiet (fail)
         go_upto_region 17 with (fail)
         refine qai fun U hU => ?_
         have HBU:=hid (show Below wr.heap.size wr U by rw [hU];exact (qao.n _ _).below _)
         clear hU y0 y1 y2 y3 y4 z0 z1 z2 z3 z4 u0 u1 u2 u3 u4
         obtain ⟨y0,y1,y2,y3,y4⟩:=HFY.out.keepB HBU.out
         obtain ⟨u0,u1,u2,u3,u4,u5'⟩:=(HU5.out.below (qac HB6K.out HBU.out)).cells
         have hl3':b3 < U.heap.size:=Nat.lt_of_lt_of_le hl3 HBU.out.size
         go_quiet (fail)
         go_wp2_with fail
         go_roundw
         case rel=>exact ⟨k+1,A'',c'',acc2,by have:=HLK.out;omega,rfl,by go_num,HAC.out,HNZ3.out,(HROW2.out.belowD HBU.out).belowD ((qao.n _ _).below _),qac HBK.out (HBU.out.trans ((qao.n _ _).below _))⟩
         case measure=>have:=HLK.out;simp [intOf];omega
        ·have du:(y.op != 2)=true:=qjf hu
         have HAC:=hid (show qfs y acc2=qkt 6 (qbs 6 (l.take i) ++ (x.args).take (k+1)) by rw [HTK.out,qev,if_neg (show ¬ y.op=qdw 6 from hu),HACC2.out])
         have HAL:=hid (show acc2.length≤1000000 by
          rw [HACC2.out,←HP.out,←HXX.out]
          exact qjk HLT.out HSZ.out)
         clear hu
         go_upto_region 15 with (fail)
         go_quiet (fail)
         go_upto_region 17 with (fail)
         refine qai fun U hU => ?_
         have HBU:=hid (show Below wr.heap.size wr U by rw [hU];exact (qao.n _ _).below _)
         clear hU y0 y1 y2 y3 y4 z0 z1 z2 z3 z4 u0 u1 u2 u3 u4
         obtain ⟨y0,y1,y2,y3,y4⟩:=HFY.out.keepB HBU.out
         obtain ⟨u0,u1,u2,u3,u4,u5'⟩:=(HU5.out.below (qac HB6K.out HBU.out)).cells
         have hl3':b3 < U.heap.size:=Nat.lt_of_lt_of_le hl3 HBU.out.size
         go_quiet (fail)
         go_upto_region 18 with (fail)
         refine qai fun U2 hU2 => ?_
         have HBU2:=hid (show Below wr.heap.size wr U2 by rw [hU2];exact HBU.out.trans ((qao.n _ _).below _))
         clear hU2 y0 y1 y2 y3 y4 u0 u1 u2 u3 u4
         obtain ⟨y0,y1,y2,y3,y4⟩:=HFY.out.keepB HBU2.out
         have hl3'':b3 < U2.heap.size:=Nat.lt_of_lt_of_le hl3 HBU2.out.size
         have HPU:=hid (qla (E:=(fun x=>E x∧x≠w.heap.size)) acc2 y (.agg #[.int .i64 y.op,.string y.name,.int .i64 y.val,.int .i64 y.bound,.slice A3 y.args.length c3]) A'' acc2.length c'' U2 (fun x hx=>HEE.out x (Nat.le_trans (qac HBWK.out HBU2.out).size hx)) (HROW2.out.belowD HBU2.out) rfl ⟨A3,c3,rfl,HFY.out.args.belowD HBU2.out⟩ HAL.out)
         go_wp2_with (go_at_call 97;(with_reducible refine HPU.out.mono ?_);rintro e U3 ⟨A9,c9,rfl,hr9,hb9⟩;have HR9:=hid hr9;have HB9:=hid (qac HBU2.out hb9);clear hr9 hb9)
         go_roundw
         case rel=>exact ⟨k+1,A9,c9,qfs y acc2,by have:=HLK.out;omega,rfl,by go_num,HAC.out,HNZ3.out,HR9.out,qac HBK.out HB9.out⟩
         case measure=>have:=HLK.out;simp [intOf];omega
      ·have hki : ¬ (k:Int) < (x.args).length:=by omega
       have HTA:=hid (show qbs 6 (l.take (i+1))=qbs 6 (l.take i) ++ (x.args).take k by rw [qf7 6 l HLT.out,HXX.out,HP.out,List.take_of_length_le (show (x.args).length≤k by omega)])
       clear hk
       go_wp2_with fail
       go_roundw
       case rel=>exact ⟨i+1,A'',c'',acc2,by have:=HLT.out;omega,rfl,by go_num,by rw [HTA.out];exact HACC2.out,by rw [HTA.out];exact HNZ2.out,HROW2.out,HB6K.out⟩
       case measure=>have:=HLT.out;simp [intOf];omega
    ·have dxo:(x.op == 6)=false:=qar hxo
     have HP:=hid (show qe5 6 x = [x] by unfold qe5;rw [if_neg hxo])
     clear hxo
     go_wp2_with fail
     refine qai fun W6 hW6 => ?_
     have HB6:=hid (show Below wr.heap.size wr W6 by rw [hW6];go_grown)
     have HPR:=hid (show RdA W6 (fun x=>E x∧x≠w.heap.size) [x] (some ⟨wr.heap.size,0,none⟩) 1 from RdA.litGe (sl := [(A1,c1)]) (HEE.out _ HBW.out.size) (by rw [hW6];exact at_new _ _ _ rfl) rfl rfl rfl (by omega) fun j hj=>by
      obtain rfl:j=0:=by simpa using hj
      exact HFX.out.args.belowD HB6.out)
     obtain ⟨B5,hB5⟩ : ∃ B5:Option Addr,B5=some ⟨wr.heap.size,0,none⟩:=⟨_,rfl⟩
     rw [←hB5] at HPR ⊢
     clear hB5 hW6 y0 y1 y2 y3 y4
     have hpl:([x]).length≤1000000:=by first | (have h1:=qbx x.args;have h2:=Fm.size_eq x;have h3:=qch HXM.out;have h4:=HSZ.out;omega) | (simp;done)
     have HB56:=hid (qac HBR.out HB6.out)
     have HRO6:=hid (HROW.out.belowD HB6.out)
     go_loopw [7,10] (fun r q wr => ∃ (k:Nat) (A':Option Addr) (c':Nat) (acc:List Fm),k≤([x]).length∧r = .slice A' acc.length c'∧q = .int .i64 (k:Int)∧Hid (acc=qkt 6 (qbs 6 (l.take i) ++ ([x]).take k))∧Hid (∀ z,z∈qbs 6 (l.take i) ++ ([x]).take k→z.op≠qcu 6)∧Hid (RdA wr (fun x=>E x∧x≠w.heap.size) acc A' c')∧Hid (Below W6.heap.size W6 wr)) (fun _ q _=>([x]).length - (intOf q).toNat)
     case atStart=>exact ⟨0,A',c',acc,Nat.zero_le _,rfl,rfl,by rw [List.take_zero,List.append_nil];exact HACC.out,by rw [List.take_zero,List.append_nil];exact HNZ.out,HRO6.out,Below.refl _ _⟩
     case round =>
      obtain ⟨k,A'',c'',acc2,hk,rfl,rfl,HACC2,HNZ2,HROW2,HBK⟩:=hrel
      have HB6K:=hid (qac HB56.out HBK.out)
      have HBWK:=hid (qac HB5.out HB6K.out)
      by_cases hlk:k < ([x]).length
      ·have hki:(k:Int) < ([x]).length:=by omega
       have hk0:(0:Int)≤(k:Int):=by omega
       have hki1:(k:Int) < 1:=by have:([x]:List Fm).length=1:=rfl;omega
       have HLK:=hid hlk
       obtain ⟨b3,o3,A3,c3,y,he,HY,hf3⟩:=(HPR.out.belowD HBK.out).get hlk
       cases he
       have HFY:=hid hf3
       obtain ⟨-,hl3,y0,y1,y2,y3,y4, -⟩:=hf3
       have HYY:=hid HY.out
       obtain ⟨z0,z1,z2,z3,z4,z5⟩:=(HZ5.out.below HB6K.out).cells
       obtain ⟨u0,u1,u2,u3,u4,u5⟩:=(HU5.out.below HB6K.out).cells
       have HYP:=hid (show y ∈ [x] by rw [←HYY.out];exact qa1 HLK.out)
       have HTK:=hid (show qbs 6 (l.take i) ++ ([x]).take (k+1)=qbs 6 (l.take i) ++ ([x]).take k ++ [y] by rw [qan _ default HLK.out,HYY.out,List.append_assoc])
       clear hk HY
       by_cases hz:y.op=1
       ·have dz:(y.op == 1)=true:=qb6 hz
        have HJJ:=hid (show qbm 6 l=opF 1 [] from qi7 (show ((6:Int)=5∨(6:Int)=6) from .inr rfl) HCAN.out (qlb HXM.out (by rw [HP.out];exact HYP.out)) hz)
        clear hz
        go_upto_region 15 with (fail)
        go_quiet (fail)
        go_upto_region 16 with (fail)
        refine qai fun U hU => ?_
        have HBU:=hid (show Below wr.heap.size wr U by rw [hU];exact (qao.n _ _).below _)
        clear hU y0 y1 y2 y3 y4 z0 z1 z2 z3 z4 u0 u1 u2 u3 u4
        obtain ⟨t0,t1,t2,t3,t4,t5⟩:=(HZ5.out.below (qac HB6K.out HBU.out)).cells
        have hrr:=HR.out.below (qac HBWK.out HBU.out)
        obtain ⟨r0,r1,r2,r3,r4,r5⟩:=hrr.cells
        have p0:=hrr.free 0
        have p1:=hrr.free 1
        have p2:=hrr.free 2
        have p3:=hrr.free 3
        have p4:=hrr.free 4
        have HRR:=hid hrr
        clear hrr
        go_wp2_with fail
        refine qab fun W9 hW9 => ?_
        have hO9:OB W9 w.heap.size 1 ⟨#[]⟩ 0 0 none 0 0:=by rw [hW9];exact qag HRR.out
        have hC9:Chg (fun k=>k=w.heap.size) U W9:=by rw [hW9];exact qae _ _ _ _ _ _ _
        clear hW9 p0 p1 p2 p3 p4 r0 r1 r2 r3 r4 r5
        obtain ⟨r0,r1,r2,r3,r4,r5⟩:=hO9.cells
        exact bodyPost_ret (v := .agg #[.int .i64 (1),.string ⟨#[]⟩,.int .i64 0,.int .i64 0,.slice none 0 0]) (by simp [results,Tryz.results59,go_sem,r0,r1,r2,r3,r4]) rfl ⟨_,rfl,by rw [HJJ.out];exact ⟨none,0,rfl,(((show RdA U (fun x=>E x∧x≠w.heap.size) [] none 0 from RdA.nil _ _ _ (Nat.zero_le _))).keep (hC9.keeps fun x _ hx hv=>hx.2 hv)).mono fun x hx _=>hx.1⟩,(qac HB.out (qac HBWK.out HBU.out)).trans (hC9.below (B:=w.heap.size) (fun x hx hv=>by have hv':x=w.heap.size:=hv;omega) (qac HB.out (qac HBWK.out HBU.out)).size)⟩
       ·have dz:(y.op == 1)=false:=qar hz
        have HNZ3:=hid (show ∀ z,z∈qbs 6 (l.take i) ++ ([x]).take (k+1)→z.op≠qcu 6 from fun z hz'=>by
         rw [HTK.out,List.mem_append] at hz'
         rcases hz' with h | h
         ·exact HNZ2.out z h
         ·rw [List.mem_singleton] at h
          rw [h];exact hz)
        clear hz
        by_cases hu:y.op=2
        ·have du:(y.op != 2)=false:=bneI_fZ hu
         have HAC:=hid (show acc2=qkt 6 (qbs 6 (l.take i) ++ ([x]).take (k+1)) by rw [HTK.out,qev,if_pos (show y.op=qdw 6 from hu)];exact HACC2.out)
         clear hu
         go_upto_region 15 with (fail)
         go_quiet (fail)
         go_upto_region 17 with (fail)
         refine qai fun U hU => ?_
         have HBU:=hid (show Below wr.heap.size wr U by rw [hU];exact (qao.n _ _).below _)
         clear hU y0 y1 y2 y3 y4 z0 z1 z2 z3 z4 u0 u1 u2 u3 u4
         obtain ⟨y0,y1,y2,y3,y4⟩:=HFY.out.keepB HBU.out
         obtain ⟨u0,u1,u2,u3,u4,u5'⟩:=(HU5.out.below (qac HB6K.out HBU.out)).cells
         have hl3':b3 < U.heap.size:=Nat.lt_of_lt_of_le hl3 HBU.out.size
         go_quiet (fail)
         go_wp2_with fail
         go_roundw
         case rel=>exact ⟨k+1,A'',c'',acc2,by have:=HLK.out;omega,rfl,by go_num,HAC.out,HNZ3.out,(HROW2.out.belowD HBU.out).belowD ((qao.n _ _).below _),qac HBK.out (HBU.out.trans ((qao.n _ _).below _))⟩
         case measure=>have:=HLK.out;simp [intOf];omega
        ·have du:(y.op != 2)=true:=qjf hu
         have HAC:=hid (show qfs y acc2=qkt 6 (qbs 6 (l.take i) ++ ([x]).take (k+1)) by rw [HTK.out,qev,if_neg (show ¬ y.op=qdw 6 from hu),HACC2.out])
         have HAL:=hid (show acc2.length≤1000000 by
          rw [HACC2.out,←HP.out,←HXX.out]
          exact qjk HLT.out HSZ.out)
         clear hu
         go_upto_region 15 with (fail)
         go_quiet (fail)
         go_upto_region 17 with (fail)
         refine qai fun U hU => ?_
         have HBU:=hid (show Below wr.heap.size wr U by rw [hU];exact (qao.n _ _).below _)
         clear hU y0 y1 y2 y3 y4 z0 z1 z2 z3 z4 u0 u1 u2 u3 u4
         obtain ⟨y0,y1,y2,y3,y4⟩:=HFY.out.keepB HBU.out
         obtain ⟨u0,u1,u2,u3,u4,u5'⟩:=(HU5.out.below (qac HB6K.out HBU.out)).cells
         have hl3':b3 < U.heap.size:=Nat.lt_of_lt_of_le hl3 HBU.out.size
         go_quiet (fail)
         go_upto_region 18 with (fail)
         refine qai fun U2 hU2 => ?_
         have HBU2:=hid (show Below wr.heap.size wr U2 by rw [hU2];exact HBU.out.trans ((qao.n _ _).below _))
         clear hU2 y0 y1 y2 y3 y4 u0 u1 u2 u3 u4
         obtain ⟨y0,y1,y2,y3,y4⟩:=HFY.out.keepB HBU2.out
         have hl3'':b3 < U2.heap.size:=Nat.lt_of_lt_of_le hl3 HBU2.out.size
         have HPU:=hid (qla (E:=(fun x=>E x∧x≠w.heap.size)) acc2 y (.agg #[.int .i64 y.op,.string y.name,.int .i64 y.val,.int .i64 y.bound,.slice A3 y.args.length c3]) A'' acc2.length c'' U2 (fun x hx=>HEE.out x (Nat.le_trans (qac HBWK.out HBU2.out).size hx)) (HROW2.out.belowD HBU2.out) rfl ⟨A3,c3,rfl,HFY.out.args.belowD HBU2.out⟩ HAL.out)
         go_wp2_with (go_at_call 97;(with_reducible refine HPU.out.mono ?_);rintro e U3 ⟨A9,c9,rfl,hr9,hb9⟩;have HR9:=hid hr9;have HB9:=hid (qac HBU2.out hb9);clear hr9 hb9)
         go_roundw
         case rel=>exact ⟨k+1,A9,c9,qfs y acc2,by have:=HLK.out;omega,rfl,by go_num,HAC.out,HNZ3.out,HR9.out,qac HBK.out HB9.out⟩
         case measure=>have:=HLK.out;simp [intOf];omega
      ·have hki : ¬ (k:Int) < ([x]).length:=by omega
       have HTA:=hid (show qbs 6 (l.take (i+1))=qbs 6 (l.take i) ++ ([x]).take k by rw [qf7 6 l HLT.out,HXX.out,HP.out,List.take_of_length_le (show ([x]).length≤k by omega)])
       clear hk
       go_wp2_with fail
       go_roundw
       case rel=>exact ⟨i+1,A'',c'',acc2,by have:=HLT.out;omega,rfl,by go_num,by rw [HTA.out];exact HACC2.out,by rw [HTA.out];exact HNZ2.out,HROW2.out,HB6K.out⟩
       case measure=>have:=HLT.out;simp [intOf];omega
   ·have hii : ¬ (i:Int) < l.length:=by omega
    have HTA:=hid (show l.take i=l from List.take_of_length_le (by omega))
    have HJO:=hid (show qbm 6 l=qic 6 acc by
     have h1:=HACC.out
     have h2:=HNZ.out
     rw [HTA.out] at h1 h2
     rw [gath_end (show ((6:Int)=5∨(6:Int)=6) from .inr rfl) HCAN.out h2,h1])
    have hal:acc.length≤1000000:=by have h1:=HACC.out;have h2:=accF_len 6 (qbs 6 (l.take i));have h3:=qik 6 l i;have h4:=qja 6 l;have h5:=HSZ.out;rw [←h1] at h2;omega
    have HO4:=hid (show ∀ f,f∈acc→f.op=4→0 < f.args.length from fun f hf=>by
     have h1:=HACC.out
     rw [HTA.out] at h1
     rw [h1] at hf
     exact H4.out f (accF_in hf))
    have HOPP:=hid (qkh acc A' acc.length c' wr HROW.out rfl HO4.out)
    clear hi
    cases hob:qky acc
    ·rw [hob] at HOPP
     by_cases h0:acc.length=0
     ·have hnil:acc = []:=List.eq_nil_of_length_eq_zero h0
      have HJJ:=hid (show qbm 6 l=opF 2 [] by rw [HJO.out,hnil];rfl)
      have d0:((acc.length:Int) == 0)=true:=qb6 (by omega)
      clear hob hnil h0
      go_upto_region 22 with (go_at_call 98;(with_reducible refine HOPP.out.mono ?_);rintro e U ⟨rfl,hbu⟩;have HBU:=hid hbu;clear hbu)
      obtain ⟨t0,t1,t2,t3,t4,t5⟩:=(HU5.out.below (qac HBR.out HBU.out)).cells
      have hrr:=HR.out.below (qac HBW.out HBU.out)
      obtain ⟨r0,r1,r2,r3,r4,r5⟩:=hrr.cells
      have p0:=hrr.free 0
      have p1:=hrr.free 1
      have p2:=hrr.free 2
      have p3:=hrr.free 3
      have p4:=hrr.free 4
      have HRR:=hid hrr
      clear hrr
      go_wp2_with fail
      refine qab fun W9 hW9 => ?_
      have hO9:OB W9 w.heap.size 2 ⟨#[]⟩ 0 0 none 0 0:=by rw [hW9];exact qag HRR.out
      have hC9:Chg (fun k=>k=w.heap.size) U W9:=by rw [hW9];exact qae _ _ _ _ _ _ _
      clear hW9 p0 p1 p2 p3 p4 r0 r1 r2 r3 r4 r5
      obtain ⟨r0,r1,r2,r3,r4,r5⟩:=hO9.cells
      exact bodyPost_ret (v := .agg #[.int .i64 (2),.string ⟨#[]⟩,.int .i64 0,.int .i64 0,.slice none 0 0]) (by simp [results,Tryz.results59,go_sem,r0,r1,r2,r3,r4]) rfl ⟨_,rfl,by rw [HJJ.out];exact ⟨none,0,rfl,(((show RdA U (fun x=>E x∧x≠w.heap.size) [] none 0 from RdA.nil _ _ _ (Nat.zero_le _))).keep (hC9.keeps fun x _ hx hv=>hx.2 hv)).mono fun x hx _=>hx.1⟩,(qac HB.out (qac HBW.out HBU.out)).trans (hC9.below (B:=w.heap.size) (fun x hx hv=>by have hv':x=w.heap.size:=hv;omega) (qac HB.out (qac HBW.out HBU.out)).size)⟩
     ·have d0:((acc.length:Int) == 0)=false:=qar (by omega)
      by_cases h1:acc.length=1
      ·obtain ⟨x,hx⟩:=List.length_eq_one_iff.1 h1
       have HJJ:=hid (show qbm 6 l=x by
        rw [HJO.out,hx]
        unfold qic
        rw [←hx,hob];rw [hx];rfl)
       have d1:((acc.length:Int) == 1)=true:=qb6 (by omega)
       have HX1:=hid hx
       have hx0:(0:Int) < acc.length:=by omega
       clear hob hx h0 h1
       have hroX:RdA wr (fun x=>E x∧x≠w.heap.size) [x] A' c':=by rw [←HX1.out];exact HROW.out
       obtain ⟨b2,o2,A2,c2,rfl,hfx⟩:=RdA.first hroX
       have HFX:=hid hfx
       clear hfx hroX
       go_upto_region 24 with (go_at_call 98;(with_reducible refine HOPP.out.mono ?_);rintro e U ⟨rfl,hbu⟩;have HBU:=hid hbu;clear hbu)
       obtain ⟨t0,t1,t2,t3,t4⟩:=HFX.out.keepB HBU.out
       have tl:b2 < U.heap.size:=Nat.lt_of_lt_of_le HFX.out.lt HBU.out.size
       have hrr:=HR.out.below (qac HBW.out HBU.out)
       obtain ⟨r0,r1,r2,r3,r4,r5⟩:=hrr.cells
       have p0:=hrr.free 0
       have p1:=hrr.free 1
       have p2:=hrr.free 2
       have p3:=hrr.free 3
       have p4:=hrr.free 4
       have HRR:=hid hrr
       clear hrr
       go_wp2_with fail
       refine qab fun W9 hW9 => ?_
       have hO9:OB W9 w.heap.size x.op x.name x.val x.bound A2 x.args.length c2:=by rw [hW9];exact qag HRR.out
       have hC9:Chg (fun k=>k=w.heap.size) U W9:=by rw [hW9];exact qae _ _ _ _ _ _ _
       clear hW9 p0 p1 p2 p3 p4 r0 r1 r2 r3 r4 r5
       obtain ⟨r0,r1,r2,r3,r4,r5⟩:=hO9.cells
       exact bodyPost_ret (v := .agg #[.int .i64 (x.op),.string x.name,.int .i64 x.val,.int .i64 x.bound,.slice A2 x.args.length c2]) (by simp [results,Tryz.results59,go_sem,r0,r1,r2,r3,r4]) rfl ⟨_,rfl,by rw [HJJ.out];exact ⟨A2,c2,rfl,((HFX.out.args.belowD HBU.out).keep (hC9.keeps fun x _ hx hv=>hx.2 hv)).mono fun x hx _=>hx.1⟩,(qac HB.out (qac HBW.out HBU.out)).trans (hC9.below (B:=w.heap.size) (fun x hx hv=>by have hv':x=w.heap.size:=hv;omega) (qac HB.out (qac HBW.out HBU.out)).size)⟩
      ·have d1:((acc.length:Int) == 1)=false:=qar (by omega)
       have HJJ:=hid (show qbm 6 l=opF 6 acc by rw [HJO.out];exact setZ_many hob h0 h1)
       clear hob h0 h1
       have HRR:=hid (fun (U:World) (hb:Below wr.heap.size wr U)=>HR.out.below (qac HBW.out hb))
       go_wp2_with (first | (go_at_call 98;(with_reducible refine HOPP.out.mono ?_);rintro e U1 ⟨rfl,hb1⟩;have HB1:=hid hb1;clear hb1) | (go_at_call 88;(with_reducible refine (qg3 _ _ _ _ _).mono ?_);rintro e U ⟨rfl,hbu⟩;have HBU:=hid (qac HB1.out hbu);clear hbu;obtain ⟨r0,r1,r2,r3,r4,r5⟩:=(HR.out.below (qac HBW.out HBU.out)).cells;have p0:=(HR.out.below (qac HBW.out HBU.out)).free 0;have p1:=(HR.out.below (qac HBW.out HBU.out)).free 1;have p2:=(HR.out.below (qac HBW.out HBU.out)).free 2;have p3:=(HR.out.below (qac HBW.out HBU.out)).free 3;have p4:=(HR.out.below (qac HBW.out HBU.out)).free 4))
       refine qab fun W9 hW9 => ?_
       have hO9:OB W9 w.heap.size 6 ⟨#[]⟩ 0 0 A' acc.length c':=by rw [hW9];exact qag (HRR.out _ HBU.out)
       have hC9:Chg (fun k=>k=w.heap.size) U W9:=by rw [hW9];exact qae _ _ _ _ _ _ _
       clear hW9 p0 p1 p2 p3 p4 r0 r1 r2 r3 r4 r5
       obtain ⟨r0,r1,r2,r3,r4,r5⟩:=hO9.cells
       exact bodyPost_ret (v := .agg #[.int .i64 (6),.string ⟨#[]⟩,.int .i64 0,.int .i64 0,.slice A' acc.length c']) (by simp [results,Tryz.results59,go_sem,r0,r1,r2,r3,r4]) rfl ⟨_,rfl,by rw [HJJ.out];exact ⟨A',c',rfl,((HROW.out.belowD HBU.out).keep (hC9.keeps fun x _ hx hv=>hx.2 hv)).mono fun x hx _=>hx.1⟩,(qac HB.out (qac HBW.out HBU.out)).trans (hC9.below (B:=w.heap.size) (fun x hx hv=>by have hv':x=w.heap.size:=hv;omega) (qac HB.out (qac HBW.out HBU.out)).size)⟩
    ·rw [hob] at HOPP
     have HJJ:=hid (show qbm 6 l=opF 1 [] by rw [HJO.out];unfold qic;rw [hob];rfl)
     clear hob
     go_upto_region 20 with (go_at_call 98;(with_reducible refine HOPP.out.mono ?_);rintro e U ⟨rfl,hbu⟩;have HBU:=hid hbu;clear hbu)
     obtain ⟨t0,t1,t2,t3,t4,t5⟩:=(HZ5.out.below (qac HBR.out HBU.out)).cells
     have hrr:=HR.out.below (qac HBW.out HBU.out)
     obtain ⟨r0,r1,r2,r3,r4,r5⟩:=hrr.cells
     have p0:=hrr.free 0
     have p1:=hrr.free 1
     have p2:=hrr.free 2
     have p3:=hrr.free 3
     have p4:=hrr.free 4
     have HRR:=hid hrr
     clear hrr
     go_wp2_with fail
     refine qab fun W9 hW9 => ?_
     have hO9:OB W9 w.heap.size 1 ⟨#[]⟩ 0 0 none 0 0:=by rw [hW9];exact qag HRR.out
     have hC9:Chg (fun k=>k=w.heap.size) U W9:=by rw [hW9];exact qae _ _ _ _ _ _ _
     clear hW9 p0 p1 p2 p3 p4 r0 r1 r2 r3 r4 r5
     obtain ⟨r0,r1,r2,r3,r4,r5⟩:=hO9.cells
     exact bodyPost_ret (v := .agg #[.int .i64 (1),.string ⟨#[]⟩,.int .i64 0,.int .i64 0,.slice none 0 0]) (by simp [results,Tryz.results59,go_sem,r0,r1,r2,r3,r4]) rfl ⟨_,rfl,by rw [HJJ.out];exact ⟨none,0,rfl,(((show RdA U (fun x=>E x∧x≠w.heap.size) [] none 0 from RdA.nil _ _ _ (Nat.zero_le _))).keep (hC9.keeps fun x _ hx hv=>hx.2 hv)).mono fun x hx _=>hx.1⟩,(qac HB.out (qac HBW.out HBU.out)).trans (hC9.below (B:=w.heap.size) (fun x hx hv=>by have hv':x=w.heap.size:=hv;omega) (qac HB.out (qac HBW.out HBU.out)).size)⟩
end Go.Proofs.YtdakdpfofgkjoaaGreatDoor
