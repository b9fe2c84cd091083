/-
  Parts of a proof: ZP ZQ ZR ZS ZU.
-/
import Derived.Test.YtdakdpfofgkjoaaGreatDoorZ33
set_option linter.unusedSimpArgs false
set_option linter.unusedVariables false
set_option maxHeartbeats 8000000
set_option maxRecDepth 100000
namespace Go.Proofs.YtdakdpfofgkjoaaGreatDoor
open Go.RowKit Go.Shelf
attribute [local go_sem] qad qbo
theorem all_no {l:List Fm} {k:Nat} (hk:k < l.length) (h:qa3 (l.getD k default)=false):l.all qa3=false:=by
 cases he:l.all qa3
 ·rfl
 ·have:=List.all_eq_true.1 he _ (qa1 hk)
  rw [h] at this;cases this
theorem all_yes {l:List Fm} (h : ∀ j,j < l.length→qa3 (l.getD j default)=true):l.all qa3=true:=by
 rw [List.all_eq_true]
 intro x hx
 obtain ⟨i,hi,rfl⟩:=List.getElem_of_mem hx
 have:=h i hi
 rwa [show l.getD i default=l[i] by simp [List.getD,hi]] at this
theorem take_snocL {l:List Fm} {x:Fm} {k:Nat} (hk:k < l.length) (hx:l.getD k default=x):(l.map qak).take (k+1)=(l.map qak).take k ++ [qak x]:=by
 rw [←List.map_take,←List.map_take,qan _ default hk,hx,List.map_append]
 rfl
theorem rall_any (l:List Fm) (A:Option Addr) (n c:Nat) (w:World) (D:Dom) (hD : ∀ x,w.heap.size≤x→D x) (h:RdA w D l A c) (hn:n=l.length) (hs:sizes l≤1000000) :
  Calls Tryz.prog 58 #[.slice A n c] w fun e w' => ∃ A' k c',e = .returned (.tuple #[.slice A' k c',.bool (l.all qa3)])∧(l.all qa3=true→k=l.length∧RdA w' D (l.map qak) A' c')∧Below w.heap.size w w':=by
 subst hn
 have hal:=qbx l
 have hlen:l.length≤1000000:=by omega
 have HA:=hid (h.mono (E:=fun x=>D x∧x < w.heap.size) fun x hx hl=>⟨hx,hl⟩)
 have HD:=hid hD
 have HS:=hid hs
 clear h hs hal hD
 obtain ⟨i0,hti,hz0,hz1,hz2⟩:=info_parts qbt
 have HTI:=hid hti
 have HZ0:=hid hz0
 have HZ1:=hid hz1
 have HZ2:=hid (show i0.bytes=64 from hz2)
 clear hti hz0 hz1 hz2
 go_enter Tryz.func58,Tryz.ntmps58
 go_wp2_with fail
 go_loopw [4,5] (fun r i wr => ∃ (k:Nat) (A':Option Addr) (c':Nat) (gs:List Fm) (sl:List (Option Addr × Nat)),k≤l.length∧Hid (gs=(l.map qak).take k)∧Hid (gs.length=k)∧r = .slice A' gs.length c'∧i = .int .i64 (k:Int)∧Hid (∀ j,j < k→qa3 (l.getD j default)=true)∧Hid (qjl wr w.heap.size D A' c' gs sl)∧Hid (Below w.heap.size w wr)) (fun _ i _=>l.length - (intOf i).toNat)
 case atStart=>exact ⟨0,none,0,[],[],Nat.zero_le _,by rw [List.take_zero];exact rfl,rfl,rfl,rfl,fun j hj=>absurd hj (Nat.not_lt_zero _),qjl.nil _ HD.out,Below.refl _ _⟩
 case round =>
  obtain ⟨k,A',c',gs,sl,hk,HGS,HGL,rfl,rfl,HJ,HROW,HBR⟩:=hrel
  by_cases hlt:k < l.length
  ·have hki:(k:Int) < l.length:=by omega
   have hk0:(0:Int)≤(k:Int):=by omega
   have HAr:=hid (HA.out.keep (Keeps.of_below HBR.out fun _ h=>h.2))
   obtain ⟨b1,o1,A1,c1,x,rfl,HX,hf1⟩:=HAr.out.get hlt
   have HFX:=hid hf1
   obtain ⟨-,hl1,y0,y1,y2,y3,y4, -⟩:=hf1
   have HXX:=hid HX.out
   have HLT:=hid hlt
   have HL:=hid (qjp (D:=fun x=>D x∧x < w.heap.size) x (.agg #[.int .i64 x.op,.string x.name,.int .i64 x.val,.int .i64 x.bound,.slice A1 x.args.length c1]) wr ⟨A1,c1,rfl,HFX.out.args⟩)
   rw [looseR_eq] at HL
   clear hk HX
   cases hlo:qa3 x
   ·rw [hlo] at HL
    have HNO:=hid (all_no HLT.out (by rw [HXX.out];exact hlo))
    clear hlo
    go_wp2_with (go_at_call 56;(with_reducible refine HL.out.mono ?_);rintro e U ⟨rfl,hbu⟩;have HBU:=hid hbu;clear hbu)
    exact bodyPost_ret (v := .tuple #[.slice none 0 0,.bool false]) (by simp [results,Tryz.results58,go_sem]) rfl ⟨none,0,0,by rw [HNO.out],(fun h=>by rw [HNO.out] at h;cases h),qac HBR.out HBU.out⟩
   ·rw [hlo] at HL
    have HLO:=hid hlo
    have HXS:=hid (qkp hlo)
    have HBA:=hid (qcj hlo).2.2
    have hgl:gs.length≤1000000:=by have:=HGL.out;omega
    have HDC:Hid (∀ x,wr.heap.size≤x→D x∧(Value.slice A' gs.length c').ownBlock≠some x):=hid fun x hx=>⟨HD.out x (Nat.le_trans HBR.out.size hx),fun e=>by have:=(HROW.out.ge e).2;omega⟩
    have HXA:=hid (HFX.out.args.mono (E:=fun x=>D x∧(Value.slice A' gs.length c').ownBlock≠some x) fun q hq _=>⟨hq.1,fun e=>by have:=(HROW.out.ge e).1;have:=hq.2;omega⟩)
    have HTK:=hid (take_snocL HLT.out HXX.out)
    have HCL:=hid (fun (W':World) (hb:Below wr.heap.size wr W')=>rcanon_any x false (.agg #[.int .i64 x.op,.string x.name,.int .i64 x.val,.int .i64 x.bound,.slice A1 x.args.length c1]) W' (fun x=>D x∧(Value.slice A' gs.length c').ownBlock≠some x) (fun x hx=>HDC.out x (Nat.le_trans hb.size hx)) ⟨A1,c1,rfl,HXA.out.belowD hb⟩ HBA.out (by have:=HXS.out.2;omega))
    obtain ⟨y,hy⟩ : ∃ y,qak x=y:=⟨_,rfl⟩
    rw [hy] at HTK HCL
    clear hlo hy
    go_wp2_with (first | (go_at_call 56;(with_reducible refine HL.out.mono ?_);rintro e V0 ⟨rfl,hb0⟩;have HB0:=hid hb0;obtain ⟨t0,t1,t2,t3,t4⟩:=HFX.out.keepB hb0;have tl:=Nat.lt_of_lt_of_le hl1 hb0.size;clear hb0) | (go_at_call 96;(with_reducible refine (HCL.out _ HB0.out).mono ?_);rintro e V1 ⟨v1,rfl,⟨A5,c5,rfl,ha5⟩,hb1⟩;have HA5:=hid ha5;have HB1:=hid (qac HB0.out hb1);have HR1:=hid (HROW.out.below HB1.out);have hone:=qb9 y (A5,c5);clear ha5 hb1) | (at_builtin;go_must (refine qat _ rfl (.tmp 18) (.tmp 24) 26 rfl w.heap.size 28 i0 _ 5 64 Tryz.underlying26 HTI.out HZ0.out HZ1.out HZ2.out rfl (by omega) (.slice A' gs.length c') gs.length _ rfl (own_below HR1.out.own (by go_grown)) _ (some ⟨V1.heap.size,0,none⟩) 1 1 _ rfl (Rd.fresh (D:=qbw) (n:=1) rfl trivial rfl (by decide)) hone (by omega) (qaz (by omega)) (by have:=HBR.out.size;have:=HB1.out.size;simp;omega) ?_);intro A7 c7 w7 hown7 hg7 hat7))
    have HG7:=hid hg7
    have HO7:=hid hown7
    have HAT:=hid hat7
    clear hown7 hg7 hat7
    go_roundw
    case rel =>
     refine ⟨k+1,A7,c7,gs ++ [y],sl ++ [(A5,c5)],by have:=HLT.out;omega,by rw [HTK.out,←HGS.out];exact rfl,by rw [List.length_append,HGL.out];exact rfl,by rw [List.length_append];rfl,by go_num,fun j hj => ?_,?_,?_⟩
     ·by_cases hjk:j < k
      ·exact HJ.out j hjk
      ·have:j=k:=by omega
       subst this
       rw [HXX.out];exact HLO.out
     ·exact qjl.push (HR1.out.below ((Below.refl _ _).alloc (Nat.le_refl _) _)) HG7.out HO7.out HAT.out (HA5.out.belowD ((Below.refl _ _).alloc (Nat.le_refl _) _))
     ·exact Below.grown ((HBR.out.trans (HB1.out.mono HBR.out.size)).alloc (by have:=HBR.out.size;have:=HB1.out.size;omega) _) HG7.out (by have:=HBR.out.size;have:=HB1.out.size;simp;omega) fun k hk=>(HR1.out.ge hk).1
    case measure=>have:=HLT.out;simp [intOf];omega
  ·have hkl:k=l.length:=by omega
   have hii : ¬ (k:Int) < l.length:=by omega
   have HGA:=hid (show gs=l.map qak by rw [HGS.out,hkl,←List.length_map (f:=qak),List.take_length])
   have HAY:=hid (all_yes (l:=l) fun j hj=>HJ.out j (by omega))
   have HGN:=hid (show gs.length=l.length by rw [HGL.out];exact hkl)
   have HRD:=hid (HROW.out.rd (by have:=HGL.out;omega))
   clear hk hkl
   go_wp2_with fail
   exact bodyPost_ret (v := .tuple #[.slice A' gs.length c',.bool true]) (by simp [results,Tryz.results58,go_sem]) rfl ⟨A',gs.length,c',by rw [HAY.out],(fun _=>⟨HGN.out,by rw [←HGA.out];exact HRD.out⟩),HBR.out⟩
end Go.Proofs.YtdakdpfofgkjoaaGreatDoor
namespace Go.Proofs.YtdakdpfofgkjoaaGreatDoor
open Go.RowKit Go.Shelf
attribute [local go_sem] qad qbo
theorem conn_check (op:Int) {l:List Fm} (h:l.all qa3=true):qbq op l=qgv (qbm op (l.map qak)):=by
 unfold qbq qgv
 rw [if_pos h]
theorem conn_zero (op:Int) {l:List Fm} (h:l.all qa3=false):qbq op l=qbb:=by
 unfold qbq
 rw [h];rfl
theorem rand_any (l:List Fm) (A:Option Addr) (n c:Nat) (w:World) (D:Dom) (hD : ∀ x,w.heap.size≤x→D x) (h:RdA w D l A c) (hn:n=l.length) (hs:sizes l≤1000000) :
  Calls Tryz.prog 35 #[.slice A n c] w fun e w' => ∃ v',e = .returned v'∧qby w' D v' (qbq 5 l)∧Below w.heap.size w w':=by
 subst hn
 have HA:=hid (h.mono (E:=fun x=>D x∧x≠w.heap.size) fun x hx hl=>⟨hx,by omega⟩)
 have HS:=hid hs
 clear h hs
 go_enter Tryz.func35,Tryz.ntmps35
 go_upto_region 1 with (fail)
 refine qai fun W hW => ?_
 have HB:=hid (show Below w.heap.size w W by rw [hW];go_grown)
 have HR:=hid (show OB W w.heap.size 0 ⟨#[]⟩ 0 0 none 0 0 by rw [hW];exact at_new _ _ _ rfl)
 have HDE:Hid (∀ x,W.heap.size≤x→D x∧x≠w.heap.size):=hid fun x hx=>⟨hD x (by have:=HB.out.size;omega),by have:=lt_of_block HR.out;omega⟩
 clear hW
 have HAL:=hid (rall_any l A l.length c W (fun x=>D x∧x≠w.heap.size) HDE.out (HA.out.belowD HB.out) rfl HS.out)
 cases hal:l.all qa3
 ·rw [hal] at HAL
  have HKF:=hid (conn_zero 5 hal)
  clear hal
  go_wp2_with (go_at_call 58;(with_reducible refine HAL.out.mono ?_);rintro e U ⟨A2,k2,c2,rfl, -,hbu⟩;have HBU:=hid hbu;clear hbu;obtain ⟨r0,r1,r2,r3,r4,r5⟩:=(HR.out.below HBU.out).cells;have p0:=(HR.out.below HBU.out).free 0;have p1:=(HR.out.below HBU.out).free 1;have p2:=(HR.out.below HBU.out).free 2;have p3:=(HR.out.below HBU.out).free 3;have p4:=(HR.out.below HBU.out).free 4)
  refine qab fun W9 hW9 => ?_
  have hO9:OB W9 w.heap.size 0 ⟨#[]⟩ 0 0 none 0 0:=by rw [hW9];exact qag (HR.out.below HBU.out)
  have hC9:Chg (fun k=>k=w.heap.size) U W9:=by rw [hW9];exact qae _ _ _ _ _ _ _
  clear hW9 p0 p1 p2 p3 p4 r0 r1 r2 r3 r4 r5
  obtain ⟨r0,r1,r2,r3,r4,r5⟩:=hO9.cells
  exact bodyPost_ret (v := .agg #[.int .i64 (0),.string ⟨#[]⟩,.int .i64 0,.int .i64 0,.slice none 0 0]) (by simp [results,Tryz.results35,go_sem,r0,r1,r2,r3,r4]) rfl ⟨_,rfl,by rw [HKF.out];exact ⟨none,0,rfl,(((show RdA U (fun k=>D k∧k≠w.heap.size) qbb.args none 0 from RdA.nil _ _ _ (Nat.zero_le _))).keep (hC9.keeps fun x _ hx hv=>hx.2 hv)).mono fun x hx _=>hx.1⟩,(qac HB.out HBU.out).trans (hC9.below (B:=w.heap.size) (fun x hx hv=>by have hv':x=w.heap.size:=hv;omega) (qac HB.out HBU.out).size)⟩
 ·rw [hal] at HAL
  have HKF0:=hid (conn_check 5 hal)
  have HLO:=hid (List.all_eq_true.1 hal)
  have HCN:=hid (show ∀ g,g∈l.map qak→Can g from fun g hg=>by
   obtain ⟨x,hx,rfl⟩:=List.mem_map.1 hg
   exact qi1 (HLO.out x hx))
  have HSS:=hid (show sizes (l.map qak)≤1000000 from Nat.le_trans (qcx fun x _=>qd4 x) HS.out)
  have HF4:=hid (can_flat4 (op:=5) (l:=l.map qak) (ins:=false) fun g hg=>by
   obtain ⟨x,hx,rfl⟩:=List.mem_map.1 hg
   exact qfk x _ (qcj (HLO.out x hx)).2.2 (by have h1:=(qcj (HLO.out x hx)).1;unfold manyN;omega))
  have HML:=hid (show (l.map qak).length=l.length from List.length_map ..)
  clear hal
  obtain ⟨gs,hgs⟩ : ∃ gs,l.map qak=gs:=⟨_,rfl⟩
  rw [hgs] at HKF0 HCN HSS HF4 HML HAL
  clear hgs
  obtain ⟨y,hy⟩ : ∃ y,qbm 5 gs=y:=⟨_,rfl⟩
  have HY:=hid hy
  rw [hy] at HKF0
  clear hy
  obtain ⟨z,hz⟩ : ∃ z,qgv y=z:=⟨_,rfl⟩
  have HZ:=hid hz
  have HKF:=hid (show qbq 5 l=z by rw [HKF0.out];exact hz)
  clear hz
  go_wp2_with (first | (go_at_call 58;(with_reducible refine HAL.out.mono ?_);rintro e V1 ⟨A2,k2,c2,rfl,hr1,hb1⟩;have HK2:=hid (hr1 rfl).1;have HR1:=hid (hr1 rfl).2;have HB1:=hid hb1;clear hr1 hb1) | (go_at_call 59;(with_reducible refine (qgi (E:=(fun x=>D x∧x≠w.heap.size)) 5 (.inl rfl) gs A2 k2 c2 _ ?_ ?_ ?_ ?_ ?_ ?_).mono ?_);exact fun x hx=>HDE.out x (Nat.le_trans HB1.out.size hx);exact HR1.out;exact HK2.out.trans HML.out.symm;exact HCN.out;exact HSS.out;exact HF4.out;rw [HY.out];rintro e V2 ⟨v2,rfl,h2,hb2⟩;have H2:=hid h2;have HB2:=hid (qac HB1.out hb2);clear h2 hb2) | (go_at_call 57;(with_reducible refine (qg6 y _ _ (fun x=>D x∧x≠w.heap.size) H2.out).mono ?_);rw [HZ.out];rintro e U ⟨v3,rfl,⟨A3,c3,rfl,ha3⟩,hbu⟩;have HA3:=hid ha3;have HBU:=hid (qac HB2.out hbu);clear ha3 hbu;obtain ⟨r0,r1,r2,r3,r4,r5⟩:=(HR.out.below HBU.out).cells;have p0:=(HR.out.below HBU.out).free 0;have p1:=(HR.out.below HBU.out).free 1;have p2:=(HR.out.below HBU.out).free 2;have p3:=(HR.out.below HBU.out).free 3;have p4:=(HR.out.below HBU.out).free 4))
  refine qab fun W9 hW9 => ?_
  have hO9:OB W9 w.heap.size z.op z.name z.val z.bound A3 z.args.length c3:=by rw [hW9];exact qag (HR.out.below HBU.out)
  have hC9:Chg (fun k=>k=w.heap.size) U W9:=by rw [hW9];exact qae _ _ _ _ _ _ _
  clear hW9 p0 p1 p2 p3 p4 r0 r1 r2 r3 r4 r5
  obtain ⟨r0,r1,r2,r3,r4,r5⟩:=hO9.cells
  exact bodyPost_ret (v := .agg #[.int .i64 (z.op),.string z.name,.int .i64 z.val,.int .i64 z.bound,.slice A3 z.args.length c3]) (by simp [results,Tryz.results35,go_sem,r0,r1,r2,r3,r4]) rfl ⟨_,rfl,by rw [HKF.out];exact ⟨A3,c3,rfl,((HA3.out).keep (hC9.keeps fun x _ hx hv=>hx.2 hv)).mono fun x hx _=>hx.1⟩,(qac HB.out HBU.out).trans (hC9.below (B:=w.heap.size) (fun x hx hv=>by have hv':x=w.heap.size:=hv;omega) (qac HB.out HBU.out).size)⟩
theorem ror_any (l:List Fm) (A:Option Addr) (n c:Nat) (w:World) (D:Dom) (hD : ∀ x,w.heap.size≤x→D x) (h:RdA w D l A c) (hn:n=l.length) (hs:sizes l≤1000000) :
  Calls Tryz.prog 34 #[.slice A n c] w fun e w' => ∃ v',e = .returned v'∧qby w' D v' (qbq 6 l)∧Below w.heap.size w w':=by
 subst hn
 have HA:=hid (h.mono (E:=fun x=>D x∧x≠w.heap.size) fun x hx hl=>⟨hx,by omega⟩)
 have HS:=hid hs
 clear h hs
 go_enter Tryz.func34,Tryz.ntmps34
 go_upto_region 1 with (fail)
 refine qai fun W hW => ?_
 have HB:=hid (show Below w.heap.size w W by rw [hW];go_grown)
 have HR:=hid (show OB W w.heap.size 0 ⟨#[]⟩ 0 0 none 0 0 by rw [hW];exact at_new _ _ _ rfl)
 have HDE:Hid (∀ x,W.heap.size≤x→D x∧x≠w.heap.size):=hid fun x hx=>⟨hD x (by have:=HB.out.size;omega),by have:=lt_of_block HR.out;omega⟩
 clear hW
 have HAL:=hid (rall_any l A l.length c W (fun x=>D x∧x≠w.heap.size) HDE.out (HA.out.belowD HB.out) rfl HS.out)
 cases hal:l.all qa3
 ·rw [hal] at HAL
  have HKF:=hid (conn_zero 6 hal)
  clear hal
  go_wp2_with (go_at_call 58;(with_reducible refine HAL.out.mono ?_);rintro e U ⟨A2,k2,c2,rfl, -,hbu⟩;have HBU:=hid hbu;clear hbu;obtain ⟨r0,r1,r2,r3,r4,r5⟩:=(HR.out.below HBU.out).cells;have p0:=(HR.out.below HBU.out).free 0;have p1:=(HR.out.below HBU.out).free 1;have p2:=(HR.out.below HBU.out).free 2;have p3:=(HR.out.below HBU.out).free 3;have p4:=(HR.out.below HBU.out).free 4)
  refine qab fun W9 hW9 => ?_
  have hO9:OB W9 w.heap.size 0 ⟨#[]⟩ 0 0 none 0 0:=by rw [hW9];exact qag (HR.out.below HBU.out)
  have hC9:Chg (fun k=>k=w.heap.size) U W9:=by rw [hW9];exact qae _ _ _ _ _ _ _
  clear hW9 p0 p1 p2 p3 p4 r0 r1 r2 r3 r4 r5
  obtain ⟨r0,r1,r2,r3,r4,r5⟩:=hO9.cells
  exact bodyPost_ret (v := .agg #[.int .i64 (0),.string ⟨#[]⟩,.int .i64 0,.int .i64 0,.slice none 0 0]) (by simp [results,Tryz.results34,go_sem,r0,r1,r2,r3,r4]) rfl ⟨_,rfl,by rw [HKF.out];exact ⟨none,0,rfl,(((show RdA U (fun k=>D k∧k≠w.heap.size) qbb.args none 0 from RdA.nil _ _ _ (Nat.zero_le _))).keep (hC9.keeps fun x _ hx hv=>hx.2 hv)).mono fun x hx _=>hx.1⟩,(qac HB.out HBU.out).trans (hC9.below (B:=w.heap.size) (fun x hx hv=>by have hv':x=w.heap.size:=hv;omega) (qac HB.out HBU.out).size)⟩
 ·rw [hal] at HAL
  have HKF0:=hid (conn_check 6 hal)
  have HLO:=hid (List.all_eq_true.1 hal)
  have HCN:=hid (show ∀ g,g∈l.map qak→Can g from fun g hg=>by
   obtain ⟨x,hx,rfl⟩:=List.mem_map.1 hg
   exact qi1 (HLO.out x hx))
  have HSS:=hid (show sizes (l.map qak)≤1000000 from Nat.le_trans (qcx fun x _=>qd4 x) HS.out)
  have HF4:=hid (can_flat4 (op:=6) (l:=l.map qak) (ins:=false) fun g hg=>by
   obtain ⟨x,hx,rfl⟩:=List.mem_map.1 hg
   exact qfk x _ (qcj (HLO.out x hx)).2.2 (by have h1:=(qcj (HLO.out x hx)).1;unfold manyN;omega))
  have HML:=hid (show (l.map qak).length=l.length from List.length_map ..)
  clear hal
  obtain ⟨gs,hgs⟩ : ∃ gs,l.map qak=gs:=⟨_,rfl⟩
  rw [hgs] at HKF0 HCN HSS HF4 HML HAL
  clear hgs
  obtain ⟨y,hy⟩ : ∃ y,qbm 6 gs=y:=⟨_,rfl⟩
  have HY:=hid hy
  rw [hy] at HKF0
  clear hy
  obtain ⟨z,hz⟩ : ∃ z,qgv y=z:=⟨_,rfl⟩
  have HZ:=hid hz
  have HKF:=hid (show qbq 6 l=z by rw [HKF0.out];exact hz)
  clear hz
  go_wp2_with (first | (go_at_call 58;(with_reducible refine HAL.out.mono ?_);rintro e V1 ⟨A2,k2,c2,rfl,hr1,hb1⟩;have HK2:=hid (hr1 rfl).1;have HR1:=hid (hr1 rfl).2;have HB1:=hid hb1;clear hr1 hb1) | (go_at_call 59;(with_reducible refine (qgi (E:=(fun x=>D x∧x≠w.heap.size)) 6 (.inr rfl) gs A2 k2 c2 _ ?_ ?_ ?_ ?_ ?_ ?_).mono ?_);exact fun x hx=>HDE.out x (Nat.le_trans HB1.out.size hx);exact HR1.out;exact HK2.out.trans HML.out.symm;exact HCN.out;exact HSS.out;exact HF4.out;rw [HY.out];rintro e V2 ⟨v2,rfl,h2,hb2⟩;have H2:=hid h2;have HB2:=hid (qac HB1.out hb2);clear h2 hb2) | (go_at_call 57;(with_reducible refine (qg6 y _ _ (fun x=>D x∧x≠w.heap.size) H2.out).mono ?_);rw [HZ.out];rintro e U ⟨v3,rfl,⟨A3,c3,rfl,ha3⟩,hbu⟩;have HA3:=hid ha3;have HBU:=hid (qac HB2.out hbu);clear ha3 hbu;obtain ⟨r0,r1,r2,r3,r4,r5⟩:=(HR.out.below HBU.out).cells;have p0:=(HR.out.below HBU.out).free 0;have p1:=(HR.out.below HBU.out).free 1;have p2:=(HR.out.below HBU.out).free 2;have p3:=(HR.out.below HBU.out).free 3;have p4:=(HR.out.below HBU.out).free 4))
  refine qab fun W9 hW9 => ?_
  have hO9:OB W9 w.heap.size z.op z.name z.val z.bound A3 z.args.length c3:=by rw [hW9];exact qag (HR.out.below HBU.out)
  have hC9:Chg (fun k=>k=w.heap.size) U W9:=by rw [hW9];exact qae _ _ _ _ _ _ _
  clear hW9 p0 p1 p2 p3 p4 r0 r1 r2 r3 r4 r5
  obtain ⟨r0,r1,r2,r3,r4,r5⟩:=hO9.cells
  exact bodyPost_ret (v := .agg #[.int .i64 (z.op),.string z.name,.int .i64 z.val,.int .i64 z.bound,.slice A3 z.args.length c3]) (by simp [results,Tryz.results34,go_sem,r0,r1,r2,r3,r4]) rfl ⟨_,rfl,by rw [HKF.out];exact ⟨A3,c3,rfl,((HA3.out).keep (hC9.keeps fun x _ hx hv=>hx.2 hv)).mono fun x hx _=>hx.1⟩,(qac HB.out HBU.out).trans (hC9.below (B:=w.heap.size) (fun x hx hv=>by have hv':x=w.heap.size:=hv;omega) (qac HB.out HBU.out).size)⟩
end Go.Proofs.YtdakdpfofgkjoaaGreatDoor
namespace Go.Proofs.YtdakdpfofgkjoaaGreatDoor
open Go.RowKit Go.Shelf
attribute [local go_sem] qad qbo
theorem rskeys_any (w:World):Calls Tryz.prog 100 #[] w fun e w' => ∃ b,e = .returned (.slice (some ⟨b,0,none⟩) 10 10)∧b < w'.heap.size∧(∀ k,k < 10→w'.cell? ⟨b,k,none⟩=some (.string (keysL.getD k ByteArray.empty)))∧Below w.heap.size w w':=by
 go_enter Tryz.func100,Tryz.ntmps100
 go_wp2_with fail
 refine qab fun W hW => ?_
 have hb:Below w.heap.size w W:=by rw [hW];go_grown
 have hc:W.heap[w.heap.size]? = some (.cells #[.string ⟨#[105,110,112,117,116]⟩,.string ⟨#[111,117,116,112,117,116]⟩,.string ⟨#[112,97,114,116]⟩,.string ⟨#[97,115,115,117,109,101]⟩,.string ⟨#[103,117,97,114,97,110,116,101,101]⟩,.string ⟨#[116,114,117,101]⟩,.string ⟨#[102,97,108,115,101]⟩,.string ⟨#[97,100,100]⟩,.string ⟨#[100,114,111,112]⟩,.string ⟨#[114,101,112,108,97,99,101]⟩] 9 (0,0)):=by rw [hW];exact heap_alloc_new w _
 clear hW
 go_ret
 refine ⟨w.heap.size,rfl,lt_of_block hc,fun k hk => ?_,hb⟩
 match k,hk with
 | 0,_ | 1,_ | 2,_ | 3,_ | 4,_ | 5,_ | 6,_ | 7,_ | 8,_ | 9,_=>exact qaa hc rfl
theorem bytes_of_beq {a b:ByteArray} (h:(a.toList == b.toList)=true):a=b:=by
 have h1:a.toList=b.toList:=eq_of_beq h
 rw [ByteArray.toList_eq,ByteArray.toList_eq] at h1
 cases a;cases b
 simp only at h1
 rw [Array.toList_inj.1 h1]
theorem rsfind_any {D:Dom} (l:List Sg) (s:ByteArray) (A:Option Addr) (c n:Nat) (w:World) (hn:n=l.length) (h:RdG w D A c l) :
  Calls Tryz.prog 65 #[.slice A n c,.string s] w fun e w'=>e = .returned (.int .i64 (qfw l s))∧Below w.heap.size w w':=by
 subst hn
 have hlen:=h.len.1
 have HA:=hid h.old
 clear h
 go_enter Tryz.func65,Tryz.ntmps65
 go_wp2_with fail
 go_loopw [5] (fun q wr => ∃ i:Nat,i≤l.length∧q = .int .i64 (i:Int)∧Hid (∀ j,j < i→(l.getD j default).name≠s)∧Hid (Below w.heap.size w wr)) (fun q _=>l.length - (intOf q).toNat)
 case atStart=>exact ⟨0,Nat.zero_le _,rfl,fun j hj=>absurd hj (Nat.not_lt_zero _),Below.refl _ _⟩
 case round =>
  obtain ⟨i,hi,rfl,HJ,HBR⟩:=hrel
  by_cases hlt:i < l.length
  ·have hii:(i:Int) < l.length:=by omega
   have hi0:(0:Int)≤(i:Int):=by omega
   have HLT:=hid hlt
   obtain ⟨b,o,g,rfl,hl1,HX,c0,c1,c2⟩:=(HA.out.keep (Keeps.of_below HBR.out fun _ h=>h)).get hlt
   have HXX:=hid HX.out
   clear hi HX
   by_cases he:g.name=s
   ·have hs:(g.name.toList == s.toList)=true:=by rw [he];exact beq_self_eq_true _
    have HF:=hid (show qfw l s=(i:Int) by
     have h1:qa7 s (qjn l)=i:=firstN_eq (by rw [qgg];exact HLT.out) (by rw [qfz i HLT.out,HXX.out];exact he) fun j hj=>by rw [qfz j (by have:=HLT.out;omega)];exact HJ.out j hj
     unfold qfw qe7
     rw [h1,if_pos HLT.out])
    clear he
    go_wp2_with fail
    go_ret
    exact ⟨qau HF.out.symm,HBR.out⟩
   ·have hs:(g.name.toList == s.toList)=false:=by
     cases hb:(g.name.toList == s.toList)
     ·rfl
     ·exact absurd (bytes_of_beq hb) he
    have HNE:=hid he
    clear he
    go_wp2_with fail
    go_roundw
    case rel=>exact ⟨i+1,by have:=HLT.out;omega,by go_num,fun j hj=>by
     by_cases hji:j < i
     ·exact HJ.out j hji
     ·have:j=i:=by omega
      subst this
      rw [HXX.out];exact HNE.out,HBR.out⟩
    case measure=>have:=HLT.out;simp [intOf];omega
  ·have hii : ¬ (i:Int) < l.length:=by omega
   have HF:=hid (show qfw l s = -1 by
    have h1:l.length≤qa7 s (qjn l):=(qf8 (by rw [qgg];exact Nat.le_refl _)).2 fun j hj=>by rw [qfz j hj];exact HJ.out j (by omega)
    unfold qfw qe7
    rw [if_neg (by omega)])
   clear hi
   go_wp2_with fail
   go_ret
   exact ⟨qau HF.out.symm,HBR.out⟩
end Go.Proofs.YtdakdpfofgkjoaaGreatDoor
namespace Go.Proofs.YtdakdpfofgkjoaaGreatDoor
open Go.RowKit Go.Shelf
attribute [local go_sem] qad qbo
def RdStr (w:World) (D:Dom) (A:Option Addr) (c:Nat) (ss:List ByteArray):Prop:=Rd w D 1 A ss.length c (ss.map .string)
def inB (l:List ByteArray) (s:ByteArray):Bool:=l.any fun k=>k.toList == s.toList
theorem rdS_at {w:World} {D:Dom} {A:Option Addr} {c k:Nat} {ss:List ByteArray} (h:RdStr w D A c ss) (hk:k < ss.length) : ∃ b o x,A=some ⟨b,o,none⟩∧b < w.heap.size∧Hid (ss.getD k ⟨#[]⟩=x)∧w.cell? ⟨b,o+k,none⟩=some (.string x):=by
 obtain ⟨b,o,e,hb,hl,hc⟩:=h.2 (by omega)
 exact ⟨b,o,_,e,hl,hid rfl,hc k _ (by simp [List.getD,hk])⟩
theorem inB_yes {l:List ByteArray} {s:ByteArray} {k:Nat} (hk:k < l.length) (h:((l.getD k ⟨#[]⟩).toList == s.toList)=true):inB l s=true:=by
 unfold inB
 rw [List.any_eq_true]
 exact ⟨l.getD k ⟨#[]⟩,by simp [List.getD,hk],h⟩
theorem inB_no {l:List ByteArray} {s:ByteArray} (h : ∀ k,k < l.length→((l.getD k ⟨#[]⟩).toList == s.toList)=false):inB l s=false:=by
 unfold inB
 rw [List.any_eq_false]
 intro x hx
 obtain ⟨k,hk,rfl⟩:=List.getElem_of_mem hx
 have:=h k hk
 simp only [List.getD,List.getElem?_eq_getElem hk,Option.getD_some] at this
 simp [this]
theorem rin_any {D:Dom} (l:List ByteArray) (s:ByteArray) (A:Option Addr) (c n:Nat) (w:World) (hn:n=l.length) (h:RdStr w D A c l) :
  Calls Tryz.prog 99 #[.slice A n c,.string s] w fun e w'=>e = .returned (.bool (inB l s))∧Below w.heap.size w w':=by
 subst hn
 have hlen:=h.1.2.1
 have HH:=hid h
 clear h
 go_enter Tryz.func99,Tryz.ntmps99
 go_wp2_with fail
 go_loopw [5] (fun q wr => ∃ i:Nat,i≤l.length∧q = .int .i64 (i:Int)∧qkc w wr∧Hid (∀ k,k < i→((l.getD k ⟨#[]⟩).toList == s.toList)=false)) (fun q _=>l.length - (intOf q).toNat)
 case atStart=>exact ⟨0,Nat.zero_le _,rfl,rfl,fun j h=>absurd h (Nat.not_lt_zero _)⟩
 case round =>
  obtain ⟨i,hi,rfl,hw,HALL⟩:=hrel
  obtain rfl:w=wr:=hw.symm
  by_cases hlt:i < l.length
  ·have hii:(i:Int) < l.length:=by omega
   obtain ⟨b,o,t,rfl,hlb,HX,x0⟩:=rdS_at HH.out hlt
   have HLT:=hid hlt
   cases d1:(t.toList == s.toList)
   ·have HNE:=hid (show ((l.getD i ⟨#[]⟩).toList == s.toList)=false by rw [HX.out];exact d1)
    clear HX
    go_wp2_with fail
    go_roundw
    case rel =>
     refine ⟨i+1,by have:=HLT.out;omega,by go_num,rfl,fun j hj => ?_⟩
     by_cases e:j=i
     ·rw [e];exact HNE.out
     ·exact HALL.out j (by omega)
    case measure=>have:=HLT.out;simp [intOf];omega
   ·have HR:=hid (inB_yes (s:=s) hlt (by rw [HX.out];exact d1))
    clear HX
    go_wp2_with fail
    go_ret
    exact ⟨qaj HR.out.symm,Below.refl _ _⟩
  ·have hii : ¬ (i:Int) < l.length:=by omega
   have HR:=hid (inB_no (s:=s) fun j hj=>HALL.out j (by omega))
   go_wp2_with fail
   go_ret
   exact ⟨qaj HR.out.symm,Below.refl _ _⟩
theorem keys_rd {w:World} {b:Nat} (hb:b < w.heap.size) (h : ∀ k,k < 10→w.cell? ⟨b,k,none⟩=some (.string (keysL.getD k ByteArray.empty))):RdStr w qbw (some ⟨b,0,none⟩) 10 keysL:=by
 refine ⟨⟨rfl,by decide,by decide,by decide⟩,fun _=>⟨b,0,rfl,trivial,hb,fun j u hu => ?_⟩⟩
 have hj:j < 10:=by
  rcases Nat.lt_or_ge j 10 with h1 | h1
  ·exact h1
  ·rw [List.getElem?_eq_none (by exact h1)] at hu;cases hu
 rw [Nat.zero_add,h j hj]
 match j,hj with
 | 0,_ | 1,_ | 2,_ | 3,_ | 4,_ | 5,_ | 6,_ | 7,_ | 8,_ | 9,_=>exact hu
theorem name_in {s:ByteArray} (h:inB keysL s=true):nameB s=false:=by
 unfold nameB
 rw [show keysL.any (fun k=>k.toList == s.toList)=true from h]
 simp
theorem name_notin {s:ByteArray} (h0:1≤s.size) (h1:s.size≤12) (h:inB keysL s=false):nameB s=qkb s.size (qdm s):=by
 unfold nameB
 rw [show keysL.any (fun k=>k.toList == s.toList)=false from h,decide_eq_true h0,decide_eq_true h1]
 simp
theorem rsname_any (s:ByteArray) (w:World) :
  Calls Tryz.prog 64 #[.string s] w fun e w'=>e = .returned (.bool (nameB s))∧Below w.heap.size w w':=by
 by_cases hs:s.size < 1
 ·have HR:=hid (qjv hs)
  have hsi:(s.size:Int) < 1:=by omega
  have hd:decide ((s.size:Int) < 1)=true:=decide_eq_true hsi
  clear hs
  go_enter Tryz.func64,Tryz.ntmps64
  go_wp2_with fail
  go_ret
  exact ⟨qaj HR.out.symm,by go_grown⟩
 by_cases hl:12 < s.size
 ·have HR:=hid (name_long hl)
  have hsi : ¬ (s.size:Int) < 1:=by omega
  have hli:12 < (s.size:Int):=by omega
  have hd:decide ((s.size:Int) < 1)=false:=decide_eq_false hsi
  have hd2:decide (12 < (s.size:Int))=true:=decide_eq_true hli
  clear hs hl
  go_enter Tryz.func64,Tryz.ntmps64
  go_wp2_with fail
  go_ret
  exact ⟨qaj HR.out.symm,by go_grown⟩
 have hsi : ¬ (s.size:Int) < 1:=by omega
 have hli : ¬ 12 < (s.size:Int):=by omega
 have hd:decide ((s.size:Int) < 1)=false:=decide_eq_false hsi
 have hd2:decide (12 < (s.size:Int))=false:=decide_eq_false hli
 have HS:=hid (show 1≤s.size∧s.size≤12 by omega)
 clear hs hl
 have HIN:Hid (∀ (b:Nat) (W:World),b < W.heap.size→(∀ k,k < 10→W.cell? ⟨b,k,none⟩=some (.string (keysL.getD k ByteArray.empty)))→Calls Tryz.prog 99 #[.slice (some ⟨b,0,none⟩) 10 10,.string s] W fun e w'=>e = .returned (.bool (inB keysL s))∧Below W.heap.size W w'):=hid fun b W h1 h2=>rin_any keysL s _ 10 10 W rfl (keys_rd h1 h2)
 cases hin:inB keysL s
 rotate_left
 ·have HR:=hid (name_in hin)
  rw [hin] at HIN
  clear hin
  go_enter Tryz.func64,Tryz.ntmps64
  go_wp2_with (first | (go_at_call 100;(with_reducible refine (rskeys_any _).mono ?_);rintro e V ⟨b,rfl,hlb,hkc,hbv⟩;have HLB:=hid hlb;have HKC:=hid hkc;have HBV:=hid hbv;clear hlb hkc hbv) | (go_at_call 99;(with_reducible refine (HIN.out _ _ HLB.out HKC.out).mono ?_);rintro e V2 ⟨rfl,hb2⟩;have HB2:=hid (qac HBV.out hb2);clear hb2))
  go_ret
  exact ⟨qaj HR.out.symm,HB2.out⟩
 have HNI:=hid (name_notin HS.out.1 HS.out.2 hin)
 rw [hin] at HIN
 clear hin
 go_enter Tryz.func64,Tryz.ntmps64
 go_upto_region 3 with (first | (go_at_call 100;(with_reducible refine (rskeys_any _).mono ?_);rintro e V ⟨b,rfl,hlb,hkc,hbv⟩;have HLB:=hid hlb;have HKC:=hid hkc;have HBV:=hid hbv;clear hlb hkc hbv) | (go_at_call 99;(with_reducible refine (HIN.out _ _ HLB.out HKC.out).mono ?_);rintro e V2 ⟨rfl,hb2⟩;have HB2:=hid (qac HBV.out hb2);clear hb2))
 clear HIN HLB HKC HBV
 go_wp2_with fail
 go_loopw [3] (fun q wr => ∃ i:Nat,i≤s.size∧q = .int .i64 (i:Int)∧qkc V2 wr∧Hid (qck i (qdm s))) (fun q _=>s.size - (intOf q).toNat)
 case atStart=>exact ⟨0,Nat.zero_le _,rfl,rfl,qck.zero _⟩
 case round =>
  obtain ⟨i,hi,rfl,hw,HSF⟩:=hrel
  obtain rfl:V2=wr:=hw.symm
  by_cases hlt:i < s.size
  ·have hii:(i:Int) < s.size:=by omega
   have HLT:=hid hlt
   have HX:=hid (show qj9 s i=((s[i]'hlt).toNat:Int) by unfold qj9;simp [hlt])
   have hcs:(97≤((s[i]'hlt).toNat:Int)∧((s[i]'hlt).toNat:Int)≤122)∨(((s[i]'hlt).toNat:Int) < 48)∨(48≤((s[i]'hlt).toNat:Int)∧((s[i]'hlt).toNat:Int)≤57)∨(((s[i]'hlt).toNat:Int)=95)∨(57 < ((s[i]'hlt).toNat:Int)∧((s[i]'hlt).toNat:Int) < 97∧((s[i]'hlt).toNat:Int)≠95)∨(122 < ((s[i]'hlt).toNat:Int)):=by omega
   rcases hcs with hc | hc | hc | hc | hc | hc
   ·have a1:97≤((s[i]'hlt).toNat:Int):=by omega
    have da1:decide (97≤((s[i]'hlt).toNat:Int))=true:=decide_eq_true a1
    have a2:((s[i]'hlt).toNat:Int)≤122:=by omega
    have da2:decide (((s[i]'hlt).toNat:Int)≤122)=true:=decide_eq_true a2
    have b1:48≤((s[i]'hlt).toNat:Int):=by omega
    have db1:decide (48≤((s[i]'hlt).toNat:Int))=true:=decide_eq_true b1
    have b2 : ¬ ((s[i]'hlt).toNat:Int)≤57:=by omega
    have db2:decide (((s[i]'hlt).toNat:Int)≤57)=false:=decide_eq_false b2
    have db3:(((s[i]'hlt).toNat:Int) == 95)=false:=qar (by omega)
    have HOK:=hid (okAt_low (s:=s) (i:=i) (by rw [HX.out];omega) (by rw [HX.out];omega))
    clear hc
    go_wp2_with fail
    go_roundw
    case rel=>exact ⟨i+1,by have:=HLT.out;omega,by go_num,rfl,HSF.out.succ HOK.out⟩
    case measure=>have:=HLT.out;simp [intOf];omega
   ·have a1 : ¬ 97≤((s[i]'hlt).toNat:Int):=by omega
    have da1:decide (97≤((s[i]'hlt).toNat:Int))=false:=decide_eq_false a1
    have a2:((s[i]'hlt).toNat:Int)≤122:=by omega
    have da2:decide (((s[i]'hlt).toNat:Int)≤122)=true:=decide_eq_true a2
    have b1 : ¬ 48≤((s[i]'hlt).toNat:Int):=by omega
    have db1:decide (48≤((s[i]'hlt).toNat:Int))=false:=decide_eq_false b1
    have b2:((s[i]'hlt).toNat:Int)≤57:=by omega
    have db2:decide (((s[i]'hlt).toNat:Int)≤57)=true:=decide_eq_true b2
    have db3:(((s[i]'hlt).toNat:Int) == 95)=false:=qar (by omega)
    by_cases hz:i=0
    ·subst hz
     have HR:=hid (qdf HLT.out (show qdm s 0=false by rw [qfg,HX.out];unfold qgm;simp only [Bool.and_eq_false_iff,decide_eq_false_iff_not];omega))
     clear hc
     go_wp2_with fail
     go_ret
     exact ⟨qaj HR.out.symm,HB2.out⟩
    ·have HR:=hid (qdf HLT.out (show qdm s i=false by unfold qdm qgm qio;rw [HX.out];simp only [Bool.or_eq_false_iff,Bool.and_eq_false_iff,decide_eq_false_iff_not,beq_eq_false_iff_ne];omega))
     have hzi : ¬ (i:Int)=0:=by omega
     have ez:((i:Int) == 0)=false:=qar hzi
     clear hc hz
     go_wp2_with fail
     go_ret
     exact ⟨qaj HR.out.symm,HB2.out⟩
   ·have a1 : ¬ 97≤((s[i]'hlt).toNat:Int):=by omega
    have da1:decide (97≤((s[i]'hlt).toNat:Int))=false:=decide_eq_false a1
    have a2:((s[i]'hlt).toNat:Int)≤122:=by omega
    have da2:decide (((s[i]'hlt).toNat:Int)≤122)=true:=decide_eq_true a2
    have b1:48≤((s[i]'hlt).toNat:Int):=by omega
    have db1:decide (48≤((s[i]'hlt).toNat:Int))=true:=decide_eq_true b1
    have b2:((s[i]'hlt).toNat:Int)≤57:=by omega
    have db2:decide (((s[i]'hlt).toNat:Int)≤57)=true:=decide_eq_true b2
    have db3:(((s[i]'hlt).toNat:Int) == 95)=false:=qar (by omega)
    by_cases hz:i=0
    ·subst hz
     have HR:=hid (qdf HLT.out (show qdm s 0=false by rw [qfg,HX.out];unfold qgm;simp only [Bool.and_eq_false_iff,decide_eq_false_iff_not];omega))
     clear hc
     go_wp2_with fail
     go_ret
     exact ⟨qaj HR.out.symm,HB2.out⟩
    ·have HOK:=hid (show qdm s i=true by unfold qdm qgm qio;rw [HX.out,decide_eq_true (show 0 < i by omega),decide_eq_true b1,decide_eq_true b2];simp)
     have hzi : ¬ (i:Int)=0:=by omega
     have ez:((i:Int) == 0)=false:=qar hzi
     clear hc hz
     go_wp2_with fail
     go_roundw
     case rel=>exact ⟨i+1,by have:=HLT.out;omega,by go_num,rfl,HSF.out.succ HOK.out⟩
     case measure=>have:=HLT.out;simp [intOf];omega
   ·have a1 : ¬ 97≤((s[i]'hlt).toNat:Int):=by omega
    have da1:decide (97≤((s[i]'hlt).toNat:Int))=false:=decide_eq_false a1
    have a2:((s[i]'hlt).toNat:Int)≤122:=by omega
    have da2:decide (((s[i]'hlt).toNat:Int)≤122)=true:=decide_eq_true a2
    have b1:48≤((s[i]'hlt).toNat:Int):=by omega
    have db1:decide (48≤((s[i]'hlt).toNat:Int))=true:=decide_eq_true b1
    have b2 : ¬ ((s[i]'hlt).toNat:Int)≤57:=by omega
    have db2:decide (((s[i]'hlt).toNat:Int)≤57)=false:=decide_eq_false b2
    have db3:(((s[i]'hlt).toNat:Int) == 95)=true:=beq_iff_eq.2 (by omega)
    by_cases hz:i=0
    ·subst hz
     have HR:=hid (qdf HLT.out (show qdm s 0=false by rw [qfg,HX.out];unfold qgm;simp only [Bool.and_eq_false_iff,decide_eq_false_iff_not];omega))
     clear hc
     go_wp2_with fail
     go_ret
     exact ⟨qaj HR.out.symm,HB2.out⟩
    ·have HOK:=hid (show qdm s i=true by unfold qdm qgm qio;rw [HX.out,decide_eq_true (show 0 < i by omega),db3];simp)
     have hzi : ¬ (i:Int)=0:=by omega
     have ez:((i:Int) == 0)=false:=qar hzi
     clear hc hz
     go_wp2_with fail
     go_roundw
     case rel=>exact ⟨i+1,by have:=HLT.out;omega,by go_num,rfl,HSF.out.succ HOK.out⟩
     case measure=>have:=HLT.out;simp [intOf];omega
   ·have a1 : ¬ 97≤((s[i]'hlt).toNat:Int):=by omega
    have da1:decide (97≤((s[i]'hlt).toNat:Int))=false:=decide_eq_false a1
    have a2:((s[i]'hlt).toNat:Int)≤122:=by omega
    have da2:decide (((s[i]'hlt).toNat:Int)≤122)=true:=decide_eq_true a2
    have b1:48≤((s[i]'hlt).toNat:Int):=by omega
    have db1:decide (48≤((s[i]'hlt).toNat:Int))=true:=decide_eq_true b1
    have b2 : ¬ ((s[i]'hlt).toNat:Int)≤57:=by omega
    have db2:decide (((s[i]'hlt).toNat:Int)≤57)=false:=decide_eq_false b2
    have db3:(((s[i]'hlt).toNat:Int) == 95)=false:=qar (by omega)
    by_cases hz:i=0
    ·subst hz
     have HR:=hid (qdf HLT.out (show qdm s 0=false by rw [qfg,HX.out];unfold qgm;simp only [Bool.and_eq_false_iff,decide_eq_false_iff_not];omega))
     clear hc
     go_wp2_with fail
     go_ret
     exact ⟨qaj HR.out.symm,HB2.out⟩
    ·have HR:=hid (qdf HLT.out (show qdm s i=false by unfold qdm qgm qio;rw [HX.out];simp only [Bool.or_eq_false_iff,Bool.and_eq_false_iff,decide_eq_false_iff_not,beq_eq_false_iff_ne];omega))
     have hzi : ¬ (i:Int)=0:=by omega
     have ez:((i:Int) == 0)=false:=qar hzi
     clear hc hz
     go_wp2_with fail
     go_ret
     exact ⟨qaj HR.out.symm,HB2.out⟩
   ·have a1:97≤((s[i]'hlt).toNat:Int):=by omega
    have da1:decide (97≤((s[i]'hlt).toNat:Int))=true:=decide_eq_true a1
    have a2 : ¬ ((s[i]'hlt).toNat:Int)≤122:=by omega
    have da2:decide (((s[i]'hlt).toNat:Int)≤122)=false:=decide_eq_false a2
    have b1:48≤((s[i]'hlt).toNat:Int):=by omega
    have db1:decide (48≤((s[i]'hlt).toNat:Int))=true:=decide_eq_true b1
    have b2 : ¬ ((s[i]'hlt).toNat:Int)≤57:=by omega
    have db2:decide (((s[i]'hlt).toNat:Int)≤57)=false:=decide_eq_false b2
    have db3:(((s[i]'hlt).toNat:Int) == 95)=false:=qar (by omega)
    by_cases hz:i=0
    ·subst hz
     have HR:=hid (qdf HLT.out (show qdm s 0=false by rw [qfg,HX.out];unfold qgm;simp only [Bool.and_eq_false_iff,decide_eq_false_iff_not];omega))
     clear hc
     go_wp2_with fail
     go_ret
     exact ⟨qaj HR.out.symm,HB2.out⟩
    ·have HR:=hid (qdf HLT.out (show qdm s i=false by unfold qdm qgm qio;rw [HX.out];simp only [Bool.or_eq_false_iff,Bool.and_eq_false_iff,decide_eq_false_iff_not,beq_eq_false_iff_ne];omega))
     have hzi : ¬ (i:Int)=0:=by omega
     have ez:((i:Int) == 0)=false:=qar hzi
     clear hc hz
     go_wp2_with fail
     go_ret
     exact ⟨qaj HR.out.symm,HB2.out⟩
  ·have hii : ¬ (i:Int) < s.size:=by omega
   have HR:=hid (show nameB s=true by rw [HNI.out];exact HSF.out.all (by omega))
   go_wp2_with fail
   go_ret
   exact ⟨qaj HR.out.symm,HB2.out⟩
theorem qc7 {s:ByteArray} {w:World} (r:Bool) (hr:nameB s=r):Calls Tryz.prog 64 #[.string s] w fun e w'=>e = .returned (.bool r)∧Below w.heap.size w w':=by
 subst hr;exact rsname_any s w
theorem qgh {D:Dom} {l:List Sg} {s:ByteArray} {A:Option Addr} {c n:Nat} {w:World} (r:Int) (hr:qfw l s=r) (hn:n=l.length) (h:RdG w D A c l) :
  Calls Tryz.prog 65 #[.slice A n c,.string s] w fun e w'=>e = .returned (.int .i64 r)∧Below w.heap.size w w':=by
 subst hr;exact rsfind_any l s A c n w hn h
theorem findZ_own {l:List Sg} {i:Nat} (hi:i < l.length) {s:ByteArray} (hs:(l.getD i default).name=s):qfw l s=(qe7 l s:Int)∧qe7 l s≤i:=by
 have h1:=findN_le hi hs
 refine ⟨?_,h1⟩
 unfold qfw
 rw [if_pos (by omega)]
theorem rsvalid_any {D:Dom} (l:List Sg) (A:Option Addr) (c n:Nat) (w:World) (hn:n=l.length) (h:RdG w D A c l) :
  Calls Tryz.prog 39 #[.slice A n c] w fun e w'=>e = .returned (.bool (qcf l))∧Below w.heap.size w w':=by
 subst hn
 have hlen:=h.len.1
 have HH:=hid h.old
 clear h
 by_cases h1:l.length < 1
 ·have HR:=hid (show qcf l=false by unfold qcf;rw [decide_eq_false (by omega)];rfl)
  have d1':(l.length:Int) < 1:=by omega
  have d1:decide ((l.length:Int) < 1)=true:=decide_eq_true d1'
  clear h1
  go_enter Tryz.func39,Tryz.ntmps39
  go_wp2_with fail
  go_ret
  exact ⟨qaj HR.out.symm,by go_grown⟩
 by_cases h2:6 < l.length
 ·have HR:=hid (show qcf l=false by unfold qcf;rw [decide_eq_false (show ¬ l.length≤6 by omega)];simp)
  have d1' : ¬ (l.length:Int) < 1:=by omega
  have d2':6 < (l.length:Int):=by omega
  have d1:decide ((l.length:Int) < 1)=false:=decide_eq_false d1'
  have d2:decide (6 < (l.length:Int))=true:=decide_eq_true d2'
  clear h1 h2
  go_enter Tryz.func39,Tryz.ntmps39
  go_wp2_with fail
  go_ret
  exact ⟨qaj HR.out.symm,by go_grown⟩
 have d1' : ¬ (l.length:Int) < 1:=by omega
 have d2' : ¬ 6 < (l.length:Int):=by omega
 have d1:decide ((l.length:Int) < 1)=false:=decide_eq_false d1'
 have d2:decide (6 < (l.length:Int))=false:=decide_eq_false d2'
 have H16:=hid (show 1≤l.length∧l.length≤6 by omega)
 clear h1 h2
 go_enter Tryz.func39,Tryz.ntmps39
 go_wp2_with fail
 go_loopw [3,4] (fun r q wr => ∃ (i:Nat) (P:Int),i≤l.length∧q = .int .i64 (i:Int)∧r = .int .i64 P∧Hid (PrOk l i P)∧Hid (qck i (sgOk l))∧Hid (Below w.heap.size w wr)) (fun _ q _=>l.length - (intOf q).toNat)
 case atStart=>exact ⟨0,1,Nat.zero_le _,rfl,rfl,PrOk.zero l,qck.zero _,Below.refl _ _⟩
 case round =>
  obtain ⟨i,P,hi,rfl,rfl,HP,HS,HBL⟩:=hrel
  by_cases hlt:i < l.length
  ·have hii:(i:Int) < l.length:=by omega
   have HI6:=hid (show i < 6 by have:=H16.out;omega)
   have HLT:=hid hlt
   have HHr:=hid (HH.out.any HBL.out)
   obtain ⟨b,o,s,rfl,hlb,HX,x0,x1,x2⟩:=HHr.out.get hlt
   have HOK:=hid (show sgOk l i=(nameB s.name && decide (2≤s.size) && decide (s.size≤4) && decide (i≤qe7 l s.name)) by unfold sgOk;rw [HX.out])
   have HNAME:=hid (show (l.getD i default).name=s.name by rw [HX.out])
   have HSIZE:=hid (show (l.getD i default).size=s.size by rw [HX.out])
   have HFZ:=hid (findZ_own hlt HNAME.out)
   clear HX
   cases hq:nameB s.name
   ·have HR:=hid (qkf HLT.out (by rw [HOK.out,hq];rfl))
    have HQ:=hid hq
    clear hq
    go_wp2_with (go_at_call 64;(with_reducible refine (qc7 false HQ.out).mono ?_);rintro e w2 ⟨rfl,hb2⟩;have HB2:=hid (qac HBL.out hb2);clear hb2)
    go_ret
    exact ⟨qaj HR.out.symm,HB2.out⟩
   have HQ:=hid hq
   clear hq
   obtain ⟨fk,hfk⟩ : ∃ fk,qe7 l s.name=fk:=⟨_,rfl⟩
   rw [hfk] at HOK HFZ
   have HFK:=hid hfk
   have hfi:fk≤i:=HFZ.out.2
   clear hfk
   by_cases hfe:fk=i
   rotate_left
   ·have HR:=hid (qkf HLT.out (by rw [HOK.out,decide_eq_false (show ¬ i≤fk by omega)];simp))
    have dfi : ¬ (fk:Int)=(i:Int):=by omega
    have df:((fk:Int) != (i:Int))=true:=bne_iff_ne.2 dfi
    clear hfe
    go_wp2_with (first | (go_at_call 64;(with_reducible refine (qc7 true HQ.out).mono ?_);rintro e w2 ⟨rfl,hb2⟩;have HB2:=hid hb2;have y0:=(hb2.cell (p:=⟨b,o+i * 3,none⟩) hlb).trans x0;have y2:=(hb2.cell (p:=⟨b,o+i * 3+2,none⟩) hlb).trans x2;have hl2:=Nat.lt_of_lt_of_le hlb hb2.size;clear hb2 x0 x1 x2 hlb) | (go_at_call 65;(with_reducible refine (qgh (fk:Int) HFZ.out.1 rfl (HHr.out.any HB2.out)).mono ?_);rintro e w3 ⟨rfl,hb3⟩;have HB3:=hid (qac HB2.out hb3);have z0:=(hb3.cell (p:=⟨b,o+i * 3,none⟩) hl2).trans y0;have z2:=(hb3.cell (p:=⟨b,o+i * 3+2,none⟩) hl2).trans y2;have hl3:=Nat.lt_of_lt_of_le hl2 hb3.size;clear hb3 y0 y2 hl2))
    go_ret
    exact ⟨qaj HR.out.symm,qac HBL.out HB3.out⟩
   have df:((fk:Int) != (i:Int))=false:=by simp [hfe]
   have dfi:(fk:Int)=(i:Int):=by omega
   by_cases hs2:s.size < 2
   ·have HR:=hid (qkf HLT.out (by rw [HOK.out,decide_eq_false (show ¬ 2≤s.size by omega)];simp))
    have ds2:decide (s.size < 2)=true:=decide_eq_true hs2
    go_wp2_with (first | (go_at_call 64;(with_reducible refine (qc7 true HQ.out).mono ?_);rintro e w2 ⟨rfl,hb2⟩;have HB2:=hid hb2;have y0:=(hb2.cell (p:=⟨b,o+i * 3,none⟩) hlb).trans x0;have y2:=(hb2.cell (p:=⟨b,o+i * 3+2,none⟩) hlb).trans x2;have hl2:=Nat.lt_of_lt_of_le hlb hb2.size;clear hb2 x0 x1 x2 hlb) | (go_at_call 65;(with_reducible refine (qgh (fk:Int) HFZ.out.1 rfl (HHr.out.any HB2.out)).mono ?_);rintro e w3 ⟨rfl,hb3⟩;have HB3:=hid (qac HB2.out hb3);have z0:=(hb3.cell (p:=⟨b,o+i * 3,none⟩) hl2).trans y0;have z2:=(hb3.cell (p:=⟨b,o+i * 3+2,none⟩) hl2).trans y2;have hl3:=Nat.lt_of_lt_of_le hl2 hb3.size;clear hb3 y0 y2 hl2))
    go_ret
    exact ⟨qaj HR.out.symm,qac HBL.out HB3.out⟩
   have ds2:decide (s.size < 2)=false:=decide_eq_false hs2
   by_cases hs4:4 < s.size
   ·have HR:=hid (qkf HLT.out (by rw [HOK.out,decide_eq_false (show ¬ s.size≤4 by omega)];simp))
    have ds4:decide (4 < s.size)=true:=decide_eq_true hs4
    go_wp2_with (first | (go_at_call 64;(with_reducible refine (qc7 true HQ.out).mono ?_);rintro e w2 ⟨rfl,hb2⟩;have HB2:=hid hb2;have y0:=(hb2.cell (p:=⟨b,o+i * 3,none⟩) hlb).trans x0;have y2:=(hb2.cell (p:=⟨b,o+i * 3+2,none⟩) hlb).trans x2;have hl2:=Nat.lt_of_lt_of_le hlb hb2.size;clear hb2 x0 x1 x2 hlb) | (go_at_call 65;(with_reducible refine (qgh (fk:Int) HFZ.out.1 rfl (HHr.out.any HB2.out)).mono ?_);rintro e w3 ⟨rfl,hb3⟩;have HB3:=hid (qac HB2.out hb3);have z0:=(hb3.cell (p:=⟨b,o+i * 3,none⟩) hl2).trans y0;have z2:=(hb3.cell (p:=⟨b,o+i * 3+2,none⟩) hl2).trans y2;have hl3:=Nat.lt_of_lt_of_le hl2 hb3.size;clear hb3 y0 y2 hl2))
    go_ret
    exact ⟨qaj HR.out.symm,qac HBL.out HB3.out⟩
   have ds4:decide (4 < s.size)=false:=decide_eq_false hs4
   have HOKT:=hid (show sgOk l i=true by
    rw [HOK.out,HQ.out,decide_eq_true (show 2≤s.size by omega),decide_eq_true (show s.size≤4 by omega),decide_eq_true (show i≤fk by omega)]
    rfl)
   have HW:=hid (HP.out.wrap (s:=s.size) HI6.out (by omega) (by omega))
   have HPN:=hid (HP.out.succ HLT.out HI6.out HSIZE.out (by omega) (by omega))
   have hwr:=HW.out
   go_wp2_with (first | (go_at_call 64;(with_reducible refine (qc7 true HQ.out).mono ?_);rintro e w2 ⟨rfl,hb2⟩;have HB2:=hid hb2;have y0:=(hb2.cell (p:=⟨b,o+i * 3,none⟩) hlb).trans x0;have y2:=(hb2.cell (p:=⟨b,o+i * 3+2,none⟩) hlb).trans x2;have hl2:=Nat.lt_of_lt_of_le hlb hb2.size;clear hb2 x0 x1 x2 hlb) | (go_at_call 65;(with_reducible refine (qgh (fk:Int) HFZ.out.1 rfl (HHr.out.any HB2.out)).mono ?_);rintro e w3 ⟨rfl,hb3⟩;have HB3:=hid (qac HB2.out hb3);have z0:=(hb3.cell (p:=⟨b,o+i * 3,none⟩) hl2).trans y0;have z2:=(hb3.cell (p:=⟨b,o+i * 3+2,none⟩) hl2).trans y2;have hl3:=Nat.lt_of_lt_of_le hl2 hb3.size;clear hb3 y0 y2 hl2))
   go_roundw
   case rel=>exact ⟨i+1,P * s.size,by have:=HLT.out;omega,by go_num,(by first | rfl | rw [hwr]),HPN.out,HS.out.succ HOKT.out,qac HBL.out HB3.out⟩
   case measure=>have:=HLT.out;simp [intOf];omega
  ·have hii : ¬ (i:Int) < l.length:=by omega
   have HPR:=hid (show P=prodS l by have:=HP.out.is;rw [List.take_of_length_le (by omega)] at this;exact this)
   have HV:=hid (show qcf l=decide (P≤64) by
    unfold qcf
    rw [decide_eq_true H16.out.1,decide_eq_true H16.out.2,HS.out.all (by omega),←HPR.out];rfl)
   go_wp2_with fail
   go_ret
   exact ⟨qaj HV.out.symm,HBL.out⟩
end Go.Proofs.YtdakdpfofgkjoaaGreatDoor
namespace Go.Proofs.YtdakdpfofgkjoaaGreatDoor
open Go.RowKit Go.Shelf
attribute [local go_sem] qad qbo
theorem qej (l:List Sg) : ∀ L M:List (Fm × Bool),qfi l (L ++ M)=if qfi l L=0 then qfi l M else qfi l L
 | [],M=>by simp [qfi]
 | x :: r,M=>by
  rw [List.cons_append,qfi,qfi,qej l r M]
  by_cases h:qbn l x.1=0
  ·rw [if_pos h,if_pos h]
  ·rw [if_neg h,if_neg h,if_neg h]
theorem errL_preLs {l:List Sg} {a b:Bool} : ∀ {fs:List Fm},(∀ f,f∈fs→qfi l (qdl a f)=qfi l (qdl b f))→qfi l (qdk a fs)=qfi l (qdk b fs)
 | [],_=>rfl
 | f :: fs,h=>by
  simp only [qdk]
  rw [qej,qej,h f (by simp),errL_preLs fun g hg=>h g (by simp [hg])]
theorem errL_flag (l:List Sg) (f:Fm) : ∀ a b,qfi l (qdl a f)=qfi l (qdl b f):=by
 refine Fm.induct (P:=fun f => ∀ a b,qfi l (qdl a f)=qfi l (qdl b f)) ?_ f
 intro f ih a b
 rw [qei,qei,qfi,qfi]
 have:qfi l (qdk (a || (qah f.op).past) f.args)=qfi l (qdk (b || (qah f.op).past) f.args):=errL_preLs fun g hg=>by
  obtain ⟨i,hi,rfl⟩:=List.getElem_of_mem hg
  have e:f.args.getD i default=f.args[i]:=by simp [List.getD,hi]
  rw [←e];exact ih i hi _ _
 rw [this]
def qfx (l:List Sg) (f:Fm):Int:=qfi l (qdl false f)
theorem err1_node {l:List Sg} {f:Fm} (h:qbn l f≠0):qfx l f=qbn l f:=by
 unfold qfx;rw [qei,qfi,if_neg h]
theorem errLs_zero {l:List Sg} {b:Bool} : ∀ {fs:List Fm},(∀ j,j < fs.length→qfx l (fs.getD j default)=0)→qfi l (qdk b fs)=0
 | [],_=>rfl
 | f :: fs,h=>by
  simp only [qdk]
  have h0:qfi l (qdl b f)=0:=by rw [errL_flag l f b false];exact h 0 (by simp)
  rw [qej,if_pos h0]
  exact errLs_zero fun j hj=>by
   have:=h (j+1) (by simpa using hj)
   rwa [List.getD_cons_succ] at this
theorem errLs_at {l:List Sg} {b:Bool} : ∀ {fs:List Fm} {i:Nat},(∀ j,j < i→qfx l (fs.getD j default)=0)→i < fs.length→qfx l (fs.getD i default)≠0→qfi l (qdk b fs)=qfx l (fs.getD i default)
 | [],i,_,h,_=>absurd h (Nat.not_lt_zero _)
 | f :: fs,0,_,_,hn=>by
  simp only [qdk]
  have e:qfi l (qdl b f)=qfx l f:=errL_flag l f b false
  have hn:qfx l f≠0:=hn
  rw [qej,e,if_neg hn]
  rfl
 | f :: fs,i+1,h,hi,hn=>by
  simp only [qdk]
  have h0:qfi l (qdl b f)=0:=by rw [errL_flag l f b false];exact h 0 (by omega)
  rw [List.getD_cons_succ] at hn ⊢
  rw [qej,if_pos h0]
  exact errLs_at (fun j hj=>by
   have:=h (j+1) (by omega)
   rwa [List.getD_cons_succ] at this) (by simpa using hi) hn
theorem err1_none {l:List Sg} {f:Fm} (h:qbn l f=0) (ha : ∀ j,j < f.args.length→qfx l (f.args.getD j default)=0):qfx l f=0:=by
 unfold qfx;rw [qei,qfi,if_pos h];exact errLs_zero ha
theorem err1_arg {l:List Sg} {f:Fm} {i:Nat} (h:qbn l f=0) (ha : ∀ j,j < i→qfx l (f.args.getD j default)=0) (hi:i < f.args.length) (hn:qfx l (f.args.getD i default)≠0):qfx l f=qfx l (f.args.getD i default):=by
 rw [show qfx l f=qfi l (qdk (false || (qah f.op).past) f.args) by unfold qfx;rw [qei,qfi,if_pos h]]
 exact errLs_at ha hi hn
theorem rpastop_any (x:Int) (w:World):Calls Tryz.prog 68 #[.int .i64 x] w fun e w'=>e = .returned (.bool (qez x))∧Below w.heap.size w w':=by
 by_cases h1:15≤x
 ·have d1:=decide_eq_true h1
  by_cases h2:x≤19
  ·have d2:=decide_eq_true h2
   have HR:=hid (show qez x=true by unfold qez;rw [d1,d2];rfl)
   go_enter Tryz.func68,Tryz.ntmps68
   go_wp2_with fail
   go_ret
   exact ⟨qaj HR.out.symm,Below.refl _ _⟩
  ·have d2:=decide_eq_false h2
   have HR:=hid (show qez x=false by unfold qez;rw [d1,d2];rfl)
   go_enter Tryz.func68,Tryz.ntmps68
   go_wp2_with fail
   go_ret
   exact ⟨qaj HR.out.symm,Below.refl _ _⟩
 ·have d1:=decide_eq_false h1
  have HR:=hid (show qez x=false by unfold qez;rw [d1];rfl)
  go_enter Tryz.func68,Tryz.ntmps68
  go_wp2_with fail
  go_ret
  exact ⟨qaj HR.out.symm,Below.refl _ _⟩
theorem qir {x:Int} {w:World} (r:Bool) (hr:qez x=r):Calls Tryz.prog 68 #[.int .i64 x] w fun e w'=>e = .returned (.bool r)∧Below w.heap.size w w':=by
 subst hr;exact rpastop_any x w
theorem rpast_r {D:Dom} {v:Value} {f:Fm} {w:World} (r:Bool) (hr:allB qff f=r) (h:qby w D v f):Calls Tryz.prog 69 #[v] w fun e w'=>e = .returned (.bool r)∧Below w.heap.size w w':=by
 subst hr;rw [←pastA_eq];exact rpast_any f v w h
theorem qe4 {l:List Sg} {f:Fm} {x:Int} (h:qfx l f=x):Ending.returned (.int .i64 x)=Ending.returned (.int .i64 (qfx l f)):=by rw [h]
theorem rfirst_any (l:List Sg) (AS:Option Addr) (cS:Nat) (f:Fm) : ∀ {D E:Dom} (v:Value) (w:World) (hl:RdG w D AS cS l) (h:qby w E v f),
  Calls Tryz.prog 41 #[.slice AS l.length cS,v] w fun e w'=>e = .returned (.int .i64 (qfx l f))∧Below w.heap.size w w':=by
 refine Fm.induct (P:=fun f => ∀ {D E:Dom} (v:Value) (w:World) (hl:RdG w D AS cS l) (h:qby w E v f),Calls Tryz.prog 41 #[.slice AS l.length cS,v] w fun e w'=>e = .returned (.int .i64 (qfx l f))∧Below w.heap.size w w') ?_ f
 intro f ih D E v w hl h
 have HIH:=hid ih
 obtain ⟨A,c,rfl,ha⟩:=h
 have HA:=hid ha.old
 have HL:=hid hl.old
 have hal:=ha.len.1
 have hlen:=hl.len.1
 clear ih ha hl
 go_enter Tryz.func41,Tryz.ntmps41
 go_upto_region 1 with (fail)
 refine qai fun W hW => ?_
 have hbx:qdd W w.heap.size f A c:=by rw [hW];exact qdd.new w f A c
 have HBX:=hid hbx
 have HBW:=hid (show Below w.heap.size w W by rw [hW];go_grown)
 clear hW hbx
 by_cases h3:f.op=3
 ·have d3:=qb6 h3
  have HPO:=hid (show qez f.op=false by rw [h3];rfl)
  have HN3:=hid (nodeErr_is3 (l:=l) h3)
  clear h3
  obtain ⟨x0,x1,x2,x3,x4,xl⟩:=HBX.out.cells
  by_cases hfn:qe7 l f.name < l.length
  ·have HZF:=hid (show qfw l f.name=((qe7 l f.name:Nat):Int) by unfold qfw;rw [if_pos hfn])
   obtain ⟨k,hk⟩ : ∃ k,qe7 l f.name=k:=⟨_,rfl⟩
   rw [hk] at HZF HN3 hfn
   clear hk
   have hkl:(k:Int) < l.length:=by omega
   have hk0 : ¬ (k:Int) < 0:=by omega
   rw [if_pos hfn] at HN3
   obtain ⟨bg,og,s,rfl,hlg,HX,g0,g1,g2⟩:=(HL.out.any HBW.out).get hfn
   have HSZ:=hid (show (l.getD k default).size=s.size by rw [HX.out])
   rw [HSZ.out] at HN3
   clear HX
   by_cases hs:s.size≤f.val
   ·rw [if_pos hs] at HN3
    have HR:=hid (show qfx l f=71 by rw [err1_node (by rw [HN3.out];decide)];exact HN3.out)
    have ds:decide (s.size≤f.val)=true:=decide_eq_true hs
    go_upto_region 5 with (go_at_call 65;(with_reducible refine (qgh (k:Int) HZF.out rfl (HL.out.any HBW.out)).mono ?_);rintro e W2 ⟨rfl,hb2⟩;have k0:=(hb2.cell (p:=⟨bg,og+k * 3+2,none⟩) hlg).trans g2;have k2:=(hb2.cell (p:=⟨w.heap.size,2,none⟩) xl).trans x2;have hl2:=Nat.lt_of_lt_of_le hlg hb2.size;have hl3:=Nat.lt_of_lt_of_le xl hb2.size;have HB2:=hid hb2;clear hb2 g0 g1 g2 x0 x1 x2 x3 x4 hlg xl)
    go_quiet (fail)
    go_wp2_with fail
    go_ret
    exact ⟨qe4 HR.out,qac HBW.out (below_drewN HB2.out _)⟩
   ·rw [if_neg hs] at HN3
    have HN0:=hid HN3.out
    have ds:decide (s.size≤f.val)=false:=decide_eq_false hs
    go_upto_region 5 with (go_at_call 65;(with_reducible refine (qgh (k:Int) HZF.out rfl (HL.out.any HBW.out)).mono ?_);rintro e W2 ⟨rfl,hb2⟩;have k0:=(hb2.cell (p:=⟨bg,og+k * 3+2,none⟩) hlg).trans g2;have k2:=(hb2.cell (p:=⟨w.heap.size,2,none⟩) xl).trans x2;have hl2:=Nat.lt_of_lt_of_le hlg hb2.size;have hl3:=Nat.lt_of_lt_of_le xl hb2.size;have HB2:=hid hb2;clear hb2 g0 g1 g2 x0 x1 x2 x3 x4 hlg xl)
    go_quiet (fail)
    have HBA0:=hid (below_drewN HB2.out nq)
    clear k0 k2 hl2 hl3 hs ds hkl hk0 hfn
    go_upto_region 7 with (fail)
    refine qai fun WA hWA => ?_
    have HBA:=hid (show Below W.heap.size W WA by rw [hWA];first | exact Below.refl _ _ | exact HBA0.out | go_grown)
    clear hWA
    (try clear x0);(try clear x1);(try clear x2);(try clear x3);(try clear x4);(try clear xl)
    go_wp2_with fail
    go_loopw [6] (fun q wr => ∃ i:Nat,i≤f.args.length∧q = .int .i64 (i:Int)∧Hid (Below W.heap.size W wr)∧True) (fun q _=>f.args.length - (intOf q).toNat)
    case atStart=>exact ⟨0,Nat.zero_le _,rfl,HBA.out,trivial⟩
    case round =>
     obtain ⟨i,hi,rfl,HB,HSF⟩:=hrel
     obtain ⟨x0,x1,x2,x3,x4,xl⟩:=(HBX.out.below HB.out).cells
     have HBR:=hid (HBW.out.trans (HB.out.mono HBW.out.size))
     by_cases hlt:i < f.args.length
     ·have hii:(i:Int) < f.args.length:=by omega
      have HLT:=hid hlt
      obtain ⟨b,o,A',c',g,heq,HG,hg⟩:=(HA.out.keep (Keeps.of_below HBR.out fun _ h=>h)).get hlt
      cases heq
      obtain ⟨gd,gl,g0,g1,g2,g3,g4,ga⟩:=hg
      have HGA:=hid ga
      clear ga
      go_wp2_with (go_at_call 68;(with_reducible refine (qir false HPO.out).mono ?_);rintro e w1 ⟨rfl,hb1⟩;have HB1:=hid (qac HB.out hb1);clear hb1)
      go_roundw
      case rel=>exact ⟨i+1,by have:=HLT.out;omega,by go_num,HB1.out,trivial⟩
      case measure=>have:=HLT.out;simp [intOf];omega
     ·have hii : ¬ (i:Int) < f.args.length:=by omega
      go_upto_region 12 with (fail)
      clear x0 x1 x2 x3 x4 xl
      go_wp2_with fail
      go_loopw [7] (fun q wr2 => ∃ i:Nat,i≤f.args.length∧q = .int .i64 (i:Int)∧Hid (Below W.heap.size W wr2)∧Hid (∀ j,j < i→qfx l (f.args.getD j default)=0)) (fun q _=>f.args.length - (intOf q).toNat)
      case atStart=>exact ⟨0,Nat.zero_le _,rfl,HB.out,fun j hj=>absurd hj (Nat.not_lt_zero _)⟩
      case round =>
       obtain ⟨k,hk,rfl,HBK,HZ⟩:=hrel
       obtain ⟨x0,x1,x2,x3,x4,xl⟩:=(HBX.out.below HBK.out).cells
       have HBKR:=hid (HBW.out.trans (HBK.out.mono HBW.out.size))
       by_cases hlk:k < f.args.length
       ·have hkk:(k:Int) < f.args.length:=by omega
        have HLK:=hid hlk
        obtain ⟨b,o,A',c',g,heq,HG,hg⟩:=(HA.out.keep (Keeps.of_below HBKR.out fun _ h=>h)).get hlk
        cases heq
        obtain ⟨gd,gl,g0,g1,g2,g3,g4,ga⟩:=hg
        have HCALL:=hid (HIH.out k hlk (D:=qbw) (E:=(· < w.heap.size)) (.agg #[.int .i64 g.op,.string g.name,.int .i64 g.val,.int .i64 g.bound,.slice A' g.args.length c']) wr (HL.out.any HBKR.out) (by rw [HG.out];exact ⟨A',c',rfl,ga⟩))
        rw [HG.out] at HCALL
        obtain ⟨ev,hev⟩ : ∃ ev,qfx l g=ev:=⟨_,rfl⟩
        rw [hev] at HCALL
        have HEV:=hid (show qfx l (f.args.getD k default)=ev by rw [HG.out];exact hev)
        clear hev ga
        by_cases he0:ev=0
        ·rw [he0] at HCALL HEV
         clear he0
         go_wp2_with (go_at_call 41;(with_reducible refine HCALL.out.mono ?_);rintro e w2 ⟨rfl,hb2⟩;have HB2:=hid (qac HBK.out hb2);clear hb2)
         go_roundw
         case rel=>exact ⟨k+1,by have:=HLK.out;omega,by go_num,HB2.out,fun j hj=>by
          by_cases e:j=k
          ·rw [e];exact HEV.out
          ·exact HZ.out j (by omega)⟩
         case measure=>have:=HLK.out;simp [intOf];omega
        ·have hen:(ev != 0)=true:=bne_iff_ne.2 he0
         have HR:=hid (show qfx l f=ev by rw [err1_arg HN0.out HZ.out HLK.out (by rw [HEV.out];exact he0)];exact HEV.out)
         clear he0
         go_wp2_with (go_at_call 41;(with_reducible refine HCALL.out.mono ?_);rintro e w2 ⟨rfl,hb2⟩;have HB2:=hid (qac HBK.out hb2);clear hb2)
         go_ret
         exact ⟨qe4 HR.out,qac HBW.out HB2.out⟩
       ·have hkk : ¬ (k:Int) < f.args.length:=by omega
        have HR:=hid (show qfx l f=0 from err1_none HN0.out fun j hj=>HZ.out j (by omega))
        go_wp2_with fail
        go_ret
        exact ⟨qe4 HR.out,HBKR.out⟩
  ·rw [if_neg hfn] at HN3
   have HZF:=hid (show qfw l f.name = -1 by unfold qfw;rw [if_neg hfn])
   have HR:=hid (show qfx l f=70 by rw [err1_node (by rw [HN3.out];decide)];exact HN3.out)
   clear hfn
   go_wp2_with (go_at_call 65;(with_reducible refine (qgh (-1) HZF.out rfl (HL.out.any HBW.out)).mono ?_);rintro e W2 ⟨rfl,hb2⟩;have HB2:=hid hb2;clear hb2)
   go_ret
   exact ⟨qe4 HR.out,qac HBW.out HB2.out⟩
 have d3:=qar h3
 obtain ⟨x0,x1,x2,x3,x4,xl⟩:=HBX.out.cells
 by_cases hp:15≤f.op∧f.op≤19
 ·have HPO:=hid (show qez f.op=true by unfold qez;rw [decide_eq_true hp.1,decide_eq_true hp.2];rfl)
  have HNP:=hid (nodeErr_isP (l:=l) hp)
  clear h3 hp
  go_upto_region 7 with (fail)
  refine qai fun WA hWA => ?_
  have HBA:=hid (show Below W.heap.size W WA by rw [hWA];first | exact Below.refl _ _ | exact HBA0.out | go_grown)
  clear hWA
  (try clear x0);(try clear x1);(try clear x2);(try clear x3);(try clear x4);(try clear xl)
  go_wp2_with fail
  go_loopw [6] (fun q wr => ∃ i:Nat,i≤f.args.length∧q = .int .i64 (i:Int)∧Hid (Below W.heap.size W wr)∧Hid (qck i fun j=>allB qff (f.args.getD j default))) (fun q _=>f.args.length - (intOf q).toNat)
  case atStart=>exact ⟨0,Nat.zero_le _,rfl,HBA.out,qck.zero _⟩
  case round =>
   obtain ⟨i,hi,rfl,HB,HSF⟩:=hrel
   obtain ⟨x0,x1,x2,x3,x4,xl⟩:=(HBX.out.below HB.out).cells
   have HBR:=hid (HBW.out.trans (HB.out.mono HBW.out.size))
   by_cases hlt:i < f.args.length
   ·have hii:(i:Int) < f.args.length:=by omega
    have HLT:=hid hlt
    obtain ⟨b,o,A',c',g,heq,HG,hg⟩:=(HA.out.keep (Keeps.of_below HBR.out fun _ h=>h)).get hlt
    cases heq
    obtain ⟨gd,gl,g0,g1,g2,g3,g4,ga⟩:=hg
    have HGA:=hid ga
    clear ga
    clear x0 x1 x2 x3 x4 xl
    obtain ⟨x0,x1,x2,x3,x4,xl⟩:=(HBX.out.below HB.out).cells
    cases hq:allB qff g
    ·have HQ:=hid hq
     have HR:=hid (show qfx l f=72 by
      have h1:qbn l f=72:=by rw [HNP.out,if_neg];rw [qka HLT.out (by rw [HG.out];exact hq)];simp
      rw [err1_node (by omega)];exact h1)
     clear hq
     go_wp2_with (first | (go_at_call 68;(with_reducible refine (qir true HPO.out).mono ?_);rintro e w1 ⟨rfl,hb1⟩;have HB1:=hid hb1;clear x0 x1 x2 x3 x4 xl;obtain ⟨x0,x1,x2,x3,x4,xl⟩:=(HBX.out.below (qac HB.out hb1)).cells;have y0:=(hb1.cell (p:=⟨b,o+i * 5,none⟩) gl).trans g0;have y1:=(hb1.cell (p:=⟨b,o+i * 5+1,none⟩) gl).trans g1;have y2:=(hb1.cell (p:=⟨b,o+i * 5+2,none⟩) gl).trans g2;have y3:=(hb1.cell (p:=⟨b,o+i * 5+3,none⟩) gl).trans g3;have y4:=(hb1.cell (p:=⟨b,o+i * 5+4,none⟩) gl).trans g4;have yl:=Nat.lt_of_lt_of_le gl hb1.size;clear hb1 g0 g1 g2 g3 g4 gl) | (go_at_call 69;(with_reducible refine (rpast_r (D:=qbw) (f:=g) false HQ.out ?_).mono ?_);exact ⟨A',c',rfl,HGA.out.any HB1.out⟩;rintro e w2 ⟨rfl,hb2⟩;have HB2:=hid (qac HB.out (qac HB1.out hb2));clear hb2))
     go_ret
     exact ⟨qe4 HR.out,qac HBW.out HB2.out⟩
    ·have HQ:=hid hq
     clear hq
     go_wp2_with (first | (go_at_call 68;(with_reducible refine (qir true HPO.out).mono ?_);rintro e w1 ⟨rfl,hb1⟩;have HB1:=hid hb1;clear x0 x1 x2 x3 x4 xl;obtain ⟨x0,x1,x2,x3,x4,xl⟩:=(HBX.out.below (qac HB.out hb1)).cells;have y0:=(hb1.cell (p:=⟨b,o+i * 5,none⟩) gl).trans g0;have y1:=(hb1.cell (p:=⟨b,o+i * 5+1,none⟩) gl).trans g1;have y2:=(hb1.cell (p:=⟨b,o+i * 5+2,none⟩) gl).trans g2;have y3:=(hb1.cell (p:=⟨b,o+i * 5+3,none⟩) gl).trans g3;have y4:=(hb1.cell (p:=⟨b,o+i * 5+4,none⟩) gl).trans g4;have yl:=Nat.lt_of_lt_of_le gl hb1.size;clear hb1 g0 g1 g2 g3 g4 gl) | (go_at_call 69;(with_reducible refine (rpast_r (D:=qbw) (f:=g) true HQ.out ?_).mono ?_);exact ⟨A',c',rfl,HGA.out.any HB1.out⟩;rintro e w2 ⟨rfl,hb2⟩;have HB2:=hid (qac HB.out (qac HB1.out hb2));clear hb2))
     go_roundw
     case rel=>exact ⟨i+1,by have:=HLT.out;omega,by go_num,HB2.out,HSF.out.succ (by rw [HG.out];exact HQ.out)⟩
     case measure=>have:=HLT.out;simp [intOf];omega
   ·have hii : ¬ (i:Int) < f.args.length:=by omega
    have HN0:=hid (show qbn l f=0 by rw [HNP.out,qh1 fun j hj=>HSF.out j (by omega)];rfl)
    go_upto_region 12 with (fail)
    clear x0 x1 x2 x3 x4 xl
    go_wp2_with fail
    go_loopw [7] (fun q wr2 => ∃ i:Nat,i≤f.args.length∧q = .int .i64 (i:Int)∧Hid (Below W.heap.size W wr2)∧Hid (∀ j,j < i→qfx l (f.args.getD j default)=0)) (fun q _=>f.args.length - (intOf q).toNat)
    case atStart=>exact ⟨0,Nat.zero_le _,rfl,HB.out,fun j hj=>absurd hj (Nat.not_lt_zero _)⟩
    case round =>
     obtain ⟨k,hk,rfl,HBK,HZ⟩:=hrel
     obtain ⟨x0,x1,x2,x3,x4,xl⟩:=(HBX.out.below HBK.out).cells
     have HBKR:=hid (HBW.out.trans (HBK.out.mono HBW.out.size))
     by_cases hlk:k < f.args.length
     ·have hkk:(k:Int) < f.args.length:=by omega
      have HLK:=hid hlk
      obtain ⟨b,o,A',c',g,heq,HG,hg⟩:=(HA.out.keep (Keeps.of_below HBKR.out fun _ h=>h)).get hlk
      cases heq
      obtain ⟨gd,gl,g0,g1,g2,g3,g4,ga⟩:=hg
      have HCALL:=hid (HIH.out k hlk (D:=qbw) (E:=(· < w.heap.size)) (.agg #[.int .i64 g.op,.string g.name,.int .i64 g.val,.int .i64 g.bound,.slice A' g.args.length c']) wr (HL.out.any HBKR.out) (by rw [HG.out];exact ⟨A',c',rfl,ga⟩))
      rw [HG.out] at HCALL
      obtain ⟨ev,hev⟩ : ∃ ev,qfx l g=ev:=⟨_,rfl⟩
      rw [hev] at HCALL
      have HEV:=hid (show qfx l (f.args.getD k default)=ev by rw [HG.out];exact hev)
      clear hev ga
      by_cases he0:ev=0
      ·rw [he0] at HCALL HEV
       clear he0
       go_wp2_with (go_at_call 41;(with_reducible refine HCALL.out.mono ?_);rintro e w2 ⟨rfl,hb2⟩;have HB2:=hid (qac HBK.out hb2);clear hb2)
       go_roundw
       case rel=>exact ⟨k+1,by have:=HLK.out;omega,by go_num,HB2.out,fun j hj=>by
        by_cases e:j=k
        ·rw [e];exact HEV.out
        ·exact HZ.out j (by omega)⟩
       case measure=>have:=HLK.out;simp [intOf];omega
      ·have hen:(ev != 0)=true:=bne_iff_ne.2 he0
       have HR:=hid (show qfx l f=ev by rw [err1_arg HN0.out HZ.out HLK.out (by rw [HEV.out];exact he0)];exact HEV.out)
       clear he0
       go_wp2_with (go_at_call 41;(with_reducible refine HCALL.out.mono ?_);rintro e w2 ⟨rfl,hb2⟩;have HB2:=hid (qac HBK.out hb2);clear hb2)
       go_ret
       exact ⟨qe4 HR.out,qac HBW.out HB2.out⟩
     ·have hkk : ¬ (k:Int) < f.args.length:=by omega
      have HR:=hid (show qfx l f=0 from err1_none HN0.out fun j hj=>HZ.out j (by omega))
      go_wp2_with fail
      go_ret
      exact ⟨qe4 HR.out,HBKR.out⟩
 ·have HPO:=hid (show qez f.op=false by
   unfold qez
   rw [Bool.and_eq_false_iff,decide_eq_false_iff_not,decide_eq_false_iff_not]
   omega)
  have HN0:=hid (nodeErr_no (l:=l) h3 hp)
  clear h3 hp
  go_upto_region 7 with (fail)
  refine qai fun WA hWA => ?_
  have HBA:=hid (show Below W.heap.size W WA by rw [hWA];first | exact Below.refl _ _ | exact HBA0.out | go_grown)
  clear hWA
  (try clear x0);(try clear x1);(try clear x2);(try clear x3);(try clear x4);(try clear xl)
  go_wp2_with fail
  go_loopw [6] (fun q wr => ∃ i:Nat,i≤f.args.length∧q = .int .i64 (i:Int)∧Hid (Below W.heap.size W wr)∧True) (fun q _=>f.args.length - (intOf q).toNat)
  case atStart=>exact ⟨0,Nat.zero_le _,rfl,HBA.out,trivial⟩
  case round =>
   obtain ⟨i,hi,rfl,HB,HSF⟩:=hrel
   obtain ⟨x0,x1,x2,x3,x4,xl⟩:=(HBX.out.below HB.out).cells
   have HBR:=hid (HBW.out.trans (HB.out.mono HBW.out.size))
   by_cases hlt:i < f.args.length
   ·have hii:(i:Int) < f.args.length:=by omega
    have HLT:=hid hlt
    obtain ⟨b,o,A',c',g,heq,HG,hg⟩:=(HA.out.keep (Keeps.of_below HBR.out fun _ h=>h)).get hlt
    cases heq
    obtain ⟨gd,gl,g0,g1,g2,g3,g4,ga⟩:=hg
    have HGA:=hid ga
    clear ga
    go_wp2_with (go_at_call 68;(with_reducible refine (qir false HPO.out).mono ?_);rintro e w1 ⟨rfl,hb1⟩;have HB1:=hid (qac HB.out hb1);clear hb1)
    go_roundw
    case rel=>exact ⟨i+1,by have:=HLT.out;omega,by go_num,HB1.out,trivial⟩
    case measure=>have:=HLT.out;simp [intOf];omega
   ·have hii : ¬ (i:Int) < f.args.length:=by omega
    go_upto_region 12 with (fail)
    clear x0 x1 x2 x3 x4 xl
    go_wp2_with fail
    go_loopw [7] (fun q wr2 => ∃ i:Nat,i≤f.args.length∧q = .int .i64 (i:Int)∧Hid (Below W.heap.size W wr2)∧Hid (∀ j,j < i→qfx l (f.args.getD j default)=0)) (fun q _=>f.args.length - (intOf q).toNat)
    case atStart=>exact ⟨0,Nat.zero_le _,rfl,HB.out,fun j hj=>absurd hj (Nat.not_lt_zero _)⟩
    case round =>
     obtain ⟨k,hk,rfl,HBK,HZ⟩:=hrel
     obtain ⟨x0,x1,x2,x3,x4,xl⟩:=(HBX.out.below HBK.out).cells
     have HBKR:=hid (HBW.out.trans (HBK.out.mono HBW.out.size))
     by_cases hlk:k < f.args.length
     ·have hkk:(k:Int) < f.args.length:=by omega
      have HLK:=hid hlk
      obtain ⟨b,o,A',c',g,heq,HG,hg⟩:=(HA.out.keep (Keeps.of_below HBKR.out fun _ h=>h)).get hlk
      cases heq
      obtain ⟨gd,gl,g0,g1,g2,g3,g4,ga⟩:=hg
      have HCALL:=hid (HIH.out k hlk (D:=qbw) (E:=(· < w.heap.size)) (.agg #[.int .i64 g.op,.string g.name,.int .i64 g.val,.int .i64 g.bound,.slice A' g.args.length c']) wr (HL.out.any HBKR.out) (by rw [HG.out];exact ⟨A',c',rfl,ga⟩))
      rw [HG.out] at HCALL
      obtain ⟨ev,hev⟩ : ∃ ev,qfx l g=ev:=⟨_,rfl⟩
      rw [hev] at HCALL
      have HEV:=hid (show qfx l (f.args.getD k default)=ev by rw [HG.out];exact hev)
      clear hev ga
      by_cases he0:ev=0
      ·rw [he0] at HCALL HEV
       clear he0
       go_wp2_with (go_at_call 41;(with_reducible refine HCALL.out.mono ?_);rintro e w2 ⟨rfl,hb2⟩;have HB2:=hid (qac HBK.out hb2);clear hb2)
       go_roundw
       case rel=>exact ⟨k+1,by have:=HLK.out;omega,by go_num,HB2.out,fun j hj=>by
        by_cases e:j=k
        ·rw [e];exact HEV.out
        ·exact HZ.out j (by omega)⟩
       case measure=>have:=HLK.out;simp [intOf];omega
      ·have hen:(ev != 0)=true:=bne_iff_ne.2 he0
       have HR:=hid (show qfx l f=ev by rw [err1_arg HN0.out HZ.out HLK.out (by rw [HEV.out];exact he0)];exact HEV.out)
       clear he0
       go_wp2_with (go_at_call 41;(with_reducible refine HCALL.out.mono ?_);rintro e w2 ⟨rfl,hb2⟩;have HB2:=hid (qac HBK.out hb2);clear hb2)
       go_ret
       exact ⟨qe4 HR.out,qac HBW.out HB2.out⟩
     ·have hkk : ¬ (k:Int) < f.args.length:=by omega
      have HR:=hid (show qfx l f=0 from err1_none HN0.out fun j hj=>HZ.out j (by omega))
      go_wp2_with fail
      go_ret
      exact ⟨qe4 HR.out,HBKR.out⟩
end Go.Proofs.YtdakdpfofgkjoaaGreatDoor
