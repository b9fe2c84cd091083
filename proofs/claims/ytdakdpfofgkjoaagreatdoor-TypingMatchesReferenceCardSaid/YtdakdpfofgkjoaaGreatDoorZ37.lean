/-
  The reference's Same of lists of faults; the walk of TypingMatchesReference.
-/
import Derived.Test.YtdakdpfofgkjoaaGreatDoorZ36
set_option linter.unusedSimpArgs false
set_option linter.unusedVariables false
set_option maxHeartbeats 8000000
set_option maxRecDepth 100000
namespace Go.Proofs.YtdakdpfofgkjoaaGreatDoor
open Go.RowKit Go.Shelf
attribute [local go_sem] qad
theorem fault_equal (w:World) (a b:Int):(Op.equal 58 (.agg #[.int .i64 a,.int .i64 b]) (.agg #[.int .i64 a,.int .i64 b])).run Tryz.prog w = .ok true w:=by
 have u3:=Tryz.underlying3
 have a3:=Tryz.isAgg3
 have z3:=Tryz.sizeOf3
 have u4:=Tryz.underlying32
 have a4:=Tryz.isAgg32
 have z4:=Tryz.sizeOf32
 have hS:Tryz.prog.underlying 58=some (.struct (Tryz.prog.fieldsOf 58)):=by kernel_rfl
 have hp:Tryz.prog.stoodInHeld 58=false:=by kernel_rfl
 unfold Op.equal Op.maxDepth
 rw [show (10000:Nat)=9999+1 from rfl,run_equalIn_agg w 9999 58 _ _ hS hp]
 simp only [Program.fieldsOf,Tryz.underlying58]
 go_simp
theorem fault_alike (w:World) (a b:Int):(binOp .neq 58 (.agg #[.int .i64 a,.int .i64 b]) (.agg #[.int .i64 a,.int .i64 b])).run Tryz.prog w = .ok (.bool false) w:=by
 have:=fault_equal w a b
 simp only [binOp]
 simp [this]
theorem rsamet_any {D E:Dom} (L:List (Int × Int)) (A B:Option Addr) (c d n m:Nat) (w:World) (hn:n=L.length) (hm:m=L.length) (h:RdT w D A c L) (h2:RdT w E B d L) :
  Calls Tryz.prog 12 #[.slice A n c,.slice B m d] w fun e w'=>e = .returned (.bool true)∧Below w.heap.size w w':=by
 subst hn hm
 have hlen:=h.1.2.1
 have HA:=hid h
 have HB:=hid h2
 have e1:((L.length:Int) != (L.length:Int))=false:=by simp
 have hne:=fun (W:World) a b=>fault_alike W a b
 clear h h2
 go_enter Tryz.func12,Tryz.ntmps12
 go_wp2_with fail
 go_loopw [5] (fun q wr => ∃ i:Nat,i≤L.length∧q = .int .i64 (i:Int)∧Hid (qao w wr)) (fun q _=>L.length - (intOf q).toNat)
 case atStart=>exact ⟨0,Nat.zero_le _,rfl,qao.refl _⟩
 case round =>
  obtain ⟨i,hi,rfl,HD⟩:=hrel
  by_cases hlt:i < L.length
  ·have hii:(i:Int) < L.length:=by omega
   have HLT:=hid hlt
   obtain ⟨b,o,x,rfl,_,hlb,HX,x0,x1⟩:=(HA.out.any (HD.out.below _)).get hlt
   obtain ⟨b',o',y,rfl,_,hlb',HY,y0,y1⟩:=(HB.out.any (HD.out.below _)).get hlt
   obtain rfl:x=y:=HX.out.symm.trans HY.out
   obtain ⟨p,q⟩:=x
   dsimp only at x0 x1 y0 y1
   clear HX HY hlt
   go_upto_region 6 with (fail)
   go_quiet (fail)
   go_wp2_with fail
   go_roundw
   case rel=>exact ⟨i+1,by have:=HLT.out;omega,by go_num,HD.out.drewN _⟩
   case measure=>have:=HLT.out;simp [intOf];omega
  ·have hii : ¬ (i:Int) < L.length:=by omega
   go_wp2_with fail
   go_ret
   exact ⟨rfl,HD.out.below _⟩
theorem rsmall_120 {D:Dom} {w:World} {v:Value} {f:Fm} (r:Bool) (hr:decide (f.size≤120)=r) (h:qby w D v f):Calls Tryz.prog 7 #[v,.int .i64 120] w fun e w'=>e = .returned (.bool r)∧Below w.heap.size w w':=by
 subst hr
 exact qjo f v 120 w h (by decide)
theorem matches_any {D E F:Dom} (l:List Sg) (rs:List Rq) (f:Fm) (AS:Option Addr) (n cS:Nat) (AR:Option Addr) (m cR:Nat) (v:Value) (w:World) (hn:n=l.length) (hl:RdG w D AS cS l) (hm:m=rs.length) (hr:RdR w E AR cR rs) (hf:qby w F v f) (hg:GF w) (hk:GK w) :
  Calls Tryz.prog 3 #[.agg #[.slice AS n cS,.slice AR m cR],v] w fun e w'=>e = .returned (.bool true)∧Below w.heap.size w w':=by
 subst hn hm
 obtain ⟨AF,cF,rfl,hfa⟩:=hf
 have hlen:=hl.len.1
 have hlen2:=hr.len.1
 have HL:=hid hl.old
 have HR:=hid hr.old
 have HF:=hid hfa.old
 have HG:=hid hg
 have HK:=hid hk
 clear hl hr hfa hg hk
 go_enter Tryz.func3,Tryz.ntmps3
 go_upto_region 1 with (fail)
 refine qai fun W hW => ?_
 have HB:=hid (show Below w.heap.size w W by rw [hW];go_grown)
 have HS:=hid (show qdb W w.heap.size AS l.length cS AR rs.length cR by show W.heap[_]? = _;rw [hW,qaq _ _ _ (by simp)];exact at_new _ _ _ rfl)
 have HO:=hid (show OB W (w.heap.size+1) f.op f.name f.val f.bound AF f.args.length cF by rw [hW];exact at_new _ _ _ (by simp))
 clear hW
 have HHD:=hid (head7_any W (HG.out.below HB.out HG.out.pos) (HK.out.below HB.out HK.out.pos))
 go_upto_region 2 with (go_at_call 5;(with_reducible refine HHD.out.mono ?_);rintro e V ⟨rfl,hbV⟩;have HBV:=hid hbV;clear hbV)
 have HBW:=hid (qac HB.out HBV.out)
 have HSV:=hid (HS.out.below HBV.out)
 have HOV:=hid (HO.out.below HBV.out)
 have HLV:=hid (HL.out.any HBW.out)
 have HRV:=hid (HR.out.any HBW.out)
 have HFV:=hid (HF.out.any HBW.out)
 have HGV:=hid (HG.out.below HBW.out HG.out.pos)
 have HKV:=hid (HK.out.below HBW.out HK.out.pos)
 clear HO HS HHD HBV HB HL HR HF HG HK
 obtain ⟨s0,s1,s2⟩:=HSV.out.cells
 have HFEW:=hid (few_any l rs AS l.length cS AR rs.length cR V rfl HLV.out rfl HRV.out)
 cases hfew:fewB l rs
 ·rw [hfew] at HFEW
  clear hfew
  go_wp2_with (go_at_call 6;(with_reducible refine HFEW.out.mono ?_);rintro e V2 ⟨rfl,hb2⟩;have HB2:=hid (qac HBW.out hb2);clear hb2 s0 s1 s2)
  go_ret
  exact ⟨rfl,HB2.out⟩
 rw [hfew] at HFEW
 clear hfew
 have HSM:=hid (fun (V2:World) (hb:Below V.heap.size V V2)=>rsmall_120 (D:=qbw) (f:=f) (w:=V2) _ rfl ⟨AF,cF,rfl,HFV.out.any hb⟩)
 cases hfs:decide (f.size≤120)
 ·rw [hfs] at HSM
  clear hfs
  go_wp2_with (first | (go_at_call 6;(with_reducible refine HFEW.out.mono ?_);rintro e V2 ⟨rfl,hb2⟩;have HB2:=hid hb2;clear hb2 s0 s1 s2;obtain ⟨x0,x1,x2,x3,x4,x5⟩:=(HOV.out.below HB2.out).cells) | (go_at_call 7;(with_reducible refine (HSM.out _ HB2.out).mono ?_);rintro e V3 ⟨rfl,hb3⟩;have HB3:=hid (qac HB2.out hb3);clear hb3 x0 x1 x2 x3 x4 x5))
  go_ret
  exact ⟨rfl,qac HBW.out HB3.out⟩
 rw [hfs] at HSM
 clear hfs
 obtain ⟨g,hgg⟩ : ∃ g,(qee l rs).1=g:=⟨_,rfl⟩
 obtain ⟨er,her⟩ : ∃ er,(qee l rs).2=er:=⟨_,rfl⟩
 have HGO:Hid (∀ V':World,Below V.heap.size V V'→Calls Tryz.prog 8 #[.agg #[.slice AS l.length cS,.slice AR rs.length cR]] V' fun e w' => ∃ A1 c1,e = .returned (.tuple #[.agg #[.int .i64 g.op,.string g.name,.int .i64 g.val,.int .i64 g.bound,.slice A1 g.args.length c1],.int .i64 er])∧RdA w' qbw g.args A1 c1∧Below V'.heap.size V' w'):=hid fun V' hb=>by
  refine (goal_any l rs AS l.length cS AR rs.length cR V' rfl (HLV.out.any hb) rfl (HRV.out.any hb) (HGV.out.below hb HGV.out.pos) (HKV.out.below hb HKV.out.pos)).mono ?_
  rintro e w' ⟨A,c,rfl,ha,hb'⟩
  rw [hgg] at ha ⊢
  rw [her]
  exact ⟨A,c,rfl,ha.mono fun _ _ _=>trivial,hb'⟩
 have HRG:Hid (∀ V':World,Below V.heap.size V V'→Calls Tryz.prog 9 #[.agg #[.slice AS l.length cS,.slice AR rs.length cR]] V' fun e w' => ∃ A1 c1,e = .returned (.tuple #[.agg #[.int .i64 g.op,.string g.name,.int .i64 g.val,.int .i64 g.bound,.slice A1 g.args.length c1],.int .i64 er])∧RdA w' qbw g.args A1 c1∧Below V'.heap.size V' w'):=hid fun V' hb=>by
  refine (rgoal_any l rs AS l.length cS AR rs.length cR V' rfl (HLV.out.any hb) rfl (HRV.out.any hb)).mono ?_
  rintro e w' ⟨A,c,rfl,ha,hb'⟩
  rw [hgg] at ha ⊢
  rw [her]
  exact ⟨A,c,rfl,ha,hb'⟩
 clear hgg her
 go_upto_region 5 with (first | (go_at_call 6;(with_reducible refine HFEW.out.mono ?_);rintro e V2 ⟨rfl,hb2⟩;have HB2:=hid hb2;clear hb2 s0 s1 s2;obtain ⟨x0,x1,x2,x3,x4,x5⟩:=(HOV.out.below HB2.out).cells) | (go_at_call 7;(with_reducible refine (HSM.out _ HB2.out).mono ?_);rintro e V3 ⟨rfl,hb3⟩;have HB3:=hid (qac HB2.out hb3);clear hb3 x0 x1 x2 x3 x4 x5;obtain ⟨s0,s1,s2⟩:=(HSV.out.below HB3.out).cells) | (go_at_call 8;(with_reducible refine (HGO.out _ HB3.out).mono ?_);rintro e V4 ⟨A1,c1,rfl,ha4,hb4⟩;have HA4:=hid ha4;have HB4:=hid (qac HB3.out hb4);clear ha4 hb4 s0 s1 s2))
 refine qai fun V5 hV5 => ?_
 have hb5:Below V4.heap.size V4 V5:=by rw [hV5];go_grown
 have HB5:=hid (qac HB4.out hb5)
 have HO5:=hid (show OB V5 V4.heap.size g.op g.name g.val g.bound A1 g.args.length c1 by rw [hV5];exact at_new _ _ _ rfl)
 have HA5:=hid (HA4.out.any hb5)
 obtain ⟨b1,hb1⟩ : ∃ b1,b1=V4.heap.size:=⟨_,rfl⟩
 rw [←hb1] at HO5 ⊢
 clear hV5 hb5 hb1 HA4
 obtain ⟨s0,s1,s2⟩:=(HSV.out.below HB5.out).cells
 go_upto_region 6 with (go_at_call 9;(with_reducible refine (HRG.out _ HB5.out).mono ?_);rintro e V6 ⟨A2,c2,rfl,ha6,hb6⟩;have HA6:=hid ha6;have HB6:=hid (qac HB5.out hb6);have HO6:=hid (HO5.out.below hb6);have HA56:=hid (HA5.out.any hb6);clear ha6 hb6 s0 s1 s2)
 refine qai fun V7 hV7 => ?_
 have hb7:Below V6.heap.size V6 V7:=by rw [hV7];go_grown
 have HB7:=hid (qac HB6.out hb7)
 have HO7:=hid (HO6.out.below hb7)
 have HP7:=hid (show OB V7 V6.heap.size g.op g.name g.val g.bound A2 g.args.length c2 by rw [hV7];exact at_new _ _ _ rfl)
 have HA7:=hid (HA56.out.any hb7)
 have HC7:=hid (HA6.out.any hb7)
 obtain ⟨b2,hb2⟩ : ∃ b2,b2=V6.heap.size:=⟨_,rfl⟩
 rw [←hb2] at HP7 ⊢
 clear hV7 hb7 hb2 HA6 HO6 HO5 HA5 HA56
 have HCELL:Hid (∀ W':World,Below V7.heap.size V7 W'→W'.cell? ⟨w.heap.size,0,none⟩=some (.slice AS l.length cS)∧W'.cell? ⟨w.heap.size,1,none⟩=some (.slice AR rs.length cR)∧W'.cell? ⟨w.heap.size+1,0,none⟩=some (.int .i64 f.op)∧W'.cell? ⟨w.heap.size+1,1,none⟩=some (.string f.name)∧W'.cell? ⟨w.heap.size+1,2,none⟩=some (.int .i64 f.val)∧W'.cell? ⟨w.heap.size+1,3,none⟩=some (.int .i64 f.bound)∧W'.cell? ⟨w.heap.size+1,4,none⟩=some (.slice AF f.args.length cF)∧W'.cell? ⟨b1,0,none⟩=some (.int .i64 g.op)∧W'.cell? ⟨b1,1,none⟩=some (.string g.name)∧W'.cell? ⟨b1,2,none⟩=some (.int .i64 g.val)∧W'.cell? ⟨b1,3,none⟩=some (.int .i64 g.bound)∧W'.cell? ⟨b1,4,none⟩=some (.slice A1 g.args.length c1)∧W'.cell? ⟨b2,0,none⟩=some (.int .i64 g.op)∧W'.cell? ⟨b2,1,none⟩=some (.string g.name)∧W'.cell? ⟨b2,2,none⟩=some (.int .i64 g.val)∧W'.cell? ⟨b2,3,none⟩=some (.int .i64 g.bound)∧W'.cell? ⟨b2,4,none⟩=some (.slice A2 g.args.length c2)):=hid fun W' hb=>by
  obtain ⟨s0,s1,_⟩:=(HSV.out.below (qac HB7.out hb)).cells
  obtain ⟨x0,x1,x2,x3,x4,_⟩:=(HOV.out.below (qac HB7.out hb)).cells
  obtain ⟨y0,y1,y2,y3,y4,_⟩:=(HO7.out.below hb).cells
  obtain ⟨z0,z1,z2,z3,z4,_⟩:=(HP7.out.below hb).cells
  exact ⟨s0,s1,x0,x1,x2,x3,x4,y0,y1,y2,y3,y4,z0,z1,z2,z3,z4⟩
 have HI1:=hid (show Below V7.heap.size V7 V7.drew from (Below.refl _ _).drew)
 have HI2:=hid (show ∀ i,Below V7.heap.size V7 (V7.drewN i) from fun i=>(qao.n V7 i).below _)
 have HL7:=hid (fun (W':World) (hb:Below V7.heap.size V7 W')=>HLV.out.any (qac HB7.out hb))
 have HR7:=hid (fun (W':World) (hb:Below V7.heap.size V7 W')=>HRV.out.any (qac HB7.out hb))
 have HF7:=hid (fun (W':World) (hb:Below V7.heap.size V7 W')=>(show qby W' qbw (.agg #[.int .i64 f.op,.string f.name,.int .i64 f.val,.int .i64 f.bound,.slice AF f.args.length cF]) f from ⟨AF,cF,rfl,HFV.out.any (qac HB7.out hb)⟩))
 have HG7:=hid (fun (W':World) (hb:Below V7.heap.size V7 W')=>HGV.out.below (qac HB7.out hb) HGV.out.pos)
 have HK7:=hid (fun (W':World) (hb:Below V7.heap.size V7 W')=>HKV.out.below (qac HB7.out hb) HKV.out.pos)
 obtain ⟨fe,hfe⟩ : ∃ fe,qax l f=fe:=⟨_,rfl⟩
 obtain ⟨L,hL⟩ : ∃ L,qcp l rs=L:=⟨_,rfl⟩
 have C1:Hid (∀ W',Below V7.heap.size V7 W'→Calls Tryz.prog 10 #[.slice AS l.length cS,.agg #[.int .i64 f.op,.string f.name,.int .i64 f.val,.int .i64 f.bound,.slice AF f.args.length cF]] W' fun e w'=>e = .returned (.int .i64 fe)∧Below V7.heap.size V7 w'):=hid fun W' hb=>by
  refine (qia l AS cS l.length f _ W' rfl (HL7.out _ hb) (HF7.out _ hb) (HG7.out _ hb) (HK7.out _ hb)).mono ?_
  rintro e w' ⟨rfl,hb'⟩
  exact ⟨by rw [hfe],qac hb hb'⟩
 have C2:Hid (∀ W',Below V7.heap.size V7 W'→Calls Tryz.prog 11 #[.slice AS l.length cS,.agg #[.int .i64 f.op,.string f.name,.int .i64 f.val,.int .i64 f.bound,.slice AF f.args.length cF]] W' fun e w'=>e = .returned (.int .i64 fe)∧Below V7.heap.size V7 w'):=hid fun W' hb=>by
  refine (rform7_any l AS cS l.length f _ W' rfl (HL7.out _ hb) (HF7.out _ hb)).mono ?_
  rintro e w' ⟨rfl,hb'⟩
  exact ⟨by rw [hfe],qac hb hb'⟩
 have C3:Hid (∀ W',Below V7.heap.size V7 W'→Calls Tryz.prog 13 #[.agg #[.slice AS l.length cS,.slice AR rs.length cR]] W' fun e w' => ∃ A4 c4,e = .returned (.slice A4 L.length c4)∧Below V7.heap.size V7 w'∧RdT w' qbw A4 c4 L):=hid fun W' hb=>by
  refine (check_any l rs AS l.length cS AR rs.length cR W' rfl (HL7.out _ hb) rfl (HR7.out _ hb) (HG7.out _ hb) (HK7.out _ hb)).mono ?_
  rintro e w' ⟨A4,c4,rfl,h4,hb'⟩
  rw [hL] at h4 ⊢
  exact ⟨A4,c4,rfl,qac hb hb',Rd.mono h4 fun _ _ _=>trivial⟩
 have C4:Hid (∀ W' A4 c4,Below V7.heap.size V7 W'→RdT W' qbw A4 c4 L→Calls Tryz.prog 14 #[.agg #[.slice AS l.length cS,.slice AR rs.length cR]] W' fun e w' => ∃ A5 c5,e = .returned (.slice A5 L.length c5)∧Below V7.heap.size V7 w'∧RdT w' qbw A4 c4 L∧RdT w' qbw A5 c5 L):=hid fun W' A4 c4 hb hr=>by
  refine (rcheck_any l rs AS l.length cS AR rs.length cR W' rfl (HL7.out _ hb) rfl (HR7.out _ hb)).mono ?_
  rintro e w' ⟨A5,c5,rfl,h5,hb'⟩
  rw [hL] at h5 ⊢
  exact ⟨A5,c5,rfl,qac hb hb',hr.any hb',Rd.mono h5 fun _ _ _=>trivial⟩
 have C5:Hid (∀ W' A4 c4 A5 c5,Below V7.heap.size V7 W'→RdT W' qbw A4 c4 L→RdT W' qbw A5 c5 L→Calls Tryz.prog 12 #[.slice A4 L.length c4,.slice A5 L.length c5] W' fun e w'=>e = .returned (.bool true)∧Below V7.heap.size V7 w'):=hid fun W' A4 c4 A5 c5 hb h4 h5=>by
  refine (rsamet_any L A4 A5 c4 c5 _ _ W' rfl rfl h4 h5).mono ?_
  rintro e w' ⟨rfl,hb'⟩
  exact ⟨rfl,qac hb hb'⟩
 have C6:Hid (∀ W',Below V7.heap.size V7 W'→Calls Tryz.prog 15 #[.agg #[.int .i64 g.op,.string g.name,.int .i64 g.val,.int .i64 g.bound,.slice A1 g.args.length c1],.agg #[.int .i64 g.op,.string g.name,.int .i64 g.val,.int .i64 g.bound,.slice A2 g.args.length c2]] W' fun e w'=>e = .returned (.bool true)∧Below V7.heap.size V7 w'):=hid fun W' hb=>by
  refine (qiq g g _ _ W' ⟨A1,c1,rfl,HA7.out.any hb⟩ ⟨A2,c2,rfl,HC7.out.any hb⟩).mono ?_
  rintro e w' ⟨rfl,hb'⟩
  exact ⟨by rw [decide_eq_true (qe9 g)],qac hb hb'⟩
 obtain ⟨s0,s1,x0,x1,x2,x3,x4,y0,y1,y2,y3,y4,z0,z1,z2,z3,z4⟩:=HCELL.out V7 (Below.refl _ _)
 have hfe0:(fe == fe)=true:=beq_self_eq_true fe
 have her0:(er == er)=true:=beq_self_eq_true er
 clear hfe hL
 go_region_held3 (fun W':World=>W'.cell? ⟨w.heap.size,0,none⟩=some (.slice AS l.length cS)∧W'.cell? ⟨w.heap.size,1,none⟩=some (.slice AR rs.length cR)∧W'.cell? ⟨w.heap.size+1,0,none⟩=some (.int .i64 f.op)∧W'.cell? ⟨w.heap.size+1,1,none⟩=some (.string f.name)∧W'.cell? ⟨w.heap.size+1,2,none⟩=some (.int .i64 f.val)∧W'.cell? ⟨w.heap.size+1,3,none⟩=some (.int .i64 f.bound)∧W'.cell? ⟨w.heap.size+1,4,none⟩=some (.slice AF f.args.length cF)∧W'.cell? ⟨b1,0,none⟩=some (.int .i64 g.op)∧W'.cell? ⟨b1,1,none⟩=some (.string g.name)∧W'.cell? ⟨b1,2,none⟩=some (.int .i64 g.val)∧W'.cell? ⟨b1,3,none⟩=some (.int .i64 g.bound)∧W'.cell? ⟨b1,4,none⟩=some (.slice A1 g.args.length c1)∧W'.cell? ⟨b2,0,none⟩=some (.int .i64 g.op)∧W'.cell? ⟨b2,1,none⟩=some (.string g.name)∧W'.cell? ⟨b2,2,none⟩=some (.int .i64 g.val)∧W'.cell? ⟨b2,3,none⟩=some (.int .i64 g.bound)∧W'.cell? ⟨b2,4,none⟩=some (.slice A2 g.args.length c2))
  (first | (with_reducible exact HCELL.out _ hI) | (go_keep;done))
  (first
   | (go_at_call 10;(with_reducible refine (C1.out _ (by first | exact hI | exact hI.trans ((qao.n _ _).below _) | exact HI1.out | exact HI2.out _)).mono ?_);rintro e WX ⟨rfl,hI⟩)
   | (go_at_call 11;(with_reducible refine (C2.out _ (by first | exact hI | exact hI.trans ((qao.n _ _).below _) | exact HI1.out | exact HI2.out _)).mono ?_);rintro e WX ⟨rfl,hI⟩)
   | (go_at_call 13;(with_reducible refine (C3.out _ (by first | exact hI | exact hI.trans ((qao.n _ _).below _) | exact HI1.out | exact HI2.out _)).mono ?_);rintro e WX ⟨A4,c4,rfl,hI,hr4⟩)
   | (go_at_call 14;(with_reducible refine (C4.out _ A4 c4 (by first | exact hI | exact hI.trans ((qao.n _ _).below _) | exact HI1.out | exact HI2.out _) (by first | exact hr4 | exact RdT.any hr4 ((qao.n _ _).below _))).mono ?_);rintro e WX ⟨A5,c5,rfl,hI,hr4,hr5⟩)
   | (go_at_call 12;(with_reducible refine (C5.out _ A4 c4 A5 c5 (by first | exact hI | exact hI.trans ((qao.n _ _).below _) | exact HI1.out | exact HI2.out _) (by first | exact hr4 | exact RdT.any hr4 ((qao.n _ _).below _)) (by first | exact hr5 | exact RdT.any hr5 ((qao.n _ _).below _))).mono ?_);rintro e WX ⟨rfl,hI⟩)
   | (go_at_call 15;(with_reducible refine (C6.out _ (by first | exact hI | exact hI.trans ((qao.n _ _).below _) | exact HI1.out | exact HI2.out _)).mono ?_);rintro e WX ⟨rfl,hI⟩))
 all_goals
  have HBF:=hid (qac HBW.out (qac HB7.out hI))
  clear s0 s1 x0 x1 x2 x3 x4 y0 y1 y2 y3 y4 z0 z1 z2 z3 z4 hI
  go_wp2_with fail
  exact bodyPost_ret (v := .bool true) (by simp [results,Tryz.results3,go_sem]) rfl ⟨rfl,HBF.out⟩
end Go.Proofs.YtdakdpfofgkjoaaGreatDoor
