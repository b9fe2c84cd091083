/-
  Walk of typing.Goal.
-/
import Derived.Test.YtdakdpfofgkjoaaGreatDoorZ25
set_option linter.unusedSimpArgs false
set_option linter.unusedVariables false
set_option maxHeartbeats 8000000
set_option maxRecDepth 100000
namespace Go.Proofs.YtdakdpfofgkjoaaGreatDoor
open Go.RowKit Go.Shelf
theorem qgt (w:World):(Instr.build 28 #[]).run Tryz.prog w = .ok (.agg #[.int .i64 0,.string ⟨#[]⟩,.int .i64 0,.int .i64 0,.slice none 0 0]) w:=run_build w 28 _ _ (by kernel_rfl)
attribute [local go_sem] qad qgt
theorem goalZ_err {l:List Sg} {rs:List Rq} {x:Int × Int} {L:List (Int × Int)} (h:qcp l rs=x :: L):qee l rs=(qbb,x.2):=by
 unfold qee;rw [h]
theorem qb9 (f:Fm) (s:Option Addr × Nat) : ∀ u∈qbr f s,u.oneCell'=true:=by
 intro u hu
 simp only [qbr,List.mem_cons,List.not_mem_nil,or_false] at hu
 rcases hu with rfl | rfl | rfl | rfl | rfl <;> rfl
structure GolB (w:World) (rs:List Rq) (sb gb:Nat) (AS:Option Addr) (n cS:Nat) (AR:Option Addr) (cR:Nat):Prop where
 g:GF w
 k:GK w
 s:qdb w sb AS n cS AR rs.length cR
 o:OB w gb 0 ⟨#[]⟩ 0 0 none 0 0
 r:RdR w qbw AR cR rs
theorem GolB.below {w w':World} {rs:List Rq} {sb gb:Nat} {AS:Option Addr} {n cS:Nat} {AR:Option Addr} {cR:Nat} (h:GolB w rs sb gb AS n cS AR cR) (hb:Below w.heap.size w w'):GolB w' rs sb gb AS n cS AR cR :=
 ⟨h.g.below hb h.g.pos,h.k.below hb h.k.pos,h.s.below hb,h.o.below hb,h.r.any hb⟩
theorem goal_any {D E:Dom} (l:List Sg) (rs:List Rq) (AS:Option Addr) (n cS:Nat) (AR:Option Addr) (m cR:Nat) (w:World) (hn:n=l.length) (hl:RdG w D AS cS l) (hm:m=rs.length) (hr:RdR w E AR cR rs) (hg:GF w) (hk:GK w) :
  Calls Tryz.prog 8 #[.agg #[.slice AS n cS,.slice AR m cR]] w fun e w' => ∃ A c,e = .returned (.tuple #[.agg #[.int .i64 (qee l rs).1.op,.string (qee l rs).1.name,.int .i64 (qee l rs).1.val,.int .i64 (qee l rs).1.bound,.slice A (qee l rs).1.args.length c],.int .i64 (qee l rs).2])∧RdA w' (fun x=>w.heap.size≤x) (qee l rs).1.args A c∧Below w.heap.size w w':=by
 subst hn hm
 have hlen:=hl.len.1
 have hlen2:=hr.len.1
 have HL:=hid hl.old
 have HR:=hid hr.old
 have HG:=hid hg
 have HK:=hid hk
 clear hl hr hg hk
 obtain ⟨i0,hti,hz0,hz1,hz2⟩:=info_parts qbt
 have HTI:=hid hti
 have HZ0:=hid hz0
 have HZ1:=hid hz1
 have HZ2:=hid hz2
 clear hti hz0 hz1 hz2
 go_enter Tryz.func8,Tryz.ntmps8
 go_upto_region 1 with (fail)
 refine qai fun W hW => ?_
 have HB:=hid (show Below w.heap.size w W by rw [hW];go_grown)
 have HS:=hid (show qdb W w.heap.size AS l.length cS AR rs.length cR by show W.heap[_]? = _;rw [hW,qaq _ _ _ (by simp)];exact at_new _ _ _ rfl)
 have HO:=hid (show OB W (w.heap.size+1) 0 ⟨#[]⟩ 0 0 none 0 0 by rw [hW];exact at_new _ _ _ (by simp))
 have HWS:=hid (show W.heap.size=w.heap.size+2 by rw [hW];simp)
 clear hW
 obtain ⟨s0,s1,s2⟩:=HS.out.cells
 have HCK:=hid (check_any l rs AS l.length cS AR rs.length cR W rfl (HL.out.any HB.out) rfl (HR.out.any HB.out) (HG.out.below HB.out HG.out.pos) (HK.out.below HB.out HK.out.pos))
 cases hc:qcp l rs with
 | cons x L =>
  have HE:=hid (goalZ_err hc)
  rw [hc] at HCK
  clear hc
  go_upto_region 3 with (go_at_call 13;(with_reducible refine HCK.out.mono ?_);rintro e V ⟨A,c,rfl,hT,hbV⟩;have HT:=hid hT;have HBV:=hid hbV;clear hT hbV s0 s1 s2)
  obtain ⟨b,o,y,rfl,hdb,hlb,HX,y0,y1⟩:=HT.out.get (k:=0) (Nat.succ_pos _)
  have hbg : ¬ b=w.heap.size+1:=by have hdb:W.heap.size≤b:=hdb;have:=HWS.out;omega
  have hbg2 : ¬ w.heap.size+1=b:=fun e=>hbg e.symm
  have hy:y=x:=HX.out.symm
  subst hy
  clear HX
  have HOV:=hid (HO.out.below HBV.out)
  obtain ⟨g0,g1,g2,g3,g4,g5⟩:=HOV.out.cells
  have q0:=HOV.out.free 0
  have q1:=HOV.out.free 1
  have q2:=HOV.out.free 2
  have q3:=HOV.out.free 3
  have q4:=HOV.out.free 4
  go_region_held3 (fun W':World=>W'.cell? ⟨b,o+0 * 2+1,none⟩=some (.int .i64 y.2))
   ((go_keep;done))
   (fail)
  all_goals
   go_wp2_with fail
   refine qab fun W9 hW9 => ?_
   have hO9:OB W9 (w.heap.size+1) 0 ⟨#[]⟩ 0 0 none 0 0:=by rw [hW9];exact qag HOV.out
   have hb9:Below w.heap.size w W9:=by
    rw [hW9]
    exact (HB.out.trans (HBV.out.mono HB.out.size)).trans ((qae V (w.heap.size+1) _ _ _ _ _).below (B:=w.heap.size) (fun k hk e=>by omega) (by have:=HBV.out.size;have:=HWS.out;omega)) |>.trans ((qao.refl _).drew.below _)
   clear hW9 g0 g1 g2 g3 g4 g5 q0 q1 q2 q3 q4 y0 y1
   obtain ⟨r0,r1,r2,r3,r4,r5⟩:=hO9.cells
   rw [HE.out]
   exact bodyPost_ret (v := .tuple #[.agg #[.int .i64 0,.string ⟨#[]⟩,.int .i64 0,.int .i64 0,.slice none 0 0],.int .i64 y.2]) (by simp [results,Tryz.results8,go_sem,r0,r1,r2,r3,r4]) rfl ⟨none,0,rfl,RdA.nil _ _ _ (by omega),hb9⟩
 | nil =>
  have HGD:=hid (check_nil.1 hc)
  have HGZ:=hid (goal_good HGD.out)
  rw [hc] at HCK
  clear hc
  go_upto_region 4 with (go_at_call 13;(with_reducible refine HCK.out.mono ?_);rintro e V ⟨A,c,rfl,hT,hbV⟩;have HBV:=hid hbV;clear hT hbV s0 s1 s2)
  have H16:=hid HGD.out.len
  have HBW:=hid (HB.out.trans (HBV.out.mono HB.out.size))
  have HGB:=hid (show GolB V rs w.heap.size (w.heap.size+1) AS l.length cS AR cR from ⟨HG.out.below HBW.out HG.out.pos,HK.out.below HBW.out HK.out.pos,HS.out.below HBV.out,HO.out.below HBV.out,HR.out.any HBW.out⟩)
  obtain ⟨base,hbase⟩ : ∃ base,base=V.heap.size:=⟨_,rfl⟩
  have HBS:=hid (show base≤V.heap.size∧V.heap.size≤base∧w.heap.size+1 < base by have:=HBV.out.size;have:=HWS.out;omega)
  clear hbase HCK HS HO HWS HBV HGD
  obtain ⟨s0,s1,s2⟩:=HGB.out.s.cells
  go_upto_region 5 with (fail)
  go_wp2_with fail
  clear s0 s1 s2
  go_loopw [5,6,25] (fun p q r wr => ∃ (i:Nat) (A:Option Addr) (c:Nat) (sl:List (Option Addr × Nat)) (B:Option Addr) (d:Nat) (sm:List (Option Addr × Nat)),i≤rs.length∧p = .slice A (qb4 (rs.take i)).length c∧q = .slice B (qbh (rs.take i)).length d∧r = .int .i64 (i:Int)∧Hid (qbi wr base A c (qb4 (rs.take i)) sl B d (qbh (rs.take i)) sm)∧Hid (Below base V wr)) (fun _ _ r _=>rs.length - (intOf r).toNat)
  case atStart=>exact ⟨0,none,0,[],none,0,[],Nat.zero_le _,rfl,rfl,rfl,qbi.nil _ _,Below.refl _ _⟩
  case round =>
   obtain ⟨i,A,c,sl,B,d,sm,hi,rfl,rfl,rfl,HT,HBR⟩:=hrel
   have HGR:=hid (HGB.out.below (HBR.out.mono HBS.out.2.1))
   by_cases hlt:i < rs.length
   ·have hii:(i:Int) < rs.length:=by omega
    have HLT:=hid hlt
    have hpl:(qb4 (rs.take i)).length≤16:=by have:=qg7 (rs.take i);rw [List.length_take] at this;have:=H16.out;omega
    have hgl:(qbh (rs.take i)).length≤16:=by have:=qhc (rs.take i);rw [List.length_take] at this;have:=H16.out;omega
    have HPS:=hid (parts_snoc hlt)
    have HGS:=hid (guars_snoc hlt)
    obtain ⟨P,hP⟩ : ∃ P,qb4 (rs.take i)=P:=⟨_,rfl⟩
    obtain ⟨G,hG⟩ : ∃ G,qbh (rs.take i)=G:=⟨_,rfl⟩
    rw [hP] at HT hpl HPS ⊢
    rw [hG] at HT hgl HGS ⊢
    clear hP hG
    obtain ⟨b,o,A1,c1,r,rfl,HX,hr1⟩:=HGR.out.r.get hlt
    rw [HX.out] at HPS HGS
    clear HX
    obtain ⟨s0,s1,s2⟩:=HGR.out.s.cells
    have HRR:=hid hr1
    obtain ⟨_,hlb,_,_,n2,n3,n4,n5,n6,n7,_⟩:=hr1
    have HKN:=hid (kernel_any r.f _ wr ⟨A1,c1,rfl,HRR.out.form.args⟩ HGR.out.g HGR.out.k)
    obtain ⟨k,hk⟩ : ∃ k,(qba r.f).1=k:=⟨_,rfl⟩
    rw [hk] at HKN HPS HGS
    clear hk
    go_upto_region 9 with (go_at_call 29;(with_reducible refine HKN.out.mono ?_);rintro e V4 ⟨kv,rfl,hb4,A4,c4,rfl,ha4⟩;have HB4:=hid hb4;have HA4:=hid ha4;clear hb4 ha4)
    refine qai fun V5 hV5 => ?_
    have HB5:=hid (show Below wr.heap.size wr V5 by rw [hV5];exact HB4.out.alloc HB4.out.size _)
    have HO5:=hid (show OB V5 V4.heap.size k.op k.name k.val k.bound A4 k.args.length c4 by rw [hV5];exact at_new _ _ _ rfl)
    have HA5:=hid (show RdA V5 (fun x=>wr.heap.size≤x) k.args A4 c4 by
     rw [hV5]
     exact (HA4.out.mono (E:=fun x=>wr.heap.size≤x) fun x hx _=>hx.1).belowD ((Below.refl _ _).alloc (Nat.le_refl _) _))
    have HV5:=hid (show V4.heap.size < V5.heap.size∧wr.heap.size≤V4.heap.size by rw [hV5];have:=HB4.out.size;simp;omega)
    clear hV5 HB4 HA4 s0 s1 n3 n4 n5 n6 n7
    have HT5:=hid (HT.out.below HB5.out)
    have HG5:=hid (HGR.out.below HB5.out)
    have m2:=(HB5.out.cell (p:=⟨b,o+i * 8+2,none⟩) hlb).trans n2
    have hlb5:=Nat.lt_of_lt_of_le hlb HB5.out.size
    obtain ⟨s0,s1,s3⟩:=HG5.out.s.cells
    have HBB:=hid (HBR.out.trans (HB5.out.mono (Nat.le_trans HBS.out.1 HBR.out.size)))
    obtain ⟨u,hu⟩ : ∃ u,u=V4.heap.size:=⟨_,rfl⟩
    rw [←hu] at HO5 HV5 ⊢
    clear hu n2 hlb s2
    have HD1:Hid (∀ x,wr.heap.size≤x→(Value.slice A P.length c).ownBlock≠some x):=hid fun x h e=>by have:=qdu HT.out.own1 e;omega
    have HD2:Hid (∀ x,wr.heap.size≤x→(Value.slice B G.length d).ownBlock≠some x):=hid fun x h e=>by have:=qdu HT.out.own2 e;omega
    obtain ⟨x0,x1,x2,x3,x4,x5⟩:=HO5.out.cells
    by_cases hkd:r.kind=1
    ·have d1:=qb6 hkd
     rw [if_pos hkd] at HPS HGS
     clear hkd
     have HNT:=hid (not_any k _ V5 ⟨A4,c4,rfl,HA5.out⟩ HG5.out.g HG5.out.k)
     obtain ⟨nk,hnk⟩ : ∃ nk,notZ k=nk:=⟨_,rfl⟩
     rw [hnk] at HNT HPS
     clear hnk
     go_wp2_with (first | (go_at_call 30;(with_reducible refine HNT.out.mono ?_);rintro e V6 ⟨kv,rfl,hb6,A6,c6,rfl,ha6⟩;have HB6:=hid hb6;have HA6:=hid ha6;have HT6:=hid (HT5.out.below hb6);have hone:=qb9 nk (A6,c6);clear hb6 ha6 x0 x1 x2 x3 x4 x5 s0 s1 s3 m2 hlb5) | (at_builtin;go_must (refine qat _ rfl (.tmp 45) (.tmp 48) 26 rfl base 28 i0 _ 5 64 Tryz.underlying26 HTI.out HZ0.out HZ1.out HZ2.out rfl (by omega) (.slice A P.length c) P.length _ rfl (own_below HT6.out.own1 (by go_grown)) _ (some ⟨V6.heap.size,0,none⟩) 1 1 _ rfl (Rd.fresh (D:=qbw) (n:=1) rfl trivial rfl (by decide)) hone (by omega) (qaz (by omega)) (by have:=HBB.out.size;have:=HB6.out.size;have:=HBS.out.1;simp;omega) ?_);intro A7 c7 w7 hown7 hg7 hat7))
     have HG7:=hid hg7
     have HO7:=hid hown7
     have HAT:=hid hat7
     clear hown7 hg7 hat7
     go_roundw
     case rel =>
      refine ⟨i+1,A7,c7,sl ++ [(A6,c6)],B,d,sm,by have:=HLT.out;omega,by rw [HPS.out,List.length_append];rfl,by rw [HGS.out,List.append_nil],by go_num,?_,?_⟩
      ·rw [HPS.out,HGS.out,List.append_nil]
       refine qbi.app (HT6.out.below ((Below.refl _ _).alloc (Nat.le_refl _) _)) HG7.out (by rw [List.length_append];rfl) HO7.out HAT.out ?_
       exact (HA6.out.mono (E:=fun x=>(Value.slice A P.length c).ownBlock≠some x∧(Value.slice B G.length d).ownBlock≠some x) fun x hx _=>⟨HD1.out x (Nat.le_trans HB5.out.size hx.1),HD2.out x (Nat.le_trans HB5.out.size hx.1)⟩).belowD ((Below.refl _ _).alloc (Nat.le_refl _) _)
      ·refine Below.grown ((HBB.out.trans (HB6.out.mono (by have:=HBB.out.size;have:=HBS.out.1;omega))).alloc (by have:=HBB.out.size;have:=HB6.out.size;have:=HBS.out.1;omega) _) HG7.out (by have:=HBB.out.size;have:=HB6.out.size;have:=HBS.out.1;simp;omega) fun k hk=>(qdu HT6.out.own1 hk).1
     case measure=>have:=HLT.out;simp [intOf];omega
    ·have d1:=qar hkd
     rw [if_neg hkd] at HPS HGS
     clear hkd
     have hone:=qb9 k (A4,c4)
     go_wp2_with (at_builtin;go_must (refine qat _ rfl (.tmp 50) (.tmp 52) 26 rfl base 28 i0 _ 5 64 Tryz.underlying26 HTI.out HZ0.out HZ1.out HZ2.out rfl (by omega) (.slice B G.length d) G.length _ rfl (own_below HT5.out.own2 (by go_grown)) _ (some ⟨V5.heap.size,0,none⟩) 1 1 _ rfl (Rd.fresh (D:=qbw) (n:=1) rfl trivial rfl (by decide)) hone (by omega) (qaz (by omega)) (by have:=HBB.out.size;have:=HBS.out.1;simp;omega) ?_);intro B7 d7 w7 hown7 hg7 hat7)
     have HG7:=hid hg7
     have HO7:=hid hown7
     have HAT:=hid hat7
     clear hown7 hg7 hat7
     go_roundw
     case rel =>
      refine ⟨i+1,A,c,sl,B7,d7,sm ++ [(A4,c4)],by have:=HLT.out;omega,by rw [HPS.out,List.append_nil],by rw [HGS.out,List.length_append];rfl,by go_num,?_,?_⟩
      ·rw [HPS.out,HGS.out,List.append_nil]
       refine qbi.swap (qbi.app (qbi.swap (HT5.out.below ((Below.refl _ _).alloc (Nat.le_refl _) _))) HG7.out (by rw [List.length_append];rfl) HO7.out HAT.out ?_)
       exact (HA5.out.mono (E:=fun x=>(Value.slice B G.length d).ownBlock≠some x∧(Value.slice A P.length c).ownBlock≠some x) fun x hx _=>⟨HD2.out x hx,HD1.out x hx⟩).belowD ((Below.refl _ _).alloc (Nat.le_refl _) _)
      ·refine Below.grown (HBB.out.alloc (by have:=HBB.out.size;have:=HBS.out.1;omega) _) HG7.out (by have:=HBB.out.size;have:=HBS.out.1;simp;omega) fun k hk=>(qdu HT5.out.own2 hk).1
     case measure=>have:=HLT.out;simp [intOf];omega
   ·have hii : ¬ (i:Int) < rs.length:=by omega
    have htk:rs.take i=rs:=List.take_of_length_le (by omega)
    rw [htk] at HT ⊢
    clear htk
    have hpl:(qb4 rs).length≤16:=by have:=qg7 rs;have:=H16.out;omega
    have hgl:(qbh rs).length≤16:=by have:=qhc rs;have:=H16.out;omega
    have HZS:=hid (guars_sizes H16.out)
    have HPZ:=hid (fun f hf=>parts_sizes H16.out f hf)
    have HLZ:=hid (show lastZ rs=if (qbq 5 (qbh rs)).op=0 then (qbb,2) else if (qbq 6 (qb4 rs ++ [qbq 5 (qbh rs)])).op=0 then (qbb,2) else (qbq 6 (qb4 rs ++ [qbq 5 (qbh rs)]),0) from rfl)
    have HCS:=hid (qj7 5 (qbh rs))
    obtain ⟨P,hP⟩ : ∃ P,qb4 rs=P:=⟨_,rfl⟩
    obtain ⟨G,hG⟩ : ∃ G,qbh rs=G:=⟨_,rfl⟩
    rw [hP] at HT hpl HPZ HLZ ⊢
    rw [hG] at HT hgl HZS HLZ HCS ⊢
    clear hP hG
    have HAN:=hid (and_any (HT.out.swap.rd1 (by omega)) rfl HZS.out HGR.out.g HGR.out.k)
    obtain ⟨al,hal⟩ : ∃ al,qbq 5 G=al:=⟨_,rfl⟩
    rw [hal] at HAN HLZ HCS
    clear hal
    go_upto_region 14 with (go_at_call 31;(with_reducible refine HAN.out.mono ?_);rintro e V4 ⟨kv,rfl,hb4,A4,c4,rfl,ha4⟩;have HB4:=hid hb4;have HA4:=hid ha4;clear hb4 ha4)
    refine qai fun V5 hV5 => ?_
    have HB5:=hid (show Below wr.heap.size wr V5 by rw [hV5];exact HB4.out.alloc HB4.out.size _)
    have HO5:=hid (show OB V5 V4.heap.size al.op al.name al.val al.bound A4 al.args.length c4 by rw [hV5];exact at_new _ _ _ rfl)
    have HA5:=hid (show RdA V5 (fun x=>wr.heap.size≤x) al.args A4 c4 by
     rw [hV5]
     exact (HA4.out.mono (E:=fun x=>wr.heap.size≤x) fun x hx _=>hx.1).belowD ((Below.refl _ _).alloc (Nat.le_refl _) _))
    clear hV5 HB4 HA4
    have HT5:=hid (HT.out.below HB5.out)
    have HG5:=hid (HGR.out.below HB5.out)
    have HBB:=hid (HBR.out.trans (HB5.out.mono (Nat.le_trans HBS.out.1 HBR.out.size)))
    obtain ⟨u,hu⟩ : ∃ u,u=V4.heap.size:=⟨_,rfl⟩
    rw [←hu] at HO5 ⊢
    clear hu
    have HD1:Hid (∀ x,wr.heap.size≤x→(Value.slice A P.length c).ownBlock≠some x):=hid fun x h e=>by have:=qdu HT.out.own1 e;omega
    have HD2:Hid (∀ x,wr.heap.size≤x→(Value.slice B G.length d).ownBlock≠some x):=hid fun x h e=>by have:=qdu HT.out.own2 e;omega
    have HGW:=hid (show w.heap.size+1 < V5.heap.size by have:=HBB.out.size;have:=HBS.out.1;have:=HBS.out.2.2;omega)
    have HBWV:=hid (show Below w.heap.size w V5 from HBW.out.trans (HBB.out.mono (Nat.le_of_lt (Nat.lt_of_succ_lt HBS.out.2.2))))
    obtain ⟨x0,x1,x2,x3,x4,x5⟩:=HO5.out.cells
    obtain ⟨g0,g1,g2,g3,g4,g5⟩:=HG5.out.o.cells
    have q0:=HG5.out.o.free 0
    have q1:=HG5.out.o.free 1
    have q2:=HG5.out.o.free 2
    have q3:=HG5.out.o.free 3
    have q4:=HG5.out.o.free 4
    by_cases ha0:al.op=0
    ·have d1:=qb6 ha0
     have HLE:=hid (show qee l rs=(qbb,2) by rw [HGZ.out,HLZ.out,if_pos ha0])
     clear ha0
     go_wp2_with fail
     refine qab fun W9 hW9 => ?_
     have hO9:OB W9 (w.heap.size+1) 0 ⟨#[]⟩ 0 0 none 0 0:=by rw [hW9];exact qag HG5.out.o
     have hb9:Below w.heap.size w W9:=by
      rw [hW9]
      exact HBWV.out.trans ((qae V5 (w.heap.size+1) _ _ _ _ _).below (B:=w.heap.size) (fun k hk e=>by omega) HBWV.out.size)
     clear hW9 g0 g1 g2 g3 g4 g5 q0 q1 q2 q3 q4 x0 x1 x2 x3 x4 x5
     obtain ⟨r0,r1,r2,r3,r4,r5⟩:=hO9.cells
     rw [HLE.out]
     exact bodyPost_ret (v := .tuple #[.agg #[.int .i64 0,.string ⟨#[]⟩,.int .i64 0,.int .i64 0,.slice none 0 0],.int .i64 2]) (by simp [results,Tryz.results8,go_sem,r0,r1,r2,r3,r4]) rfl ⟨none,0,rfl,RdA.nil _ _ _ (by omega),hb9⟩
    ·have d1:=qar ha0
     rw [if_neg ha0] at HLZ
     clear ha0
     have hone:=qb9 al (A4,c4)
     have HPL:=hid (HPZ.out al HCS.out)
     have hplen:P.length+1=(P ++ [al]).length:=by simp
     have hple:(P ++ [al]).length≤140737488355328:=by rw [←hplen];omega
     have HPE:=hid hplen
     have HPE2:=hid hple
     clear hplen hple
     have HCS6:=hid (qj7 6 (P ++ [al]))
     obtain ⟨gl,hgl2⟩ : ∃ gl,qbq 6 (P ++ [al])=gl:=⟨_,rfl⟩
     rw [hgl2] at HLZ
     have HGL:=hid hgl2
     clear hgl2 HPZ g0 g1 g2 g3 g4 g5 q0 q1 q2 q3 q4
     go_upto_region 17 with (first | (at_builtin;go_must (refine qat _ rfl (.tmp 61) (.tmp 63) 26 rfl base 28 i0 _ 5 64 Tryz.underlying26 HTI.out HZ0.out HZ1.out HZ2.out rfl (by omega) (.slice A P.length c) P.length _ rfl (own_below HT5.out.own1 (by go_grown)) _ (some ⟨V5.heap.size,0,none⟩) 1 1 _ rfl (Rd.fresh (D:=qbw) (n:=1) rfl trivial rfl (by decide)) hone (by omega) (qaz (by omega)) (by have:=HBB.out.size;have:=HBS.out.1;simp;omega) ?_);intro A7 c7 w7 hown7 hg7 hat7;have HT7:=hid (qbi.app (f:=al) (s:=(A4,c4)) (HT5.out.below ((Below.refl _ _).alloc (Nat.le_refl _) _)) hg7 (by rw [List.length_append];rfl) hown7 hat7 ((HA5.out.mono (E:=fun x=>(Value.slice A P.length c).ownBlock≠some x∧(Value.slice B G.length d).ownBlock≠some x) fun x hx _=>⟨HD1.out x hx,HD2.out x hx⟩).belowD ((Below.refl _ _).alloc (Nat.le_refl _) _)));have HB7:=hid (show Below base V w7 from Below.grown (HBB.out.alloc (by have:=HBB.out.size;have:=HBS.out.1;omega) _) hg7 (by have:=HBB.out.size;have:=HBS.out.1;simp;omega) fun k hk=>(qdu HT5.out.own1 hk).1);clear hown7 hg7 hat7 x0 x1 x2 x3 x4 x5) | (go_at_call 27;(with_reducible refine (or_any (l:=P ++ [al]) (HT7.out.rd1 HPE2.out) HPE.out HPL.out (HGB.out.below (HB7.out.mono HBS.out.2.1)).g (HGB.out.below (HB7.out.mono HBS.out.2.1)).k).mono ?_);rintro e V8 ⟨kv,rfl,hb8,A8,c8,rfl,ha8⟩;have HB8:=hid (HB7.out.trans (hb8.mono (by have:=HB7.out.size;have:=HBS.out.1;omega)));have HA8:=hid (ha8.mono (E:=fun x=>w7.heap.size≤x) fun x hx _=>hx.1);clear hb8 ha8))
     rw [HGL.out]
     rw [HGL.out] at HA8
     refine qai fun V9 hV9 => ?_
     have HB9:=hid (show Below base V V9 by rw [hV9];exact HB8.out.alloc (by have:=HB8.out.size;have:=HBS.out.1;omega) _)
     have HO9':=hid (show OB V9 V8.heap.size gl.op gl.name gl.val gl.bound A8 gl.args.length c8 by rw [hV9];exact at_new _ _ _ rfl)
     have HA9:=hid (show RdA V9 (fun x=>w7.heap.size≤x) gl.args A8 c8 by rw [hV9];exact HA8.out.belowD ((Below.refl _ _).alloc (Nat.le_refl _) _))
     have HG9:=hid (HGB.out.below (HB9.out.mono HBS.out.2.1))
     have HBW9:=hid (HBW.out.trans (HB9.out.mono (Nat.le_of_lt (Nat.lt_of_succ_lt HBS.out.2.2))))
     have HGW9:=hid (show w.heap.size+1 < w7.heap.size by have:=HB7.out.size;have:=HBS.out.1;have:=HBS.out.2.2;omega)
     clear hV9
     obtain ⟨u2,hu2⟩ : ∃ u2,u2=V8.heap.size:=⟨_,rfl⟩
     rw [←hu2] at HO9' ⊢
     clear hu2
     obtain ⟨x0,x1,x2,x3,x4,x5⟩:=HO9'.out.cells
     obtain ⟨g0,g1,g2,g3,g4,g5⟩:=HG9.out.o.cells
     have q0:=HG9.out.o.free 0
     have q1:=HG9.out.o.free 1
     have q2:=HG9.out.o.free 2
     have q3:=HG9.out.o.free 3
     have q4:=HG9.out.o.free 4
     by_cases hg0:gl.op=0
     ·have d2:=qb6 hg0
      have HLE:=hid (show qee l rs=(qbb,2) by rw [HGZ.out,HLZ.out,if_pos hg0])
      clear hg0
      go_wp2_with fail
      refine qab fun W9 hW9 => ?_
      have hO9:OB W9 (w.heap.size+1) 0 ⟨#[]⟩ 0 0 none 0 0:=by rw [hW9];exact qag HG9.out.o
      have hC9:Chg (fun k=>k=w.heap.size+1) V9 W9:=by rw [hW9];exact qae V9 (w.heap.size+1) _ _ _ _ _
      have hb9:Below w.heap.size w W9:=HBW9.out.trans (hC9.below (B:=w.heap.size) (fun k hk e=>by omega) HBW9.out.size)
      have HC9:=hid hC9
      clear hW9 g0 g1 g2 g3 g4 g5 q0 q1 q2 q3 q4 x0 x1 x2 x3 x4 x5 hC9
      obtain ⟨r0,r1,r2,r3,r4,r5⟩:=hO9.cells
      rw [HLE.out]
      exact bodyPost_ret (v := .tuple #[.agg #[.int .i64 0,.string ⟨#[]⟩,.int .i64 0,.int .i64 0,.slice none 0 0],.int .i64 2]) (by simp [results,Tryz.results8,go_sem,r0,r1,r2,r3,r4]) rfl ⟨none,0,rfl,RdA.nil _ _ _ (by omega),hb9⟩
     ·have d2:=qar hg0
      have HLE:=hid (show qee l rs=(gl,0) by rw [HGZ.out,HLZ.out,if_neg hg0])
      clear hg0
      go_wp2_with fail
      refine qab fun W9 hW9 => ?_
      have hO9:OB W9 (w.heap.size+1) gl.op gl.name gl.val gl.bound A8 gl.args.length c8:=by rw [hW9];exact qag HG9.out.o
      have hC9:Chg (fun k=>k=w.heap.size+1) V9 W9:=by rw [hW9];exact qae V9 (w.heap.size+1) _ _ _ _ _
      have hb9:Below w.heap.size w W9:=HBW9.out.trans (hC9.below (B:=w.heap.size) (fun k hk e=>by omega) HBW9.out.size)
      have HC9:=hid hC9
      clear hW9 g0 g1 g2 g3 g4 g5 q0 q1 q2 q3 q4 x0 x1 x2 x3 x4 x5 hC9
      obtain ⟨r0,r1,r2,r3,r4,r5⟩:=hO9.cells
      rw [HLE.out]
      have hrd:RdA W9 (fun x=>w.heap.size≤x) gl.args A8 c8:=(HA9.out.keep (HC9.out.keeps fun k _ hk e=>by have:=HGW9.out;omega)).mono fun x hx _=>by have:=HGW9.out;have hx':w7.heap.size≤x:=hx;omega
      exact bodyPost_ret (v := .tuple #[.agg #[.int .i64 gl.op,.string gl.name,.int .i64 gl.val,.int .i64 gl.bound,.slice A8 gl.args.length c8],.int .i64 0]) (by simp [results,Tryz.results8,go_sem,r0,r1,r2,r3,r4]) rfl ⟨A8,c8,rfl,hrd,hb9⟩
end Go.Proofs.YtdakdpfofgkjoaaGreatDoor
