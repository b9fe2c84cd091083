/-
  The reference's Goal.
-/
import Derived.Test.YtdakdpfofgkjoaaGreatDoorZ35
set_option linter.unusedSimpArgs false
set_option linter.unusedVariables false
set_option maxHeartbeats 8000000
set_option maxRecDepth 100000
namespace Go.Proofs.YtdakdpfofgkjoaaGreatDoor
open Go.RowKit Go.Shelf
attribute [local go_sem] qad qgt
theorem Rd.ownB {w:World} {size n c base:Nat} {A:Option Addr} {xs:List Value} {e:TypeId} (h:w.ownsRow base e size (.slice A n c) n xs) (hn:n≤140737488355328):Rd w (fun k=>(Value.slice A n c).ownBlock=some k) size A n c xs:=by
 rcases h.2 with ⟨hv,h0⟩ | ⟨g,cap,cur,hv,hb,hh,h1,h2,hsz,htk⟩
 ·injection hv with _ _ hc
  subst h0
  subst hc
  obtain rfl:xs = []:=List.eq_nil_of_length_eq_zero (by simpa using h.1)
  exact Rd.nil w _ size A (by omega)
 ·have hA:A=some ⟨g,0,none⟩:=by injection hv
  have hc:c=cap:=by injection hv
  subst hA hc
  refine ⟨⟨h.1,hn,h1,h2⟩,fun hn=>⟨g,0,rfl,rfl,lt_of_block hh,fun j u hu => ?_⟩⟩
  rw [←htk,List.getElem?_take] at hu
  split at hu
  ·simp [World.cell?,hh];simpa using hu
  ·cases hu
theorem qbi.empty {w:World} {base g h:Nat} (hg:base≤g) (hh:base≤h) (hne:g≠h) (h1:w.heap[g]? = some (.cells #[] 28 (0,0))) (h2:w.heap[h]? = some (.cells #[] 28 (0,0))):qbi w base (some ⟨g,0,none⟩) 0 [] [] (some ⟨h,0,none⟩) 0 [] [] :=
 ⟨qg8 hg h1,qg8 hh h2,rfl,rfl,(fun i h=>absurd h (Nat.not_lt_zero _)),(fun i h=>absurd h (Nat.not_lt_zero _)),fun k e1 e2=>by
  have e1:some g=some k:=e1
  have e2:some h=some k:=e2
  injection e1 with e1
  injection e2 with e2
  omega⟩
theorem qbi.one {w:World} {base c d:Nat} {A B:Option Addr} {gs hs:List Fm} {sl sm:List (Option Addr × Nat)} (h:qbi w base A c gs sl B d hs sm):qbi w base A c gs sl none 0 [] [] :=
 ⟨h.own1,⟨rfl,.inl ⟨rfl,rfl⟩⟩,h.len1,rfl,(fun i hi=>(h.arg1 i hi).mono fun k hk _=>⟨hk.1,fun e=>by cases e⟩),(fun i h=>absurd h (Nat.not_lt_zero _)),fun k _ e=>by cases e⟩
theorem qbi.rd2 {w:World} {base c d:Nat} {A B:Option Addr} {gs hs:List Fm} {sl sm:List (Option Addr × Nat)} (h:qbi w base A c gs sl B d hs sm) (hn:hs.length≤140737488355328):RdA w (fun k=>(Value.slice A gs.length c).ownBlock≠some k) hs B d :=
 .mk _ _ _ sm h.len2 ((Rd.ownB h.own2 hn).mono fun k hk _ e=>h.ne k e hk) fun i hi=>(h.arg2 i hi).mono fun k hk _=>hk.1
structure RGol (w:World) (rs:List Rq) (sb gb:Nat) (AS:Option Addr) (n cS:Nat) (AR:Option Addr) (cR:Nat) (D:Dom):Prop where
 s:qdb w sb AS n cS AR rs.length cR
 o:OB w gb 0 ⟨#[]⟩ 0 0 none 0 0
 r:RdR w D AR cR rs
theorem RdR.belowD {w w':World} {D:Dom} {A:Option Addr} {c:Nat} {l:List Rq} (h:RdR w D A c l) (hb:Below w.heap.size w w'):RdR w' D A c l :=
 ((h.mono (E:=fun k=>D k∧k < w.heap.size) fun k hk hl=>⟨hk,hl⟩).keep (Keeps.of_below hb fun _ h=>h.2)).mono fun _ h _=>h.1
theorem RGol.below {w w':World} {rs:List Rq} {sb gb:Nat} {AS:Option Addr} {n cS:Nat} {AR:Option Addr} {cR:Nat} {D:Dom} (h:RGol w rs sb gb AS n cS AR cR D) (hb:Below w.heap.size w w'):RGol w' rs sb gb AS n cS AR cR D :=
 ⟨h.s.below hb,h.o.below hb,h.r.belowD hb⟩
theorem rnot_c {f:Fm} {v:Value} {w:World} {D:Dom} (g:Fm) (hg:notZ f=g) (hD : ∀ x,w.heap.size≤x→D x) (h:qby w D v f) :
  Calls Tryz.prog 33 #[v] w fun e w' => ∃ A c,e = .returned (.agg #[.int .i64 g.op,.string g.name,.int .i64 g.val,.int .i64 g.bound,.slice A g.args.length c])∧RdA w' D g.args A c∧Below w.heap.size w w':=by
 subst hg
 refine (rnot_any f v w D hD h).mono ?_
 rintro e w' ⟨v',rfl,⟨A,c,rfl,h1⟩,hb⟩
 exact ⟨A,c,rfl,h1,hb⟩
theorem rkern_c {f:Fm} {v:Value} {w:World} {D:Dom} (g:Fm) (hg:(qba f).1=g) (hD : ∀ x,w.heap.size≤x→D x) (h:qby w D v f) :
  Calls Tryz.prog 32 #[v] w fun e w' => ∃ A c,e = .returned (.tuple #[.agg #[.int .i64 g.op,.string g.name,.int .i64 g.val,.int .i64 g.bound,.slice A g.args.length c],.int .i64 (qba f).2])∧RdA w' D g.args A c∧Below w.heap.size w w':=by
 subst hg
 refine (rkernel_any f v w D hD h).mono ?_
 rintro e w' ⟨v',rfl,⟨A,c,rfl,h1⟩,hb⟩
 exact ⟨A,c,rfl,h1,hb⟩
theorem rand_c {l:List Fm} {A:Option Addr} {n c:Nat} {w:World} {D:Dom} (g:Fm) (hg:qbq 5 l=g) (hD : ∀ x,w.heap.size≤x→D x) (h:RdA w D l A c) (hn:n=l.length) (hs:sizes l≤1000000) :
  Calls Tryz.prog 35 #[.slice A n c] w fun e w' => ∃ A c,e = .returned (.agg #[.int .i64 g.op,.string g.name,.int .i64 g.val,.int .i64 g.bound,.slice A g.args.length c])∧RdA w' D g.args A c∧Below w.heap.size w w':=by
 subst hg
 refine (rand_any l A n c w D hD h hn hs).mono ?_
 rintro e w' ⟨v',rfl,⟨A,c,rfl,h1⟩,hb⟩
 exact ⟨A,c,rfl,h1,hb⟩
theorem ror_c {l:List Fm} {A:Option Addr} {n c:Nat} {w:World} {D:Dom} (g:Fm) (hg:qbq 6 l=g) (hD : ∀ x,w.heap.size≤x→D x) (h:RdA w D l A c) (hn:n=l.length) (hs:sizes l≤1000000) :
  Calls Tryz.prog 34 #[.slice A n c] w fun e w' => ∃ A c,e = .returned (.agg #[.int .i64 g.op,.string g.name,.int .i64 g.val,.int .i64 g.bound,.slice A g.args.length c])∧RdA w' D g.args A c∧Below w.heap.size w w':=by
 subst hg
 refine (ror_any l A n c w D hD h hn hs).mono ?_
 rintro e w' ⟨v',rfl,⟨A,c,rfl,h1⟩,hb⟩
 exact ⟨A,c,rfl,h1,hb⟩
theorem args_nz {f g:Fm} (h:qa3 f=true) (e:f=g) : ∀ x,x∈g.args → ∃ ins,allI nzQ ins x:=by
 subst e
 intro x hx
 have h1:=(qcj h).2.2
 exact ⟨_,qh2 (fun y hy=>qjh y hy) ((qay.1 h1).2 x hx)⟩
theorem last_eq (rs:List Rq):lastZ rs=if (qbq 6 (qb4 rs ++ [qbq 5 (qbh rs)])).op=0 then (qbb,2) else (qbq 6 (qb4 rs ++ [qbq 5 (qbh rs)]),0):=by
 unfold lastZ
 by_cases h:(qbq 5 (qbh rs)).op=0
 ·have h1:qa3 (qbq 5 (qbh rs))=false:=by
   cases hl:qa3 (qbq 5 (qbh rs))
   ·rfl
   ·exact absurd h (loose_op hl)
  have h2:(qb4 rs ++ [qbq 5 (qbh rs)]).all qa3=false:=by
   rw [List.all_eq_false]
   exact ⟨qbq 5 (qbh rs),by simp,by rw [h1];simp⟩
  rw [conn_zero 6 h2,if_pos h]
  rfl
 ·rw [if_neg h]
theorem rgoal_any {D E:Dom} (l:List Sg) (rs:List Rq) (AS:Option Addr) (n cS:Nat) (AR:Option Addr) (m cR:Nat) (w:World) (hn:n=l.length) (hl:RdG w D AS cS l) (hm:m=rs.length) (hr:RdR w E AR cR rs) :
  Calls Tryz.prog 9 #[.agg #[.slice AS n cS,.slice AR m cR]] w fun e w' => ∃ A c,e = .returned (.tuple #[.agg #[.int .i64 (qee l rs).1.op,.string (qee l rs).1.name,.int .i64 (qee l rs).1.val,.int .i64 (qee l rs).1.bound,.slice A (qee l rs).1.args.length c],.int .i64 (qee l rs).2])∧RdA w' qbw (qee l rs).1.args A c∧Below w.heap.size w w':=by
 subst hn hm
 have hlen:=hl.len.1
 have hlen2:=hr.len.1
 have HL:=hid hl.old
 have HR:=hid hr.old
 clear hl hr
 obtain ⟨i0,hti,hz0,hz1,hz2⟩:=info_parts qbt
 have HTI:=hid hti
 have HZ0:=hid hz0
 have HZ1:=hid hz1
 have HZ2:=hid hz2
 clear hti hz0 hz1 hz2
 go_enter Tryz.func9,Tryz.ntmps9
 go_upto_region 1 with (fail)
 refine qai fun W hW => ?_
 have HB:=hid (show Below w.heap.size w W by rw [hW];go_grown)
 have HS:=hid (show qdb W w.heap.size AS l.length cS AR rs.length cR by show W.heap[_]? = _;rw [hW,qaq _ _ _ (by simp)];exact at_new _ _ _ rfl)
 have HO:=hid (show OB W (w.heap.size+1) 0 ⟨#[]⟩ 0 0 none 0 0 by rw [hW];exact at_new _ _ _ (by simp))
 have HWS:=hid (show W.heap.size=w.heap.size+2 by rw [hW];simp)
 clear hW
 obtain ⟨s0,s1,s2⟩:=HS.out.cells
 have HCK:=hid (rcheck_any l rs AS l.length cS AR rs.length cR W rfl (HL.out.any HB.out) rfl (HR.out.any HB.out))
 cases hc:qcp l rs with
 | cons x L =>
  have HE:=hid (goalZ_err hc)
  rw [hc] at HCK
  clear hc
  go_upto_region 3 with (go_at_call 14;(with_reducible refine HCK.out.mono ?_);rintro e V ⟨A,c,rfl,hT,hbV⟩;have HT:=hid hT;have HBV:=hid hbV;clear hT hbV s0 s1 s2)
  obtain ⟨b,o,y,rfl,hdb,hlb,HX,y0,y1⟩:=HT.out.get (k:=0) (Nat.succ_pos _)
  have hbg : ¬ b=w.heap.size+1:=by have hdb:W.heap.size≤b:=hdb;have:=HWS.out;omega
  have hbg2 : ¬ w.heap.size+1=b:=fun e=>hbg e.symm
  have hy:y=x:=HX.out.symm
  subst hy
  clear HX
  have HOV:=hid (HO.out.below HBV.out)
  obtain ⟨g0,g1,g2,g3,g4,g5⟩:=HOV.out.cells
  have q0:=HOV.out.free 0
  have q1:=HOV.out.free 1
  have q2:=HOV.out.free 2
  have q3:=HOV.out.free 3
  have q4:=HOV.out.free 4
  go_region_held3 (fun W':World=>W'.cell? ⟨b,o+0 * 2+1,none⟩=some (.int .i64 y.2))
   ((go_keep;done))
   (fail)
  all_goals
   go_wp2_with fail
   refine qab fun W9 hW9 => ?_
   have hO9:OB W9 (w.heap.size+1) 0 ⟨#[]⟩ 0 0 none 0 0:=by rw [hW9];exact qag HOV.out
   have hb9:Below w.heap.size w W9:=by
    rw [hW9]
    exact (HB.out.trans (HBV.out.mono HB.out.size)).trans ((qae V (w.heap.size+1) _ _ _ _ _).below (B:=w.heap.size) (fun k hk e=>by omega) (by have:=HBV.out.size;have:=HWS.out;omega)) |>.trans ((qao.refl _).drew.below _)
   clear hW9 g0 g1 g2 g3 g4 g5 q0 q1 q2 q3 q4 y0 y1
   obtain ⟨r0,r1,r2,r3,r4,r5⟩:=hO9.cells
   rw [HE.out]
   exact bodyPost_ret (v := .tuple #[.agg #[.int .i64 0,.string ⟨#[]⟩,.int .i64 0,.int .i64 0,.slice none 0 0],.int .i64 y.2]) (by simp [results,Tryz.results9,go_sem,r0,r1,r2,r3,r4]) rfl ⟨none,0,rfl,RdA.nil _ _ _ (by omega),hb9⟩
 | nil =>
  have HGD:=hid (check_nil.1 hc)
  have HGZ:=hid (goal_good HGD.out)
  rw [hc] at HCK
  clear hc
  go_upto_region 4 with (go_at_call 14;(with_reducible refine HCK.out.mono ?_);rintro e V ⟨A,c,rfl,hT,hbV⟩;have HBV:=hid hbV;clear hT hbV s0 s1 s2)
  have H16:=hid HGD.out.len
  have HBW:=hid (HB.out.trans (HBV.out.mono HB.out.size))
  have HGB:=hid (show RGol V rs w.heap.size (w.heap.size+1) AS l.length cS AR cR (· < w.heap.size) from ⟨HS.out.below HBV.out,HO.out.below HBV.out,HR.out.belowD HBW.out⟩)
  obtain ⟨base,hbase⟩ : ∃ base,base=V.heap.size:=⟨_,rfl⟩
  have HBS:=hid (show base≤V.heap.size∧V.heap.size≤base∧w.heap.size+1 < base by have:=HBV.out.size;have:=HWS.out;omega)
  go_upto_region 6 with (fail)
  refine qai fun V2 hV2 => ?_
  have HB2:=hid (show Below base V V2 by rw [hV2,hbase];go_grown)
  have HT0:=hid (show qbi V2 base (some ⟨V.heap.size,0,none⟩) 0 [] [] (some ⟨V.heap.size+1,0,none⟩) 0 [] [] by
   refine qbi.empty (Nat.le_of_eq hbase) (by omega) (by omega) ?_ ?_
   ·rw [hV2,qaq _ _ _ (by simp)];exact at_new _ _ _ rfl
   ·rw [hV2];exact at_new _ _ _ (by simp))
  obtain ⟨g1,hg1⟩ : ∃ g1,g1=V.heap.size:=⟨_,rfl⟩
  obtain ⟨g2,hg2⟩ : ∃ g2,g2=g1+1:=⟨_,rfl⟩
  rw [←hg1] at HT0 ⊢
  rw [←hg2] at HT0 ⊢
  clear hV2 hbase hg1 hg2 HCK HS HO HWS HBV HGD
  go_wp2_with fail
  go_loopw [5,6,7] (fun p q r wr => ∃ (i:Nat) (A:Option Addr) (c:Nat) (sl:List (Option Addr × Nat)) (B:Option Addr) (d:Nat) (sm:List (Option Addr × Nat)),i≤rs.length∧p = .slice A (qb4 (rs.take i)).length c∧q = .slice B (qbh (rs.take i)).length d∧r = .int .i64 (i:Int)∧Hid (qbi wr base A c (qb4 (rs.take i)) sl B d (qbh (rs.take i)) sm)∧Hid (Below base V wr)) (fun _ _ r _=>rs.length - (intOf r).toNat)
  case atStart=>exact ⟨0,_,_,[],_,_,[],Nat.zero_le _,rfl,rfl,rfl,HT0.out,HB2.out⟩
  case round =>
   obtain ⟨i,A,c,sl,B,d,sm,hi,rfl,rfl,rfl,HT,HBR⟩:=hrel
   have HGR:=hid (HGB.out.below (HBR.out.mono HBS.out.2.1))
   by_cases hlt:i < rs.length
   ·have hii:(i:Int) < rs.length:=by omega
    have HLT:=hid hlt
    have hpl:(qb4 (rs.take i)).length≤16:=by have:=qg7 (rs.take i);rw [List.length_take] at this;have:=H16.out;omega
    have hgl:(qbh (rs.take i)).length≤16:=by have:=qhc (rs.take i);rw [List.length_take] at this;have:=H16.out;omega
    have HPS:=hid (parts_snoc hlt)
    have HGS:=hid (guars_snoc hlt)
    obtain ⟨P,hP⟩ : ∃ P,qb4 (rs.take i)=P:=⟨_,rfl⟩
    obtain ⟨G,hG⟩ : ∃ G,qbh (rs.take i)=G:=⟨_,rfl⟩
    rw [hP] at HT hpl HPS ⊢
    rw [hG] at HT hgl HGS ⊢
    clear hP hG
    obtain ⟨b,o,A1,c1,r,rfl,HX,hr1⟩:=HGR.out.r.get hlt
    rw [HX.out] at HPS HGS
    clear HX
    obtain ⟨s0,s1,s2⟩:=HGR.out.s.cells
    have HRR:=hid hr1
    obtain ⟨_,hlb,_,_,n2,n3,n4,n5,n6,n7,_⟩:=hr1
    have HD1:Hid (∀ x,wr.heap.size≤x→(Value.slice A P.length c).ownBlock≠some x∧(Value.slice B G.length d).ownBlock≠some x):=hid fun x h=>⟨fun e=>by have:=qdu HT.out.own1 e;omega,fun e=>by have:=qdu HT.out.own2 e;omega⟩
    have HA1:=hid (HRR.out.args.mono (E:=fun x=>(Value.slice A P.length c).ownBlock≠some x∧(Value.slice B G.length d).ownBlock≠some x) fun x hx _=>⟨fun e=>by have:=qdu HT.out.own1 e;have:=HBS.out.2.2;have hx:x < w.heap.size:=hx;omega,fun e=>by have:=qdu HT.out.own2 e;have:=HBS.out.2.2;have hx:x < w.heap.size:=hx;omega⟩)
    obtain ⟨k,hk⟩ : ∃ k,(qba r.f).1=k:=⟨_,rfl⟩
    have HK1:=hid hk
    rw [hk] at HPS HGS
    clear hk
    go_upto_region 10 with (go_at_call 32;(with_reducible refine (rkern_c (f:=r.f) (D:=fun x=>(Value.slice A P.length c).ownBlock≠some x∧(Value.slice B G.length d).ownBlock≠some x) k HK1.out HD1.out ?_).mono ?_);exact ⟨A1,c1,rfl,HA1.out⟩;rintro e V4 ⟨A4,c4,rfl,ha4,hb4⟩;have HB4:=hid hb4;have HA4:=hid ha4;clear hb4 ha4)
    refine qai fun V5 hV5 => ?_
    have HB5:=hid (show Below wr.heap.size wr V5 by rw [hV5];exact HB4.out.alloc HB4.out.size _)
    have HO5:=hid (show OB V5 V4.heap.size k.op k.name k.val k.bound A4 k.args.length c4 by rw [hV5];exact at_new _ _ _ rfl)
    have HA5:=hid (show RdA V5 (fun x=>(Value.slice A P.length c).ownBlock≠some x∧(Value.slice B G.length d).ownBlock≠some x) k.args A4 c4 by
     rw [hV5]
     exact HA4.out.belowD ((Below.refl _ _).alloc (Nat.le_refl _) _))
    clear hV5 HB4 HA4 s0 s1 n3 n4 n5 n6 n7
    have HT5:=hid (HT.out.below HB5.out)
    have HG5:=hid (HGR.out.below HB5.out)
    have m2:=(HB5.out.cell (p:=⟨b,o+i * 8+2,none⟩) hlb).trans n2
    have hlb5:=Nat.lt_of_lt_of_le hlb HB5.out.size
    obtain ⟨s0,s1,s3⟩:=HG5.out.s.cells
    have HBB:=hid (HBR.out.trans (HB5.out.mono (Nat.le_trans HBS.out.1 HBR.out.size)))
    obtain ⟨u,hu⟩ : ∃ u,u=V4.heap.size:=⟨_,rfl⟩
    rw [←hu] at HO5 ⊢
    clear hu n2 hlb s2
    obtain ⟨x0,x1,x2,x3,x4,x5⟩:=HO5.out.cells
    by_cases hkd:r.kind=1
    ·have d1:=qb6 hkd
     rw [if_pos hkd] at HPS HGS
     clear hkd
     obtain ⟨nk,hnk⟩ : ∃ nk,notZ k=nk:=⟨_,rfl⟩
     have HNK:=hid hnk
     rw [hnk] at HPS
     clear hnk
     go_wp2_with (first | (go_at_call 33;(with_reducible refine (rnot_c (f:=k) (D:=fun x=>(Value.slice A P.length c).ownBlock≠some x∧(Value.slice B G.length d).ownBlock≠some x) nk HNK.out ?_ ?_).mono ?_);exact fun x hx=>HD1.out x (Nat.le_trans HB5.out.size hx);exact ⟨A4,c4,rfl,HA5.out⟩;rintro e V6 ⟨A6,c6,rfl,ha6,hb6⟩;have HB6:=hid hb6;have HA6:=hid ha6;have HT6:=hid (HT5.out.below hb6);have hone:=qb9 nk (A6,c6);clear hb6 ha6 x0 x1 x2 x3 x4 x5 s0 s1 s3 m2 hlb5) | (at_builtin;go_must (refine qat _ rfl (.tmp 47) (.tmp 50) 26 rfl base 28 i0 _ 5 64 Tryz.underlying26 HTI.out HZ0.out HZ1.out HZ2.out rfl (by omega) (.slice A P.length c) P.length _ rfl (own_below HT6.out.own1 (by go_grown)) _ (some ⟨V6.heap.size,0,none⟩) 1 1 _ rfl (Rd.fresh (D:=qbw) (n:=1) rfl trivial rfl (by decide)) hone (by omega) (qaz (by omega)) (by have:=HBB.out.size;have:=HB6.out.size;have:=HBS.out.1;simp;omega) ?_);intro A7 c7 w7 hown7 hg7 hat7))
     have HG7:=hid hg7
     have HO7:=hid hown7
     have HAT:=hid hat7
     clear hown7 hg7 hat7
     go_roundw
     case rel =>
      refine ⟨i+1,A7,c7,sl ++ [(A6,c6)],B,d,sm,by have:=HLT.out;omega,by rw [HPS.out,List.length_append];rfl,by rw [HGS.out,List.append_nil],by go_num,?_,?_⟩
      ·rw [HPS.out,HGS.out,List.append_nil]
       exact qbi.app (HT6.out.below ((Below.refl _ _).alloc (Nat.le_refl _) _)) HG7.out (by rw [List.length_append];rfl) HO7.out HAT.out (HA6.out.belowD ((Below.refl _ _).alloc (Nat.le_refl _) _))
      ·refine Below.grown ((HBB.out.trans (HB6.out.mono (by have:=HBB.out.size;have:=HBS.out.1;omega))).alloc (by have:=HBB.out.size;have:=HB6.out.size;have:=HBS.out.1;omega) _) HG7.out (by have:=HBB.out.size;have:=HB6.out.size;have:=HBS.out.1;simp;omega) fun k hk=>(qdu HT6.out.own1 hk).1
     case measure=>have:=HLT.out;simp [intOf];omega
    ·have d1:=qar hkd
     rw [if_neg hkd] at HPS HGS
     clear hkd
     have hone:=qb9 k (A4,c4)
     go_wp2_with (at_builtin;go_must (refine qat _ rfl (.tmp 52) (.tmp 54) 26 rfl base 28 i0 _ 5 64 Tryz.underlying26 HTI.out HZ0.out HZ1.out HZ2.out rfl (by omega) (.slice B G.length d) G.length _ rfl (own_below HT5.out.own2 (by go_grown)) _ (some ⟨V5.heap.size,0,none⟩) 1 1 _ rfl (Rd.fresh (D:=qbw) (n:=1) rfl trivial rfl (by decide)) hone (by omega) (qaz (by omega)) (by have:=HBB.out.size;have:=HBS.out.1;simp;omega) ?_);intro B7 d7 w7 hown7 hg7 hat7)
     have HG7:=hid hg7
     have HO7:=hid hown7
     have HAT:=hid hat7
     clear hown7 hg7 hat7
     go_roundw
     case rel =>
      refine ⟨i+1,A,c,sl,B7,d7,sm ++ [(A4,c4)],by have:=HLT.out;omega,by rw [HPS.out,List.append_nil],by rw [HGS.out,List.length_append];rfl,by go_num,?_,?_⟩
      ·rw [HPS.out,HGS.out,List.append_nil]
       refine qbi.swap (qbi.app (qbi.swap (HT5.out.below ((Below.refl _ _).alloc (Nat.le_refl _) _))) HG7.out (by rw [List.length_append];rfl) HO7.out HAT.out ?_)
       exact (HA5.out.mono (E:=fun x=>(Value.slice B G.length d).ownBlock≠some x∧(Value.slice A P.length c).ownBlock≠some x) fun x hx _=>⟨hx.2,hx.1⟩).belowD ((Below.refl _ _).alloc (Nat.le_refl _) _)
      ·refine Below.grown (HBB.out.alloc (by have:=HBB.out.size;have:=HBS.out.1;omega) _) HG7.out (by have:=HBB.out.size;have:=HBS.out.1;simp;omega) fun k hk=>(qdu HT5.out.own2 hk).1
     case measure=>have:=HLT.out;simp [intOf];omega
   ·have hii : ¬ (i:Int) < rs.length:=by omega
    obtain ⟨s0,s1,s2⟩:=HGR.out.s.cells
    have htk:rs.take i=rs:=List.take_of_length_le (by omega)
    rw [htk] at HT ⊢
    clear htk
    have hpl:(qb4 rs).length≤16:=by have:=qg7 rs;have:=H16.out;omega
    have hgl:(qbh rs).length≤16:=by have:=qhc rs;have:=H16.out;omega
    have HZS:=hid (guars_sizes H16.out)
    have HPZ:=hid (fun f hf=>parts_sizes H16.out f hf)
    have HLZ:=hid (last_eq rs)
    have HCS:=hid (qj7 5 (qbh rs))
    obtain ⟨P,hP⟩ : ∃ P,qb4 rs=P:=⟨_,rfl⟩
    obtain ⟨G,hG⟩ : ∃ G,qbh rs=G:=⟨_,rfl⟩
    rw [hP] at HT hpl HPZ HLZ ⊢
    rw [hG] at HT hgl HZS HLZ HCS ⊢
    clear hP hG
    have HD1:Hid (∀ x,wr.heap.size≤x→(Value.slice A P.length c).ownBlock≠some x):=hid fun x h e=>by have:=qdu HT.out.own1 e;omega
    obtain ⟨al,hal⟩ : ∃ al,qbq 5 G=al:=⟨_,rfl⟩
    rw [hal] at HLZ HCS
    have HAL:=hid hal
    clear hal
    have hplen:P.length+1=(P ++ [al]).length:=by simp
    have hple:(P ++ [al]).length≤140737488355328:=by rw [←hplen];omega
    have HPE:=hid hplen
    have HPE2:=hid hple
    have HPL:=hid (HPZ.out al HCS.out)
    clear hplen hple
    obtain ⟨gl,hgl2⟩ : ∃ gl,qbq 6 (P ++ [al])=gl:=⟨_,rfl⟩
    rw [hgl2] at HLZ
    have HGL:=hid hgl2
    clear hgl2 HPZ
    have HRD2:=hid (HT.out.rd2 (by omega))
    have HT1:=hid HT.out.one
    clear HT
    go_upto_region 14 with (first | (go_at_call 35;(with_reducible refine (rand_c (l:=G) (D:=fun x=>(Value.slice A P.length c).ownBlock≠some x) al HAL.out HD1.out HRD2.out rfl HZS.out).mono ?_);rintro e V4 ⟨A4,c4,rfl,ha4,hb4⟩;have HB4:=hid hb4;have HA4:=hid ha4;have hone:=qb9 al (A4,c4);clear hb4 ha4) | (at_builtin;go_must (refine qat _ rfl (.tmp 56) (.tmp 59) 26 rfl base 28 i0 _ 5 64 Tryz.underlying26 HTI.out HZ0.out HZ1.out HZ2.out rfl (by omega) (.slice A P.length c) P.length _ rfl (own_below (own_below HT1.out.own1 HB4.out) (by go_grown)) _ (some ⟨V4.heap.size,0,none⟩) 1 1 _ rfl (Rd.fresh (D:=qbw) (n:=1) rfl trivial rfl (by decide)) hone (by omega) (qaz (by omega)) (by have:=HBR.out.size;have:=HB4.out.size;have:=HBS.out.1;simp;omega) ?_);intro A7 c7 w7 hown7 hg7 hat7;have HT7:=hid (qbi.app (f:=al) (s:=(A4,c4)) ((HT1.out.below HB4.out).below ((Below.refl _ _).alloc (Nat.le_refl _) _)) hg7 (by rw [List.length_append];rfl) hown7 hat7 ((HA4.out.mono (E:=fun x=>(Value.slice A P.length c).ownBlock≠some x∧(Value.slice none ([]:List Fm).length 0).ownBlock≠some x) fun x hx _=>⟨hx,fun e=>by cases e⟩).belowD ((Below.refl _ _).alloc (Nat.le_refl _) _)));have HB7:=hid (show Below base V w7 from Below.grown ((HBR.out.trans (HB4.out.mono (Nat.le_trans HBS.out.1 HBR.out.size))).alloc (by have:=HBR.out.size;have:=HB4.out.size;have:=HBS.out.1;omega) _) hg7 (by have:=HBR.out.size;have:=HB4.out.size;have:=HBS.out.1;simp;omega) fun k hk=>(qdu (own_below HT1.out.own1 HB4.out) hk).1);clear hown7 hg7 hat7) | (go_at_call 34;(with_reducible refine (ror_c (l:=P ++ [al]) (D:=qbw) gl HGL.out ?_ ?_ ?_ ?_).mono ?_);exact fun _ _=>trivial;exact HT7.out.rd1 HPE2.out;exact HPE.out;exact HPL.out;rintro e V8 ⟨A8,c8,rfl,ha8,hb8⟩;have HB8:=hid (HB7.out.trans (hb8.mono (by have:=HB7.out.size;have:=HBS.out.1;omega)));have HA8:=hid ha8;clear hb8 ha8))
    refine qai fun V9 hV9 => ?_
    have HB9:=hid (show Below base V V9 by rw [hV9];exact HB8.out.alloc (by have:=HB8.out.size;have:=HBS.out.1;omega) _)
    have HO9':=hid (show OB V9 V8.heap.size gl.op gl.name gl.val gl.bound A8 gl.args.length c8 by rw [hV9];exact at_new _ _ _ rfl)
    have HA9:=hid (show RdA V9 qbw gl.args A8 c8 by rw [hV9];exact HA8.out.belowD ((Below.refl _ _).alloc (Nat.le_refl _) _))
    have HG9:=hid (HGB.out.below (HB9.out.mono HBS.out.2.1))
    have HBW9:=hid (HBW.out.trans (HB9.out.mono (Nat.le_of_lt (Nat.lt_of_succ_lt HBS.out.2.2))))
    clear hV9
    obtain ⟨u2,hu2⟩ : ∃ u2,u2=V8.heap.size:=⟨_,rfl⟩
    rw [←hu2] at HO9' ⊢
    clear hu2
    obtain ⟨x0,x1,x2,x3,x4,x5⟩:=HO9'.out.cells
    obtain ⟨g0,g1,g2,g3,g4,g5⟩:=HG9.out.o.cells
    have q0:=HG9.out.o.free 0
    have q1:=HG9.out.o.free 1
    have q2:=HG9.out.o.free 2
    have q3:=HG9.out.o.free 3
    have q4:=HG9.out.o.free 4
    by_cases hg0:gl.op=0
    ·have d2:=qb6 hg0
     have HLE:=hid (show qee l rs=(qbb,2) by rw [HGZ.out,HLZ.out,if_pos hg0])
     clear hg0
     go_wp2_with fail
     refine qab fun W9 hW9 => ?_
     have hO9:OB W9 (w.heap.size+1) 0 ⟨#[]⟩ 0 0 none 0 0:=by rw [hW9];exact qag HG9.out.o
     have hC9:Chg (fun k=>k=w.heap.size+1) V9 W9:=by rw [hW9];exact qae V9 (w.heap.size+1) _ _ _ _ _
     have hb9:Below w.heap.size w W9:=HBW9.out.trans (hC9.below (B:=w.heap.size) (fun k hk e=>by omega) HBW9.out.size)
     have HC9:=hid hC9
     clear hW9 g0 g1 g2 g3 g4 g5 q0 q1 q2 q3 q4 x0 x1 x2 x3 x4 x5 hC9
     obtain ⟨r0,r1,r2,r3,r4,r5⟩:=hO9.cells
     rw [HLE.out]
     exact bodyPost_ret (v := .tuple #[.agg #[.int .i64 0,.string ⟨#[]⟩,.int .i64 0,.int .i64 0,.slice none 0 0],.int .i64 2]) (by simp [results,Tryz.results9,go_sem,r0,r1,r2,r3,r4]) rfl ⟨none,0,rfl,RdA.nil _ _ _ (by omega),hb9⟩
    ·have d2:=qar hg0
     have HAV:=hid (HA9.out.avoid HG9.out.o (args_nz (connZ_ok (.inr rfl) (by rw [HGL.out];exact hg0)).2.1 HGL.out))
     have HLE:=hid (show qee l rs=(gl,0) by rw [HGZ.out,HLZ.out,if_neg hg0])
     clear hg0
     go_wp2_with fail
     refine qab fun W9 hW9 => ?_
     have hO9:OB W9 (w.heap.size+1) gl.op gl.name gl.val gl.bound A8 gl.args.length c8:=by rw [hW9];exact qag HG9.out.o
     have hC9:Chg (fun k=>k=w.heap.size+1) V9 W9:=by rw [hW9];exact qae V9 (w.heap.size+1) _ _ _ _ _
     have hb9:Below w.heap.size w W9:=HBW9.out.trans (hC9.below (B:=w.heap.size) (fun k hk e=>by omega) HBW9.out.size)
     have HC9:=hid hC9
     clear hW9 g0 g1 g2 g3 g4 g5 q0 q1 q2 q3 q4 x0 x1 x2 x3 x4 x5 hC9
     obtain ⟨r0,r1,r2,r3,r4,r5⟩:=hO9.cells
     rw [HLE.out]
     have hrd:RdA W9 qbw gl.args A8 c8:=(HAV.out.keep (HC9.out.keeps fun k _ hk e=>hk.2 e)).mono fun _ _ _=>trivial
     exact bodyPost_ret (v := .tuple #[.agg #[.int .i64 gl.op,.string gl.name,.int .i64 gl.val,.int .i64 gl.bound,.slice A8 gl.args.length c8],.int .i64 0]) (by simp [results,Tryz.results9,go_sem,r0,r1,r2,r3,r4]) rfl ⟨A8,c8,rfl,hrd,hb9⟩
end Go.Proofs.YtdakdpfofgkjoaaGreatDoor
