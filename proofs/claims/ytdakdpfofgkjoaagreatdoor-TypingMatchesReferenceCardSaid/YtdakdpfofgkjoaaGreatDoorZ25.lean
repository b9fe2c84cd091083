/-
  Parts of a proof: X9 XD.
-/
import Derived.Test.YtdakdpfofgkjoaaGreatDoorZ24
import Derived.Test.YtdakdpfofgkjoaaGreatDoorZ23
import Derived.Test.YtdakdpfofgkjoaaGreatDoorZ12
import Derived.Test.YtdakdpfofgkjoaaGreatDoorZ20
set_option linter.unusedSimpArgs false
set_option linter.unusedVariables false
set_option maxHeartbeats 8000000
set_option maxRecDepth 100000
namespace Go.Proofs.YtdakdpfofgkjoaaGreatDoor
open Go.RowKit Go.Shelf
attribute [local go_sem] qad run_store_func
theorem build_fault (a b:Int) (w:World):(Instr.build 58 #[(0,.int .i64 a),(1,.int .i64 b)]).run Tryz.prog w = .ok (.agg #[.int .i64 a,.int .i64 b]) w:=run_build w 58 _ _ (by kernel_rfl)
attribute [local go_sem] build_fault
theorem fault_info:(Tryz.prog.info? 58).map (fun i=>(i.zero,i.size,i.bytes))=some (some (.agg #[.int .i64 0,.int .i64 0]),2,16):=by kernel_rfl
theorem qho (x:Int × Int) : ∀ u∈tcells x,u.oneCell'=true:=by
 intro u hu
 simp only [tcells,List.mem_cons,List.not_mem_nil,or_false] at hu
 rcases hu with rfl | rfl <;> rfl
def OutT (w:World) (base:Nat) (v:Value) (L:List (Int × Int)):Prop := ∃ A c,v = .slice A L.length c∧w.ownsRow base 58 2 (.slice A L.length c) L.length (L.flatMap tcells)
theorem OutT.nil (w:World) (base:Nat):OutT w base (.slice none 0 0) []:=⟨none,0,rfl,rfl,.inl ⟨rfl,rfl⟩⟩
theorem OutT.below {w w':World} {base:Nat} {v:Value} {L:List (Int × Int)} (h:OutT w base v L) (hb:Below w.heap.size w w'):OutT w' base v L:=let ⟨A,c,e,h1⟩:=h;⟨A,c,e,own_below h1 hb⟩
structure ChkB (w:World) (l:List Sg) (rs:List Rq) (sb rb pb fb mb:Nat) (AS:Option Addr) (cS:Nat) (AR:Option Addr) (cR:Nat):Prop where
 g:GF w
 k:GK w
 s:qdb w sb AS l.length cS AR rs.length cR
 ru:qkd w rb pb fb mb sb (qbe rs)
 l:RdG w qbw AS cS l
 r:RdR w qbw AR cR rs
theorem ChkB.below {w w':World} {l:List Sg} {rs:List Rq} {sb rb pb fb mb:Nat} {AS:Option Addr} {cS:Nat} {AR:Option Addr} {cR:Nat} (h:ChkB w l rs sb rb pb fb mb AS cS AR cR) (hb:Below w.heap.size w w'):ChkB w' l rs sb rb pb fb mb AS cS AR cR :=
 ⟨h.g.below hb h.g.pos,h.k.below hb h.k.pos,h.s.below hb,h.ru.below hb,h.l.any hb,h.r.any hb⟩
theorem check_any {D E:Dom} (l:List Sg) (rs:List Rq) (AS:Option Addr) (n cS:Nat) (AR:Option Addr) (m cR:Nat) (w:World) (hn:n=l.length) (hl:RdG w D AS cS l) (hm:m=rs.length) (hr:RdR w E AR cR rs) (hg:GF w) (hk:GK w) :
  Calls Tryz.prog 13 #[.agg #[.slice AS n cS,.slice AR m cR]] w fun e w' => ∃ A c,e = .returned (.slice A (qcp l rs).length c)∧RdT w' (fun b=>w.heap.size≤b) A c (qcp l rs)∧Below w.heap.size w w':=by
 subst hn hm
 have hlen:=hl.len.1
 have hlen2:=hr.len.1
 have HL:=hid hl.old
 have HR:=hid hr.old
 have HG:=hid hg
 have HK:=hid hk
 clear hl hr hg hk
 obtain ⟨i0,hti,hz0,hz1,hz2⟩:=info_parts fault_info
 have HTI:=hid hti
 have HZ0:=hid hz0
 have HZ1:=hid hz1
 have HZ2:=hid hz2
 clear hti hz0 hz1 hz2
 go_enter Tryz.func13,Tryz.ntmps13
 go_upto_region 1 with (fail)
 refine qai fun W hW => ?_
 have HB:=hid (show Below w.heap.size w W by rw [hW];go_grown)
 have HS:=hid (show qdb W w.heap.size AS l.length cS AR rs.length cR by show W.heap[_]? = _;rw [hW];exact at_new _ _ _ rfl)
 have HWS:=hid (show W.heap.size=w.heap.size+1 by rw [hW];simp)
 clear hW
 obtain ⟨s0,s1,s2⟩:=HS.out.cells
 have HSV:=hid (svalid_any l AS cS l.length W rfl (HL.out.any HB.out) (HK.out.below HB.out HK.out.pos))
 have AV : ∀ {r:Bool},True:=fun {_} => trivial
 clear AV
 cases hv:qcf l
 ·have HRR:=hid (show qcp l rs = [(-1,1)] by unfold qcp;rw [hv];rfl)
  rw [hv] at HSV
  clear hv
  go_wp2_with (go_at_call 36;(with_reducible refine HSV.out.mono ?_);rintro e V ⟨rfl,hbV⟩;have HBV:=hid (HB.out.trans (hbV.mono HB.out.size));clear hbV)
  refine qab fun W9 hW9 => ?_
  have hrd:RdT W9 (fun b=>w.heap.size≤b) (some ⟨V.heap.size,0,none⟩) 1 [(-1,1)]:=by
   rw [hW9]
   exact Rd.fresh (D:=fun b=>w.heap.size≤b) (cs := #[.int .i64 (-1),.int .i64 1]) (n:=1) rfl HBV.out.size rfl (by decide)
  have hb9:Below w.heap.size w W9:=by rw [hW9];exact HBV.out.alloc HBV.out.size _
  clear hW9
  go_ret
  rw [HRR.out]
  exact ⟨_,_,rfl,hrd,hb9⟩
 rw [hv] at HSV
 have HVS:=hid hv
 clear hv
 have AV:=hid (show True from trivial)
 by_cases h16:16 < rs.length
 ·have HRR:=hid (show qcp l rs = [(-1,2)] by unfold qcp;rw [HVS.out,if_pos rfl,if_neg (by omega)])
  have h16i:16 < (rs.length:Int):=by omega
  clear h16
  go_wp2_with (go_at_call 36;(with_reducible refine HSV.out.mono ?_);rintro e V ⟨rfl,hbV⟩;have HBV:=hid (HB.out.trans (hbV.mono HB.out.size));obtain ⟨t0,t1,t2⟩:=(HS.out.below hbV).cells;clear hbV s0 s1 s2)
  refine qab fun W9 hW9 => ?_
  have hrd:RdT W9 (fun b=>w.heap.size≤b) (some ⟨V.heap.size,0,none⟩) 1 [(-1,2)]:=by
   rw [hW9]
   exact Rd.fresh (D:=fun b=>w.heap.size≤b) (cs := #[.int .i64 (-1),.int .i64 2]) (n:=1) rfl HBV.out.size rfl (by decide)
  have hb9:Below w.heap.size w W9:=by rw [hW9];exact HBV.out.alloc HBV.out.size _
  clear hW9
  go_ret
  rw [HRR.out]
  exact ⟨_,_,rfl,hrd,hb9⟩
 have HCZ:=hid (show qcp l rs=qc9 l rs rs.length by unfold qcp;rw [HVS.out,if_pos rfl,if_pos (by omega)])
 have h16i : ¬ 16 < (rs.length:Int):=by omega
 have H16:=hid (show rs.length≤16 by omega)
 clear h16
 have HRU:=hid (fun (V:World) (hb:Below W.heap.size W V)=>rules_any (E:=qbw) rs w.heap.size AS l.length cS AR rs.length cR V (HS.out.below hb) rfl (HR.out.any (HB.out.trans (hb.mono HB.out.size))))
 go_upto_region 7 with (first | (go_at_call 36;(with_reducible refine HSV.out.mono ?_);rintro e V ⟨rfl,hbV⟩;have HBV:=hid hbV;obtain ⟨t0,t1,t2⟩:=(HS.out.below hbV).cells;clear hbV s0 s1 s2) | (go_at_call 42;(with_reducible refine (HRU.out _ HBV.out).mono ?_);rintro e V2 ⟨rb,pb,fb,mb,rfl,hru,hb2⟩;have HRUL:=hid hru;have HB2:=hid (HBV.out.trans (hb2.mono HBV.out.size));clear hru hb2 t0 t1 t2))
 have HBW:=hid (HB.out.trans (HB2.out.mono HB.out.size))
 have HC:=hid (show ChkB V2 l rs w.heap.size rb pb fb mb AS cS AR cR from ⟨HG.out.below HBW.out HG.out.pos,HK.out.below HBW.out HK.out.pos,HS.out.below HB2.out,HRUL.out,HL.out.any HBW.out,HR.out.any HBW.out⟩)
 obtain ⟨base,hbase⟩ : ∃ base,base=V2.heap.size:=⟨_,rfl⟩
 have HBS:=hid (show base≤V2.heap.size∧V2.heap.size≤base∧w.heap.size < base by have:=HB2.out.size;have:=HWS.out;omega)
 clear hbase
 obtain ⟨t0,t1,t2⟩:=HC.out.s.cells
 clear HSV HRU AV HRUL HB2 HBV HS HWS
 go_wp2_with fail
 clear t0 t1 t2
 go_loopw [3,25] (fun p q wr => ∃ i:Nat,i≤rs.length∧q = .int .i64 (i:Int)∧Hid (OutT wr base p (qc9 l rs i))∧Hid (Below base V2 wr)) (fun _ q _=>rs.length - (intOf q).toNat)
 case atStart=>exact ⟨0,Nat.zero_le _,rfl,OutT.nil _ _,Below.refl _ _⟩
 case round =>
  obtain ⟨i,hi,rfl,HO,HBR⟩:=hrel
  obtain ⟨A,c,rfl,hown⟩:=HO.out
  obtain ⟨wo,hwo⟩ : ∃ wo,wo=wr:=⟨_,rfl⟩
  rw [←hwo] at HBR hown ⊢
  clear hwo HO
  have HOW:=hid hown
  have HCR:=hid (HC.out.below (HBR.out.mono HBS.out.2.1))
  clear hown
  obtain ⟨F,hF⟩ : ∃ F,qc9 l rs i=F:=⟨_,rfl⟩
  rw [hF] at HOW
  have HF:=hid hF
  have hF16:F.length≤16:=by rw [←hF];have:=qhg l rs i;have:=H16.out;omega
  rw [hF]
  clear hF
  by_cases hlt:i < rs.length
  ·have hii:(i:Int) < rs.length:=by omega
   have HLT:=hid hlt
   go_wp2_with fail
   go_loopw [3,30] (fun p q wx => ∃ j:Nat,j≤3∧p = .slice A F.length c∧q = .int .i64 (j:Int)∧Hid (Below wo.heap.size wo wx)∧Hid (1≤j→wErr (rs.getD i default)=0)∧Hid (2≤j→(if qa7 (rs.getD i default).name (qbe rs) < i then (4:Int) else 0)=0)∧Hid (3≤j→qax l (rs.getD i default).f=0)) (fun _ q _=>3 - (intOf q).toNat)
   case atStart=>exact ⟨0,by omega,rfl,rfl,Below.refl _ _,(fun h=>by omega),(fun h=>by omega),fun h=>by omega⟩
   case round =>
    obtain ⟨j,hj,rfl,rfl,HBX,HJ1,HJ2,HJ3⟩:=hrel
    have HCX:=hid (HCR.out.below HBX.out)
    obtain ⟨wx,hwx⟩ : ∃ wx,wx=wr:=⟨_,rfl⟩
    rw [←hwx] at HBX HCX ⊢
    clear hwx
    have HOX:=hid (own_below HOW.out HBX.out)
    have HBB:=hid (HBR.out.trans (HBX.out.mono (Nat.le_trans HBS.out.1 HBR.out.size)))
    have hbx:base≤wx.heap.size:=by have:=HBS.out.1;have:=HBB.out.size;omega
    have r0:=qaa HCX.out.ru.rb (i:=0) rfl
    have r1:=qaa HCX.out.ru.rb (i:=1) rfl
    have r2:=qaa HCX.out.ru.rb (i:=2) rfl
    have r3:=lt_of_block HCX.out.ru.rb
    by_cases hj3:j < 3
    ·have hjj:(j:Int) < 3:=by omega
     have hjc:j=0∨j=1∨j=2:=by omega
     clear hj hj3 hjj
     rcases hjc with rfl | rfl | rfl
     ·have HCALL:Hid (∀ W:World,Below wx.heap.size wx W→Calls Tryz.prog 70 #[.int .i64 (i:Int),.pointer (some ⟨pb,0,none⟩)] W fun e w'=>e = .returned (.int .i64 (wErr (rs.getD i default)))∧Below W.heap.size W w'):=hid fun W hb=>words_any rs i w.heap.size pb AS l.length cS AR rs.length cR W HLT.out (HCX.out.below hb).ru.pb (HCX.out.below hb).s rfl (HCX.out.below hb).r (HCX.out.below hb).k
      obtain ⟨ev,hev⟩ : ∃ ev,wErr (rs.getD i default)=ev:=⟨_,rfl⟩
      rw [hev] at HCALL
      have HE:=hid hev
      clear hev r1 r2
      by_cases he0:ev=0
      ·rw [he0] at HCALL HE
       clear he0
       go_wp2_with (go_at_call 70;(with_reducible refine (HCALL.out _ (by first | exact Below.refl _ _ | go_grown)).mono ?_);rintro e W4 ⟨rfl,hb4⟩;have HB4:=hid ((show Below wx.heap.size wx _ by first | exact Below.refl _ _ | go_grown).trans (hb4.mono (by first | exact Nat.le_refl _ | simp)));clear hb4)
       go_roundw
       case rel=>exact ⟨1,by omega,rfl,by go_num,HBX.out.trans (HB4.out.mono HBX.out.size),(fun _=>HE.out),(fun h=>by omega),(fun h=>by omega)⟩
       case measure=>simp [intOf]
      ·have hen:(ev != 0)=true:=qjf he0
       have HN:=hid he0
       have HRE:=hid (show qb3 l rs i=ev by
        rw [qiv,HE.out,if_pos HN.out])
       have hone:=qho ((i:Int),ev)
       clear he0
       go_wp2_with (first | (go_at_call 70;(with_reducible refine (HCALL.out _ (by first | exact Below.refl _ _ | go_grown)).mono ?_);rintro e W4 ⟨rfl,hb4⟩;have HB4:=hid ((show Below wx.heap.size wx _ by first | exact Below.refl _ _ | go_grown).trans (hb4.mono (by first | exact Nat.le_refl _ | simp)));clear hb4) | (at_builtin;go_must (refine qat _ rfl (.tmp 40) (.tmp 44) 37 rfl base 58 i0 _ 2 16 Tryz.underlying37 HTI.out HZ0.out HZ1.out HZ2.out rfl (by omega) (.slice A F.length c) F.length _ rfl (own_below (own_below HOX.out HB4.out) (by go_grown)) _ (some ⟨W4.heap.size,0,none⟩) 1 1 _ rfl (Rd.fresh (D:=qbw) (n:=1) rfl trivial rfl (by decide)) hone (by omega) (qaz (by omega)) (by have:=HB4.out.size;simp;omega) ?_);intro A5 c5 w5 hown5 hg5 hat5))
       have HG5:=hid hg5
       have HO5:=hid hown5
       clear hown5 hg5 hat5
       go_roundw
       case rel =>
        refine ⟨i+1,by have:=HLT.out;omega,by go_num,?_,?_⟩
        ·rw [qb7,HF.out,HRE.out,if_neg HN.out]
         refine ⟨A5,c5,by rw [List.length_append];rfl,?_⟩
         have h5:=HO5.out
         rw [List.length_append,List.flatMap_append]
         exact h5
        ·refine Below.grown (HBB.out.trans ((HB4.out.alloc HB4.out.size _).mono hbx)) HG5.out (by have:=HB4.out.size;simp;omega) fun k hk=>(qdu HOX.out hk).1
       case measure=>have:=HLT.out;simp [intOf];omega
     ·have HCALL:Hid (∀ W:World,Below wx.heap.size wx W→Calls Tryz.prog 71 #[.int .i64 (i:Int),.pointer (some ⟨fb,0,none⟩),.pointer (some ⟨pb,0,none⟩)] W fun e w'=>e = .returned (.int .i64 ((if qa7 (rs.getD i default).name (qbe rs) < i then (4:Int) else 0)))∧Below W.heap.size W w'):=hid fun W hb=>twice_any rs i w.heap.size pb fb mb AS l.length cS AR rs.length cR W HLT.out (HCX.out.below hb).ru.pb (HCX.out.below hb).ru.fb (HCX.out.below hb).ru.map (HCX.out.below hb).s rfl (HCX.out.below hb).r
      obtain ⟨ev,hev⟩ : ∃ ev,(if qa7 (rs.getD i default).name (qbe rs) < i then (4:Int) else 0)=ev:=⟨_,rfl⟩
      rw [hev] at HCALL
      have HE:=hid hev
      clear hev r0 r2
      by_cases he0:ev=0
      ·rw [he0] at HCALL HE
       clear he0
       go_wp2_with (go_at_call 71;(with_reducible refine (HCALL.out _ (by first | exact Below.refl _ _ | go_grown)).mono ?_);rintro e W4 ⟨rfl,hb4⟩;have HB4:=hid ((show Below wx.heap.size wx _ by first | exact Below.refl _ _ | go_grown).trans (hb4.mono (by first | exact Nat.le_refl _ | simp)));clear hb4)
       go_roundw
       case rel=>exact ⟨2,by omega,rfl,by go_num,HBX.out.trans (HB4.out.mono HBX.out.size),(fun _=>HJ1.out (by omega)),(fun _=>HE.out),(fun h=>by omega)⟩
       case measure=>simp [intOf]
      ·have hen:(ev != 0)=true:=qjf he0
       have HN:=hid he0
       have HRE:=hid (show qb3 l rs i=ev by
        rw [qiv,if_neg (by rw [HJ1.out (by omega)];simp)]
        have h2:=HE.out
        by_cases hf:qa7 (rs.getD i default).name (qbe rs) < i
        ·rw [if_pos hf] at h2 ⊢;exact h2
        ·rw [if_neg hf] at h2;exact absurd h2.symm HN.out)
       have hone:=qho ((i:Int),ev)
       clear he0
       go_wp2_with (first | (go_at_call 71;(with_reducible refine (HCALL.out _ (by first | exact Below.refl _ _ | go_grown)).mono ?_);rintro e W4 ⟨rfl,hb4⟩;have HB4:=hid ((show Below wx.heap.size wx _ by first | exact Below.refl _ _ | go_grown).trans (hb4.mono (by first | exact Nat.le_refl _ | simp)));clear hb4) | (at_builtin;go_must (refine qat _ rfl (.tmp 40) (.tmp 44) 37 rfl base 58 i0 _ 2 16 Tryz.underlying37 HTI.out HZ0.out HZ1.out HZ2.out rfl (by omega) (.slice A F.length c) F.length _ rfl (own_below (own_below HOX.out HB4.out) (by go_grown)) _ (some ⟨W4.heap.size,0,none⟩) 1 1 _ rfl (Rd.fresh (D:=qbw) (n:=1) rfl trivial rfl (by decide)) hone (by omega) (qaz (by omega)) (by have:=HB4.out.size;simp;omega) ?_);intro A5 c5 w5 hown5 hg5 hat5))
       have HG5:=hid hg5
       have HO5:=hid hown5
       clear hown5 hg5 hat5
       go_roundw
       case rel =>
        refine ⟨i+1,by have:=HLT.out;omega,by go_num,?_,?_⟩
        ·rw [qb7,HF.out,HRE.out,if_neg HN.out]
         refine ⟨A5,c5,by rw [List.length_append];rfl,?_⟩
         have h5:=HO5.out
         rw [List.length_append,List.flatMap_append]
         exact h5
        ·refine Below.grown (HBB.out.trans ((HB4.out.alloc HB4.out.size _).mono hbx)) HG5.out (by have:=HB4.out.size;simp;omega) fun k hk=>(qdu HOX.out hk).1
       case measure=>have:=HLT.out;simp [intOf];omega
     ·have HCALL:Hid (∀ W:World,Below wx.heap.size wx W→Calls Tryz.prog 72 #[.int .i64 (i:Int),.pointer (some ⟨pb,0,none⟩)] W fun e w'=>e = .returned (.int .i64 (qax l (rs.getD i default).f))∧Below W.heap.size W w'):=hid fun W hb=>content_any l rs i w.heap.size pb AS l.length cS AR rs.length cR W HLT.out (HCX.out.below hb).ru.pb (HCX.out.below hb).s rfl (HCX.out.below hb).l rfl (HCX.out.below hb).r (HCX.out.below hb).g (HCX.out.below hb).k
      obtain ⟨ev,hev⟩ : ∃ ev,qax l (rs.getD i default).f=ev:=⟨_,rfl⟩
      rw [hev] at HCALL
      have HE:=hid hev
      clear hev r0 r1
      by_cases he0:ev=0
      ·rw [he0] at HCALL HE
       clear he0
       go_wp2_with (go_at_call 72;(with_reducible refine (HCALL.out _ (by first | exact Below.refl _ _ | go_grown)).mono ?_);rintro e W4 ⟨rfl,hb4⟩;have HB4:=hid ((show Below wx.heap.size wx _ by first | exact Below.refl _ _ | go_grown).trans (hb4.mono (by first | exact Nat.le_refl _ | simp)));clear hb4)
       go_roundw
       case rel=>exact ⟨3,by omega,rfl,by go_num,HBX.out.trans (HB4.out.mono HBX.out.size),(fun _=>HJ1.out (by omega)),(fun _=>HJ2.out (by omega)),(fun _=>HE.out)⟩
       case measure=>simp [intOf]
      ·have hen:(ev != 0)=true:=qjf he0
       have HN:=hid he0
       have HRE:=hid (show qb3 l rs i=ev by
        rw [qiv,if_neg (by rw [HJ1.out (by omega)];simp)]
        have h2:=HJ2.out (by omega)
        by_cases hf:qa7 (rs.getD i default).name (qbe rs) < i
        ·rw [if_pos hf] at h2;omega
        ·rw [if_neg hf];exact HE.out)
       have hone:=qho ((i:Int),ev)
       clear he0
       go_wp2_with (first | (go_at_call 72;(with_reducible refine (HCALL.out _ (by first | exact Below.refl _ _ | go_grown)).mono ?_);rintro e W4 ⟨rfl,hb4⟩;have HB4:=hid ((show Below wx.heap.size wx _ by first | exact Below.refl _ _ | go_grown).trans (hb4.mono (by first | exact Nat.le_refl _ | simp)));clear hb4) | (at_builtin;go_must (refine qat _ rfl (.tmp 40) (.tmp 44) 37 rfl base 58 i0 _ 2 16 Tryz.underlying37 HTI.out HZ0.out HZ1.out HZ2.out rfl (by omega) (.slice A F.length c) F.length _ rfl (own_below (own_below HOX.out HB4.out) (by go_grown)) _ (some ⟨W4.heap.size,0,none⟩) 1 1 _ rfl (Rd.fresh (D:=qbw) (n:=1) rfl trivial rfl (by decide)) hone (by omega) (qaz (by omega)) (by have:=HB4.out.size;simp;omega) ?_);intro A5 c5 w5 hown5 hg5 hat5))
       have HG5:=hid hg5
       have HO5:=hid hown5
       clear hown5 hg5 hat5
       go_roundw
       case rel =>
        refine ⟨i+1,by have:=HLT.out;omega,by go_num,?_,?_⟩
        ·rw [qb7,HF.out,HRE.out,if_neg HN.out]
         refine ⟨A5,c5,by rw [List.length_append];rfl,?_⟩
         have h5:=HO5.out
         rw [List.length_append,List.flatMap_append]
         exact h5
        ·refine Below.grown (HBB.out.trans ((HB4.out.alloc HB4.out.size _).mono hbx)) HG5.out (by have:=HB4.out.size;simp;omega) fun k hk=>(qdu HOX.out hk).1
       case measure=>have:=HLT.out;simp [intOf];omega
    ·have hjj : ¬ (j:Int) < 3:=by omega
     have HRE:=hid (show qb3 l rs i=0 by
      rw [qiv,if_neg (by rw [HJ1.out (by omega)];simp)]
      have h2:=HJ2.out (by omega)
      by_cases hf:qa7 (rs.getD i default).name (qbe rs) < i
      ·rw [if_pos hf] at h2;omega
      ·rw [if_neg hf];exact HJ3.out (by omega))
     go_wp2_with fail
     go_roundw
     case rel =>
      refine ⟨i+1,by have:=HLT.out;omega,by go_num,?_,HBB.out⟩
      rw [qb7,HF.out,HRE.out,if_pos rfl,List.append_nil]
      exact ⟨A,c,rfl,HOX.out⟩
     case measure=>have:=HLT.out;simp [intOf];omega
  ·have hii : ¬ (i:Int) < rs.length:=by omega
   have HCF:=hid (show qcp l rs=F by rw [HCZ.out,←HF.out,show i=rs.length by omega])
   go_wp2_with fail
   go_ret
   rw [HCF.out]
   exact ⟨_,_,rfl,Rd.own HOW.out (by omega) (fun g hg=>Nat.le_trans (Nat.le_of_lt HBS.out.2.2) hg),HBW.out.trans (HBR.out.mono (Nat.le_of_lt HBS.out.2.2))⟩
end Go.Proofs.YtdakdpfofgkjoaaGreatDoor
namespace Go.Proofs.YtdakdpfofgkjoaaGreatDoor
open Go.RowKit Go.Shelf
attribute [local go_sem] qad
theorem and_any {D:Dom} {w:World} {A:Option Addr} {n c:Nat} {l:List Fm} (h:RdA w D l A c) (hn:n=l.length) (hz:sizes l≤1000000) (hg:GF w) (hk:GK w) :
  Calls Tryz.prog 31 #[.slice A n c] w fun e w' => ∃ v,e = .returned v∧qin (qbq 5 l) w v w':=by
 subst hn
 have HL:=hid h.old
 have HG:=hid hg
 have HK:=hid hk
 clear h hg hk
 obtain ⟨g,hgg⟩ : ∃ g,qbq 5 l=g:=⟨_,rfl⟩
 have HGG:=hid hgg
 rw [hgg]
 clear hgg
 go_enter Tryz.func31,Tryz.ntmps31
 go_upto_region 1 with (fail)
 refine qai fun W hW => ?_
 have HB:=hid (show Below w.heap.size w W by rw [hW];go_grown)
 have HR:=hid (show OB W w.heap.size 0 ⟨#[]⟩ 0 0 none 0 0 by rw [hW];exact at_new _ _ _ rfl)
 have HWS:=hid (show W.heap.size=w.heap.size+1 by rw [hW];simp)
 have HC:=hid (connect_any (op:=5) (HL.out.keep (Keeps.of_below HB.out fun _ h=>h)) rfl (.inl rfl) hz (HG.out.below HB.out HG.out.pos) (HK.out.below HB.out HK.out.pos))
 clear hW
 rw [HGG.out] at HC
 go_wp2_with (go_at_call 50;(with_reducible refine HC.out.mono ?_);rintro e w5 ⟨v,rfl,hb5,A5,c5,rfl,ha5⟩;have HA5:=hid ha5;have HB5:=hid hb5;clear ha5;have hr:=HR.out.below hb5;obtain ⟨r0,r1,r2,r3,r4,rl⟩:=hr.cells;have p0:=hr.free 0;have p1:=hr.free 1;have p2:=hr.free 2;have p3:=hr.free 3;have p4:=hr.free 4)
 refine qab fun WE hWE => ?_
 have hoE:OB WE w.heap.size g.op g.name g.val g.bound A5 g.args.length c5:=by rw [hWE];exact qag hr
 have hcE:Chg (fun x=>x=w.heap.size) w5 WE:=by rw [hWE];exact qae _ _ _ _ _ _ _
 have hb5w:=HB.out.trans (HB5.out.mono HB.out.size)
 have hbE:Below w.heap.size w WE:=hb5w.trans (hcE.below (B:=w.heap.size) (fun x hx h=>by omega) hb5w.size)
 have hnew:qin g w (.agg #[.int .i64 g.op,.string g.name,.int .i64 g.val,.int .i64 g.bound,.slice A5 g.args.length c5]) WE :=
  ⟨hbE,A5,c5,rfl,(HA5.out.nw hcE fun x h=>by have:x=w.heap.size:=h;have:=HWS.out;omega).base HB.out.size⟩
 obtain ⟨y0,y1,y2,y3,y4,yl⟩:=hoE.cells
 clear hWE r0 r1 r2 r3 r4 p0 p1 p2 p3 p4
 exact bodyPost_ret (v := .agg #[.int .i64 g.op,.string g.name,.int .i64 g.val,.int .i64 g.bound,.slice A5 g.args.length c5]) (by simp [results,Tryz.results31,go_sem,y0,y1,y2,y3,y4]) rfl ⟨_,rfl,hnew⟩
structure qbi (w:World) (base:Nat) (A:Option Addr) (c:Nat) (gs:List Fm) (sl:List (Option Addr × Nat)) (B:Option Addr) (d:Nat) (hs:List Fm) (sm:List (Option Addr × Nat)):Prop where
 own1:w.ownsRow base 28 5 (.slice A gs.length c) gs.length (qav gs sl)
 own2:w.ownsRow base 28 5 (.slice B hs.length d) hs.length (qav hs sm)
 len1:sl.length=gs.length
 len2:sm.length=hs.length
 arg1 : ∀ i,i < gs.length→RdA w (fun k=>(Value.slice A gs.length c).ownBlock≠some k∧(Value.slice B hs.length d).ownBlock≠some k) (gs.getD i default).args (sl.getD i (none,0)).1 (sl.getD i (none,0)).2
 arg2 : ∀ i,i < hs.length→RdA w (fun k=>(Value.slice A gs.length c).ownBlock≠some k∧(Value.slice B hs.length d).ownBlock≠some k) (hs.getD i default).args (sm.getD i (none,0)).1 (sm.getD i (none,0)).2
 ne : ∀ k,(Value.slice A gs.length c).ownBlock=some k→(Value.slice B hs.length d).ownBlock=some k→False
section
variable {w w':World} {base c d:Nat} {A B:Option Addr} {gs hs:List Fm} {sl sm:List (Option Addr × Nat)}
theorem qbi.nil (w:World) (base:Nat):qbi w base none 0 [] [] none 0 [] [] :=
 ⟨⟨rfl,.inl ⟨rfl,rfl⟩⟩,⟨rfl,.inl ⟨rfl,rfl⟩⟩,rfl,rfl,(fun i h=>absurd h (Nat.not_lt_zero _)),(fun i h=>absurd h (Nat.not_lt_zero _)),fun k h=>by cases h⟩
theorem qbi.swap (h:qbi w base A c gs sl B d hs sm):qbi w base B d hs sm A c gs sl :=
 ⟨h.own2,h.own1,h.len2,h.len1,(fun i hi=>(h.arg2 i hi).mono fun _ hk _=>⟨hk.2,hk.1⟩),(fun i hi=>(h.arg1 i hi).mono fun _ hk _=>⟨hk.2,hk.1⟩),fun k h1 h2=>h.ne k h2 h1⟩
theorem RdA.belowD {D:Dom} {l:List Fm} {A:Option Addr} {c:Nat} (h:RdA w D l A c) (hb:Below w.heap.size w w'):RdA w' D l A c :=
 ((h.mono (E:=fun k=>D k∧k < w.heap.size) fun k hk hl=>⟨hk,hl⟩).keep (Keeps.of_below hb fun _ h=>h.2)).mono fun _ h _=>h.1
theorem qbi.below (h:qbi w base A c gs sl B d hs sm) (hb:Below w.heap.size w w'):qbi w' base A c gs sl B d hs sm :=
 ⟨own_below h.own1 hb,own_below h.own2 hb,h.len1,h.len2,(fun i hi=>(h.arg1 i hi).belowD hb),(fun i hi=>(h.arg2 i hi).belowD hb),h.ne⟩
theorem qbi.rd1 (h:qbi w base A c gs sl B d hs sm) (hn:gs.length≤140737488355328):RdA w qbw gs A c :=
 .mk _ _ _ sl h.len1 (Rd.own h.own1 hn fun _ _=>trivial) fun i hi=>(h.arg1 i hi).mono fun _ _ _=>trivial
theorem own_grown {w w':World} {base n size:Nat} {e:TypeId} {v u:Value} {xs:List Value} (h:w.ownsRow base e size v n xs) (hg:w.grownBy w' u.ownBlock) (hne : ∀ k,u.ownBlock=some k→v.ownBlock=some k→False):w'.ownsRow base e size v n xs:=by
 refine ⟨h.1,?_⟩
 rcases h.2 with h0 | ⟨g,cap,cur,hv,hb,hh,h1,h2,h3,h4⟩
 ·exact .inl h0
 ·refine .inr ⟨g,cap,cur,hv,hb,?_,h1,h2,h3,h4⟩
  rw [hg.block g (lt_of_block hh) (fun e=>hne g e.symm (by rw [hv];rfl))]
  exact hh
theorem qbi.app {A':Option Addr} {c' n:Nat} {f:Fm} {s:Option Addr × Nat} (h:qbi w base A c gs sl B d hs sm) (hg:w.grownBy w' (Value.slice A gs.length c).ownBlock) (hn:n=(gs ++ [f]).length)
  (hown:w'.ownsRow base 28 5 (.slice A' n c') n (qav gs sl ++ qbr f s)) (hat:(Value.slice A' n c').ownBlock=(Value.slice A gs.length c).ownBlock∨(Value.slice A' n c').ownBlock=some w.heap.size)
  (hr:RdA w (fun k=>(Value.slice A gs.length c).ownBlock≠some k∧(Value.slice B hs.length d).ownBlock≠some k) f.args s.1 s.2):qbi w' base A' c' (gs ++ [f]) (sl ++ [s]) B d hs sm:=by
 subst hn
 have key : ∀ {l:List Fm} {C:Option Addr} {e:Nat},RdA w (fun k=>(Value.slice A gs.length c).ownBlock≠some k∧(Value.slice B hs.length d).ownBlock≠some k) l C e→RdA w' (fun k=>(Value.slice A' (gs ++ [f]).length c').ownBlock≠some k∧(Value.slice B hs.length d).ownBlock≠some k) l C e:=fun h1 =>
  ((h1.mono (E:=fun k=>((Value.slice A gs.length c).ownBlock≠some k∧(Value.slice B hs.length d).ownBlock≠some k)∧k < w.heap.size) fun k hk hl=>⟨hk,hl⟩).keep (w':=w') ⟨hg.size,fun k hk hl=>hg.block k hl (fun e=>hk.1.1 e.symm)⟩).mono fun k hk _=>⟨fun e=>by
   rcases hat with h2 | h2
   ·rw [h2] at e;exact hk.1.1 e
   ·rw [h2] at e
    injection e with e
    have:=hk.2
    omega,hk.1.2⟩
 have e1:qav [f] [s]=qbr f s:=by show qbr f s ++ []=_;rw [List.append_nil]
 refine ⟨by rw [qeb h.len1,e1];exact hown,own_grown h.own2 hg (fun k h1 h2=>h.ne k h1 h2),by rw [List.length_append,List.length_append,h.len1];rfl,h.len2,fun i hi => ?_,fun i hi=>key (h.arg2 i hi),fun k h1 h2 => ?_⟩
 ·by_cases hl:i < gs.length
  ·have e1:(gs ++ [f]).getD i default=gs.getD i default:=by simp [List.getD,List.getElem?_append_left hl]
   have e2:(sl ++ [s]).getD i (none,0)=sl.getD i (none,0):=by simp [List.getD,List.getElem?_append_left (show i < sl.length by rw [h.len1];exact hl)]
   rw [e1,e2]
   exact key (h.arg1 i hl)
  ·have hi':i=gs.length:=by rw [List.length_append] at hi;simp at hi;omega
   subst hi'
   have e1:(gs ++ [f]).getD gs.length default=f:=by simp [List.getD]
   have e2:(sl ++ [s]).getD gs.length (none,0)=s:=by rw [←h.len1];simp [List.getD]
   rw [e1,e2]
   exact key hr
 ·rcases hat with h3 | h3
  ·rw [h3] at h1;exact h.ne k h1 h2
  ·rw [h3] at h1
   injection h1 with h1
   have:=qdu h.own2 h2
   omega
end
theorem sizes_le {l:List Fm} {m:Nat} (h : ∀ f,f∈l→f.size≤m):sizes l≤l.length * m:=by
 induction l with
 | nil=>simp [sizes]
 | cons f l ih =>
  rw [sizes,List.length_cons,Nat.add_mul,Nat.one_mul]
  have h1:=h f (by simp)
  have h2:=ih fun g hg=>h g (by simp [hg])
  omega
theorem kern_size (f:Fm):(qba f).1.size≤60:=by
 unfold qba
 split
 ·split
  ·rename_i h
   have:=(qcb.1 h).1
   show (kf false f).size≤60
   omega
  ·decide
 ·decide
theorem notZ_size (f:Fm):(notZ f).size≤400:=by
 unfold notZ
 split
 ·rename_i h
  rw [Bool.and_eq_true,qcb] at h
  omega
 ·decide
theorem qj7 (op:Int) (l:List Fm):(qbq op l).size≤400:=by
 unfold qbq
 split
 ·split
  ·rename_i h
   exact (qcj h).1
  ·decide
 ·decide
theorem qg7 (rs:List Rq):(qb4 rs).length≤rs.length:=by
 unfold qb4
 rw [List.length_map]
 exact List.length_filter_le _ _
theorem qhc (rs:List Rq):(qbh rs).length≤rs.length:=by
 unfold qbh
 rw [List.length_map]
 exact List.length_filter_le _ _
theorem guars_sizes {rs:List Rq} (h:rs.length≤16):sizes (qbh rs)≤1000000:=by
 have h1:=sizes_le (l:=qbh rs) (m:=60) fun f hf=>by
  obtain ⟨r,_,_,rfl⟩:=guars_mem.1 hf
  exact kern_size _
 have h2:=qhc rs
 have:(qbh rs).length * 60≤16 * 60:=Nat.mul_le_mul_right _ (by omega)
 omega
theorem parts_sizes {rs:List Rq} (h:rs.length≤16) (f:Fm) (hf:f.size≤400):sizes (qb4 rs ++ [f])≤1000000:=by
 have h1:=sizes_le (l:=qb4 rs ++ [f]) (m:=400) fun g hg=>by
  rw [List.mem_append,List.mem_singleton] at hg
  rcases hg with hg | rfl
  ·obtain ⟨r,_,_,rfl⟩:=parts_mem.1 hg
   exact notZ_size _
  ·exact hf
 have h2:=qg7 rs
 rw [List.length_append] at h1
 have:((qb4 rs).length + [f].length) * 400≤17 * 400:=Nat.mul_le_mul_right _ (by simp;omega)
 omega
theorem parts_snoc {rs:List Rq} {i:Nat} (hi:i < rs.length):qb4 (rs.take (i+1))=qb4 (rs.take i) ++ (if (rs.getD i default).kind=1 then [notZ (qba (rs.getD i default).f).1] else []):=by
 rw [qan rs default hi,parts_append]
 congr 1
 unfold qb4
 by_cases h:(rs.getD i default).kind=1
 ·rw [if_pos h,List.filter_cons,if_pos (decide_eq_true h)];rfl
 ·rw [if_neg h,List.filter_cons,if_neg (by rw [decide_eq_false h];simp)];rfl
theorem guars_snoc {rs:List Rq} {i:Nat} (hi:i < rs.length):qbh (rs.take (i+1))=qbh (rs.take i) ++ (if (rs.getD i default).kind=1 then [] else [(qba (rs.getD i default).f).1]):=by
 rw [qan rs default hi,guars_append]
 congr 1
 unfold qbh
 by_cases h:(rs.getD i default).kind=1
 ·rw [if_pos h,List.filter_cons,if_neg (by rw [decide_eq_true h];simp)];rfl
 ·rw [if_neg h,List.filter_cons,if_pos (by rw [decide_eq_false h];rfl)];rfl
end Go.Proofs.YtdakdpfofgkjoaaGreatDoor
