/-
  Parts of a proof: ZV ZW.
-/
import Derived.Test.YtdakdpfofgkjoaaGreatDoorZ34
set_option linter.unusedSimpArgs false
set_option linter.unusedVariables false
set_option maxHeartbeats 8000000
set_option maxRecDepth 100000
namespace Go.Proofs.YtdakdpfofgkjoaaGreatDoor
open Go.RowKit Go.Shelf
attribute [local go_sem] qad qbo
theorem qeq {D:Dom} {l:List Sg} {A:Option Addr} {c n:Nat} {w:World} (r:Bool) (hr:qcf l=r) (hn:n=l.length) (h:RdG w D A c l) :
  Calls Tryz.prog 39 #[.slice A n c] w fun e w'=>e = .returned (.bool r)∧Below w.heap.size w w':=by
 subst hr;exact rsvalid_any l A c n w hn h
theorem qit {D:Dom} {v:Value} {f:Fm} {w:World} (r:Bool) (hr:qb5 f=r) (h:qby w D v f) :
  Calls Tryz.prog 40 #[v] w fun e w'=>e = .returned (.bool r)∧Below w.heap.size w w':=by
 subst hr;rw [←validR_eq];exact rvalid_any f v w h
theorem rfirst_r {D E:Dom} {l:List Sg} {AS:Option Addr} {cS n:Nat} {v:Value} {f:Fm} {w:World} (r:Int) (hr:qfx l f=r) (hn:n=l.length) (hl:RdG w D AS cS l) (h:qby w E v f) :
  Calls Tryz.prog 41 #[.slice AS n cS,v] w fun e w'=>e = .returned (.int .i64 r)∧Below w.heap.size w w':=by
 subst hr hn;exact rfirst_any l AS cS f v w hl h
theorem rkernel_r {v:Value} {f:Fm} {w:World} (r:Int) (hr:(qba f).2=r) (h:qby w qbw v f) :
  Calls Tryz.prog 32 #[v] w fun e w' => ∃ A c,e = .returned (.tuple #[.agg #[.int .i64 (qba f).1.op,.string (qba f).1.name,.int .i64 (qba f).1.val,.int .i64 (qba f).1.bound,.slice A (qba f).1.args.length c],.int .i64 r])∧Below w.heap.size w w':=by
 subst hr
 refine (rkernel_any f v w qbw (fun _ _=>trivial) h).mono ?_
 rintro e w' ⟨v',rfl,⟨A,c,rfl,_⟩,hb⟩
 exact ⟨A,c,rfl,hb⟩
theorem formErr_eq (l:List Sg) (f:Fm):qax l f=if qcf l then (if qb5 f then (if qfx l f=0 then (if (qba f).2=0 then 0 else 2) else qfx l f) else 30) else 1:=rfl
theorem rform7_any {D E:Dom} (l:List Sg) (AS:Option Addr) (cS n:Nat) (f:Fm) (v:Value) (w:World) (hn:n=l.length) (hl:RdG w D AS cS l) (h:qby w E v f) :
  Calls Tryz.prog 11 #[.slice AS n cS,v] w fun e w'=>e = .returned (.int .i64 (qax l f))∧Below w.heap.size w w':=by
 subst hn
 obtain ⟨A,c,rfl,ha⟩:=h
 have HL:=hid hl.old
 have HA:=hid ha.old
 have HFE:=hid (formErr_eq l f)
 have hlen:=hl.len.1
 have hal:=ha.len.1
 clear hl ha
 go_enter Tryz.func11,Tryz.ntmps11
 go_upto_region 1 with (fail)
 refine qai fun W hW => ?_
 have hbx:qdd W w.heap.size f A c:=by rw [hW];exact qdd.new w f A c
 have HBX:=hid hbx
 have HBW:=hid (show Below w.heap.size w W by rw [hW];go_grown)
 clear hW hbx
 have HRF:=hid (fun (V:World) (hb:Below W.heap.size W V)=>(show qby V qbw (.agg #[.int .i64 f.op,.string f.name,.int .i64 f.val,.int .i64 f.bound,.slice A f.args.length c]) f from ⟨A,c,rfl,HA.out.any (qac HBW.out hb)⟩))
 have HRL:=hid (fun (V:World) (hb:Below W.heap.size W V)=>HL.out.any (qac HBW.out hb))
 cases hv:qcf l
 ·have HV:=hid hv
  have HR:=hid (show qax l f=1 by rw [HFE.out,hv];rfl)
  clear hv
  go_wp2_with (go_at_call 39;(with_reducible refine (qeq false HV.out rfl (HRL.out _ (Below.refl _ _))).mono ?_);rintro e V1 ⟨rfl,hb1⟩;have HB1:=hid hb1;obtain ⟨x0,x1,x2,x3,x4,xl⟩:=(HBX.out.below HB1.out).cells;clear hb1)
  go_ret
  exact ⟨qau HR.out.symm,qac HBW.out HB1.out⟩
 have HV:=hid hv
 clear hv
 cases hf:qb5 f
 ·have HVF:=hid hf
  have HR:=hid (show qax l f=30 by rw [HFE.out,HV.out,hf];rfl)
  clear hf
  go_wp2_with (first | (go_at_call 39;(with_reducible refine (qeq true HV.out rfl (HRL.out _ (Below.refl _ _))).mono ?_);rintro e V1 ⟨rfl,hb1⟩;have HB1:=hid hb1;obtain ⟨x0,x1,x2,x3,x4,xl⟩:=(HBX.out.below HB1.out).cells;clear hb1) | (go_at_call 40;(with_reducible refine (qit (f:=f) false HVF.out (HRF.out _ HB1.out)).mono ?_);rintro e V2 ⟨rfl,hb2⟩;have HB2:=hid (qac HB1.out hb2);clear hb2 x0 x1 x2 x3 x4 xl;obtain ⟨x0,x1,x2,x3,x4,xl⟩:=(HBX.out.below HB2.out).cells))
  go_ret
  exact ⟨qau HR.out.symm,qac HBW.out HB2.out⟩
 have HVF:=hid hf
 clear hf
 obtain ⟨ev,hev⟩ : ∃ ev,qfx l f=ev:=⟨_,rfl⟩
 have HEV:=hid hev
 clear hev
 by_cases he0:ev=0
 rotate_left
 ·have HR:=hid (show qax l f=ev by rw [HFE.out,HV.out,HVF.out,if_pos rfl,if_pos rfl,HEV.out,if_neg he0])
  have hen:(ev != 0)=true:=bne_iff_ne.2 he0
  clear he0
  go_wp2_with (first | (go_at_call 39;(with_reducible refine (qeq true HV.out rfl (HRL.out _ (Below.refl _ _))).mono ?_);rintro e V1 ⟨rfl,hb1⟩;have HB1:=hid hb1;obtain ⟨x0,x1,x2,x3,x4,xl⟩:=(HBX.out.below HB1.out).cells;clear hb1) | (go_at_call 40;(with_reducible refine (qit (f:=f) true HVF.out (HRF.out _ HB1.out)).mono ?_);rintro e V2 ⟨rfl,hb2⟩;have HB2:=hid (qac HB1.out hb2);clear hb2 x0 x1 x2 x3 x4 xl;obtain ⟨x0,x1,x2,x3,x4,xl⟩:=(HBX.out.below HB2.out).cells) | (go_at_call 41;(with_reducible refine (rfirst_r (f:=f) ev HEV.out rfl (HRL.out _ HB2.out) (HRF.out _ HB2.out)).mono ?_);rintro e V3 ⟨rfl,hb3⟩;have HB3:=hid (qac HB2.out hb3);clear hb3 x0 x1 x2 x3 x4 xl;obtain ⟨x0,x1,x2,x3,x4,xl⟩:=(HBX.out.below HB3.out).cells))
  go_ret
  exact ⟨qau HR.out.symm,qac HBW.out HB3.out⟩
 have hen:(ev != 0)=false:=by rw [he0];rfl
 obtain ⟨kr,hkr⟩ : ∃ kr,(qba f).2=kr:=⟨_,rfl⟩
 have HKR:=hid hkr
 have HR0:=hid (show qax l f=if kr=0 then 0 else 2 by rw [HFE.out,HV.out,HVF.out,if_pos rfl,if_pos rfl,HEV.out,if_pos he0,HKR.out])
 clear he0 hkr
 by_cases hk0:kr=0
 ·have HR:=hid (show qax l f=0 by rw [HR0.out,if_pos hk0])
  have hkn:(kr != 0)=false:=by rw [hk0];rfl
  clear hk0
  go_wp2_with (first | (go_at_call 39;(with_reducible refine (qeq true HV.out rfl (HRL.out _ (Below.refl _ _))).mono ?_);rintro e V1 ⟨rfl,hb1⟩;have HB1:=hid hb1;obtain ⟨x0,x1,x2,x3,x4,xl⟩:=(HBX.out.below HB1.out).cells;clear hb1) | (go_at_call 40;(with_reducible refine (qit (f:=f) true HVF.out (HRF.out _ HB1.out)).mono ?_);rintro e V2 ⟨rfl,hb2⟩;have HB2:=hid (qac HB1.out hb2);clear hb2 x0 x1 x2 x3 x4 xl;obtain ⟨x0,x1,x2,x3,x4,xl⟩:=(HBX.out.below HB2.out).cells) | (go_at_call 41;(with_reducible refine (rfirst_r (f:=f) ev HEV.out rfl (HRL.out _ HB2.out) (HRF.out _ HB2.out)).mono ?_);rintro e V3 ⟨rfl,hb3⟩;have HB3:=hid (qac HB2.out hb3);clear hb3 x0 x1 x2 x3 x4 xl;obtain ⟨x0,x1,x2,x3,x4,xl⟩:=(HBX.out.below HB3.out).cells) | (go_at_call 32;(with_reducible refine (rkernel_r (f:=f) kr HKR.out (HRF.out _ HB3.out)).mono ?_);rintro e V4 ⟨A4,c4,rfl,hb4⟩;have HB4:=hid (qac HB3.out hb4);clear hb4 x0 x1 x2 x3 x4 xl))
  go_ret
  exact ⟨qau HR.out.symm,qac HBW.out (HB4.out.alloc HB4.out.size _)⟩
 ·have HR:=hid (show qax l f=2 by rw [HR0.out,if_neg hk0])
  have hkn:(kr != 0)=true:=bne_iff_ne.2 hk0
  clear hk0
  go_wp2_with (first | (go_at_call 39;(with_reducible refine (qeq true HV.out rfl (HRL.out _ (Below.refl _ _))).mono ?_);rintro e V1 ⟨rfl,hb1⟩;have HB1:=hid hb1;obtain ⟨x0,x1,x2,x3,x4,xl⟩:=(HBX.out.below HB1.out).cells;clear hb1) | (go_at_call 40;(with_reducible refine (qit (f:=f) true HVF.out (HRF.out _ HB1.out)).mono ?_);rintro e V2 ⟨rfl,hb2⟩;have HB2:=hid (qac HB1.out hb2);clear hb2 x0 x1 x2 x3 x4 xl;obtain ⟨x0,x1,x2,x3,x4,xl⟩:=(HBX.out.below HB2.out).cells) | (go_at_call 41;(with_reducible refine (rfirst_r (f:=f) ev HEV.out rfl (HRL.out _ HB2.out) (HRF.out _ HB2.out)).mono ?_);rintro e V3 ⟨rfl,hb3⟩;have HB3:=hid (qac HB2.out hb3);clear hb3 x0 x1 x2 x3 x4 xl;obtain ⟨x0,x1,x2,x3,x4,xl⟩:=(HBX.out.below HB3.out).cells) | (go_at_call 32;(with_reducible refine (rkernel_r (f:=f) kr HKR.out (HRF.out _ HB3.out)).mono ?_);rintro e V4 ⟨A4,c4,rfl,hb4⟩;have HB4:=hid (qac HB3.out hb4);clear hb4 x0 x1 x2 x3 x4 xl))
  go_ret
  exact ⟨qau HR.out.symm,qac HBW.out (HB4.out.alloc HB4.out.size _)⟩
theorem rform7_r {D E:Dom} {l:List Sg} {AS:Option Addr} {cS n:Nat} {v:Value} {f:Fm} {w:World} (r:Int) (hr:qax l f=r) (hn:n=l.length) (hl:RdG w D AS cS l) (h:qby w E v f) :
  Calls Tryz.prog 11 #[.slice AS n cS,v] w fun e w'=>e = .returned (.int .i64 r)∧Below w.heap.size w w':=by
 subst hr;exact rform7_any l AS cS n f v w hn hl h
def ReqAt (w:World) (b:Nat) (r:Rq) (A:Option Addr) (c:Nat):Prop:=w.heap[b]? = some (.cells #[.string r.part,.string r.name,.int .i64 r.kind,.int .i64 r.f.op,.string r.f.name,.int .i64 r.f.val,.int .i64 r.f.bound,.slice A r.f.args.length c] 54 (0,0))
theorem ReqAt.below {w w':World} {b:Nat} {r:Rq} {A:Option Addr} {c:Nat} (h:ReqAt w b r A c) (hb:Below w.heap.size w w'):ReqAt w' b r A c:=(hb.block _ (lt_of_block h)).trans h
theorem ReqAt.cells {w:World} {b:Nat} {r:Rq} {A:Option Addr} {c:Nat} (h:ReqAt w b r A c):w.cell? ⟨b,0,none⟩=some (.string r.part)∧w.cell? ⟨b,1,none⟩=some (.string r.name)∧w.cell? ⟨b,2,none⟩=some (.int .i64 r.kind)∧w.cell? ⟨b,3,none⟩=some (.int .i64 r.f.op)∧w.cell? ⟨b,4,none⟩=some (.string r.f.name)∧w.cell? ⟨b,5,none⟩=some (.int .i64 r.f.val)∧w.cell? ⟨b,6,none⟩=some (.int .i64 r.f.bound)∧w.cell? ⟨b,7,none⟩=some (.slice A r.f.args.length c)∧b < w.heap.size :=
 ⟨qaa h (i:=0) rfl,qaa h (i:=1) rfl,qaa h (i:=2) rfl,qaa h (i:=3) rfl,qaa h (i:=4) rfl,qaa h (i:=5) rfl,qaa h (i:=6) rfl,qaa h (i:=7) rfl,lt_of_block h⟩
theorem qie {l:List Sg} {rs:List Rq} {i:Nat} {x:Int} (h:qb3 l rs i=x):Ending.returned (.int .i64 x)=Ending.returned (.int .i64 (qb3 l rs i)):=by rw [h]
theorem rfault_any {D E:Dom} (l:List Sg) (rs:List Rq) (i:Nat) (AS:Option Addr) (n cS:Nat) (AR:Option Addr) (m cR:Nat) (w:World) (hi:i < rs.length) (hn:n=l.length) (hl:RdG w D AS cS l) (hm:m=rs.length) (hr:RdR w E AR cR rs) :
  Calls Tryz.prog 43 #[.agg #[.slice AS n cS,.slice AR m cR],.int .i64 (i:Int)] w fun e w'=>e = .returned (.int .i64 (qb3 l rs i))∧Below w.heap.size w w':=by
 subst hn hm
 have hlen:=hl.len.1
 have hlen2:=hr.len.1
 have HL:=hid hl.old
 have HR:=hid hr.old
 have HI:=hid hi
 have hii0:(i:Int) < rs.length:=by omega
 clear hl hr
 go_enter Tryz.func43,Tryz.ntmps43
 go_upto_region 1 with (fail)
 refine qai fun W hW => ?_
 have HB:=hid (show Below w.heap.size w W by rw [hW];go_grown)
 have HS:=hid (show qdb W w.heap.size AS l.length cS AR rs.length cR by show W.heap[_]? = _;rw [hW];exact at_new _ _ _ rfl)
 clear hW
 obtain ⟨s0,s1,s2⟩:=HS.out.cells
 obtain ⟨b,o,A1,c1,r,rfl,HX,hr1⟩:=(HR.out.any HB.out).get hi
 have HRQ:=hid (show qb3 l rs i=if qde r then (if qa7 r.name (qbe rs) < i then 4 else qax l r.f) else 1 by unfold qb3;rw [HX.out])
 have HRN:=hid (show (rs.getD i default).name=r.name by rw [HX.out])
 have HRA:=hid hr1.args
 obtain ⟨_,hlb,n0,n1,n2,n3,n4,n5,n6,n7,_⟩:=hr1
 clear HX hi
 go_upto_region 2 with (fail)
 refine qai fun V hV => ?_
 have HBV:=hid (show Below W.heap.size W V by rw [hV];go_grown)
 have HQ:=hid (show ReqAt V W.heap.size r A1 c1 by show V.heap[_]? = _;rw [hV];exact at_new _ _ _ rfl)
 have HSV:=hid (HS.out.below HBV.out)
 have HRAV:=hid (HRA.out.any HBV.out)
 have HBWV:=hid (qac HB.out HBV.out)
 obtain ⟨qb,hqb⟩ : ∃ qb,qb=W.heap.size:=⟨_,rfl⟩
 rw [←hqb] at HQ ⊢
 clear hV hqb s0 s1 s2 n0 n1 n2 n3 n4 n5 n6 n7 hlb
 obtain ⟨q0,q1,q2,q3,q4,q5,q6,q7,ql⟩:=HQ.out.cells
 by_cases hk:r.kind=1∨r.kind=2
 rotate_left
 ·have d1:(r.kind != 1)=true:=bne_iff_ne.2 (by omega)
  have d2:(r.kind != 2)=true:=bne_iff_ne.2 (by omega)
  have HE:=hid (show qb3 l rs i=1 by
   rw [HRQ.out,show qde r=false by unfold qde;rw [decide_eq_false (show ¬ r.kind=1 by omega),decide_eq_false (show ¬ r.kind=2 by omega)];rfl];rfl)
  clear hk
  go_wp2_with fail
  go_ret
  exact ⟨qie HE.out,HBWV.out⟩
 have HWK:=hid (show qde r=(nameB r.part && nameB r.name) by
  unfold qde
  rw [show (decide (r.kind=1) || decide (r.kind=2))=true by rw [Bool.or_eq_true,decide_eq_true_eq,decide_eq_true_eq];exact hk,Bool.true_and])
 rcases hk with hk | hk
 ·have d1:(r.kind != 1)=false:=by rw [hk];rfl
  clear hk
  cases hp:nameB r.part
  ·have HN1:=hid hp
   have HE:=hid (show qb3 l rs i=1 by rw [HRQ.out,HWK.out,hp];rfl)
   clear hp
   go_wp2_with (go_at_call 64;(with_reducible refine (qc7 (s:=r.part) false HN1.out).mono ?_);rintro e V1 ⟨rfl,hb1⟩;have HB1:=hid hb1;clear hb1 q0 q1 q2 q3 q4 q5 q6 q7 ql;obtain ⟨q0,q1,q2,q3,q4,q5,q6,q7,ql⟩:=(HQ.out.below HB1.out).cells)
   go_ret
   exact ⟨qie HE.out,qac HBWV.out HB1.out⟩
  have HN1:=hid hp
  clear hp
  cases hp:nameB r.name
  ·have HN2:=hid hp
   have HE:=hid (show qb3 l rs i=1 by rw [HRQ.out,HWK.out,HN1.out,hp];rfl)
   clear hp
   go_wp2_with (first | (go_at_call 64;(with_reducible refine (qc7 (s:=r.name) false HN2.out).mono ?_);rintro e V2 ⟨rfl,hb2⟩;have HB2:=hid (qac HB1.out hb2);clear hb2 q0 q1 q2 q3 q4 q5 q6 q7 ql) | (go_at_call 64;(with_reducible refine (qc7 (s:=r.part) true HN1.out).mono ?_);rintro e V1 ⟨rfl,hb1⟩;have HB1:=hid hb1;clear hb1 q0 q1 q2 q3 q4 q5 q6 q7 ql;obtain ⟨q0,q1,q2,q3,q4,q5,q6,q7,ql⟩:=(HQ.out.below HB1.out).cells))
   go_ret
   exact ⟨qie HE.out,qac HBWV.out HB2.out⟩
  have HN2:=hid hp
  clear hp
  have HRE:=hid (show qb3 l rs i=if qa7 r.name (qbe rs) < i then 4 else qax l r.f by rw [HRQ.out,HWK.out,HN1.out,HN2.out];rfl)
  go_upto_region 4 with (first | (go_at_call 64;(with_reducible refine (qc7 (s:=r.name) true HN2.out).mono ?_);rintro e V2 ⟨rfl,hb2⟩;have HB2:=hid (qac HB1.out hb2);clear hb2 q0 q1 q2 q3 q4 q5 q6 q7 ql) | (go_at_call 64;(with_reducible refine (qc7 (s:=r.part) true HN1.out).mono ?_);rintro e V1 ⟨rfl,hb1⟩;have HB1:=hid hb1;clear hb1 q0 q1 q2 q3 q4 q5 q6 q7 ql;obtain ⟨q0,q1,q2,q3,q4,q5,q6,q7,ql⟩:=(HQ.out.below HB1.out).cells))
  go_wp2_with fail
  go_loopw [6] (fun q wr => ∃ k:Nat,k≤i∧q = .int .i64 (k:Int)∧Hid (Below V.heap.size V wr)∧Hid (∀ j,j < k→(rs.getD j default).name≠r.name)) (fun q _=>i - (intOf q).toNat)
  case atStart=>exact ⟨0,Nat.zero_le _,rfl,HB2.out,fun j hj=>absurd hj (Nat.not_lt_zero _)⟩
  case round =>
   obtain ⟨k,hki,rfl,HBK,HALL⟩:=hrel
   obtain ⟨q0,q1,q2,q3,q4,q5,q6,q7,ql⟩:=(HQ.out.below HBK.out).cells
   obtain ⟨s0,s1,s2⟩:=(HSV.out.below HBK.out).cells
   have HBR:=hid (qac HBWV.out HBK.out)
   by_cases hlt:k < i
   ·have hkk:(k:Int) < (i:Int):=by omega
    have hkr:(k:Int) < (rs.length:Int):=by omega
    have HLT:=hid hlt
    have HKL:=hid (show k < rs.length by have:=HI.out;omega)
    obtain ⟨b',o',A2,c2,t,he,HX,hr2⟩:=(HR.out.any HBR.out).get HKL.out
    injection he with he
    injection he with hb' ho' _
    subst hb' ho'
    have HTN:=hid (show (rs.getD k default).name=t.name by rw [HX.out])
    obtain ⟨_,hlb,_,n1,_,_,_,_,_,_,_⟩:=hr2
    clear HX
    by_cases ht:t.name=r.name
    ·have d3:(t.name.toList == r.name.toList)=true:=qgb.2 ht
     have HE:=hid (show qb3 l rs i=4 by
      rw [HRE.out,if_pos]
      have:=qhe (s:=r.name) (l:=qbe rs) (k:=k) (by rw [qc8];exact HKL.out) (by rw [qeh k HKL.out,HTN.out];exact ht)
      have:=HLT.out
      omega)
     clear ht
     go_upto_region 7 with (fail)
     go_quiet (fail)
     go_wp2_with fail
     go_ret
     exact ⟨qie HE.out,below_drewN HBR.out _⟩
    ·have d3:(t.name.toList == r.name.toList)=false:=bytes_ne ht
     have HNE:=hid ht
     clear ht
     go_upto_region 7 with (fail)
     go_quiet (fail)
     go_wp2_with fail
     go_roundw
     case rel =>
      refine ⟨k+1,by have:=HLT.out;omega,by go_num,below_drewN HBK.out _,fun j hj => ?_⟩
      by_cases e:j=k
      ·rw [e,HTN.out];exact HNE.out
      ·exact HALL.out j (by omega)
     case measure=>have:=HLT.out;simp [intOf];omega
   ·have hkk : ¬ (k:Int) < (i:Int):=by omega
    have HFE:=hid (show qb3 l rs i=qax l r.f by
     rw [HRE.out,if_neg]
     have h1:i≤qa7 r.name (qbe rs):=(qf8 (by rw [qc8];exact Nat.le_of_lt HI.out)).2 fun j hj=>by rw [qeh j (by have:=HI.out;omega)];exact HALL.out j (by omega)
     omega)
    have HCL:=hid (rform7_r (D:=qbw) (E:=qbw) (f:=r.f) (v := .agg #[.int .i64 r.f.op,.string r.f.name,.int .i64 r.f.val,.int .i64 r.f.bound,.slice A1 r.f.args.length c1]) (w:=wr) (n:=l.length) (qb3 l rs i) HFE.out.symm rfl (HL.out.any HBR.out) ⟨A1,c1,rfl,HRAV.out.any HBK.out⟩)
    clear HFE
    go_wp2_with (go_at_call 11;(with_reducible refine HCL.out.mono ?_);rintro e V3 ⟨rfl,hb3⟩;have HB3:=hid (qac HBR.out hb3);clear hb3)
    go_ret
    exact ⟨rfl,HB3.out⟩
 ·have d1:(r.kind != 1)=true:=bne_iff_ne.2 (by omega)
  have d2:(r.kind != 2)=false:=by rw [hk];rfl
  clear hk
  cases hp:nameB r.part
  ·have HN1:=hid hp
   have HE:=hid (show qb3 l rs i=1 by rw [HRQ.out,HWK.out,hp];rfl)
   clear hp
   go_wp2_with (go_at_call 64;(with_reducible refine (qc7 (s:=r.part) false HN1.out).mono ?_);rintro e V1 ⟨rfl,hb1⟩;have HB1:=hid hb1;clear hb1 q0 q1 q2 q3 q4 q5 q6 q7 ql;obtain ⟨q0,q1,q2,q3,q4,q5,q6,q7,ql⟩:=(HQ.out.below HB1.out).cells)
   go_ret
   exact ⟨qie HE.out,qac HBWV.out HB1.out⟩
  have HN1:=hid hp
  clear hp
  cases hp:nameB r.name
  ·have HN2:=hid hp
   have HE:=hid (show qb3 l rs i=1 by rw [HRQ.out,HWK.out,HN1.out,hp];rfl)
   clear hp
   go_wp2_with (first | (go_at_call 64;(with_reducible refine (qc7 (s:=r.name) false HN2.out).mono ?_);rintro e V2 ⟨rfl,hb2⟩;have HB2:=hid (qac HB1.out hb2);clear hb2 q0 q1 q2 q3 q4 q5 q6 q7 ql) | (go_at_call 64;(with_reducible refine (qc7 (s:=r.part) true HN1.out).mono ?_);rintro e V1 ⟨rfl,hb1⟩;have HB1:=hid hb1;clear hb1 q0 q1 q2 q3 q4 q5 q6 q7 ql;obtain ⟨q0,q1,q2,q3,q4,q5,q6,q7,ql⟩:=(HQ.out.below HB1.out).cells))
   go_ret
   exact ⟨qie HE.out,qac HBWV.out HB2.out⟩
  have HN2:=hid hp
  clear hp
  have HRE:=hid (show qb3 l rs i=if qa7 r.name (qbe rs) < i then 4 else qax l r.f by rw [HRQ.out,HWK.out,HN1.out,HN2.out];rfl)
  go_upto_region 4 with (first | (go_at_call 64;(with_reducible refine (qc7 (s:=r.name) true HN2.out).mono ?_);rintro e V2 ⟨rfl,hb2⟩;have HB2:=hid (qac HB1.out hb2);clear hb2 q0 q1 q2 q3 q4 q5 q6 q7 ql) | (go_at_call 64;(with_reducible refine (qc7 (s:=r.part) true HN1.out).mono ?_);rintro e V1 ⟨rfl,hb1⟩;have HB1:=hid hb1;clear hb1 q0 q1 q2 q3 q4 q5 q6 q7 ql;obtain ⟨q0,q1,q2,q3,q4,q5,q6,q7,ql⟩:=(HQ.out.below HB1.out).cells))
  go_wp2_with fail
  go_loopw [6] (fun q wr => ∃ k:Nat,k≤i∧q = .int .i64 (k:Int)∧Hid (Below V.heap.size V wr)∧Hid (∀ j,j < k→(rs.getD j default).name≠r.name)) (fun q _=>i - (intOf q).toNat)
  case atStart=>exact ⟨0,Nat.zero_le _,rfl,HB2.out,fun j hj=>absurd hj (Nat.not_lt_zero _)⟩
  case round =>
   obtain ⟨k,hki,rfl,HBK,HALL⟩:=hrel
   obtain ⟨q0,q1,q2,q3,q4,q5,q6,q7,ql⟩:=(HQ.out.below HBK.out).cells
   obtain ⟨s0,s1,s2⟩:=(HSV.out.below HBK.out).cells
   have HBR:=hid (qac HBWV.out HBK.out)
   by_cases hlt:k < i
   ·have hkk:(k:Int) < (i:Int):=by omega
    have hkr:(k:Int) < (rs.length:Int):=by omega
    have HLT:=hid hlt
    have HKL:=hid (show k < rs.length by have:=HI.out;omega)
    obtain ⟨b',o',A2,c2,t,he,HX,hr2⟩:=(HR.out.any HBR.out).get HKL.out
    injection he with he
    injection he with hb' ho' _
    subst hb' ho'
    have HTN:=hid (show (rs.getD k default).name=t.name by rw [HX.out])
    obtain ⟨_,hlb,_,n1,_,_,_,_,_,_,_⟩:=hr2
    clear HX
    by_cases ht:t.name=r.name
    ·have d3:(t.name.toList == r.name.toList)=true:=qgb.2 ht
     have HE:=hid (show qb3 l rs i=4 by
      rw [HRE.out,if_pos]
      have:=qhe (s:=r.name) (l:=qbe rs) (k:=k) (by rw [qc8];exact HKL.out) (by rw [qeh k HKL.out,HTN.out];exact ht)
      have:=HLT.out
      omega)
     clear ht
     go_upto_region 7 with (fail)
     go_quiet (fail)
     go_wp2_with fail
     go_ret
     exact ⟨qie HE.out,below_drewN HBR.out _⟩
    ·have d3:(t.name.toList == r.name.toList)=false:=bytes_ne ht
     have HNE:=hid ht
     clear ht
     go_upto_region 7 with (fail)
     go_quiet (fail)
     go_wp2_with fail
     go_roundw
     case rel =>
      refine ⟨k+1,by have:=HLT.out;omega,by go_num,below_drewN HBK.out _,fun j hj => ?_⟩
      by_cases e:j=k
      ·rw [e,HTN.out];exact HNE.out
      ·exact HALL.out j (by omega)
     case measure=>have:=HLT.out;simp [intOf];omega
   ·have hkk : ¬ (k:Int) < (i:Int):=by omega
    have HFE:=hid (show qb3 l rs i=qax l r.f by
     rw [HRE.out,if_neg]
     have h1:i≤qa7 r.name (qbe rs):=(qf8 (by rw [qc8];exact Nat.le_of_lt HI.out)).2 fun j hj=>by rw [qeh j (by have:=HI.out;omega)];exact HALL.out j (by omega)
     omega)
    have HCL:=hid (rform7_r (D:=qbw) (E:=qbw) (f:=r.f) (v := .agg #[.int .i64 r.f.op,.string r.f.name,.int .i64 r.f.val,.int .i64 r.f.bound,.slice A1 r.f.args.length c1]) (w:=wr) (n:=l.length) (qb3 l rs i) HFE.out.symm rfl (HL.out.any HBR.out) ⟨A1,c1,rfl,HRAV.out.any HBK.out⟩)
    clear HFE
    go_wp2_with (go_at_call 11;(with_reducible refine HCL.out.mono ?_);rintro e V3 ⟨rfl,hb3⟩;have HB3:=hid (qac HBR.out hb3);clear hb3)
    go_ret
    exact ⟨rfl,HB3.out⟩
theorem rfault_r {D E:Dom} {l:List Sg} {rs:List Rq} {i:Nat} {AS:Option Addr} {n cS:Nat} {AR:Option Addr} {m cR:Nat} {w:World} (r:Int) (he:qb3 l rs i=r) (hi:i < rs.length) (hn:n=l.length) (hl:RdG w D AS cS l) (hm:m=rs.length) (hr:RdR w E AR cR rs) :
  Calls Tryz.prog 43 #[.agg #[.slice AS n cS,.slice AR m cR],.int .i64 (i:Int)] w fun e w'=>e = .returned (.int .i64 r)∧Below w.heap.size w w':=by
 subst he;exact rfault_any l rs i AS n cS AR m cR w hi hn hl hm hr
end Go.Proofs.YtdakdpfofgkjoaaGreatDoor
namespace Go.Proofs.YtdakdpfofgkjoaaGreatDoor
open Go.RowKit Go.Shelf
attribute [local go_sem] qad run_store_func build_fault qgt
structure RefB (w:World) (l:List Sg) (rs:List Rq) (sb:Nat) (AS:Option Addr) (cS:Nat) (AR:Option Addr) (cR:Nat):Prop where
 s:qdb w sb AS l.length cS AR rs.length cR
 l:RdG w qbw AS cS l
 r:RdR w qbw AR cR rs
theorem RefB.below {w w':World} {l:List Sg} {rs:List Rq} {sb:Nat} {AS:Option Addr} {cS:Nat} {AR:Option Addr} {cR:Nat} (h:RefB w l rs sb AS cS AR cR) (hb:Below w.heap.size w w'):RefB w' l rs sb AS cS AR cR :=
 ⟨h.s.below hb,h.l.any hb,h.r.any hb⟩
theorem rcheck_any {D E:Dom} (l:List Sg) (rs:List Rq) (AS:Option Addr) (n cS:Nat) (AR:Option Addr) (m cR:Nat) (w:World) (hn:n=l.length) (hl:RdG w D AS cS l) (hm:m=rs.length) (hr:RdR w E AR cR rs) :
  Calls Tryz.prog 14 #[.agg #[.slice AS n cS,.slice AR m cR]] w fun e w' => ∃ A c,e = .returned (.slice A (qcp l rs).length c)∧RdT w' (fun b=>w.heap.size≤b) A c (qcp l rs)∧Below w.heap.size w w':=by
 subst hn hm
 have hlen:=hl.len.1
 have hlen2:=hr.len.1
 have HL:=hid hl.old
 have HR:=hid hr.old
 clear hl hr
 obtain ⟨i0,hti,hz0,hz1,hz2⟩:=info_parts fault_info
 have HTI:=hid hti
 have HZ0:=hid hz0
 have HZ1:=hid hz1
 have HZ2:=hid hz2
 clear hti hz0 hz1 hz2
 go_enter Tryz.func14,Tryz.ntmps14
 go_upto_region 1 with (fail)
 refine qai fun W hW => ?_
 have HB:=hid (show Below w.heap.size w W by rw [hW];go_grown)
 have HS:=hid (show qdb W w.heap.size AS l.length cS AR rs.length cR by show W.heap[_]? = _;rw [hW];exact at_new _ _ _ rfl)
 have HWS:=hid (show W.heap.size=w.heap.size+1 by rw [hW];simp)
 clear hW
 obtain ⟨s0,s1,s2⟩:=HS.out.cells
 have HLW:=hid (HL.out.any HB.out)
 cases hv:qcf l
 ·have HRR:=hid (show qcp l rs = [(-1,1)] by unfold qcp;rw [hv];rfl)
  have HV:=hid hv
  clear hv
  go_wp2_with (go_at_call 39;(with_reducible refine (qeq false HV.out rfl HLW.out).mono ?_);rintro e V ⟨rfl,hbV⟩;have HBV:=hid (HB.out.trans (hbV.mono HB.out.size));clear hbV)
  refine qab fun W9 hW9 => ?_
  have hrd:RdT W9 (fun b=>w.heap.size≤b) (some ⟨V.heap.size,0,none⟩) 1 [(-1,1)]:=by
   rw [hW9]
   exact Rd.fresh (D:=fun b=>w.heap.size≤b) (cs := #[.int .i64 (-1),.int .i64 1]) (n:=1) rfl HBV.out.size rfl (by decide)
  have hb9:Below w.heap.size w W9:=by rw [hW9];exact HBV.out.alloc HBV.out.size _
  clear hW9
  go_ret
  rw [HRR.out]
  exact ⟨_,_,rfl,hrd,hb9⟩
 have HV:=hid hv
 clear hv
 by_cases h16:16 < rs.length
 ·have HRR:=hid (show qcp l rs = [(-1,2)] by unfold qcp;rw [HV.out,if_pos rfl,if_neg (by omega)])
  have h16i:16 < (rs.length:Int):=by omega
  clear h16
  go_wp2_with (go_at_call 39;(with_reducible refine (qeq true HV.out rfl HLW.out).mono ?_);rintro e V ⟨rfl,hbV⟩;have HBV:=hid (HB.out.trans (hbV.mono HB.out.size));obtain ⟨t0,t1,t2⟩:=(HS.out.below hbV).cells;clear hbV s0 s1 s2)
  refine qab fun W9 hW9 => ?_
  have hrd:RdT W9 (fun b=>w.heap.size≤b) (some ⟨V.heap.size,0,none⟩) 1 [(-1,2)]:=by
   rw [hW9]
   exact Rd.fresh (D:=fun b=>w.heap.size≤b) (cs := #[.int .i64 (-1),.int .i64 2]) (n:=1) rfl HBV.out.size rfl (by decide)
  have hb9:Below w.heap.size w W9:=by rw [hW9];exact HBV.out.alloc HBV.out.size _
  clear hW9
  go_ret
  rw [HRR.out]
  exact ⟨_,_,rfl,hrd,hb9⟩
 have HCZ:=hid (show qcp l rs=qc9 l rs rs.length by unfold qcp;rw [HV.out,if_pos rfl,if_pos (by omega)])
 have h16i : ¬ 16 < (rs.length:Int):=by omega
 have H16:=hid (show rs.length≤16 by omega)
 clear h16
 go_upto_region 5 with (go_at_call 39;(with_reducible refine (qeq true HV.out rfl HLW.out).mono ?_);rintro e V ⟨rfl,hbV⟩;have HBV:=hid hbV;obtain ⟨t0,t1,t2⟩:=(HS.out.below hbV).cells;clear hbV s0 s1 s2)
 obtain ⟨base,hbase⟩ : ∃ base,base=V.heap.size:=⟨_,rfl⟩
 have HBS:=hid (show base≤V.heap.size∧V.heap.size≤base∧w.heap.size < base by have:=HBV.out.size;have:=HWS.out;omega)
 go_upto_region 6 with (fail)
 refine qai fun V2 hV2 => ?_
 have HB2:=hid (show Below base V V2 by rw [hV2,hbase];exact (Below.refl _ _).alloc (Nat.le_refl _) _)
 have HO0:=hid (show OutT V2 base (.slice (some ⟨V.heap.size,0,none⟩) 0 0) [] by
  refine ⟨_,_,rfl,qg8 (Nat.le_of_eq hbase) ?_⟩
  rw [hV2];exact at_new _ _ _ rfl)
 have HBW:=hid (qac HB.out HBV.out)
 have HC:=hid (show RefB V l rs w.heap.size AS cS AR cR from ⟨HS.out.below HBV.out,HL.out.any HBW.out,HR.out.any HBW.out⟩)
 obtain ⟨gb,hgb⟩ : ∃ gb,gb=V.heap.size:=⟨_,rfl⟩
 rw [←hgb] at HO0 ⊢
 clear hV2 hbase hgb HS HWS HBV t0 t1 t2
 go_wp2_with fail
 go_loopw [3,4] (fun p q wr => ∃ i:Nat,i≤rs.length∧q = .int .i64 (i:Int)∧Hid (OutT wr base p (qc9 l rs i))∧Hid (Below base V wr)) (fun _ q _=>rs.length - (intOf q).toNat)
 case atStart=>exact ⟨0,Nat.zero_le _,rfl,HO0.out,HB2.out⟩
 case round =>
  obtain ⟨i,hi,rfl,HO,HBR⟩:=hrel
  obtain ⟨A,c,rfl,hown⟩:=HO.out
  have HOW:=hid hown
  have HCR:=hid (HC.out.below (HBR.out.mono HBS.out.2.1))
  clear hown HO
  obtain ⟨F,hF⟩ : ∃ F,qc9 l rs i=F:=⟨_,rfl⟩
  rw [hF] at HOW
  have HF:=hid hF
  have hF16:F.length≤16:=by rw [←hF];have:=qhg l rs i;have:=H16.out;omega
  rw [hF]
  clear hF
  obtain ⟨s0,s1,s2⟩:=HCR.out.s.cells
  by_cases hlt:i < rs.length
  ·have hii:(i:Int) < rs.length:=by omega
   have HLT:=hid hlt
   obtain ⟨ev,hev⟩ : ∃ ev,qb3 l rs i=ev:=⟨_,rfl⟩
   have HEV:=hid hev
   clear hev hlt
   by_cases he0:ev=0
   ·have hen:(ev != 0)=false:=by rw [he0];rfl
    have HE0:=hid he0
    clear he0
    go_wp2_with (go_at_call 43;(with_reducible refine (rfault_r (l:=l) (rs:=rs) ev HEV.out HLT.out rfl HCR.out.l rfl HCR.out.r).mono ?_);rintro e W4 ⟨rfl,hb4⟩;have HB4:=hid hb4;clear hb4 s0 s1 s2)
    go_roundw
    case rel =>
     refine ⟨i+1,by have:=HLT.out;omega,by go_num,?_,HBR.out.trans (HB4.out.mono (Nat.le_trans HBS.out.1 HBR.out.size))⟩
     rw [qb7,HF.out,HEV.out,if_pos HE0.out,List.append_nil]
     exact ⟨A,c,rfl,own_below HOW.out HB4.out⟩
    case measure=>have:=HLT.out;simp [intOf];omega
   ·have hen:(ev != 0)=true:=bne_iff_ne.2 he0
    have HN:=hid he0
    have hone:=qho ((i:Int),ev)
    clear he0
    go_wp2_with (first | (go_at_call 43;(with_reducible refine (rfault_r (l:=l) (rs:=rs) ev HEV.out HLT.out rfl HCR.out.l rfl HCR.out.r).mono ?_);rintro e W4 ⟨rfl,hb4⟩;have HB4:=hid hb4;clear hb4 s0 s1 s2) | (at_builtin;go_must (refine qat _ rfl (.tmp 31) (.tmp 35) 37 rfl base 58 i0 _ 2 16 Tryz.underlying37 HTI.out HZ0.out HZ1.out HZ2.out rfl (by omega) (.slice A F.length c) F.length _ rfl (own_below (own_below HOW.out HB4.out) (by go_grown)) _ (some ⟨W4.heap.size,0,none⟩) 1 1 _ rfl (Rd.fresh (D:=qbw) (n:=1) rfl trivial rfl (by decide)) hone (by omega) (qaz (by omega)) (by have:=HB4.out.size;have:=HBR.out.size;have:=HBS.out.1;simp;omega) ?_);intro A5 c5 w5 hown5 hg5 hat5))
    have HG5:=hid hg5
    have HO5:=hid hown5
    clear hown5 hg5 hat5
    go_roundw
    case rel =>
     refine ⟨i+1,by have:=HLT.out;omega,by go_num,?_,?_⟩
     ·rw [qb7,HF.out,HEV.out,if_neg HN.out]
      refine ⟨A5,c5,by rw [List.length_append];rfl,?_⟩
      have h5:=HO5.out
      rw [List.length_append,List.flatMap_append]
      exact h5
     ·refine Below.grown (HBR.out.trans ((HB4.out.alloc HB4.out.size _).mono (Nat.le_trans HBS.out.1 HBR.out.size))) HG5.out (by have:=HB4.out.size;have:=HBR.out.size;have:=HBS.out.1;simp;omega) fun k hk=>(qdu HOW.out hk).1
    case measure=>have:=HLT.out;simp [intOf];omega
  ·have hii : ¬ (i:Int) < rs.length:=by omega
   have HCF:=hid (show qcp l rs=F by rw [HCZ.out,←HF.out,show i=rs.length by omega])
   go_wp2_with fail
   go_ret
   rw [HCF.out]
   exact ⟨_,_,rfl,Rd.own HOW.out (by omega) (fun g hg=>Nat.le_trans (Nat.le_of_lt HBS.out.2.2) hg),HBW.out.trans (HBR.out.mono (Nat.le_of_lt HBS.out.2.2))⟩
end Go.Proofs.YtdakdpfofgkjoaaGreatDoor
