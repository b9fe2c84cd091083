/-
  Parts of a proof: X6 X7 X8.
-/
import Derived.Test.YtdakdpfofgkjoaaGreatDoorZ23
import Derived.Test.YtdakdpfofgkjoaaGreatDoorZ16
set_option linter.unusedSimpArgs false
set_option linter.unusedVariables false
set_option maxHeartbeats 8000000
set_option maxRecDepth 100000
namespace Go.Proofs.YtdakdpfofgkjoaaGreatDoor
open Go.RowKit Go.Shelf
attribute [local go_sem] qad Oper.semAt_some
theorem errL_first (l:List Sg) : ∀ {L:List (Fm × Bool)} {k:Nat},k < L.length→(∀ j,j < k→qbn l (L.getD j default).1=0)→qbn l (L.getD k default).1≠0→qfi l L=qbn l (L.getD k default).1
 | [],k,h,_,_=>absurd h (Nat.not_lt_zero _)
 | x :: r,0,_,_,hn=>by
  rw [qfi,if_neg]
  ·rfl
  ·exact hn
 | x :: r,k+1,hk,h,hn=>by
  have h0:=h 0 (Nat.succ_pos _)
  have h0:qbn l x.1=0:=h0
  rw [qfi,if_pos h0,List.getD_cons_succ]
  rw [List.getD_cons_succ] at hn
  refine errL_first l (by simpa using hk) (fun j hj => ?_) hn
  have:=h (j+1) (by omega)
  rw [List.getD_cons_succ] at this
  exact this
theorem preLs_mem {ins:Bool} {x:Fm × Bool} : ∀ {l:List Fm},x∈qdk ins l → ∃ g,g∈l∧x∈qdl ins g
 | [],h=>by cases h
 | g :: l,h=>by
  simp only [qdk,List.mem_append] at h
  rcases h with h | h
  ·exact ⟨g,by simp,h⟩
  ·obtain ⟨g',h1,h2⟩:=preLs_mem h
   exact ⟨g',by simp [h1],h2⟩
theorem node_depth (f:Fm) : ∀ (ins:Bool) (x:Fm × Bool),x∈qdl ins f→x.1.depth≤f.depth:=by
 refine Fm.induct (P:=fun f => ∀ (ins:Bool) (x:Fm × Bool),x∈qdl ins f→x.1.depth≤f.depth) ?_ f
 intro f ih ins x hx
 rw [qei,List.mem_cons] at hx
 rcases hx with rfl | hx
 ·exact Nat.le_refl _
 ·obtain ⟨g,hg,hx⟩:=preLs_mem hx
  obtain ⟨i,hi,rfl⟩:=List.getElem_of_mem hg
  have e:f.args.getD i default=f.args[i]:=by simp [List.getD,hi]
  have h1:=ih i hi _ x (by rw [e];exact hx)
  have h2:=qec hi
  omega
theorem qia {D E:Dom} (l:List Sg) (AS:Option Addr) (cS n:Nat) (f:Fm) (v:Value) (w:World) (hn:n=l.length) (hl:RdG w D AS cS l) (h:qby w E v f) (hg:GF w) (hk:GK w) :
  Calls Tryz.prog 10 #[.slice AS n cS,v] w fun e w'=>e = .returned (.int .i64 (qax l f))∧Below w.heap.size w w':=by
 subst hn
 obtain ⟨A,c,rfl,ha⟩:=h
 have HL:=hid hl.old
 have HA:=hid ha.old
 have HG:=hid hg
 have HK:=hid hk
 have hlen:=hl.len.1
 clear hl ha hg hk
 refine (callsIn_wide (n:=3)).1 (callsIn_of_wp_marks Tryz.func10 rfl trivial ?_ rfl)
 simp only [Tryz.ntmps10,List.size_toArray,List.length_cons,List.length_nil,Nat.reduceAdd,Nat.reduceSub,Array.replicate_succ,Array.replicate_zero,List.push_toArray,List.append_toArray,List.nil_append,List.cons_append]
 refine wpIn_wide.2 ?_
 go_upto_region 1 with (fail)
 refine qai fun W hW => ?_
 have hb:Below w.heap.size w W:=by rw [hW];go_grown
 have eS:W.heap[w.heap.size]? = some (.cells #[.slice AS l.length cS] 22 (0,0)):=by rw [hW,qaq _ _ _ (by simp;omega),qaq _ _ _ (by simp)];exact at_new _ _ _ rfl
 have e0:qdd W (w.heap.size+1) f A c:=by
  show W.heap[w.heap.size+1]? = _
  rw [hW,qaq _ _ _ (by simp)];exact at_new _ _ _ (by simp)
 have e1:W.heap[w.heap.size+2]? = some (.cells #[.int .i64 0] 32 (0,0)):=by rw [hW];exact at_new _ _ _ (by simp)
 have HB:=hid hb
 have HES:=hid eS
 have HE0:=hid e0
 have HE1:=hid e1
 have HS:=hid (show w.heap.size+3≤W.heap.size by rw [hW];simp)
 clear hW hb eS e0 e1
 have s0:=qaa HES.out (i:=0) rfl
 have s1:=lt_of_block HES.out
 have HSV:=hid (svalid_any l AS cS l.length W rfl (HL.out.any HB.out) (HK.out.below HB.out HK.out.pos))
 cases hv:qcf l
 ·have HR:=hid (show qax l f=1 by unfold qax;rw [hv];rfl)
  rw [hv] at HSV
  clear hv
  go_wp2_with (first | (go_at_call 36;refine HSV.out.mono ?_;rintro e V ⟨rfl,hbV⟩;have q0:=(hbV.block _ (lt_of_block HE1.out)).trans HE1.out;have r0:=qaa q0 (i:=0) rfl;have r1:=qal q0 (i:=0);have r2:=lt_of_block q0))
  have q1:(V.setCell ⟨w.heap.size+2,0,none⟩ (.int .i64 1)).heap[w.heap.size+2]? = some (.cells #[.int .i64 1] 32 (0,0)):=by rw [qam q0];rfl
  have q2:=qaa q1 (i:=0) rfl
  refine qjw rfl (v := .int .i64 1) ?_ ⟨by rw [HR.out],(HB.out.trans (hbV.mono HB.out.size)).setCell (p:=⟨w.heap.size+2,0,none⟩) (by simp) _⟩
  simp [results,Tryz.results10,go_sem,q2]
 rw [hv] at HSV
 have HVS:=hid hv
 clear hv
 have HRD:=hid (fun (V:World) (hb:Below W.heap.size W V)=>(show qby V qbw (.agg #[.int .i64 f.op,.string f.name,.int .i64 f.val,.int .i64 f.bound,.slice A f.args.length c]) f from ⟨A,c,rfl,HA.out.any (HB.out.trans (hb.mono HB.out.size)) |>.mono fun _ _ _=>trivial⟩))
 have HG1:=hid (fun (V:World) (hb:Below W.heap.size W V)=>HG.out.below (HB.out.trans (hb.mono HB.out.size)) HG.out.pos)
 have HK1:=hid (fun (V:World) (hb:Below W.heap.size W V)=>HK.out.below (HB.out.trans (hb.mono HB.out.size)) HK.out.pos)
 have HFV:Hid (∀ V:World,Below W.heap.size W V→Calls Tryz.prog 21 #[.agg #[.int .i64 f.op,.string f.name,.int .i64 f.val,.int .i64 f.bound,.slice A f.args.length c]] V fun e w'=>e = .returned (.bool (qb5 f))∧Below V.heap.size V w'):=hid fun V hb=>valid_any f _ V (HRD.out V hb) (HG1.out V hb) (HK1.out V hb)
 cases hf:qb5 f
 ·have HR:=hid (show qax l f=30 by unfold qax;rw [HVS.out,hf];rfl)
  rw [hf] at HFV
  clear hf
  go_wp2_with (first | (go_at_call 36;refine HSV.out.mono ?_;rintro e V ⟨rfl,hbV⟩;have HBV:=hid hbV;obtain ⟨b0,b1,b2,b3,b4,b5⟩:=(HE0.out.below hbV).cells;clear hbV) | (go_at_call 21;refine (HFV.out _ HBV.out).mono ?_;rintro e V2 ⟨rfl,hb2⟩;have HB2:=hid (HBV.out.trans (hb2.mono HBV.out.size));have q0:=(HB2.out.block _ (lt_of_block HE1.out)).trans HE1.out;have r0:=qaa q0 (i:=0) rfl;have r1:=qal q0 (i:=0);have r2:=lt_of_block q0;clear hb2))
  have q1:(V2.setCell ⟨w.heap.size+2,0,none⟩ (.int .i64 30)).heap[w.heap.size+2]? = some (.cells #[.int .i64 30] 32 (0,0)):=by rw [qam q0];rfl
  have q2:=qaa q1 (i:=0) rfl
  refine qjw rfl (v := .int .i64 30) ?_ ⟨by rw [HR.out],(HB.out.trans (HB2.out.mono HB.out.size)).setCell (p:=⟨w.heap.size+2,0,none⟩) (by simp) _⟩
  simp [results,Tryz.results10,go_sem,q2]
 have HFT:=hid hf
 have HD:=hid (show f.depth≤20 by unfold qb5 at hf;rw [Bool.and_eq_true,qcb] at hf;omega)
 rw [hf] at HFV
 clear hf
 go_wp2_with (first | (go_at_call 36;refine HSV.out.mono ?_;rintro e V ⟨rfl,hbV⟩;have HBV:=hid hbV;obtain ⟨b0,b1,b2,b3,b4,b5⟩:=(HE0.out.below hbV).cells;clear hbV) | (go_at_call 21;refine (HFV.out _ HBV.out).mono ?_;rintro e V2 ⟨rfl,hb2⟩;have HB2:=hid (HBV.out.trans (hb2.mono HBV.out.size));clear hb2 b0 b1 b2 b3 b4 b5) | (go_at_call 37;refine (nodesT_any _ V2).mono ?_;rintro e w2 ⟨rfl,rfl⟩))
 refine qai fun W2 hW2 => ?_
 have hb2:Below V2.heap.size V2 W2:=by rw [hW2];go_grown
 have hp2:W2.cell? ⟨V2.heap.size,0,none⟩=some (.pointer (some ⟨w.heap.size+1,0,none⟩)):=by rw [hW2];exact qaa (at_new _ _ _ rfl) (i:=0) rfl
 have HBW:=hid (HB2.out.trans (hb2.mono HB2.out.size))
 have HS2:=hid (Nat.le_trans HS.out HBW.out.size)
 have HP:=hid hp2
 have HE0':=hid (HE0.out.below HBW.out)
 have HE1':=hid ((HBW.out.block _ (lt_of_block HE1.out)).trans HE1.out)
 have HES':=hid ((HBW.out.block _ (lt_of_block HES.out)).trans HES.out)
 have HBw:=hid (HB.out.trans (HBW.out.mono HB.out.size))
 have HF:=hid (qdd.hasF (D:=(· < w.heap.size+2)) HE0'.out (Nat.lt_succ_self _) ((HA.out.keep (Keeps.of_below HBw.out fun _ h=>h)).mono fun k hk _=>by have:k < w.heap.size:=hk;omega))
 clear hW2 hb2 hp2 s0 s1 HSV HFV HRD
 refine range_nodesT f (w.heap.size+1) 0 V2.heap.size (w.heap.size+2) A c (fun b=>b=w.heap.size+2)
  (fun k W'=>qk4 (errQ l) f k∧W'.heap[w.heap.size+2]? = some (.cells #[.int .i64 0] 32 (0,0)))
  (fun c W'=>c = .ret∧qfi l (qdl false f)≠0∧W'.heap[w.heap.size+2]? = some (.cells #[.int .i64 (qfi l (qdl false f))] 32 (0,0)))
  rfl rfl HF.out (by omega) (by have:=HS2.out;omega) HP.out ?hZ ?hI ?hIx ⟨qgd _ _,HE1'.out⟩ ?a1 ?hassign ?hround ?hdone ?hstop
 case hassign =>
  intro l p W K hK
  gi_wp2
  exact hK
 case hZ=>intro b hb;have:=HS2.out;omega
 case hI=>rintro k W3 W4 ⟨h1,h2⟩ hc;exact ⟨h1,hc.box h2 (by have:=HS2.out;omega)⟩
 case hIx=>rintro c W3 W4 ⟨h0,h1,h2⟩ hc;exact ⟨h0,h1,hc.box h2 (by have:=HS2.out;omega)⟩
 case hround =>
  rintro lr k W3 b o A' c' hs3 hc3 ⟨hk1,hk2⟩ hlenk hf3
  have hB3:Below w.heap.size w W3:=HBw.out.trans (hc3.below (B:=w.heap.size) (fun b hb=>by omega) HBw.out.size)
  have hdn:((qdl false f).getD k default).1.depth≤5000:=by
   have:=node_depth f false _ (getD_mem' hlenk)
   have:=HD.out
   omega
  have hcall:=nodeerr_any l AS cS l.length ((qdl false f).getD k default).1 b o A' c' W3 rfl (HL.out.any hB3) hf3 (HG.out.below hB3 HG.out.pos) hdn
  have q2:=hc3.box HES'.out (show w.heap.size≠w.heap.size+2 by omega)
  have c0:=qaa q2 (i:=0) rfl
  have c1:=lt_of_block q2
  have HK1':=hid hk1
  have HK2:=hid hk2
  have HLEN:=hid hlenk
  have r0:=qaa hk2 (i:=0) rfl
  have r1:=qal hk2 (i:=0)
  have r2:=lt_of_block hk2
  clear hk1 hk2 hlenk q2 hf3 hB3 hdn
  have hfn1:Fence.wide.fn 38:=trivial
  have hfd:Fence.wide.depth=none:=rfl
  obtain ⟨ne,hne⟩ : ∃ ne,qbn l ((qdl false f).getD k default).1=ne:=⟨_,rfl⟩
  rw [hne] at hcall
  have HNE:=hid hne
  clear hne
  by_cases h0:ne=0
  ·rw [h0] at hcall HNE
   clear h0
   gi_wp2_with (gi_at_call 38;refine (CallsIn.inRound lr (callsIn_wide.2 hcall)).mono ?_;rintro e W4 ⟨rfl,hb4⟩;have q0:=(hb4.block _ (lt_of_block HK2.out)).trans HK2.out)
   exact ⟨Chg.of_new (V:=fun b=>b=w.heap.size+2) hb4,qge HK1'.out (decide_eq_true HNE.out),q0⟩
  ·have hb0:(ne != 0)=true:=bne_iff_ne.2 h0
   have HEF:=hid (show qfi l (qdl false f)=ne by
    rw [←HNE.out]
    exact errL_first l HLEN.out (fun j hj=>of_decide_eq_true (HK1'.out j hj)) (by rw [HNE.out];exact h0))
   have HN0:=hid h0
   clear h0
   gi_wp2_with (gi_at_call 38;refine (CallsIn.inRound lr (callsIn_wide.2 hcall)).mono ?_;rintro e W4 ⟨rfl,hb4⟩;have q0:=(hb4.block _ (lt_of_block HK2.out)).trans HK2.out;have r0:=qaa q0 (i:=0) rfl;have r1:=qal q0 (i:=0);have r2:=lt_of_block q0)
   refine ⟨(Chg.of_new (V:=fun b=>b=w.heap.size+2) hb4).set ⟨w.heap.size+2,0,none⟩ (.int .i64 ne) (fun _=>rfl),rfl,by rw [HEF.out];exact HN0.out,?_⟩
   rw [qam q0,HEF.out]
   rfl
 case hdone =>
  rintro W3 hc ⟨h1,h2⟩ hD3
  have HE:=hid (show qfi l (qdl false f)=0 from (errL_zero l _).2 (qhl h1))
  have hB3:Below w.heap.size w W3:=HBw.out.trans (hc.below (B:=w.heap.size) (fun b hb=>by omega) HBw.out.size)
  have hb5:qdd W3 (w.heap.size+1) f A c:=hc.box HE0'.out (show w.heap.size+1≠w.heap.size+2 by omega)
  obtain ⟨b0,b1,b2,b3,b4,b5⟩:=hb5.cells
  have hker:=kernel_any f _ W3 ⟨A,c,rfl,HA.out.any hB3⟩ (HG.out.below hB3 HG.out.pos) (HK.out.below hB3 HK.out.pos)
  have HB3:=hid hB3
  have HK2:=hid h2
  have HD3:=hid hD3
  clear hB3 h1 h2 hD3 hb5
  obtain ⟨r,hr⟩ : ∃ r,(qba f).2=r:=⟨_,rfl⟩
  rw [hr] at hker
  have HR:=hid hr
  clear hr
  dsimp only
  by_cases hr0:r=0
  ·have HF0:=hid (show qax l f=0 by unfold qax;rw [HVS.out,HFT.out,if_pos rfl,if_pos rfl,if_pos HE.out,HR.out,if_pos hr0])
   rw [hr0] at hker
   clear hr0
   go_wp2_with (go_at_call 29;refine hker.mono ?_;rintro e W4 ⟨kv,rfl,hb4,A4,c4,rfl,_⟩;have HB4:=hid hb4;have q0:=(hb4.block _ (lt_of_block HK2.out)).trans HK2.out;have r0:=qaa q0 (i:=0) rfl;have r1:=qal q0 (i:=0);have r2:=lt_of_block q0;have HQ0:=hid q0;have HD4:=hid ((hb4.block _ (lt_of_block HD3.out)).trans HD3.out);clear hb4 q0)
   have hDl:=lt_of_block HD4.out
   have hne:W2.heap.size≠w.heap.size+2:=by have:=HS2.out;omega
   have hD5:((W4.setCell ⟨w.heap.size+2,0,none⟩ (.int .i64 0)).alloc (.cells #[.int .i64 (qba f).1.op,.string (qba f).1.name,.int .i64 (qba f).1.val,.int .i64 (qba f).1.bound,.slice A4 (qba f).1.args.length c4] 28)).heap[W2.heap.size]? = some (.deferred (some [])):=by
    rw [qaq _ _ _ (by simpa using hDl)]
    exact (at_set (w:=W4) (p:=⟨w.heap.size+2,0,none⟩) (u := .int .i64 0) hne).trans HD4.out
   have e5:((W4.setCell ⟨w.heap.size+2,0,none⟩ (.int .i64 0)).alloc (.cells #[.int .i64 (qba f).1.op,.string (qba f).1.name,.int .i64 (qba f).1.val,.int .i64 (qba f).1.bound,.slice A4 (qba f).1.args.length c4] 28)).heap[w.heap.size+2]? = some (.cells #[.int .i64 0] 32 (0,0)):=by
    rw [qaq _ _ _ (by simpa using r2),qam HQ0.out];rfl
   have hc5:Below w.heap.size w ((W4.setCell ⟨w.heap.size+2,0,none⟩ (.int .i64 0)).alloc (.cells #[.int .i64 (qba f).1.op,.string (qba f).1.name,.int .i64 (qba f).1.val,.int .i64 (qba f).1.bound,.slice A4 (qba f).1.args.length c4] 28)) :=
    ((HB3.out.trans (HB4.out.mono HB3.out.size)).setCell (p:=⟨w.heap.size+2,0,none⟩) (by simp) (.int .i64 0)).alloc (by have:=HB3.out.size;have:=HB4.out.size;simp;omega) _
   refine qdo rfl hD5 (v := .int .i64 0) (fun w' hc' => ?_) (fun w' hc'=>⟨by rw [HF0.out],hc5.trans (hc'.below (fun b hb=>by have:=HS2.out;omega) hc5.size)⟩)
   have:=qaa (hc'.box e5 (show w.heap.size+2≠W2.heap.size from fun e=>hne e.symm)) (i:=0) rfl
   simp [results,Tryz.results10,go_sem,this]
  ·have HF0:=hid (show qax l f=2 by unfold qax;rw [HVS.out,HFT.out,if_pos rfl,if_pos rfl,if_pos HE.out,HR.out,if_neg hr0])
   have hb0:(r != 0)=true:=bne_iff_ne.2 hr0
   clear hr0
   go_wp2_with (go_at_call 29;refine hker.mono ?_;rintro e W4 ⟨kv,rfl,hb4,A4,c4,rfl,_⟩;have HB4:=hid hb4;have q0:=(hb4.block _ (lt_of_block HK2.out)).trans HK2.out;have r0:=qaa q0 (i:=0) rfl;have r1:=qal q0 (i:=0);have r2:=lt_of_block q0;have HQ0:=hid q0;have HD4:=hid ((hb4.block _ (lt_of_block HD3.out)).trans HD3.out);clear hb4 q0)
   have hDl:=lt_of_block HD4.out
   have hne:W2.heap.size≠w.heap.size+2:=by have:=HS2.out;omega
   have hD5:((W4.setCell ⟨w.heap.size+2,0,none⟩ (.int .i64 2)).alloc (.cells #[.int .i64 (qba f).1.op,.string (qba f).1.name,.int .i64 (qba f).1.val,.int .i64 (qba f).1.bound,.slice A4 (qba f).1.args.length c4] 28)).heap[W2.heap.size]? = some (.deferred (some [])):=by
    rw [qaq _ _ _ (by simpa using hDl)]
    exact (at_set (w:=W4) (p:=⟨w.heap.size+2,0,none⟩) (u := .int .i64 2) hne).trans HD4.out
   have e5:((W4.setCell ⟨w.heap.size+2,0,none⟩ (.int .i64 2)).alloc (.cells #[.int .i64 (qba f).1.op,.string (qba f).1.name,.int .i64 (qba f).1.val,.int .i64 (qba f).1.bound,.slice A4 (qba f).1.args.length c4] 28)).heap[w.heap.size+2]? = some (.cells #[.int .i64 2] 32 (0,0)):=by
    rw [qaq _ _ _ (by simpa using r2),qam HQ0.out];rfl
   have hc5:Below w.heap.size w ((W4.setCell ⟨w.heap.size+2,0,none⟩ (.int .i64 2)).alloc (.cells #[.int .i64 (qba f).1.op,.string (qba f).1.name,.int .i64 (qba f).1.val,.int .i64 (qba f).1.bound,.slice A4 (qba f).1.args.length c4] 28)) :=
    ((HB3.out.trans (HB4.out.mono HB3.out.size)).setCell (p:=⟨w.heap.size+2,0,none⟩) (by simp) (.int .i64 2)).alloc (by have:=HB3.out.size;have:=HB4.out.size;simp;omega) _
   refine qdo rfl hD5 (v := .int .i64 2) (fun w' hc' => ?_) (fun w' hc'=>⟨by rw [HF0.out],hc5.trans (hc'.below (fun b hb=>by have:=HS2.out;omega) hc5.size)⟩)
   have:=qaa (hc'.box e5 (show w.heap.size+2≠W2.heap.size from fun e=>hne e.symm)) (i:=0) rfl
   simp [results,Tryz.results10,go_sem,this]
 case hstop =>
  rintro c W3 hc ⟨rfl,h1,h2⟩ hD3
  dsimp only
  go_wp2_with fail
  have hc4:=HBw.out.trans (hc.below (B:=w.heap.size) (fun b hb=>by omega) HBw.out.size)
  refine qdo rfl hD3 (v := .int .i64 (qfi l (qdl false f))) (fun w' hc' => ?_) (fun w' hc'=>⟨by unfold qax;rw [HVS.out,HFT.out,if_pos rfl,if_pos rfl,if_neg h1],hc4.trans (hc'.below (fun b hb=>by have:=HS2.out;omega) hc4.size)⟩)
  have:=qaa (hc'.box h2 (by have:=HS2.out;omega)) (i:=0) rfl
  simp [results,Tryz.results10,go_sem,this]
end Go.Proofs.YtdakdpfofgkjoaaGreatDoor
namespace Go.Proofs.YtdakdpfofgkjoaaGreatDoor
open Go.RowKit Go.Shelf
attribute [local go_sem] qad run_store_func
structure qkd (w:World) (rb pb fb mb sb:Nat) (L:List ByteArray):Prop where
 rb:w.heap[rb]? = some (.cells #[.func (.func 70) #[] #[.pointer (some ⟨pb,0,none⟩)],.func (.func 71) #[] #[.pointer (some ⟨fb,0,none⟩),.pointer (some ⟨pb,0,none⟩)],.func (.func 72) #[] #[.pointer (some ⟨pb,0,none⟩)]] 71 (0,0))
 pb:w.heap[pb]? = some (.cells #[.pointer (some ⟨sb,0,none⟩)] 68 (0,0))
 fb:w.heap[fb]? = some (.cells #[.map (some mb)] 99 (0,0))
 map:qdv w mb L L.length
theorem qkd.below {w w':World} {rb pb fb mb sb:Nat} {L:List ByteArray} (h:qkd w rb pb fb mb sb L) (hb:Below w.heap.size w w'):qkd w' rb pb fb mb sb L :=
 ⟨(hb.block _ (lt_of_block h.rb)).trans h.rb,(hb.block _ (lt_of_block h.pb)).trans h.pb,(hb.block _ (lt_of_block h.fb)).trans h.fb,h.map.of_block (hb.block _ h.map.lt)⟩
theorem build_rule (fn:Fn) (a b:Array Value) (w:World):(Instr.build 71 #[(0,.func fn a b)]).run Tryz.prog w = .ok (.agg #[.func fn a b]) w:=run_build w 71 _ _ (by kernel_rfl)
attribute [local go_sem] build_rule
def qdb (w:World) (sb:Nat) (AS:Option Addr) (n cS:Nat) (AR:Option Addr) (m cR:Nat):Prop:=w.heap[sb]? = some (.cells #[.slice AS n cS,.slice AR m cR] 25 (0,0))
theorem qdb.below {w w':World} {sb n cS m cR:Nat} {AS AR:Option Addr} (h:qdb w sb AS n cS AR m cR) (hb:Below w.heap.size w w'):qdb w' sb AS n cS AR m cR:=(hb.block _ (lt_of_block h)).trans h
theorem qdb.chg {w w':World} {sb n cS m cR:Nat} {AS AR:Option Addr} {V:Dom} (h:qdb w sb AS n cS AR m cR) (hc:Chg V w w') (hv : ¬ V sb):qdb w' sb AS n cS AR m cR:=hc.box h hv
theorem qdb.cells {w:World} {sb n cS m cR:Nat} {AS AR:Option Addr} (h:qdb w sb AS n cS AR m cR):w.cell? ⟨sb,0,none⟩=some (.slice AS n cS)∧w.cell? ⟨sb,1,none⟩=some (.slice AR m cR)∧sb < w.heap.size :=
 ⟨qaa h (i:=0) rfl,qaa h (i:=1) rfl,lt_of_block h⟩
theorem rules_any {E:Dom} (rs:List Rq) (sb:Nat) (AS:Option Addr) (n cS:Nat) (AR:Option Addr) (m cR:Nat) (w:World) (hs:qdb w sb AS n cS AR m cR) (hm:m=rs.length) (hr:RdR w E AR cR rs) :
  Calls Tryz.prog 42 #[.pointer (some ⟨sb,0,none⟩)] w fun e w' => ∃ rb pb fb mb,e = .returned (.slice (some ⟨rb,0,none⟩) 3 3)∧qkd w' rb pb fb mb sb (qbe rs)∧Below w.heap.size w w':=by
 subst hm
 have hmf : ∀ (fn:Fn) (first cap:Array Value) (w:World),(Instr.makeFunc fn first cap).run Tryz.prog w = .ok (.func fn first cap) w:=fun _ _ _ _=>rfl
 have hmm := @run_makeMap Tryz.prog
 have HR:=hid hr.old
 have HS:=hid hs
 have hlen:=hr.len.1
 have hsl:=lt_of_block hs
 clear hs hr
 go_enter Tryz.func42,Tryz.ntmps42
 go_upto_region 2 with (fail)
 refine qai fun W hW => ?_
 clear hmm
 have hb:Below w.heap.size w W:=by rw [hW];go_grown
 have e0:W.heap[w.heap.size]? = some (.cells #[.pointer (some ⟨sb,0,none⟩)] 68 (0,0)):=by rw [hW,qaq _ _ _ (by simp;omega),qaq _ _ _ (by simp)];exact at_new _ _ _ rfl
 have e1:qdv W (w.heap.size+1) (qbe rs) 0:=by
  have:=qdv.new (w.alloc (.cells #[.pointer (some ⟨sb,0,none⟩)] 68)) (qbe rs)
  rw [World.size_alloc] at this
  refine this.of_block ?_
  rw [hW,qaq _ _ _ (by simp)]
 have e2:W.heap[w.heap.size+2]? = some (.cells #[.map (some (w.heap.size+1))] 99 (0,0)):=by rw [hW];exact at_new _ _ _ (by simp)
 have HB:=hid hb
 have HE0:=hid e0
 have HE1:=hid e1
 have HE2:=hid e2
 have HSW:=hid (HS.out.below hb)
 have HSL:=hid hsl
 have HWS:=hid (show W.heap.size=w.heap.size+3 by rw [hW];simp)
 clear hW hb e0 e1 e2 hsl
 obtain ⟨s0,s1,s2⟩:=HSW.out.cells
 have p0:=qaa HE0.out (i:=0) rfl
 have p1:=lt_of_block HE0.out
 go_wp2_with fail
 clear s0 s1 s2 p0 p1
 go_loopw [16] (fun q wr => ∃ k:Nat,k≤rs.length∧q = .int .i64 (k:Int)∧Hid (qdv wr (w.heap.size+1) (qbe rs) k)∧Hid (Chg (fun b=>b=w.heap.size+1) W wr)) (fun q _=>rs.length - (intOf q).toNat)
 case atStart=>exact ⟨0,Nat.zero_le _,rfl,HE1.out,Chg.refl _ _⟩
 case round =>
  obtain ⟨k,hk,rfl,HM,HC⟩:=hrel
  have HBW:Hid (Below w.heap.size w wr):=hid (HB.out.trans (HC.out.below (B:=w.heap.size) (fun b hb=>by omega) HB.out.size))
  have h0:=HC.out.box HE0.out (show w.heap.size≠w.heap.size+1 by omega)
  have h2:=HC.out.box HE2.out (show w.heap.size+2≠w.heap.size+1 by omega)
  have hs3:=HSW.out.chg HC.out (show sb≠w.heap.size+1 by have:=HSL.out;omega)
  obtain ⟨s0,s1,s2⟩:=hs3.cells
  have p0:=qaa h0 (i:=0) rfl
  have p1:=lt_of_block h0
  have f0:=qaa h2 (i:=0) rfl
  have f1:=lt_of_block h2
  have HH0:=hid h0
  have HH2:=hid h2
  have HS3:=hid hs3
  clear h0 h2 hs3
  by_cases hlt:k < rs.length
  ·have hkk:(k:Int) < rs.length:=by omega
   obtain ⟨b,o,A1,c1,r,rfl,HX,hr⟩:=(HR.out.any HBW.out).get hlt
   obtain ⟨_,hlb,_,n1,_,_,_,_,_,_,_⟩:=hr
   have HNA:=hid (show (qbe rs).getD k ⟨#[]⟩=r.name by rw [qeh k hlt,HX.out])
   clear HX
   by_cases hf:qa7 r.name (qbe rs) < k
   ·have hlk : ∀ n,(Instr.lookup 99 (.map (some (w.heap.size+1))) (.string r.name) true).run Tryz.prog (wr.drewN n) = .ok (.tuple #[.int .i64 (qa7 r.name (qbe rs):Int),.bool true]) (wr.drewN n):=fun n=>by
     have:=(HM.out.of_block (w':=wr.drewN n) rfl).has r.name
     rw [if_pos hf,decide_eq_true hf] at this
     exact this
    have HN:=hid (HM.out.skip HNA.out (by rw [qc8];exact hlt) hf)
    clear hf
    go_upto_region 5 with (fail)
    go_quiet (fail)
    go_wp2_with fail
    go_roundw
    case rel=>exact ⟨k+1,by omega,by go_num,HN.out.of_block rfl,HC.out.drewN _⟩
    case measure=>simp [intOf];omega
   ·have hlk : ∀ n,(Instr.lookup 99 (.map (some (w.heap.size+1))) (.string r.name) true).run Tryz.prog (wr.drewN n) = .ok (.tuple #[.int .i64 0,.bool false]) (wr.drewN n):=fun n=>by
     have:=(HM.out.of_block (w':=wr.drewN n) rfl).has r.name
     rw [if_neg hf,decide_eq_false hf] at this
     exact this
    have HNF:=hid hf
    clear hf
    go_upto_region 5 with (fail)
    go_quiet (fail)
    obtain ⟨w5,hw5⟩ : ∃ w5,w5=wr.drewN nq:=⟨_,rfl⟩
    have HD5:=hid (show qao wr w5 from hw5 ▸ qao.n wr nq)
    rw [←hw5]
    clear hw5 hlk
    have hbd:=HD5.out.below wr.heap.size
    have HM5:=hid (HM.out.of_block (w':=w5) (hbd.block _ HM.out.lt))
    have a0:=(hbd.cell (p:=⟨sb,1,none⟩) s2).trans s1
    have a1:=Nat.lt_of_lt_of_le s2 hbd.size
    have a2:=(hbd.cell (p:=⟨w.heap.size,0,none⟩) p1).trans p0
    have a3:=Nat.lt_of_lt_of_le p1 hbd.size
    have a4:=(hbd.cell (p:=⟨w.heap.size+2,0,none⟩) f1).trans f0
    have a5:=Nat.lt_of_lt_of_le f1 hbd.size
    have a6:=(hbd.cell (p:=⟨b,o+k * 8+1,none⟩) hlb).trans n1
    have a7:=Nat.lt_of_lt_of_le hlb hbd.size
    obtain ⟨w6,hput,hm6,hg6,hs6⟩:=(HM5.out.of_block (w':=w5.drew) rfl).put HNA.out (by rw [qc8];exact hlt) HNF.out
    have HM6:=hid hm6
    have HC6:=hid ((HC.out.drawn HD5.out).grown (w'':=w6) ⟨hg6.os,hg6.tape,hg6.output,hg6.size,hg6.block⟩ (fun b e _=>(Option.some.inj e).symm))
    clear hm6 hg6 hs6 hbd s0 s1 s2 p0 p1 f0 f1 n1 hlb
    go_upto_region 7 with (fail)
    go_still_tail 10,(by kernel_rfl)
    simp only [World.drew_eq]
    go_wp2_with fail
    go_roundw
    case rel=>exact ⟨k+1,by omega,by go_num,HM6.out,HC6.out⟩
    case measure=>simp [intOf];omega
  ·have hkk : ¬ (k:Int) < rs.length:=by omega
   have hke:k=rs.length:=by omega
   subst hke
   have HM':=hid HM.out
   go_wp2_with fail
   refine qab fun W9 hW9 => ?_
   have hb9:Below wr.heap.size wr W9:=by rw [hW9];go_grown
   have h9:W9.heap[wr.heap.size]? = some (.cells #[.func (.func 70) #[] #[.pointer (some ⟨w.heap.size,0,none⟩)],.func (.func 71) #[] #[.pointer (some ⟨w.heap.size+2,0,none⟩),.pointer (some ⟨w.heap.size,0,none⟩)],.func (.func 72) #[] #[.pointer (some ⟨w.heap.size,0,none⟩)]] 71 (0,0)):=by rw [hW9];exact at_new _ _ _ rfl
   have hR9:qkd W9 wr.heap.size w.heap.size (w.heap.size+2) (w.heap.size+1) sb (qbe rs):=by
    refine ⟨h9,(hb9.block _ (lt_of_block HH0.out)).trans HH0.out,(hb9.block _ (lt_of_block HH2.out)).trans HH2.out,?_⟩
    rw [qc8]
    exact HM'.out.of_block (hb9.block _ HM'.out.lt)
   have hbf:=HBW.out.trans (hb9.mono HBW.out.size)
   clear hW9 h9 hb9
   go_ret
   exact ⟨wr.heap.size,rfl,⟨_,_,_,hR9⟩,hbf⟩
end Go.Proofs.YtdakdpfofgkjoaaGreatDoor
namespace Go.Proofs.YtdakdpfofgkjoaaGreatDoor
open Go.RowKit Go.Shelf
attribute [local go_sem] qad run_store_func
def wErr (r:Rq):Int:=if qde r then 0 else 1
theorem words_kind {r:Rq} (h1:r.kind≠1) (h2:r.kind≠2):wErr r=1:=by
 unfold wErr qde
 rw [decide_eq_false h1,decide_eq_false h2];rfl
theorem words_part {r:Rq} (h:nameB r.part=false):wErr r=1:=by
 unfold wErr qde
 rw [h];simp
theorem words_name {r:Rq} (h:nameB r.name=false):wErr r=1:=by
 unfold wErr qde
 rw [h];simp
theorem words_yes {r:Rq} (h:r.kind=1∨r.kind=2) (h2:nameB r.part=true) (h3:nameB r.name=true):wErr r=0:=by
 unfold wErr qde
 rw [h2,h3]
 rcases h with h | h <;> rw [h] <;> rfl
theorem qiv (l:List Sg) (rs:List Rq) (i:Nat):qb3 l rs i=if wErr (rs.getD i default)≠0 then wErr (rs.getD i default) else if qa7 (rs.getD i default).name (qbe rs) < i then 4 else qax l (rs.getD i default).f:=by
 unfold qb3 wErr
 cases qde (rs.getD i default) <;> simp
theorem qjf {a b:Int} (h:a≠b):(a != b)=true:=bne_iff_ne.2 h
theorem bneI_f {a b:Int} (h:a=b):(a != b)=false:=by rw [h];simp
theorem words_any {E:Dom} (rs:List Rq) (i sb pb:Nat) (AS:Option Addr) (n cS:Nat) (AR:Option Addr) (m cR:Nat) (w:World) (hi:i < rs.length) (hp:w.heap[pb]? = some (.cells #[.pointer (some ⟨sb,0,none⟩)] 68 (0,0))) (hs:qdb w sb AS n cS AR m cR) (hm:m=rs.length) (hr:RdR w E AR cR rs) (hk:GK w) :
  Calls Tryz.prog 70 #[.int .i64 (i:Int),.pointer (some ⟨pb,0,none⟩)] w fun e w'=>e = .returned (.int .i64 (wErr (rs.getD i default)))∧Below w.heap.size w w':=by
 subst hm
 obtain ⟨b,o,A1,c1,r,rfl,HX,hr1⟩:=hr.get hi
 have hlen:=hr.len.1
 obtain ⟨_,hlb,n0,n1,n2,_,_,_,_,_,_⟩:=hr1
 rw [HX.out]
 clear HX hr
 obtain ⟨s0,s1,s2⟩:=hs.cells
 have p0:=qaa hp (i:=0) rfl
 have p1:=lt_of_block hp
 have hii:(i:Int) < rs.length:=by omega
 have HK:=hid hk
 clear hs hp hk
 have HN1:=hid (name_any r.part w HK.out)
 have HN2:=hid (fun (W:World) (hb:Below w.heap.size w W)=>name_any r.name W (HK.out.below hb HK.out.pos))
 by_cases k1:r.kind=1
 ·have d1:=bneI_f k1
  have HKD:=hid (show r.kind=1∨r.kind=2 from .inl k1)
  clear k1
  cases q1:nameB r.part
  ·have HR:=hid (words_part q1)
   rw [q1] at HN1
   clear q1
   go_enter Tryz.func70,Tryz.ntmps70
   go_wp2_with (go_at_call 60;(with_reducible refine HN1.out.mono ?_);rintro e W2 ⟨rfl,hb2⟩;have m1:=(hb2.cell (p:=⟨b,o+i * 8+1,none⟩) hlb).trans n1;have hl2:=Nat.lt_of_lt_of_le hlb hb2.size;have HB2:=hid hb2;clear hb2 n0 n1 n2 hlb)
   go_ret
   exact ⟨qau HR.out.symm,HB2.out⟩
  have HQ1:=hid q1
  rw [q1] at HN1
  clear q1
  cases q2:nameB r.name
  ·have HR:=hid (words_name q2)
   rw [q2] at HN2
   clear q2
   go_enter Tryz.func70,Tryz.ntmps70
   go_wp2_with (first | (go_at_call 60;(with_reducible refine HN1.out.mono ?_);rintro e W2 ⟨rfl,hb2⟩;have m1:=(hb2.cell (p:=⟨b,o+i * 8+1,none⟩) hlb).trans n1;have hl2:=Nat.lt_of_lt_of_le hlb hb2.size;have HB2:=hid hb2;clear hb2 n0 n1 n2 hlb) | (go_at_call 60;(with_reducible refine (HN2.out _ HB2.out).mono ?_);rintro e W3 ⟨rfl,hb3⟩;have HB3:=hid (HB2.out.trans (hb3.mono HB2.out.size));clear hb3))
   go_ret
   exact ⟨qau HR.out.symm,HB3.out⟩
  have HR:=hid (words_yes HKD.out HQ1.out q2)
  rw [q2] at HN2
  clear q2
  go_enter Tryz.func70,Tryz.ntmps70
  go_wp2_with (first | (go_at_call 60;(with_reducible refine HN1.out.mono ?_);rintro e W2 ⟨rfl,hb2⟩;have m1:=(hb2.cell (p:=⟨b,o+i * 8+1,none⟩) hlb).trans n1;have hl2:=Nat.lt_of_lt_of_le hlb hb2.size;have HB2:=hid hb2;clear hb2 n0 n1 n2 hlb) | (go_at_call 60;(with_reducible refine (HN2.out _ HB2.out).mono ?_);rintro e W3 ⟨rfl,hb3⟩;have HB3:=hid (HB2.out.trans (hb3.mono HB2.out.size));clear hb3))
  go_ret
  exact ⟨qau HR.out.symm,HB3.out⟩
 have d1:=qjf k1
 by_cases k2:r.kind=2
 ·have d2:=bneI_f k2
  have HKD:=hid (show r.kind=1∨r.kind=2 from .inr k2)
  clear k1 k2
  cases q1:nameB r.part
  ·have HR:=hid (words_part q1)
   rw [q1] at HN1
   clear q1
   go_enter Tryz.func70,Tryz.ntmps70
   go_wp2_with (go_at_call 60;(with_reducible refine HN1.out.mono ?_);rintro e W2 ⟨rfl,hb2⟩;have m1:=(hb2.cell (p:=⟨b,o+i * 8+1,none⟩) hlb).trans n1;have hl2:=Nat.lt_of_lt_of_le hlb hb2.size;have HB2:=hid hb2;clear hb2 n0 n1 n2 hlb)
   go_ret
   exact ⟨qau HR.out.symm,HB2.out⟩
  have HQ1:=hid q1
  rw [q1] at HN1
  clear q1
  cases q2:nameB r.name
  ·have HR:=hid (words_name q2)
   rw [q2] at HN2
   clear q2
   go_enter Tryz.func70,Tryz.ntmps70
   go_wp2_with (first | (go_at_call 60;(with_reducible refine HN1.out.mono ?_);rintro e W2 ⟨rfl,hb2⟩;have m1:=(hb2.cell (p:=⟨b,o+i * 8+1,none⟩) hlb).trans n1;have hl2:=Nat.lt_of_lt_of_le hlb hb2.size;have HB2:=hid hb2;clear hb2 n0 n1 n2 hlb) | (go_at_call 60;(with_reducible refine (HN2.out _ HB2.out).mono ?_);rintro e W3 ⟨rfl,hb3⟩;have HB3:=hid (HB2.out.trans (hb3.mono HB2.out.size));clear hb3))
   go_ret
   exact ⟨qau HR.out.symm,HB3.out⟩
  have HR:=hid (words_yes HKD.out HQ1.out q2)
  rw [q2] at HN2
  clear q2
  go_enter Tryz.func70,Tryz.ntmps70
  go_wp2_with (first | (go_at_call 60;(with_reducible refine HN1.out.mono ?_);rintro e W2 ⟨rfl,hb2⟩;have m1:=(hb2.cell (p:=⟨b,o+i * 8+1,none⟩) hlb).trans n1;have hl2:=Nat.lt_of_lt_of_le hlb hb2.size;have HB2:=hid hb2;clear hb2 n0 n1 n2 hlb) | (go_at_call 60;(with_reducible refine (HN2.out _ HB2.out).mono ?_);rintro e W3 ⟨rfl,hb3⟩;have HB3:=hid (HB2.out.trans (hb3.mono HB2.out.size));clear hb3))
  go_ret
  exact ⟨qau HR.out.symm,HB3.out⟩
 have d2:=qjf k2
 have HR:=hid (words_kind k1 k2)
 clear k1 k2
 go_enter Tryz.func70,Tryz.ntmps70
 go_wp2_with fail
 go_ret
 exact ⟨qau HR.out.symm,Below.refl _ _⟩
theorem twice_any {E:Dom} (rs:List Rq) (i sb pb fb mb:Nat) (AS:Option Addr) (n cS:Nat) (AR:Option Addr) (m cR:Nat) (w:World) (hi:i < rs.length) (hp:w.heap[pb]? = some (.cells #[.pointer (some ⟨sb,0,none⟩)] 68 (0,0))) (hfb:w.heap[fb]? = some (.cells #[.map (some mb)] 99 (0,0))) (hmp:qdv w mb (qbe rs) (qbe rs).length) (hs:qdb w sb AS n cS AR m cR) (hm:m=rs.length) (hr:RdR w E AR cR rs) :
  Calls Tryz.prog 71 #[.int .i64 (i:Int),.pointer (some ⟨fb,0,none⟩),.pointer (some ⟨pb,0,none⟩)] w fun e w'=>e = .returned (.int .i64 (if qa7 (rs.getD i default).name (qbe rs) < i then 4 else 0))∧Below w.heap.size w w':=by
 subst hm
 obtain ⟨b,o,A1,c1,r,rfl,HX,hr1⟩:=hr.get hi
 have hlen:=hr.len.1
 obtain ⟨_,hlb,_,n1,_,_,_,_,_,_,_⟩:=hr1
 rw [HX.out]
 have hfl:qa7 r.name (qbe rs) < (qbe rs).length:=by
  rw [firstN_lt,←HX.out]
  exact List.mem_map_of_mem (getD_mem hi)
 clear HX hr
 obtain ⟨s0,s1,s2⟩:=hs.cells
 have p0:=qaa hp (i:=0) rfl
 have p1:=lt_of_block hp
 have f0:=qaa hfb (i:=0) rfl
 have f1:=lt_of_block hfb
 have hii:(i:Int) < rs.length:=by omega
 obtain ⟨q,hq⟩ : ∃ q,qa7 r.name (qbe rs)=q:=⟨_,rfl⟩
 have hlk : ∀ n,(Instr.lookup 99 (.map (some mb)) (.string r.name) false).run Tryz.prog (w.drewN n) = .ok (.int .i64 (q:Int)) (w.drewN n):=fun n=>by
  have:=(hmp.of_block (w':=w.drewN n) rfl).look r.name
  rw [if_pos hfl,hq] at this
  exact this
 rw [hq]
 clear hq hfl hmp hs hp hfb
 by_cases hqi:q < i
 ·have hqq:(q:Int) < (i:Int):=by omega
  rw [if_pos hqi]
  clear hqi
  go_enter Tryz.func71,Tryz.ntmps71
  go_upto_region 1 with (fail)
  go_quiet (fail)
  go_wp2_with fail
  go_ret
  exact ⟨rfl,(qao.n _ _).below _⟩
 ·have hqq : ¬ (q:Int) < (i:Int):=by omega
  rw [if_neg hqi]
  clear hqi
  go_enter Tryz.func71,Tryz.ntmps71
  go_upto_region 1 with (fail)
  go_quiet (fail)
  go_wp2_with fail
  go_ret
  exact ⟨rfl,(qao.n _ _).below _⟩
theorem content_any {D E:Dom} (l:List Sg) (rs:List Rq) (i sb pb:Nat) (AS:Option Addr) (n cS:Nat) (AR:Option Addr) (m cR:Nat) (w:World) (hi:i < rs.length) (hp:w.heap[pb]? = some (.cells #[.pointer (some ⟨sb,0,none⟩)] 68 (0,0))) (hs:qdb w sb AS n cS AR m cR) (hn:n=l.length) (hl:RdG w D AS cS l) (hm:m=rs.length) (hr:RdR w E AR cR rs) (hg:GF w) (hk:GK w) :
  Calls Tryz.prog 72 #[.int .i64 (i:Int),.pointer (some ⟨pb,0,none⟩)] w fun e w'=>e = .returned (.int .i64 (qax l (rs.getD i default).f))∧Below w.heap.size w w':=by
 subst hm hn
 obtain ⟨b,o,A1,c1,r,rfl,HX,hr1⟩:=hr.get hi
 have hlen:=hr.len.1
 have HF:=hid hr1.form
 have HL:=hid hl.old
 have HG:=hid hg
 have HK:=hid hk
 obtain ⟨_,hlb,_,_,_,n3,n4,n5,n6,n7,_⟩:=hr1
 rw [HX.out]
 clear HX hr hl hg hk
 have HC:=hid (fun (W:World) (hb:Below w.heap.size w W)=>qia l AS cS l.length r.f _ W rfl (HL.out.any hb) ⟨A1,c1,rfl,HF.out.args.any hb⟩ (HG.out.below hb HG.out.pos) (HK.out.below hb HK.out.pos))
 obtain ⟨s0,s1,s2⟩:=hs.cells
 have p0:=qaa hp (i:=0) rfl
 have p1:=lt_of_block hp
 have hii:(i:Int) < rs.length:=by omega
 have HCELL:Hid (∀ W':World,Below w.heap.size w W'→W'.cell? ⟨pb,0,none⟩=some (.pointer (some ⟨sb,0,none⟩))∧W'.cell? ⟨sb,0,none⟩=some (.slice AS l.length cS)∧W'.cell? ⟨sb,1,none⟩=some (.slice (some ⟨b,o,none⟩) rs.length cR)∧W'.cell? ⟨b,o+i * 8+3,none⟩=some (.int .i64 r.f.op)∧W'.cell? ⟨b,o+i * 8+4,none⟩=some (.string r.f.name)∧W'.cell? ⟨b,o+i * 8+5,none⟩=some (.int .i64 r.f.val)∧W'.cell? ⟨b,o+i * 8+6,none⟩=some (.int .i64 r.f.bound)∧W'.cell? ⟨b,o+i * 8+7,none⟩=some (.slice A1 r.f.args.length c1)):=hid fun W' hb=>⟨(hb.cell (p:=⟨pb,0,none⟩) p1).trans p0,(hb.cell (p:=⟨sb,0,none⟩) s2).trans s0,(hb.cell (p:=⟨sb,1,none⟩) s2).trans s1,(hb.cell (p:=⟨b,o+i * 8+3,none⟩) hlb).trans n3,(hb.cell (p:=⟨b,o+i * 8+4,none⟩) hlb).trans n4,(hb.cell (p:=⟨b,o+i * 8+5,none⟩) hlb).trans n5,(hb.cell (p:=⟨b,o+i * 8+6,none⟩) hlb).trans n6,(hb.cell (p:=⟨b,o+i * 8+7,none⟩) hlb).trans n7⟩
 clear hs hp
 go_enter Tryz.func72,Tryz.ntmps72
 go_upto_region 1 with (fail)
 go_region_held3 (fun W':World=>W'.cell? ⟨pb,0,none⟩=some (.pointer (some ⟨sb,0,none⟩))∧W'.cell? ⟨sb,0,none⟩=some (.slice AS l.length cS)∧W'.cell? ⟨sb,1,none⟩=some (.slice (some ⟨b,o,none⟩) rs.length cR)∧W'.cell? ⟨b,o+i * 8+3,none⟩=some (.int .i64 r.f.op)∧W'.cell? ⟨b,o+i * 8+4,none⟩=some (.string r.f.name)∧W'.cell? ⟨b,o+i * 8+5,none⟩=some (.int .i64 r.f.val)∧W'.cell? ⟨b,o+i * 8+6,none⟩=some (.int .i64 r.f.bound)∧W'.cell? ⟨b,o+i * 8+7,none⟩=some (.slice A1 r.f.args.length c1))
  (first | (with_reducible exact HCELL.out _ HB2.out) | (go_keep;done))
  ((go_at_call 10;(with_reducible refine (HC.out _ ?_).mono ?_);(first | exact Below.refl _ _ | go_grown | exact (qao.n _ _).below _);rintro e W2 ⟨rfl,hb2⟩;have HB2:=hid ((show Below w.heap.size w _ by first | exact Below.refl _ _ | go_grown | exact (qao.n _ _).below _).trans (hb2.mono (by first | exact Nat.le_refl _ | simp)));clear hb2))
 all_goals
  go_wp2_with fail
  go_ret
  exact ⟨rfl,HB2.out⟩
end Go.Proofs.YtdakdpfofgkjoaaGreatDoor
