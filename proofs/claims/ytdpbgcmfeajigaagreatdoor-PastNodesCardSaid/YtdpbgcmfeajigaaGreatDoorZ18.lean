/-
  Parts of a proof: HU HV HW LA LB HX.
-/
import Derived.Test.YtdpbgcmfeajigaaGreatDoorZ17
set_option linter.unusedSimpArgs false
set_option linter.unusedVariables false
set_option maxHeartbeats 8000000
set_option maxRecDepth 100000
namespace Go.Proofs.YtdpbgcmfeajigaaGreatDoor
def unitZ (op:Int):Int:=if op=6 then 2 else 1
def zeroZ (op:Int):Int:=if op=6 then 1 else 2
def qh1 (op:Int) (x:Fm):List Fm:=if x.op=op then x.args else if x.op=unitZ op then [] else [x]
def qcd (op:Int) (l:List Fm):List Fm:=l.flatMap (qh1 op)
def setZ (op:Int) (s:List Fm):Fm:=if oppB s then opF (zeroZ op) [] else match s with
 | []=>opF (unitZ op) []
 | [x]=>x
 | s=>opF op s
def qhr (op:Int) (l:List Fm):Fm:=if l.any (fun x=>decide (x.op=zeroZ op)) then opF (zeroZ op) [] else setZ op (setF (qcd op l))
theorem flatZ_snoc (op:Int) (l:List Fm) {i:Nat} (hi:i < l.length):qcd op (l.take (i+1))=qcd op (l.take i) ++ qh1 op (l.getD i default):=by
 unfold qcd
 rw [qam l default hi,List.flatMap_append]
 simp
theorem partZ_size (op:Int) (x:Fm) : ∀ f,f∈qh1 op x→f.size≤x.size:=by
 intro f hf
 unfold qh1 at hf
 split at hf
 ·have:=qbt hf
  have:=Fm.size_eq x
  omega
 ·split at hf
  ·cases hf
  ·rw [List.mem_singleton] at hf
   rw [hf];exact Nat.le_refl _
theorem partZ_len (op:Int) (x:Fm):(qh1 op x).length≤x.size:=by
 unfold qh1
 have h1:=qdd x.args
 have h2:=Fm.size_eq x
 split
 ·omega
 ·split
  ·simp
  ·simp;omega
theorem qgz (op:Int) : ∀ l:List Fm,(qcd op l).length≤sizes l
 | []=>Nat.le_refl _
 | x :: l=>by
  have:=qgz op l
  have h:=partZ_len op x
  unfold qcd at this ⊢
  rw [List.flatMap_cons,List.length_append]
  simp only [sizes]
  omega
theorem flatZ_size (op:Int) (l:List Fm) : ∀ f,f∈qcd op l→f.size≤sizes l:=by
 intro f hf
 unfold qcd at hf
 rw [List.mem_flatMap] at hf
 obtain ⟨x,hx,hf⟩:=hf
 have:=partZ_size op x f hf
 have:=qbt hx
 omega
end Go.Proofs.YtdpbgcmfeajigaaGreatDoor
namespace Go.Proofs.YtdpbgcmfeajigaaGreatDoor
open Go.RowKit Go.Shelf
attribute [local go_sem] qab qdl
def nzQ (x:Fm × Bool):Bool:=decide (x.1.op≠0)
theorem RdA.avoid {w:World} {D:Dom} {l:List Fm} {A:Option Addr} {c r:Nat} (h:RdA w D l A c) (hr:OB w r 0 ⟨#[]⟩ 0 0 none 0 0) (hn : ∀ f,f∈l → ∃ ins,allI nzQ ins f):RdA w (fun k=>D k∧k≠r) l A c:=by
 induction h with
 | mk l A c sl len cells arg ih =>
  refine .mk l A c sl len ⟨cells.1,fun h0 => ?_⟩ fun i hi=>ih i hi fun g hg => ?_
  ·obtain ⟨b,o,e,hb,hl,hc⟩:=cells.2 h0
   refine ⟨b,o,e,⟨hb,?_⟩,hl,hc⟩
   rintro rfl
   have c0:=hc 0 (.int .i64 (l.getD 0 default).op) (by have:=qdz len (k:=0) (j:=0) h0 (by omega);simpa [qbr] using this)
   have c4:=hc 4 (.slice (sl.getD 0 (none,0)).1 (l.getD 0 default).args.length (sl.getD 0 (none,0)).2) (by have:=qdz len (k:=0) (j:=4) h0 (by omega);simpa [qbr] using this)
   have ho:o=0:=by
    unfold OB at hr
    simp only [World.cell?,hr] at c4
    rcases o with _ | o
    ·rfl
    ·simp at c4
   subst ho
   have e0:=hr.cells.1
   rw [Nat.zero_add,e0] at c0
   injection c0 with c0
   injection c0 with _ c0
   obtain ⟨ins,ha⟩:=hn (l.getD 0 default) (qbw h0)
   have:=(qa9.1 ha).1
   unfold nzQ at this
   rw [←c0] at this
   simp at this
  ·obtain ⟨ins,ha⟩:=hn (l.getD i default) (qbw hi)
   exact ⟨_,(qa9.1 ha).2 g hg⟩
theorem RdA.over {w w':World} {base b c:Nat} {l:List Fm} {A:Option Addr} (h:RdA w (fun k=>Nw base w k∧k≠b) l A c) (hc:Chg (fun x=>x=b) w w'):RdA w' (Nw base w') l A c:=by
 have hk:Keeps (fun k=>Nw base w k∧k≠b) w w':=hc.keeps fun k _ hk hv=>hk.2 hv
 exact (h.keep hk).mono fun k hk' _=>⟨hk'.1.1,hk'.1.2.of_eq (hk.block k hk' hk'.1.2.lt)⟩
theorem RdA.clip {w:World} {D:Dom} {c:Nat} {l:List Fm} {A:Option Addr} (h:RdA w D l A c):RdA w D l A l.length:=by
 obtain ⟨sl,h1,h2,h3⟩:=h.out
 have:=h2.1
 exact .mk l A _ sl h1 ⟨⟨this.1,this.2.1,Nat.le_refl _,by omega⟩,h2.2⟩ h3
theorem qbm.first {w:World} {base g c:Nat} {x:Fm} {gs:List Fm} {sl:List (Option Addr × Nat)} (h:qbm w base (some ⟨g,0,none⟩) c (x :: gs) sl) : ∃ A' c',g < w.heap.size ∧
  w.cell? ⟨g,0,none⟩=some (.int .i64 x.op)∧w.cell? ⟨g,1,none⟩=some (.string x.name)∧w.cell? ⟨g,2,none⟩=some (.int .i64 x.val)∧w.cell? ⟨g,3,none⟩=some (.int .i64 x.bound)∧w.cell? ⟨g,4,none⟩=some (.slice A' x.args.length c') ∧
  RdA w (Nw base w) x.args A' c':=by
 obtain ⟨A',c',f,hf,hs,q0,q1,q2,q3,q4,_,_,_,_,_,hl,ha⟩:=h.get (i:=0) (by simp)
 have hf:=hf.out
 have:x=f:=by simpa using hf
 subst this
 refine ⟨A',c',hl,?_,?_,?_,?_,?_,ha.mono fun k hk _=>hk.1⟩
 ·simpa using q0
 ·simpa using q1
 ·simpa using q2
 ·simpa using q3
 ·simpa using q4
theorem join_any {w:World} {base c n:Nat} {A:Option Addr} {l:List Fm} {op:Int} (h:RdA w (Nw base w) l A c) (hn:n=l.length) (hop:op=5∨op=6) (hb:base≤w.heap.size) (hsz:sizes l≤1000000) (h4 : ∀ f,f∈qcd op l→f.op=4→0 < f.args.length) (hnz : ∀ f,f∈qcd op l → ∃ ins,allI nzQ ins f) :
  Calls Tryz.prog 153 #[.int .i64 op,.slice A n c] w fun e w' => ∃ v,e = .returned v∧qbj w' (Nw base w') v (qhr op l)∧Below w.heap.size w w':=by
 subst hn
 obtain ⟨i0,hti,hz0,hz1,hz2⟩:=info_parts qb8
 have HL:=hid h
 have H4:=hid h4
 have HNZ:=hid hnz
 have hal:=h.len.1
 clear h h4 hnz
 go_enter Tryz.func153,Tryz.ntmps153
 go_upto_region 1 with (fail)
 refine qai fun W hW => ?_
 have HB:=hid (show Below w.heap.size w W by rw [hW];go_grown)
 have HR:=hid (show OB W w.heap.size 0 ⟨#[]⟩ 0 0 none 0 0 by rw [hW];exact at_new _ _ _ rfl)
 clear hW
 go_upto_region 2 with (fail)
 rename_i K4 hK4 K3 hK3
 refine qdr K4 [5,6,10,11,12,13] (fun us W'=>us 5 = .int .i64 (unitZ op)∧us 6 = .int .i64 (zeroZ op)∧W'=W) ?_ ?_
 rotate_left
 ·intro HTAIL
  have HTL:=hid HTAIL
  clear HTAIL hK4
  rcases hop with rfl | rfl
  ·go_wp2_with fail
   refine qak HTL.out ⟨rfl,rfl,rfl⟩ ?_
   kernel_rfl
  ·go_wp2_with fail
   refine qak HTL.out ⟨rfl,rfl,rfl⟩ ?_
   kernel_rfl
 ·rintro us W1 ⟨hu5,hu6,rfl⟩
  apply hK4
  simp only [qdu,Act.put,List.setIfInBounds_toArray,List.set_cons_zero,List.set_cons_succ]
  rw [hu5,hu6]
  clear hK4 hK3 K4 K3
  obtain ⟨uz,huz⟩ : ∃ uz,uz=unitZ op:=⟨_,rfl⟩
  obtain ⟨zz,hzz⟩ : ∃ zz,zz=zeroZ op:=⟨_,rfl⟩
  have hd:op≠zz∧op≠uz∧uz≠zz:=by rcases hop with rfl | rfl <;> rw [huz,hzz] <;> decide
  rw [←huz,←hzz]
  have HU:=hid huz
  have HZ:=hid hzz
  clear huz hzz
  have HLO:=hid (HL.out.mono (E:=fun k=>Nw base w k∧k < w.heap.size) fun k hk hl=>⟨hk,hl⟩)
  go_wp2_with fail
  go_loopw [7,16] (fun q r wr => ∃ (i:Nat) (A2:Option Addr) (c2:Nat) (sl:List (Option Addr × Nat)),i≤l.length∧r = .int .i64 (i:Int)∧q = .slice A2 (qcd op (l.take i)).length c2∧qbm wr base A2 c2 (qcd op (l.take i)) sl∧Below W1.heap.size W1 wr ∧
   (∀ k,(Value.slice A2 (qcd op (l.take i)).length c2).ownBlock=some k→W1.heap.size≤k)∧(∀ k,k < i→(l.getD k default).op≠zz)) (fun _ r _=>l.length - (intOf r).toNat)
  case atStart=>exact ⟨0,none,0,[],Nat.zero_le _,rfl,rfl,qbm.nil _ _,Below.refl _ _,fun k h=>(by change (none:Option Nat)=some k at h;cases h),fun k h=>absurd h (Nat.not_lt_zero _)⟩
  case round =>
   obtain ⟨i,A2,c2,sl,hi,rfl,rfl,hr,hbl,hown,hall⟩:=hrel
   have HRO:=hid hr
   have HBL:=hid hbl
   have HOWN:=hid hown
   have HALL:=hid hall
   have HBB:=hid (HB.out.trans (hbl.mono HB.out.size))
   have HLr:=hid (HLO.out.keep (Keeps.of_below HBB.out fun _ h=>h.2))
   clear hr hbl hown hall
   by_cases hlt:i < l.length
   ·have hii:(i:Int) < l.length:=by omega
    obtain ⟨b1,o1,A',c',f,rfl,HX,hf⟩:=HLr.out.get hlt
    have HF:=hid hf
    have HXX:=hid HX.out
    obtain ⟨q1,q2,p0,p1,p2,p3,p4,q3⟩:=hf
    clear q1 q3 HX
    go_upto_region 8 with (fail)
    refine qai fun W8 hW8 => ?_
    have HB8:=hid (show Below wr.heap.size wr W8 by rw [hW8];exact (Below.refl _ _).alloc (Nat.le_refl _) _)
    have HE:=hid (show OB W8 wr.heap.size f.op f.name f.val f.bound A' f.args.length c' by rw [hW8];exact at_new _ _ _ rfl)
    have HRO8:=hid (show qbm W8 base A2 c2 (qcd op (l.take i)) sl by rw [hW8];exact HRO.out.alloc _)
    obtain ⟨x0,x1,x2,x3,x4,xl⟩:=HE.out.cells
    clear hW8 p0 p1 p2 p3 p4 q2
    rename_i K15 hK15 K9 hK9
    trace "NAMES"
    have HSN:=hid (flatZ_snoc op l hlt)
    have HFL:=hid (show (qcd op (l.take (i+1))).length≤1000000 from Nat.le_trans (qgz op _) (Nat.le_trans (qg7 l (i+1)) hsz))
    refine qdr K15 (7 :: List.range' 20 21) (fun us W' => ∃ A3 c3 sl3,us 7 = .slice A3 (qcd op (l.take (i+1))).length c3∧qbm W' base A3 c3 (qcd op (l.take (i+1))) sl3∧Below W1.heap.size W1 W'∧(∀ k,(Value.slice A3 (qcd op (l.take (i+1))).length c3).ownBlock=some k→W1.heap.size≤k)∧f.op≠zz) ?_ ?_
    ·rintro us2 W15 ⟨A3,c3,sl3,hu7,hr3,hb3,ho3,hz3⟩
     apply hK15
     simp only [qdu,List.range',List.range'_succ,Act.put,List.setIfInBounds_toArray,List.set_cons_zero,List.set_cons_succ]
     rw [hu7]
     clear hK15 hK9 K15 K9 x0 x1 x2 x3 x4 xl
     have HALL2:=hid (show ∀ k,k < i+1→(l.getD k default).op≠zz from fun k hk=>by
      rcases Nat.lt_succ_iff_lt_or_eq.1 hk with h | h
      ·exact HALL.out k h
      ·rw [h,HXX.out];exact hz3)
     go_wp2_with fail
     go_roundw
     case rel=>exact ⟨i+1,A3,c3,sl3,by omega,by go_num,rfl,hr3,hb3,ho3,HALL2.out⟩
     case measure=>simp [intOf];omega
    ·intro HTAIL
     have HTL:=hid HTAIL
     clear HTAIL hK15
     have hnl:(qcd op (l.take i)).length≤1000000:=Nat.le_trans (qgz op _) (Nat.le_trans (qg7 l i) hsz)
     have hba:base≤W8.heap.size:=by have:=HBB.out.size;have:=HB8.out.size;omega
     by_cases e1:f.op=op
     ·have d1:(f.op == op)=true:=by rw [e1];simp
      have HPZ:=hid (show qh1 op f=f.args by unfold qh1;rw [if_pos e1])
      have hne:f.op≠zz:=by rw [e1];exact hd.1
      have HNE:=hid hne
      have HFA:=hid (HF.out.args.keep (Keeps.of_below HB8.out fun k hk=>Nat.lt_of_lt_of_le hk.2 HBB.out.size))
      obtain ⟨slx,hlx,hcx,hax⟩:=HFA.out.out
      have HAX:=hid hax
      have HLX:=hid hlx
      have hfl:f.args.length≤1000000:=by
       have h1:=qdd f.args
       have h2:=Fm.size_eq f
       have h3:=qbt (show f∈l by have:=HXX.out;rw [←this];exact qbw hlt)
       omega
      have hone : ∀ u∈qav f.args slx,u.oneCell'=true:=fun u hu=>by
       unfold qav at hu
       obtain ⟨p,_,hp⟩:=List.mem_flatMap.1 hu
       simp [qbr] at hp
       rcases hp with rfl | rfl | rfl | rfl | rfl <;> rfl
      clear e1 hax hlx hne
      go_wp2_with (at_builtin;go_must (refine qcq _ rfl (.tmp 29) (.tmp 31) 22 rfl base 24 i0 _ 5 64 Tryz.underlying22 hti hz0 hz1 hz2 rfl (by omega) (.slice A2 (qcd op (l.take i)).length c2) (qcd op (l.take i)).length _ rfl HRO8.out.own _ A' f.args.length c' _ rfl hcx hone (by omega) (qa5 (by omega)) hba ?_);intro A5 c5 w5 hown5 hg5 hat5)
      refine qak HTL.out ?_ ?_
      ·rw [HSN.out,HXX.out,HPZ.out]
       have hms : ∀ k,k < f.args.length→RdA W8 (fun x=>Nw base W8 x∧(Value.slice A2 (qcd op (l.take i)).length c2).ownBlock≠some x) (f.args.getD k default).args (slx.getD k (none,0)).1 (slx.getD k (none,0)).2:=fun k hk=>(HAX.out k hk).mono fun x hx _=>⟨⟨hx.1.1,hx.1.2.of_eq ((HBB.out.trans (HB8.out.mono HBB.out.size)).block x hx.2)⟩,fun e=>by have:=HOWN.out x e;have:=HB.out.size;omega⟩
       refine ⟨A5,c5,sl ++ slx,by rw [List.length_append];rfl,HRO8.out.app hg5 (by rw [List.length_append]) hown5 hat5 HLX.out hms,Below.grown (HBL.out.trans (HB8.out.mono HBL.out.size)) hg5 (Nat.le_trans HBL.out.size HB8.out.size) (fun k hk=>HOWN.out k hk),fun k hk => ?_,HNE.out⟩
       rw [List.length_append] at hk
       rcases hat5 with h | h
       ·exact HOWN.out k (h.symm.trans hk)
       ·have:=h.symm.trans hk
        injection this with this
        rw [←this];exact Nat.le_trans HBL.out.size HB8.out.size
      ·kernel_rfl
     ·have d1:(f.op == op)=false:=qac e1
      by_cases e2:f.op=zz
      ·have d2:(f.op == zz)=true:=by rw [e2];simp
       have HJ:=hid (show qhr op l=opF zz [] by
        unfold qhr
        rw [HZ.out,if_pos]
        rw [List.any_eq_true]
        refine ⟨f,by have:=HXX.out;rw [←this];exact qbw hlt,?_⟩
        rw [←HZ.out];exact decide_eq_true e2)
       have hr:=(HR.out.below (HBL.out.mono (Nat.le_refl _))).below HB8.out
       obtain ⟨r0,r1,r2,r3,r4,rl⟩:=hr.cells
       have p0:=hr.free 0
       have p1:=hr.free 1
       have p2:=hr.free 2
       have p3:=hr.free 3
       have p4:=hr.free 4
       clear e1 e2
       go_wp2_with fail
       refine qag fun WE hWE => ?_
       have hoE:OB WE w.heap.size zz ⟨#[]⟩ 0 0 none 0 0:=by rw [hWE];exact qaq hr
       have hbE:Below w.heap.size w WE:=by rw [hWE];exact ((((((HBB.out.trans (HB8.out.mono HBB.out.size))).setCell (Nat.le_refl _) _).setCell (Nat.le_refl _) _).setCell (Nat.le_refl _) _).setCell (Nat.le_refl _) _).setCell (Nat.le_refl _) _
       obtain ⟨y0,y1,y2,y3,y4,yl⟩:=hoE.cells
       clear hWE r0 r1 r2 r3 r4 p0 p1 p2 p3 p4
       rw [HJ.out]
       exact bodyPost_ret (v := .agg #[.int .i64 zz,.string ⟨#[]⟩,.int .i64 0,.int .i64 0,.slice none 0 0]) (by simp [results,Tryz.results153,go_sem,y0,y1,y2,y3,y4]) rfl ⟨_,rfl,⟨none,0,rfl,RdA.nil _ _ _ (by omega)⟩,hbE⟩
      ·have d2:(f.op == zz)=false:=qac e2
       have HNE:=hid e2
       by_cases e3:f.op=uz
       ·have d3:(f.op == uz)=true:=by rw [e3];simp
        have HPZ:=hid (show qh1 op f = [] by unfold qh1;rw [if_neg e1,if_pos (by rw [e3];exact HU.out)])
        clear e1 e2 e3
        go_wp2_with fail
        refine qak HTL.out ?_ ?_
        ·rw [HSN.out,HXX.out,HPZ.out,List.append_nil]
         exact ⟨A2,c2,sl,rfl,HRO8.out,HBL.out.trans (HB8.out.mono HBL.out.size),HOWN.out,HNE.out⟩
        ·kernel_rfl
       ·have d3:(f.op == uz)=false:=qac e3
        have HPZ:=hid (show qh1 op f = [f] by unfold qh1;rw [if_neg e1,if_neg (by rw [←HU.out];exact e3)])
        have hone : ∀ u∈qbr f (A',c'),u.oneCell'=true:=fun u hu=>by
         simp [qbr] at hu
         rcases hu with rfl | rfl | rfl | rfl | rfl <;> rfl
        have hba2:base≤W8.heap.size+1:=by omega
        clear e1 e2 e3
        go_wp2_with (at_builtin;go_must (refine qcq _ rfl (.tmp 22) (.tmp 24) 22 rfl base 24 i0 _ 5 64 Tryz.underlying22 hti hz0 hz1 hz2 rfl (by omega) (.slice A2 (qcd op (l.take i)).length c2) (qcd op (l.take i)).length _ rfl (HRO8.out.alloc _).own _ (some ⟨W8.heap.size,0,none⟩) 1 1 _ rfl (Rd.fresh (D:=qbi) rfl trivial rfl (by omega)) hone (by omega) (qa5 (by omega)) (by simp;omega) ?_);intro A5 c5 w5 hown5 hg5 hat5)
        refine qak HTL.out ?_ ?_
        ·rw [HSN.out,HXX.out,HPZ.out]
         have hms : ∀ (ob:Obj) k,k < [f].length→RdA (W8.alloc ob) (fun x=>Nw base (W8.alloc ob) x∧(Value.slice A2 (qcd op (l.take i)).length c2).ownBlock≠some x) ([f].getD k default).args ([(A',c')].getD k (none,0)).1 ([(A',c')].getD k (none,0)).2:=fun ob k hk=>by
          cases Nat.lt_one_iff.1 hk
          have hka:Keeps (fun k=>Nw base w k∧k < w.heap.size) wr (W8.alloc ob):=Keeps.of_below ((HB8.out.mono (Nat.le_refl _)).alloc HB8.out.size ob) fun k hk=>Nat.lt_of_lt_of_le hk.2 HBB.out.size
          exact (HF.out.args.keep hka).mono fun x hx _=>⟨⟨hx.1.1,hx.1.2.of_eq (((HBB.out.trans (HB8.out.mono HBB.out.size)).alloc (Nat.le_trans HBB.out.size HB8.out.size) ob).block x hx.2)⟩,fun e=>by have:=HOWN.out x e;have:=HB.out.size;omega⟩
         refine ⟨A5,c5,sl ++ [(A',c')],by rw [List.length_append];rfl,(HRO8.out.alloc _).app hg5 (by rw [List.length_append];rfl) hown5 hat5 rfl (hms _),Below.grown ((HBL.out.trans (HB8.out.mono HBL.out.size)).alloc (Nat.le_trans HBL.out.size HB8.out.size) _) hg5 (Nat.le_trans (Nat.le_trans HBL.out.size HB8.out.size) (by simp)) (fun k hk=>HOWN.out k hk),fun k hk => ?_,HNE.out⟩
         rw [List.length_append] at hk
         rcases hat5 with h | h
         ·exact HOWN.out k (h.symm.trans hk)
         ·have:=h.symm.trans hk
          injection this with this
          have:=HBL.out.size
          have:=HB8.out.size
          simp at *
          omega
        ·kernel_rfl
   ·have hii : ¬ (i:Int) < l.length:=by omega
    have hil:i=l.length:=by omega
    have htk:l.take i=l:=by rw [hil];exact List.take_length
    rw [htk] at HRO HOWN ⊢
    have hfl:(qcd op l).length≤1000000:=Nat.le_trans (qgz op l) hsz
    have hfs:=hid (fun f hf=>Nat.le_trans (flatZ_size op l f hf) hsz : ∀ f,f∈qcd op l→f.size≤1000000)
    have hbr:base≤wr.heap.size:=Nat.le_trans hb HBB.out.size
    have HD:=hid (distinct_any HRO.out rfl hfs.out hfl hbr)
    have hs9:=hid (fun f hf=>hfs.out f ((qha _ f).1 hf) : ∀ f,f∈setF (qcd op l)→f.size≤1000000)
    have h49:=hid (fun f hf=>H4.out f ((qha _ f).1 hf) : ∀ f,f∈setF (qcd op l)→f.op=4→0 < f.args.length)
    have hl9:(setF (qcd op l)).length≤1000000:=Nat.le_trans (setF_len _) hfl
    have hso:=hid (setF_asc (qcd op l)).sort
    have hwW:w.heap.size≤W1.heap.size:=HB.out.size
    obtain ⟨S,hS⟩ : ∃ S,S=setF (qcd op l):=⟨_,rfl⟩
    have HSS:=hid hS
    rw [←hS] at hs9 h49 hl9 hso
    have HJ:=hid (show qhr op l=setZ op S by
     unfold qhr
     rw [if_neg,hS]
     rw [List.any_eq_true]
     rintro ⟨f,hf,hz⟩
     obtain ⟨k,hk,e⟩:=List.getElem_of_mem hf
     refine HALL.out k (by omega) ?_
     have e2:l.getD k default=f:=by rw [←e];simp [List.getD_eq_getElem?_getD,List.getElem?_eq_getElem hk]
     rw [e2,HZ.out]
     exact of_decide_eq_true hz)
    clear hS
    by_cases ho:oppB S=true
    ·have HJ2:=hid (show setZ op S=opF zz [] by unfold setZ;rw [if_pos ho,HZ.out])
     go_wp2_with (first | (go_at_call 205;refine HD.out.mono ?_;rintro e w9 ⟨sl9,rfl,hrow9,hchg9⟩;have HB9:=hid (HBL.out.trans (hchg9.below (fun b hb h=>by have:=HOWN.out b h;omega) HBL.out.size));rw [←HSS.out] at hrow9 ⊢;have HROW9:=hid hrow9;have HOP:=hid (qf2 (D:=Nw base w9) _ A2 c2 w9 (hrow9.rd (by omega)) hs9.out hl9 (fun b hb=>hb.2) hso.out h49.out)) | (go_at_call 206;refine HOP.out.mono ?_;rintro e w10 ⟨rfl,hbel10⟩;have HR10:=hid ((HR.out.below HB9.out).below hbel10.below);have HB10:=hid ((HB.out.trans (HB9.out.mono hwW)).trans (hbel10.below.mono (Nat.le_trans hwW HB9.out.size)));obtain ⟨r0,r1,r2,r3,r4,rl⟩:=HR10.out.cells;have p0:=HR10.out.free 0;have p1:=HR10.out.free 1;have p2:=HR10.out.free 2;have p3:=HR10.out.free 3;have p4:=HR10.out.free 4))
     refine qag fun WE hWE => ?_
     have hoE:OB WE w.heap.size zz ⟨#[]⟩ 0 0 none 0 0:=by rw [hWE];exact qaq HR10.out
     have hbE:Below w.heap.size w WE:=by rw [hWE];exact (((((HB10.out).setCell (Nat.le_refl _) _).setCell (Nat.le_refl _) _).setCell (Nat.le_refl _) _).setCell (Nat.le_refl _) _).setCell (Nat.le_refl _) _
     obtain ⟨y0,y1,y2,y3,y4,yl⟩:=hoE.cells
     clear hWE r0 r1 r2 r3 r4 p0 p1 p2 p3 p4
     rw [HJ.out,HJ2.out]
     exact bodyPost_ret (v := .agg #[.int .i64 zz,.string ⟨#[]⟩,.int .i64 0,.int .i64 0,.slice none 0 0]) (by simp [results,Tryz.results153,go_sem,y0,y1,y2,y3,y4]) rfl ⟨_,rfl,⟨none,0,rfl,RdA.nil _ _ _ (by omega)⟩,hbE⟩
    ·have hof:oppB S=false:=by simpa using ho
     obtain ⟨nS,hnS⟩ : ∃ nS,nS=S.length:=⟨_,rfl⟩
     by_cases hs0:S = []
     ·subst hs0
      have HJ2:=hid (show setZ op []=opF uz [] by unfold setZ;rw [if_neg ho,HU.out])
      go_wp2_with (first | (go_at_call 205;refine HD.out.mono ?_;rintro e w9 ⟨sl9,rfl,hrow9,hchg9⟩;have HB9:=hid (HBL.out.trans (hchg9.below (fun b hb h=>by have:=HOWN.out b h;omega) HBL.out.size));rw [←HSS.out] at hrow9 ⊢;have HROW9:=hid hrow9;have HOP:=hid (qf2 (D:=Nw base w9) _ A2 c2 w9 (hrow9.rd (by omega)) hs9.out hl9 (fun b hb=>hb.2) hso.out h49.out)) | (go_at_call 206;refine HOP.out.mono ?_;rintro e w10 ⟨rfl,hbel10⟩;have HR10:=hid ((HR.out.below HB9.out).below hbel10.below);have HB10:=hid ((HB.out.trans (HB9.out.mono hwW)).trans (hbel10.below.mono (Nat.le_trans hwW HB9.out.size)));obtain ⟨r0,r1,r2,r3,r4,rl⟩:=HR10.out.cells;have p0:=HR10.out.free 0;have p1:=HR10.out.free 1;have p2:=HR10.out.free 2;have p3:=HR10.out.free 3;have p4:=HR10.out.free 4))
      refine qag fun WE hWE => ?_
      have hoE:OB WE w.heap.size uz ⟨#[]⟩ 0 0 none 0 0:=by rw [hWE];exact qaq HR10.out
      have hbE:Below w.heap.size w WE:=by rw [hWE];exact (((((HB10.out).setCell (Nat.le_refl _) _).setCell (Nat.le_refl _) _).setCell (Nat.le_refl _) _).setCell (Nat.le_refl _) _).setCell (Nat.le_refl _) _
      obtain ⟨y0,y1,y2,y3,y4,yl⟩:=hoE.cells
      clear hWE r0 r1 r2 r3 r4 p0 p1 p2 p3 p4
      rw [HJ.out,HJ2.out]
      exact bodyPost_ret (v := .agg #[.int .i64 uz,.string ⟨#[]⟩,.int .i64 0,.int .i64 0,.slice none 0 0]) (by simp [results,Tryz.results153,go_sem,y0,y1,y2,y3,y4]) rfl ⟨_,rfl,⟨none,0,rfl,RdA.nil _ _ _ (by omega)⟩,hbE⟩
     ·have hpos:0 < (qcd op l).length:=by
       rcases hfz:qcd op l with _ | ⟨z,zs⟩
       ·exact absurd (by rw [HSS.out,hfz];rfl) hs0
       ·simp
      obtain ⟨g,rfl,hge⟩:=qdv HRO.out.own hpos
      have HNS:=hid (fun f hf=>HNZ.out f ((qha _ f).1 (by rw [←HSS.out];exact hf)) : ∀ f,f∈S → ∃ ins,allI nzQ ins f)
      by_cases hs1 : ∃ x,S = [x]
      ·obtain ⟨x,rfl⟩:=hs1
       have HJ2:=hid (show setZ op [x]=x by unfold setZ;rw [if_neg ho])
       have HX0:=hid (fun g hg=>by obtain ⟨ins,ha⟩:=HNS.out x (List.mem_singleton.2 rfl);exact ⟨_,(qa9.1 ha).2 g hg⟩ : ∀ g,g∈x.args → ∃ ins,allI nzQ ins g)
       clear hs0
       go_wp2_with (first | (go_at_call 205;refine HD.out.mono ?_;rintro e w9 ⟨sl9,rfl,hrow9,hchg9⟩;have HB9:=hid (HBL.out.trans (hchg9.below (fun b hb h=>by have:=HOWN.out b h;omega) HBL.out.size));rw [←HSS.out] at hrow9 ⊢;have HROW9:=hid hrow9;have HOP:=hid (qf2 (D:=Nw base w9) _ (some ⟨g,0,none⟩) c2 w9 (hrow9.rd (by omega)) hs9.out hl9 (fun b hb=>hb.2) hso.out h49.out)) | (go_at_call 206;refine HOP.out.mono ?_;rintro e w10 ⟨rfl,hbel10⟩;have HR10:=hid ((HR.out.below HB9.out).below hbel10.below);have HB10:=hid ((HB.out.trans (HB9.out.mono hwW)).trans (hbel10.below.mono (Nat.le_trans hwW HB9.out.size)));obtain ⟨r0,r1,r2,r3,r4,rl⟩:=HR10.out.cells;have p0:=HR10.out.free 0;have p1:=HR10.out.free 1;have p2:=HR10.out.free 2;have p3:=HR10.out.free 3;have p4:=HR10.out.free 4;have HROW10:=hid (HROW9.out.chg (Chg.of_new (V:=fun _=>False) hbel10.below) fun _ h=>h.elim);obtain ⟨A',c',hgl,u0,u1,u2,u3,u4,hxa⟩:=HROW10.out.first;have HXA:=hid hxa;clear hxa))
       refine qag fun WE hWE => ?_
       have hoE:OB WE w.heap.size x.op x.name x.val x.bound A' x.args.length c':=by rw [hWE];exact qaq HR10.out
       have hbE:Below w.heap.size w WE:=by rw [hWE];exact (((((HB10.out).setCell (Nat.le_refl _) _).setCell (Nat.le_refl _) _).setCell (Nat.le_refl _) _).setCell (Nat.le_refl _) _).setCell (Nat.le_refl _) _
       have haE:RdA WE (Nw base WE) x.args A' c':=(HXA.out.avoid HR10.out HX0.out).over (by rw [hWE];exact qaj _ _ _ _ _ _ _)
       obtain ⟨y0,y1,y2,y3,y4,yl⟩:=hoE.cells
       clear hWE r0 r1 r2 r3 r4 p0 p1 p2 p3 p4
       rw [HJ.out,HJ2.out]
       exact bodyPost_ret (v := .agg #[.int .i64 x.op,.string x.name,.int .i64 x.val,.int .i64 x.bound,.slice A' x.args.length c']) (by simp [results,Tryz.results153,go_sem,y0,y1,y2,y3,y4]) rfl ⟨_,rfl,⟨A',c',rfl,haE⟩,hbE⟩
      ·have HJ2:=hid (show setZ op S=opF op S by
        unfold setZ
        rw [if_neg ho]
        rcases S with _ | ⟨x,_ | ⟨y,S⟩⟩
        ·exact absurd rfl hs0
        ·exact absurd ⟨x,rfl⟩ hs1
        ·rfl)
       have hl2:2≤S.length:=by
        rcases S with _ | ⟨x,_ | ⟨y,S⟩⟩
        ·exact absurd rfl hs0
        ·exact absurd ⟨x,rfl⟩ hs1
        ·simp
       have d0:((S.length:Int) == 0)=false:=qac (by omega)
       have d1:((S.length:Int) == 1)=false:=qac (by omega)
       clear hs0 hs1 hnS
       go_wp2_with (first | (go_at_call 205;refine HD.out.mono ?_;rintro e w9 ⟨sl9,rfl,hrow9,hchg9⟩;have HB9:=hid (HBL.out.trans (hchg9.below (fun b hb h=>by have:=HOWN.out b h;omega) HBL.out.size));rw [←HSS.out] at hrow9 ⊢;have HROW9:=hid hrow9;have HOP:=hid (qf2 (D:=Nw base w9) _ (some ⟨g,0,none⟩) c2 w9 (hrow9.rd (by omega)) hs9.out hl9 (fun b hb=>hb.2) hso.out h49.out)) | (go_at_call 206;refine HOP.out.mono ?_;rintro e w10 ⟨rfl,hbel10⟩;have HR10:=hid ((HR.out.below HB9.out).below hbel10.below);have HB10:=hid ((HB.out.trans (HB9.out.mono hwW)).trans (hbel10.below.mono (Nat.le_trans hwW HB9.out.size)));obtain ⟨r0,r1,r2,r3,r4,rl⟩:=HR10.out.cells;have p0:=HR10.out.free 0;have p1:=HR10.out.free 1;have p2:=HR10.out.free 2;have p3:=HR10.out.free 3;have p4:=HR10.out.free 4;have HROW10:=hid (HROW9.out.chg (Chg.of_new (V:=fun _=>False) hbel10.below) fun _ h=>h.elim);have hcap:=HROW10.out.cap) | (go_at_call 208;refine (clip_any (some ⟨g,0,none⟩) S.length c2 _ hcap.1 hcap.2).mono ?_;rintro e w11 ⟨rfl,hw11⟩;rw [hw11];clear hw11))
       refine qag fun WE hWE => ?_
       have hoE:OB WE w.heap.size op ⟨#[]⟩ 0 0 (some ⟨g,0,none⟩) S.length S.length:=by rw [hWE];exact qaq HR10.out
       have hbE:Below w.heap.size w WE:=by rw [hWE];exact (((((HB10.out).setCell (Nat.le_refl _) _).setCell (Nat.le_refl _) _).setCell (Nat.le_refl _) _).setCell (Nat.le_refl _) _).setCell (Nat.le_refl _) _
       have haE:RdA WE (Nw base WE) S (some ⟨g,0,none⟩) S.length:=(((HROW10.out.rd (by omega)).clip).avoid HR10.out HNS.out).over (by rw [hWE];exact qaj _ _ _ _ _ _ _)
       obtain ⟨y0,y1,y2,y3,y4,yl⟩:=hoE.cells
       clear hWE r0 r1 r2 r3 r4 p0 p1 p2 p3 p4
       rw [HJ.out,HJ2.out]
       exact bodyPost_ret (v := .agg #[.int .i64 op,.string ⟨#[]⟩,.int .i64 0,.int .i64 0,.slice (some ⟨g,0,none⟩) S.length S.length]) (by simp [results,Tryz.results153,go_sem,y0,y1,y2,y3,y4]) rfl ⟨_,rfl,⟨_,_,rfl,haE⟩,hbE⟩
end Go.Proofs.YtdpbgcmfeajigaaGreatDoor
namespace Go.Proofs.YtdpbgcmfeajigaaGreatDoor
def isC (f:Fm):Bool:=decide (f.op=1) || decide (f.op=2)
def qkj (o:Int) (n:ByteArray) (v:Int) (xs:List Fm):Fm :=
 if o=5∨o=6 then qhr o xs
 else if o=8∧isC (xs.getD 0 default)=true then xs.getD 0 default
 else if o=9∧(isC (xs.getD 1 default)=true∨(xs.getD 0 default).op=2) then xs.getD 1 default
 else if o=10∧(isC (xs.getD 1 default)=true∨(xs.getD 0 default).op=1) then xs.getD 1 default
 else .mk o n v 0 xs
mutual
def qa1:Fm→Fm
 | .mk o n v _ l=>qkj o n v (canonsZ l)
def canonsZ:List Fm→List Fm
 | [] => []
 | f :: l=>qa1 f :: canonsZ l
end
theorem canonsZ_map : ∀ l:List Fm,canonsZ l=l.map qa1
 | []=>by simp only [canonsZ,List.map_nil]
 | f :: l=>by simp only [canonsZ,List.map_cons,canonsZ_map l]
theorem qiu (f:Fm):qa1 f=qkj f.op f.name f.val (f.args.map qa1):=by
 cases f
 simp only [qa1,canonsZ_map,Fm.op,Fm.name,Fm.val,Fm.args]
theorem insF_sizes (x:Fm) : ∀ l:List Fm,sizes (insF x l)≤x.size+sizes l
 | []=>by simp [insF,sizes]
 | y :: l=>by
  have:=insF_sizes x l
  unfold insF
  split
  ·simp [sizes]
  ·split
   ·simp [sizes]
   ·simp only [sizes];omega
theorem setF_sizes : ∀ gs:List Fm,sizes (setF gs)≤sizes gs
 | []=>Nat.le_refl _
 | x :: gs=>by
  have:=setF_sizes gs
  have h:=insF_sizes x (setF gs)
  show sizes (insF x (setF gs))≤_
  simp only [sizes]
  omega
theorem partZ_sizes (op:Int) (x:Fm):sizes (qh1 op x)≤x.size:=by
 have h2:=Fm.size_eq x
 unfold qh1
 split
 ·omega
 ·split
  ·simp [sizes]
  ·simp [sizes]
theorem flatZ_sizes (op:Int) : ∀ l:List Fm,sizes (qcd op l)≤sizes l
 | []=>Nat.le_refl _
 | x :: l=>by
  have:=flatZ_sizes op l
  have h:=partZ_sizes op x
  unfold qcd at this ⊢
  rw [List.flatMap_cons,qck]
  simp only [sizes]
  omega
theorem leaf_size (o:Int):(opF o []).size=1:=rfl
theorem setZ_size (op:Int) (s:List Fm):(setZ op s).size≤1+sizes s:=by
 unfold setZ
 split
 ·rw [leaf_size];omega
 ·split
  ·rw [leaf_size];omega
  ·simp only [sizes];omega
  ·exact Nat.le_of_eq (Fm.size_eq _)
theorem joinZ_size (op:Int) (l:List Fm):(qhr op l).size≤1+sizes l:=by
 unfold qhr
 split
 ·rw [leaf_size];omega
 ·have h1:=setZ_size op (setF (qcd op l))
  have h2:=setF_sizes (qcd op l)
  have h3:=flatZ_sizes op l
  omega
theorem getD_size (xs:List Fm) (i:Nat):(xs.getD i default).size≤1+sizes xs:=by
 by_cases h:i < xs.length
 ·have:=qbt (qbw h);omega
 ·have:xs.getD i default=default:=by simp [List.getD,List.getElem?_eq_none (Nat.le_of_not_lt h)]
  rw [this]
  show (1+0:Nat)≤_
  omega
theorem canO_size (o:Int) (n:ByteArray) (v:Int) (xs:List Fm):(qkj o n v xs).size≤1+sizes xs:=by
 unfold qkj
 split
 ·exact joinZ_size _ _
 ·split
  ·exact getD_size _ _
  ·split
   ·exact getD_size _ _
   ·split
    ·exact getD_size _ _
    ·exact Nat.le_of_eq (Fm.size_eq _)
theorem qe8 {g:Fm→Fm} : ∀ {l:List Fm},(∀ x,x∈l→(g x).size≤x.size)→sizes (l.map g)≤sizes l
 | [],_=>Nat.le_refl _
 | x :: l,h=>by
  have h1:=h x (by simp)
  have h2:=qe8 (g:=g) (l:=l) fun y hy=>h y (by simp [hy])
  simp only [List.map_cons,sizes]
  omega
theorem canonZ_size (f:Fm):(qa1 f).size≤f.size:=by
 induction f using Fm.ind with
 | h f ih =>
  rw [qiu,Fm.size_eq f]
  have h1:=canO_size f.op f.name f.val (f.args.map qa1)
  have h2:=qe8 ih
  omega
theorem flatZ_mem {op:Int} {l:List Fm} {x:Fm} (h:x∈qcd op l) : ∃ g,g∈l∧((g.op=op∧x∈g.args)∨x=g):=by
 unfold qcd at h
 rw [List.mem_flatMap] at h
 obtain ⟨g,hg,hx⟩:=h
 refine ⟨g,hg,?_⟩
 unfold qh1 at hx
 split at hx
 ·exact .inl ⟨by assumption,hx⟩
 ·split at hx
  ·cases hx
  ·exact .inr (List.mem_singleton.1 hx)
theorem allI_imp {q r:Fm × Bool→Bool} (hq : ∀ x,q x=true→r x=true) {ins:Bool} {f:Fm} (h:allI q ins f):allI r ins f:=by
 unfold allI at h ⊢
 rw [List.all_eq_true] at h ⊢
 exact fun x hx=>hq x (h x hx)
theorem qdo {f:Fm} {ins:Bool} (h:qbf (f,ins)=true):(qal f.op).loose=true∧qaz f=true∧((qal f.op).future=true→ins=false)∧(f.op=4→(f.args.getD 0 default).op=3):=by
 unfold qbf notQ at h
 simp only [Bool.and_eq_true] at h
 obtain ⟨⟨⟨h1,h2⟩,h3⟩,h4⟩:=h
 refine ⟨h1,h2,fun hf => ?_,fun ho => ?_⟩
 ·rw [hf] at h3;simpa using h3
 ·rw [decide_eq_true ho] at h4;simpa using h4
theorem bareQ_nz (x:Fm × Bool) (h:qbf x=true):nzQ x=true:=by
 obtain ⟨f,ins⟩:=x
 have:=(qdf (qdo h).2.1).1
 unfold nzQ
 refine decide_eq_true fun e => ?_
 have e:f.op=0:=e
 rw [e] at this
 cases this
theorem bare_not {f:Fm} {ins:Bool} (h:allI qbf ins f) (h4:f.op=4):0 < f.args.length:=qg8 (qdo (qa9.1 h).1).2.1 h4
theorem qjn {op:Int} {l:List Fm} {ins:Bool} (hop:op=5∨op=6) (h : ∀ g,g∈l→allI qbf ins g) : ∀ x,x∈qcd op l→allI qbf ins x:=by
 intro x hx
 obtain ⟨g,hg,hh⟩:=flatZ_mem hx
 rcases hh with ⟨he,hh⟩ | rfl
 ·have:=(qa9.1 (h g hg)).2 x hh
  have hp:(qal g.op).past=false:=by rw [he];rcases hop with rfl | rfl <;> rfl
  rw [hp,Bool.or_false] at this
  exact this
 ·exact h _ hg
theorem setZ_bare {op:Int} {s:List Fm} {ins:Bool} (hop:op=5∨op=6) (h : ∀ g,g∈s→allI qbf ins g) (hz:s.length≤manyN):allI qbf ins (setZ op s):=by
 have hl1:allI qbf ins (opF (zeroZ op) []):=allI_leaf (by rcases hop with rfl | rfl <;> decide)
 have hl2:allI qbf ins (opF (unitZ op) []):=allI_leaf (by rcases hop with rfl | rfl <;> decide)
 unfold setZ
 split
 ·exact hl1
 ·split
  ·exact hl2
  ·exact h _ (by simp)
  ·rename_i s' h0 h1
   have hlen:2≤s.length:=by
    rcases s with _ | ⟨x,_ | ⟨y,s⟩⟩
    ·exact absurd rfl h0
    ·exact absurd rfl (h1 x)
    ·simp
   rw [qa9]
   refine ⟨?_,fun g hg => ?_⟩
   ·rcases hop with rfl | rfl
    ·exact bare_mk rfl (shp_opF rfl hlen hz (by decide) (by decide) rfl) (fun h=>by cases h) (fun e=>by simp [opF,Fm.op] at e)
    ·exact bare_mk rfl (shp_opF rfl hlen hz (by decide) (by decide) rfl) (fun h=>by cases h) (fun e=>by simp [opF,Fm.op] at e)
   ·have hp:(qal (opF op s).op).past=false:=by rcases hop with rfl | rfl <;> rfl
    rw [hp,Bool.or_false]
    exact h g hg
theorem joinZ_bare {op:Int} {l:List Fm} {ins:Bool} (hop:op=5∨op=6) (h : ∀ g,g∈l→allI qbf ins g) (hz:sizes l≤manyN):allI qbf ins (qhr op l):=by
 unfold qhr
 split
 ·exact allI_leaf (by rcases hop with rfl | rfl <;> decide)
 ·refine setZ_bare hop (fun g hg=>qjn hop h g ((qha _ _).1 hg)) ?_
  have h1:=setF_len (qcd op l)
  have h2:=qgz op l
  omega
theorem canonZ_bare (f:Fm) : ∀ ins,allI qbf ins f→f.size≤manyN→allI qbf ins (qa1 f):=by
 induction f using Fm.ind with
 | h f ih =>
  intro ins h hz
  rw [qiu]
  obtain ⟨h1,h2⟩:=qa9.1 h
  obtain ⟨p1,p2,p3,p4⟩:=qdo h1
  obtain ⟨s1,s2,s3,s4,s5,s6,s7,s8⟩:=qdf p2
  have hs:=Fm.size_eq f
  have hcs : ∀ g,g∈f.args.map qa1→allI qbf (ins || (qal f.op).past) g:=fun g hg=>by
   obtain ⟨x,hx,rfl⟩:=List.mem_map.1 hg
   exact ih x hx _ (h2 x hx) (by have:=qbt hx;omega)
  have hat : ∀ i,i < f.args.length→allI qbf (ins || (qal f.op).past) ((f.args.map qa1).getD i default):=fun i hi=>hcs _ (qbw (by simpa using hi))
  have hzz:sizes (f.args.map qa1)≤sizes f.args:=qe8 fun x _=>canonZ_size x
  unfold qkj
  split
  ·rename_i hop
   have hp:(qal f.op).past=false:=by rcases hop with e | e <;> rw [e] <;> rfl
   rw [hp,Bool.or_false] at hcs
   exact joinZ_bare hop hcs (by omega)
  ·split
   ·rename_i hop
    have hp:(qal f.op).past=false:=by rw [hop.1];rfl
    rw [hp,Bool.or_false] at hat
    rw [hop.1] at s2
    exact hat 0 s2
   ·split
    ·rename_i hop
     have hp:(qal f.op).past=false:=by rw [hop.1];rfl
     rw [hp,Bool.or_false] at hat
     rw [hop.1] at s2
     exact hat 1 s2
    ·split
     ·rename_i hop
      have hp:(qal f.op).past=false:=by rw [hop.1];rfl
      rw [hp,Bool.or_false] at hat
      rw [hop.1] at s2
      exact hat 1 s2
     ·rw [qa9]
      refine ⟨bare_mk p1 (shp_of s1 (by show (qal f.op).least≤(f.args.map qa1).length;rw [List.length_map];exact s2) (by show (f.args.map qa1).length≤(qal f.op).most;rw [List.length_map];exact s3) s4 s5 (Int.le_refl _) (by show (0:Int)≤(qal f.op).bound;omega) s8) p3 fun h4 => ?_,fun g hg=>hcs g hg⟩
      have h4:f.op=4:=h4
      have hl:=qg8 p2 h4
      show ((f.args.map qa1).getD 0 default).op=3
      have e:(f.args.map qa1).getD 0 default=qa1 (f.args.getD 0 default):=by simp [List.getD,hl]
      have h3:=p4 h4
      rw [e,qiu,h3]
      rfl
theorem many_ge {n:Nat} (h:n≤1000000):n≤manyN:=by unfold manyN;omega
end Go.Proofs.YtdpbgcmfeajigaaGreatDoor
namespace Go.Proofs.YtdpbgcmfeajigaaGreatDoor
structure CanNode (f:Fm):Prop where
 bd:f.bound=0
 leaf:f.op=1∨f.op=2→f.args = []∧f.name=⟨#[]⟩∧f.val=0
 set:f.op=5∨f.op=6→AscF f.args∧2≤f.args.length∧oppB f.args=false∧f.name=⟨#[]⟩∧f.val=0 ∧ ∀ g,g∈f.args→g.op≠f.op∧g.op≠unitZ f.op∧g.op≠zeroZ f.op
 next:f.op=8→isC (f.args.getD 0 default)=false
 til:f.op=9→isC (f.args.getD 1 default)=false∧(f.args.getD 0 default).op≠2
 rel:f.op=10→isC (f.args.getD 1 default)=false∧(f.args.getD 0 default).op≠1
inductive Can:Fm→Prop where
 | mk (f:Fm) (node:CanNode f) (args : ∀ g,g∈f.args→Can g):Can f
theorem Can.node {f:Fm} (h:Can f):CanNode f:=by cases h;assumption
theorem Can.arg {f:Fm} (h:Can f) : ∀ g,g∈f.args→Can g:=by cases h;assumption
end Go.Proofs.YtdpbgcmfeajigaaGreatDoor
namespace Go.Proofs.YtdpbgcmfeajigaaGreatDoor
theorem qb7 {f:Fm} (h:qau f=true):f.size≤400∧f.depth≤60∧allI qbf false f:=by
 unfold qau at h
 rw [Bool.and_eq_true,qb9] at h
 exact ⟨by omega,by omega,h.2⟩
theorem loose_of {f:Fm} (h1:f.size≤400) (h2:f.depth≤60) (h3:allI qbf false f):qau f=true:=by
 unfold qau
 rw [Bool.and_eq_true,qb9]
 exact ⟨⟨by omega,by omega⟩,h3⟩
theorem kernel_out {f:Fm} (h:qf4 f=true):f.size≤60∧f.depth≤20∧allI qbf false f:=by
 unfold qf4 at h
 rw [Bool.and_eq_true,qb9] at h
 exact ⟨by omega,by omega,h.2⟩
structure Low (c:Fm) (n d:Nat):Prop where
 can:Can c
 loose:qau c=true
 size:c.size≤n
 depth:c.depth≤d
theorem Low.mono {c:Fm} {n d n' d':Nat} (h:Low c n d) (h1:n≤n') (h2:d≤d'):Low c n' d':=⟨h.can,h.loose,Nat.le_trans h.size h1,Nat.le_trans h.depth h2⟩
end Go.Proofs.YtdpbgcmfeajigaaGreatDoor
namespace Go.Proofs.YtdpbgcmfeajigaaGreatDoor
open Go.RowKit Go.Shelf
attribute [local go_sem] qab qdl run_store_func
def frow (n:Nat):Obj := .cells (madeCells #[.int .i64 0,.string ⟨#[]⟩,.int .i64 0,.int .i64 0,.slice none 0 0] (n * 5)) 24
theorem run_make_F (n:Nat) (hn:n≤1000000) (w:World):(Instr.makeSlice 22 (.int .i64 (n:Int)) (.int .i64 (n:Int))).run Tryz.prog w = .ok (.slice (some ⟨w.heap.size,0,none⟩) n n) (w.alloc (frow n)):=by
 obtain ⟨i0,hti,hz0,hz1,hz2⟩:=info_parts qb8
 have hr:=run_make (P:=Tryz.prog) w 22 24 i0 _ Tryz.underlying22 hti hz0 .i64 .i64 (n:Int) (n:Int) (by omega) (by omega) (by rw [hz2];omega) (by omega)
 rw [hz1,Int.toNat_natCast] at hr
 exact hr
theorem cellsF_rep (n:Nat):(madeCells #[.int .i64 0,.string ⟨#[]⟩,.int .i64 0,.int .i64 0,.slice none 0 0] (n * 5)).toList=qav (List.replicate n qbs) (List.replicate n (none,0)):=by
 apply List.ext_getElem?
 intro j
 by_cases hj:j < n * 5
 ·have hk:j / 5 < n:=by omega
  have hm:j % 5 < 5:=Nat.mod_lt _ (by omega)
  have e:j=j / 5 * 5+j % 5:=by omega
  have h1:=qdz (L:=List.replicate n qbs) (sl:=List.replicate n ((none:Option Addr),0)) (by simp) (k:=j / 5) (j:=j % 5) (by simpa using hk) hm
  rw [←e] at h1
  rw [h1]
  have e1:(List.replicate n qbs).getD (j / 5) default=qbs:=by simp [List.getD,hk]
  have e2:(List.replicate n ((none:Option Addr),0)).getD (j / 5) (none,0)=(none,0):=by simp [List.getD,hk]
  rw [e1,e2]
  have e3:j % 5=0∨j % 5=1∨j % 5=2∨j % 5=3∨j % 5=4:=by omega
  rcases e3 with h | h | h | h | h <;> simp [madeCells,hj,h,qbr,qbs,Fm.op,Fm.name,Fm.val,Fm.bound,Fm.args]
 ·rw [List.getElem?_eq_none (by simpa [madeCells] using hj),List.getElem?_eq_none (by rw [qch (by simp)];simpa using hj)]
theorem frow_row (w:World) (base n:Nat) (hb:base≤w.heap.size) (hn:n≤1000000):qbm (w.alloc (frow n)) base (some ⟨w.heap.size,0,none⟩) n (List.replicate n qbs) (List.replicate n (none,0)):=by
 refine ⟨?_,by simp,fun i hi => ?_⟩
 ·have:=World.ownsRow_lit (base:=base) (e:=24) (size:=5) w (madeCells #[.int .i64 0,.string ⟨#[]⟩,.int .i64 0,.int .i64 0,.slice none 0 0] (n * 5)) n hb (qa5 (by omega)) (size_madeCells _ _)
  rw [cellsF_rep] at this
  rw [List.length_replicate]
  exact this
 ·have hi':i < n:=by simpa using hi
  have e1:(List.replicate n qbs).getD i default=qbs:=by simp [List.getD,hi']
  have e2:(List.replicate n ((none:Option Addr),0)).getD i (none,0)=(none,0):=by simp [List.getD,hi']
  rw [e1,e2]
  exact RdA.nil _ _ _ (Nat.zero_le _)
def CanonC (f:Fm):Prop := ∀ (D:Dom) (b o:Nat) (A:Option Addr) (c:Nat) (w:World),qcp w D b o f A c →
 Calls Tryz.prog 125 #[.pointer (some ⟨b,o,none⟩)] w fun e w' => ∃ v,e = .returned v∧qh5 (qa1 f) w v w'
theorem canons_any {D:Dom} {w:World} {A:Option Addr} {n c:Nat} {l:List Fm} (h:RdA w D l A c) (hn:n=l.length) (hl:l.length≤1000000) (ih : ∀ g,g∈l→CanonC g) :
  Calls Tryz.prog 151 #[.slice A n c] w fun e w' => ∃ A',e = .returned (.slice A' n n)∧RdA w' (Nw w.heap.size w') (l.map qa1) A' n∧Below w.heap.size w w':=by
 subst hn
 have hmk:=run_make_F l.length hl
 have HL:=hid h.old
 have hcp:=h.len
 clear h
 go_enter Tryz.func151,Tryz.ntmps151
 go_upto_region 2 with (fail)
 refine qai fun W hW => ?_
 have HB:=hid (show Below w.heap.size w W by rw [hW];go_grown)
 have HR:=hid (show qbm W w.heap.size (some ⟨w.heap.size,0,none⟩) l.length (List.replicate l.length qbs) (List.replicate l.length (none,0)) by rw [hW];exact frow_row _ _ _ (Nat.le_refl _) hl)
 clear hW hmk
 go_wp2_with fail
 go_loopw [10] (fun r wr => ∃ (i:Nat) (R:List Fm) (sl:List (Option Addr × Nat)),i≤l.length∧r = .int .i64 (i:Int)∧qbm wr w.heap.size (some ⟨w.heap.size,0,none⟩) l.length R sl∧R.length=l.length∧R.take i=(l.take i).map qa1∧Below w.heap.size w wr) (fun r _=>l.length - (intOf r).toNat)
 case atStart=>exact ⟨0,_,_,Nat.zero_le _,rfl,HR.out,by simp,rfl,HB.out⟩
 case round =>
  obtain ⟨i,R,sl,hi,rfl,hr,hrl,hpre,hbl⟩:=hrel
  have HRR:=hid hr
  have HRL:=hid hrl
  have HPRE:=hid hpre
  have HBL:=hid hbl
  clear hr hrl hpre hbl
  by_cases hlt:i < l.length
  ·have hii:(i:Int) < l.length:=by omega
   have HLr:=hid (HL.out.keep (Keeps.of_below HBL.out fun _ h=>h))
   obtain ⟨b1,o1,A',c',f,rfl,HX,hf⟩:=HLr.out.get hlt
   have HXX:=hid HX.out
   have HCALL:=hid (ih f (by have:=HXX.out;rw [←this];exact qbw hlt) _ _ _ _ _ _ hf)
   obtain ⟨_,_,f',_,_,_,_,_,_,_,_,_,_,_,_,_,hgl,_⟩:=HRR.out.get (i:=i) (by have:=HRL.out;omega)
   clear HX hf
   go_wp2_with (go_at_call 125;refine HCALL.out.mono ?_;rintro e w2 ⟨v,rfl,hbel,A2,c2,rfl,ha2⟩;have HR2:=hid (HRR.out.chg (Chg.of_new (V:=fun _=>False) hbel) fun _ h=>h.elim);have HA2:=hid ha2;have HB2:=hid (HBL.out.trans (hbel.mono HBL.out.size));clear ha2;obtain ⟨_,_,f2,_,_,u0,u1,u2,u3,u4,v0,v1,v2,v3,v4,gl2,_⟩:=HR2.out.get (i:=i) (by have:=HRL.out;omega))
   go_roundw
   case rel =>
    have hil:i < R.length:=by have:=HRL.out;omega
    have hset:=HR2.out.set hil (qa1 f) A2 c2 (HA2.out.mono fun k hk _=>⟨⟨by have:=hk.1;omega,hk.2⟩,by have:=hk.1;omega⟩)
    refine ⟨i+1,R.set i (qa1 f),sl.set i (A2,c2),by omega,by go_num,hset,by rw [List.length_set];exact HRL.out,?_,?_⟩
    ·rw [qam _ default (by rw [List.length_set];exact hil),qf6 hil,List.take_set_of_le (Nat.le_refl _),HPRE.out,qam l default hlt,List.map_append,HXX.out]
     rfl
    ·exact ((((HB2.out.setCell (Nat.le_refl _) _).setCell (Nat.le_refl _) _).setCell (Nat.le_refl _) _).setCell (Nat.le_refl _) _).setCell (Nat.le_refl _) _
   case measure=>simp [intOf];omega
  ·have hii : ¬ (i:Int) < l.length:=by omega
   have hil:i=l.length:=by omega
   have HE:=hid (show R=l.map qa1 by
    have h1:=HPRE.out
    rw [hil,List.take_length,←HRL.out,List.take_length] at h1
    exact h1)
   go_wp2_with fail
   go_ret
   refine ⟨_,rfl,?_,HBL.out⟩
   rw [←HE.out]
   exact HRR.out.rd (by have:=HRL.out;omega)
theorem qeg {D:Dom} (xs:List Fm) (A:Option Addr) (n c kb i:Nat) (k:Int) (w:World) (h:RdA w D xs A c) (hn:n=xs.length) (hi:i < xs.length) (hk:k=(i:Int)) (hc:w.cell? ⟨kb,0,none⟩=some (.slice A n c)) (r:Bool) (hr:isC (xs.getD i default)=r) :
  Calls Tryz.prog 152 #[.int .i64 k,.pointer (some ⟨kb,0,none⟩)] w fun e w'=>e = .returned (.bool r)∧w'=w:=by
 rw [←hr]
 clear hr
 subst hn hk
 have hlen:=h.len
 obtain ⟨b1,o1,A',c',f,rfl,HX,hf⟩:=h.get hi
 have HXX:=hid HX.out
 obtain ⟨q1,q2,p0,p1,p2,p3,p4,q3⟩:=hf
 have hii:(i:Int) < xs.length:=by omega
 clear HX q3 h
 by_cases e1:f.op=1
 ·have d1:(f.op == 1)=true:=by rw [e1];rfl
  have HC:=hid (show isC (xs.getD i default)=true by rw [HXX.out];unfold isC;rw [decide_eq_true e1];rfl)
  clear e1
  go_enter Tryz.func152,Tryz.ntmps152
  go_wp2_with fail
  go_ret
  exact ⟨qah HC.out.symm,rfl⟩
 ·have d1:(f.op == 1)=false:=qac e1
  by_cases e2:f.op=2
  ·have d2:(f.op == 2)=true:=by rw [e2];rfl
   have HC:=hid (show isC (xs.getD i default)=true by rw [HXX.out];unfold isC;rw [decide_eq_true e2,Bool.or_true])
   clear e1 e2
   go_enter Tryz.func152,Tryz.ntmps152
   go_wp2_with fail
   go_ret
   exact ⟨qah HC.out.symm,rfl⟩
  ·have d2:(f.op == 2)=false:=qac e2
   have HC:=hid (show isC (xs.getD i default)=false by rw [HXX.out];unfold isC;rw [decide_eq_false e1,decide_eq_false e2];rfl)
   clear e1 e2
   go_enter Tryz.func152,Tryz.ntmps152
   go_wp2_with fail
   go_ret
   exact ⟨qah HC.out.symm,rfl⟩
theorem buildF_nva (o v:Int) (s:ByteArray) (A:Option Addr) (n c:Nat) (w:World):(Instr.build 24 #[(0,.int .i64 o),(1,.string s),(2,.int .i64 v),(4,.slice A n c)]).run Tryz.prog w = .ok (.agg #[.int .i64 o,.string s,.int .i64 v,.int .i64 0,.slice A n c]) w:=run_build w 24 _ _ (by kernel_rfl)
end Go.Proofs.YtdpbgcmfeajigaaGreatDoor
