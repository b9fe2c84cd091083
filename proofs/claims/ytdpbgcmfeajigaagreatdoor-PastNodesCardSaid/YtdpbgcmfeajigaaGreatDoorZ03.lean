/-
  What a call may change; walk of within and of its closure.
-/
import Derived.Test.YtdpbgcmfeajigaaGreatDoorZ02
set_option linter.unusedSimpArgs false
set_option linter.unusedVariables false
set_option maxHeartbeats 8000000
set_option maxRecDepth 100000
namespace Go.Proofs.YtdpbgcmfeajigaaGreatDoor
open Go.RowKit
attribute [local go_sem] qab
structure Chg (V:Dom) (w w':World):Prop where
 os:w'.os=w.os
 tape:w'.tape=w.tape
 output:w'.output=w.output
 size:w.heap.size≤w'.heap.size
 block : ∀ b,b < w.heap.size → ¬ V b→w'.heap[b]? = w.heap[b]?
section
variable {V U:Dom} {w w' w'':World}
theorem Chg.refl (V:Dom) (w:World):Chg V w w:=⟨rfl,rfl,rfl,Nat.le_refl _,fun _ _ _=>rfl⟩
theorem Chg.trans (h:Chg V w w') (k:Chg V w' w''):Chg V w w'' :=
 ⟨k.os.trans h.os,k.tape.trans h.tape,k.output.trans h.output,Nat.le_trans h.size k.size,fun b hb hv=>(k.block b (Nat.lt_of_lt_of_le hb h.size) hv).trans (h.block b hb hv)⟩
theorem Chg.mono (h:Chg V w w') (hu : ∀ b,b < w.heap.size→V b→U b):Chg U w w':=⟨h.os,h.tape,h.output,h.size,fun b hb hv=>h.block b hb fun x=>hv (hu b hb x)⟩
theorem Chg.trans' (h:Chg V w w') (k:Chg U w' w'') (hu : ∀ b,b < w.heap.size→U b→V b):Chg V w w'' :=
 ⟨k.os.trans h.os,k.tape.trans h.tape,k.output.trans h.output,Nat.le_trans h.size k.size,fun b hb hv=>(k.block b (Nat.lt_of_lt_of_le hb h.size) (fun x=>hv (hu b hb x))).trans (h.block b hb hv)⟩
theorem Chg.of_below {B:Nat} (h:Below B w w'):Chg (fun b=>B≤b) w w':=⟨h.os,h.tape,h.output,h.size,fun b _ hv=>h.block b (by omega)⟩
theorem Chg.of_new (h:Below w.heap.size w w'):Chg V w w':=⟨h.os,h.tape,h.output,h.size,fun b hb _=>h.block b hb⟩
theorem Chg.below {B:Nat} (h:Chg V w w') (hV : ∀ b,b < B → ¬ V b) (hB:B≤w.heap.size):Below B w w':=⟨h.os,h.tape,h.output,h.size,fun b hb=>h.block b (Nat.lt_of_lt_of_le hb hB) (hV b hb)⟩
theorem Chg.alloc (h:Chg V w w') (o:Obj):Chg V w (w'.alloc o):=h.trans (Chg.of_new ((Below.refl _ _).alloc (Nat.le_refl _) o))
theorem Chg.drew (h:Chg V w w'):Chg V w w'.drew:=⟨h.os,h.tape,h.output,h.size,h.block⟩
theorem Chg.drewN (h:Chg V w w') (n:Nat):Chg V w (w'.drewN n):=⟨h.os,h.tape,h.output,h.size,h.block⟩
theorem Chg.drawn (h:Chg V w w') (k:qap w' w''):Chg V w w'':=h.trans (Chg.of_new (k.below _))
theorem Chg.set (h:Chg V w w') (p:Addr) (u:Value) (hp:p.block < w.heap.size→V p.block):Chg V w (w'.setCell p u) :=
 ⟨h.os,h.tape,h.output,by simpa using h.size,fun b hb hv=>by
  have hne:b≠p.block:=fun e=>hv (e ▸ hp (e ▸ hb))
  rw [Below.heap_setCell _ _ _ _ hne];exact h.block b hb hv⟩
theorem Chg.grown {row:Option Nat} (h:Chg V w w') (hg:w'.grownBy w'' row) (hr : ∀ k,row=some k→k < w.heap.size→V k):Chg V w w'' :=
 h.trans' (U:=fun b=>row=some b) ⟨hg.os,hg.tape,hg.output,hg.size,fun b hb hv=>hg.block b hb (fun e=>hv e.symm)⟩ (fun b hb e=>hr b e hb)
theorem Chg.keeps {D:Dom} (h:Chg V w w') (hd : ∀ b,b < w.heap.size→D b → ¬ V b):Keeps D w w':=⟨h.size,fun b hb hl=>h.block b hl (hd b hl hb)⟩
theorem Chg.box {b:Nat} {o:Obj} (h:Chg V w w') (hb:w.heap[b]? = some o) (hv : ¬ V b):w'.heap[b]? = some o:=(h.block b (lt_of_block hb) hv).trans hb
end
theorem run_store_func {P:Program} {w:World} {a:Addr} {m:Mode} (f:Fn) (ts vs:Array Value):(store a (.func f ts vs) m).run P w=stored P w a (.func f ts vs) m:=run_store P w a _ m rfl
attribute [local go_sem] run_store_func
def qa4 (f:Fm) (s d:Int):Bool:=decide ((f.size:Int)≤s) && decide ((f.depth:Int)≤d)
theorem qet : ∀ l m:List Fm,depths (l ++ m)=max (depths l) (depths m)
 | [],m=>by simp [depths]
 | f :: l,m=>by simp only [List.cons_append,depths,qet l m];omega
theorem depths_snoc (l:List Fm) {i:Nat} (hi:i < l.length):depths (l.take (i+1))=max (depths (l.take i)) (l.getD i default).depth:=by
 rw [qam l default hi,qet]
 simp [depths]
theorem depths_take (l:List Fm) (i:Nat):depths (l.take i)≤depths l:=by
 have:=qet (l.take i) (l.drop i)
 rw [List.take_append_drop] at this
 omega
theorem fits_false_size {f:Fm} {s d:Int} (h : ¬ (f.size:Int)≤s):qa4 f s d=false:=by unfold qa4;rw [decide_eq_false h];rfl
theorem qkg {f:Fm} {s d:Int} (h : ¬ (f.depth:Int)≤d):qa4 f s d=false:=by unfold qa4;rw [decide_eq_false h];simp
theorem qb9 {f:Fm} {s d:Int} : qa4 f s d=true ↔ (f.size:Int)≤s∧(f.depth:Int)≤d:=by simp [qa4]
theorem fits_any (f:Fm) : ∀ (b o:Nat) (A:Option Addr) (c:Nat) (s d:Int) (sb fb:Nat) (w:World) (h:qcp w (fun k=>k≠sb) b o f A c) (hs:w.heap[sb]? = some (.cells #[.int .i64 s] 3 (0,0)))
  (hf:w.heap[fb]? = some (.cells #[.func (.func 118) #[] #[.pointer (some ⟨sb,0,none⟩),.pointer (some ⟨fb,0,none⟩)]] 145 (0,0))) (hne:fb≠sb) (s0:0≤s) (s1:s≤1000000) (d0:0≤d) (d1:d≤1000000),
  Calls Tryz.prog 118 #[.pointer (some ⟨b,o,none⟩),.int .i64 d,.pointer (some ⟨sb,0,none⟩),.pointer (some ⟨fb,0,none⟩)] w
   fun e w'=>e = .returned (.bool (qa4 f s d))∧Chg (fun k=>k=sb) w w'∧(qa4 f s d=true→w'.heap[sb]? = some (.cells #[.int .i64 (s - f.size)] 3 (0,0))):=by
 refine Fm.induct (P:=fun f => ∀ (b o:Nat) (A:Option Addr) (c:Nat) (s d:Int) (sb fb:Nat) (w:World) (h:qcp w (fun k=>k≠sb) b o f A c) (hs:w.heap[sb]? = some (.cells #[.int .i64 s] 3 (0,0)))
  (hf:w.heap[fb]? = some (.cells #[.func (.func 118) #[] #[.pointer (some ⟨sb,0,none⟩),.pointer (some ⟨fb,0,none⟩)]] 145 (0,0))) (hne:fb≠sb) (s0:0≤s) (s1:s≤1000000) (d0:0≤d) (d1:d≤1000000),
  Calls Tryz.prog 118 #[.pointer (some ⟨b,o,none⟩),.int .i64 d,.pointer (some ⟨sb,0,none⟩),.pointer (some ⟨fb,0,none⟩)] w
   fun e w'=>e = .returned (.bool (qa4 f s d))∧Chg (fun k=>k=sb) w w'∧(qa4 f s d=true→w'.heap[sb]? = some (.cells #[.int .i64 (s - f.size)] 3 (0,0)))) ?_ f
 intro f ih b o A c s d sb fb w h hs hf hne s0 s1 d0 d1
 have HIH:=hid ih
 have HSZ:=hid (Fm.size_eq f)
 have HDP:=hid (Fm.depth_eq f)
 have HAL:=hid (qdd f.args)
 have z0:=qaa hs (i:=0) rfl
 have z1:=qad hs (i:=0)
 have HNE:=hid hne
 have HS:=hid hs
 have HF:=hid hf
 have HH:=hid h
 have hal:=h.args.len.1
 clear ih h hs hf hne
 go_enter Tryz.func118,Tryz.ntmps118
 go_upto_region 2 with (fail)
 refine qai fun W hW => ?_
 have HSW:=hid (show W.heap[sb]? = some (.cells #[.int .i64 (s - 1)] 3 (0,0)) by rw [hW,qae HS.out];rfl)
 have HCW:=hid (show Chg (fun k=>k=sb) w W by rw [hW];exact (Chg.refl _ w).set _ _ fun _=>rfl)
 clear hW z0 z1
 have HFW:=hid ((HCW.out.box HF.out HNE.out))
 have HHW:=hid (HH.out.keep (HCW.out.keeps fun k _ h=>h))
 obtain ⟨hd,hl,c0,c1,c2,c3,c4,ha⟩:=HHW.out
 have z0:=qaa HSW.out (i:=0) rfl
 have HA:=hid ha
 clear ha hd c0 c1 c2 c3
 by_cases hlt:s - 1 < f.args.length
 ·have dl:decide (s - 1 < (f.args.length:Int))=true:=decide_eq_true hlt
  have HR:=hid (fits_false_size (f:=f) (s:=s) (d:=d) (by have:=HSZ.out;have:=HAL.out;omega))
  go_quiet (fail)
  go_wp2_with fail
  go_ret
  rw [HR.out]
  exact ⟨rfl,HCW.out.drewN _,fun h=>by cases h⟩
 ·have dl:decide (s - 1 < (f.args.length:Int))=false:=decide_eq_false hlt
  by_cases hd1:d < 1
  ·have dd:decide (d < 1)=true:=decide_eq_true hd1
   have HR:=hid (qkg (f:=f) (s:=s) (d:=d) (by have:=HDP.out;omega))
   go_quiet (fail)
   go_wp2_with fail
   go_ret
   rw [HR.out]
   exact ⟨rfl,HCW.out.drewN _,fun h=>by cases h⟩
  ·have dd:decide (d < 1)=false:=decide_eq_false hd1
   go_quiet (fail)
   obtain ⟨W2,hW2,hdr⟩ : ∃ W9,W9=W.drewN nq∧qap W W9:=⟨_,rfl,nq,rfl⟩
   rw [←hW2]
   have HC2:=hid (HCW.out.drawn hdr)
   have HS2:=hid ((hdr.below (W.heap.size)).block _ (lt_of_block HSW.out) |>.trans HSW.out)
   have HF2:=hid ((hdr.below (W.heap.size)).block _ (lt_of_block HFW.out) |>.trans HFW.out)
   have HH2:=hid (HHW.out.keep hdr.keeps)
   obtain ⟨hd',hl',c0',c1',c2',c3',c4',ha'⟩:=HH2.out
   have HA2:=hid ha'
   clear ha' hd' c0' c1' c2' c3' hW2 hdr z0 c4 hl
   have HLT:=hid hlt
   have HD1:=hid hd1
   clear dl dd hlt hd1
   obtain ⟨_,hl3,_,_,_,_,c4,_⟩:=HH2.out
   go_wp2_with fail
   go_loopw [26] (fun q wr => ∃ i:Nat,i≤f.args.length∧q = .int .i64 (i:Int)∧Chg (fun k=>k=sb) W2 wr∧(sizes (f.args.take i):Int)≤s - 1∧(depths (f.args.take i):Int)≤d - 1∧wr.heap[sb]? = some (.cells #[.int .i64 (s - 1 - sizes (f.args.take i))] 3 (0,0))) (fun q _=>f.args.length - (intOf q).toNat)
   case atStart=>exact ⟨0,Nat.zero_le _,rfl,Chg.refl _ _,by simp [sizes];have:=HLT.out;omega,by simp [depths];have:=HD1.out;omega,by rw [HS2.out];simp [sizes]⟩
   case round =>
    obtain ⟨i,hi,rfl,hc,hz,hdp,hs⟩:=hrel
    have HCR:=hid (HC2.out.trans hc)
    have HCRW:=hid hc
    have HFR:=hid (hc.box HF2.out HNE.out)
    have HSR:=hid hs
    have HZ:=hid hz
    have HDZ:=hid hdp
    obtain ⟨hdr',hlr,c0',c1',c2',c3',c4',ha'⟩:=HH2.out.keep (hc.keeps fun k _ h=>h)
    have HAR:=hid ha'
    have HCR4:=c4'
    clear ha' hdr' c0' c1' c2' c3' hc hs hz hdp c4
    by_cases hli:i < f.args.length
    ·have hii:(i:Int) < f.args.length:=by omega
     obtain ⟨b1,o1,A1,c1,g,rfl,HG,hg⟩:=HAR.out.get hli
     have HSN:=hid (qfg f.args hli)
     have HDN:=hid (depths_snoc f.args hli)
     have HIG:=hid (HIH.out i hli)
     rw [HG.out] at HSN HDN HIG
     have f0:=qaa HFR.out (i:=0) rfl
     obtain ⟨s2,hs2⟩ : ∃ x:Int,x=s - 1 - sizes (f.args.take i):=⟨_,rfl⟩
     have HS2E:=hid hs2
     have HSR':=hid HSR.out
     rw [←hs2] at HSR'
     clear hs2
     have HCALL:Hid (∀ W',qap wr W'→Calls Tryz.prog 118 #[.pointer (some ⟨b1,o1+i * 5,none⟩),.int .i64 (d - 1),.pointer (some ⟨sb,0,none⟩),.pointer (some ⟨fb,0,none⟩)] W'
       fun e w'=>e = .returned (.bool (qa4 g s2 (d - 1)))∧Chg (fun k=>k=sb) wr w'∧(qa4 g s2 (d - 1)=true→w'.heap[sb]? = some (.cells #[.int .i64 (s2 - g.size)] 3 (0,0)))):=hid fun W' hdw=>by
      refine (HIG.out b1 (o1+i * 5) A1 c1 s2 (d - 1) sb fb W' (hg.keep hdw.keeps) ((hdw.below wr.heap.size).block _ (lt_of_block HSR'.out) |>.trans HSR'.out) ((hdw.below wr.heap.size).block _ (lt_of_block HFR.out) |>.trans HFR.out) HNE.out (by rw [HS2E.out];have:=HZ.out;omega) (by rw [HS2E.out];omega) (by have:=HD1.out;omega) (by omega)).mono ?_
      rintro e w' ⟨rfl,hc,hx⟩
      exact ⟨rfl,((Chg.refl _ wr).drawn hdw).trans hc,hx⟩
     have HBN:=hid HH2.out.dom
     have c4:=HCR4
     have HCELL:Hid (∀ W':World,Chg (fun k=>k=sb) wr W'→W'.cell? ⟨fb,0,none⟩=some (.func (.func 118) #[] #[.pointer (some ⟨sb,0,none⟩),.pointer (some ⟨fb,0,none⟩)])∧W'.cell? ⟨b,o+4,none⟩=some (.slice (some ⟨b1,o1,none⟩) f.args.length c)):=hid fun W' hc =>
      ⟨qaa (hc.box HFR.out HNE.out) (i:=0) rfl,(hc.keeps (D:=fun k=>k≠sb) fun k _ h=>h).cell HBN.out c4⟩
     clear hg HCR4
     have HI1:=hid (show qap wr wr.drew from (qap.refl wr).drew)
     have HI2:=hid (fun i=>qap.n wr i)
     have hwd:IntKind.i64.wrap (d - 1)=d - 1:=IntWalk.i64_in _ (by omega)
     go_upto_region 7 with (fail)
     go_region_held3 (fun W':World=>W'.cell? ⟨fb,0,none⟩=some (.func (.func 118) #[] #[.pointer (some ⟨sb,0,none⟩),.pointer (some ⟨fb,0,none⟩)])∧W'.cell? ⟨b,o+4,none⟩=some (.slice (some ⟨b1,o1,none⟩) f.args.length c))
      (first | (with_reducible exact HCELL.out _ hI) | (go_keep;done))
      ((go_at_call 118;with_reducible refine (HCALL.out _ (by first | exact HI1.out | exact HI2.out _)).mono ?_;rintro e W9 ⟨rfl,hI,hJ⟩))
     all_goals
      have HCI:=hid hI
      have HCJ:=hid hJ
      clear hI hJ f0 c4 c4'
      cases hfit:qa4 g s2 (d - 1)
      ·have HR:=hid (show qa4 f s d=false by
        cases hb:qa4 f s d
        ·rfl
        ·exfalso
         have h1:=qb9.1 hb
         have h2:=qg7 f.args (i+1)
         have h3:=depths_take f.args (i+1)
         have h4:=HSN.out
         have h5:=HDN.out
         have h6:=HSZ.out
         have h7:=HDP.out
         have h8:=HS2E.out
         rw [qb9.2 ⟨by omega,by omega⟩] at hfit
         cases hfit)
       go_wp2_with fail
       go_ret
       rw [HR.out]
       exact ⟨rfl,HCR.out.trans HCI.out,fun h=>by cases h⟩
      ·have HFT:=hid (qb9.1 hfit)
       have HSN2:=hid (HCJ.out hfit)
       clear HCJ
       go_wp2_with fail
       go_roundw
       case rel =>
        have h4:=HSN.out
        have h5:=HDN.out
        have h8:=HS2E.out
        have h9:=HFT.out
        have h10:=HDZ.out
        exact ⟨i+1,by omega,by go_num,HCRW.out.trans HCI.out,by omega,by omega,by rw [HSN2.out];congr 5;omega⟩
       case measure=>simp [intOf];omega
    ·have hie:f.args.take i=f.args:=List.take_of_length_le (by omega)
     have hnl : ¬ (i:Int) < f.args.length:=by omega
     have HR:=hid (qb9.2 (show (f.size:Int)≤s∧(f.depth:Int)≤d by have:=HZ.out;have:=HDZ.out;rw [hie] at *;have:=HSZ.out;have:=HDP.out;have:=HD1.out;omega))
     have HSR2:=hid (show wr.heap[sb]? = some (.cells #[.int .i64 (s - f.size)] 3 (0,0)) by rw [HSR.out,hie,HSZ.out];congr 5;omega)
     clear hie
     go_wp2_with fail
     go_ret
     rw [HR.out]
     exact ⟨rfl,HCR.out,fun _=>HSR2.out⟩
theorem qi1 {D:Dom} (f:Fm) (b o:Nat) (A:Option Addr) (c:Nat) (s d:Int) (w:World) (h:qcp w D b o f A c) (s0:0≤s) (s1:s≤1000000) (d0:0≤d) (d1:d≤1000000) :
  Calls Tryz.prog 80 #[.pointer (some ⟨b,o,none⟩),.int .i64 s,.int .i64 d] w fun e w'=>e = .returned (.bool (qa4 f s d))∧Below w.heap.size w w':=by
 have HH:=hid h.old
 clear h
 go_enter Tryz.func80,Tryz.ntmps80
 go_upto_region 2 with (fail)
 refine qai fun W hW => ?_
 obtain ⟨w1,h1⟩ : ∃ w1,w1=w.alloc (.cells #[.int .i64 s] 3):=⟨_,rfl⟩
 have s1':w1.heap.size=w.heap.size+1:=by rw [h1];simp
 have hs1:w1.heap[w.heap.size]? = some (.cells #[.int .i64 s] 3 (0,0)):=by rw [h1];exact heap_alloc_new w _
 have b1:Below w.heap.size w w1:=by rw [h1];go_grown
 rw [←h1] at hW
 have b2:Below w1.heap.size w1 W:=by rw [hW];go_grown
 have hf1:W.heap[w.heap.size+1]? = some (.cells #[.nilFunc] 145 (0,0)):=by rw [hW,←s1'];exact heap_alloc_new w1 _
 have hs2:W.heap[w.heap.size]? = some (.cells #[.int .i64 s] 3 (0,0)):=(b2.block _ (lt_of_block hs1)).trans hs1
 have hbw:Below w.heap.size w W:=b1.trans (b2.mono b1.size)
 clear hW h1 b2 b1 hs1 s1'
 have z0:=qaa hf1 (i:=0) rfl
 have z1:=qad hf1 (i:=0)
 go_upto_region 3 with (fail)
 refine qai fun W3 hW => ?_
 have hs:W3.heap[w.heap.size]? = some (.cells #[.int .i64 s] 3 (0,0)):=by
  rw [hW,Below.heap_setCell _ _ _ _ (by simp)];exact hs2
 have hf:W3.heap[w.heap.size+1]? = some (.cells #[.func (.func 118) #[] #[.pointer (some ⟨w.heap.size,0,none⟩),.pointer (some ⟨w.heap.size+1,0,none⟩)]] 145 (0,0)):=by
  rw [hW,qae hf1];rfl
 have hb3:Below w.heap.size w W3:=by
  rw [hW]
  exact hbw.trans ((Chg.set (V:=fun k=>k=w.heap.size+1) (Chg.refl _ W) _ _ fun _=>rfl).below (fun b hb=>by omega) (Nat.le_of_lt (Nat.lt_of_lt_of_le (lt_of_block hs2) (Nat.le_refl _))))
 clear hW z0 z1 hs2 hf1 hbw
 have f0:=qaa hf (i:=0) rfl
 have HCALL:=hid (fits_any f b o A c s d w.heap.size (w.heap.size+1) W3 ((HH.out.keep (Keeps.of_below hb3 fun _ h=>h)).mono fun k hk _=>Nat.ne_of_lt hk) hs hf (by omega) s0 s1 d0 d1)
 have HB3:=hid hb3
 clear hs hf hb3
 go_wp2_with (first | (go_at_call 118;refine HCALL.out.mono ?_;rintro e W9 ⟨rfl,hI,hJ⟩))
 go_ret
 exact ⟨rfl,HB3.out.trans (hI.below (fun b hb=>by omega) HB3.out.size)⟩
end Go.Proofs.YtdpbgcmfeajigaaGreatDoor
