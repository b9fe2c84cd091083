/-
  Walk of the builder: bounded.
-/
import Derived.Test.YtdpbgcmfeajigaaGreatDoorZ14
set_option linter.unusedSimpArgs false
set_option linter.unusedVariables false
set_option maxHeartbeats 8000000
set_option maxRecDepth 100000
namespace Go.Proofs.YtdpbgcmfeajigaaGreatDoor
open Go.RowKit Go.Shelf
attribute [local go_sem] qab qdl qez qdm qg2 qiw
theorem rep_fits {p:Int} (h r:Fm) (left d:Int):(!qa4 (opF p [h,opF 8 [r]]) left d)=(((qb4 left false d || qb4 (left - 1) false (d - 1)) || !qa4 h (left - 2) (d - 1)) || !qa4 r (left - 2 - h.size) (d - 2)):=by
 have hs:(opF p [h,opF 8 [r]]).size=2+h.size+r.size:=by
  rw [Fm.size_eq]
  have e8:(opF 8 [r]).size=1+r.size:=by rw [Fm.size_eq];simp [opF,Fm.args,sizes]
  simp only [opF,Fm.args,sizes] at e8 ⊢
  rw [e8];omega
 have hd:(opF p [h,opF 8 [r]]).depth=1+max h.depth (1+r.depth):=by
  rw [Fm.depth_eq]
  have e8:(opF 8 [r]).depth=1+r.depth:=by rw [Fm.depth_eq];simp [opF,Fm.args,depths]
  simp only [opF,Fm.args,depths] at e8 ⊢
  rw [e8];omega
 have h1:=Fm.size_eq h
 have h2:=Fm.depth_eq h
 have h3:=Fm.size_eq r
 have h4:=Fm.depth_eq r
 unfold qa4 qb4
 rw [hs,hd]
 have e1:decide (((2+h.size+r.size:Nat):Int)≤left)=(decide ((h.size:Int)≤left - 2) && decide ((r.size:Int)≤left - 2 - h.size)):=by
  rw [←Bool.decide_and];exact decide_eq_decide.2 (by omega)
 have e2:decide (((1+max h.depth (1+r.depth):Nat):Int)≤d)=(decide ((h.depth:Int)≤d - 1) && decide ((r.depth:Int)≤d - 2)):=by
  rw [←Bool.decide_and];exact decide_eq_decide.2 (by omega)
 rw [e1,e2]
 by_cases c1:left - 1 < 0
 ·rw [decide_eq_true c1,decide_eq_false (show ¬ (h.size:Int)≤left - 2 by omega)];simp
 ·by_cases c2:d < 1
  ·rw [decide_eq_true c2,decide_eq_false (show ¬ (h.depth:Int)≤d - 1 by omega)];simp
  ·by_cases c3:left - 1 - 1 < 0
   ·rw [decide_eq_true c3,decide_eq_false (show ¬ (h.size:Int)≤left - 2 by omega)];simp
   ·by_cases c4:d - 1 < 1
    ·rw [decide_eq_true c4,decide_eq_false (show ¬ (h.depth:Int)≤d - 1 by omega)];simp
    ·rw [decide_eq_false c1,decide_eq_false c2,decide_eq_false c3,decide_eq_false c4]
     cases decide ((h.size:Int)≤left - 2) <;> cases decide ((r.size:Int)≤left - 2 - h.size) <;> cases decide ((h.depth:Int)≤d - 1) <;> cases decide ((r.depth:Int)≤d - 2) <;> rfl
theorem qa3.out {bb:Nat} {k:Fm} {left:Int} {ov:Bool} {w w':World} {e:Ending} (h:qa3 bb k left ov w e w'):Chg (fun x=>x=bb) w w' ∧ ∃ (g:Fm) (A:Option Addr) (c:Nat) (l:Int),e = .returned (.agg #[.int .i64 g.op,.string g.name,.int .i64 g.val,.int .i64 g.bound,.slice A g.args.length c]) ∧
  RdA w' (Nw w.heap.size w') g.args A c∧BB w' bb l ov∧l≤left ∧ -1≤l∧(ov=false→g=k∧l=left - k.size∧0≤l):=by
 obtain ⟨hc,v,g,l,rfl,⟨A,c,rfl,ha⟩,hr⟩:=h
 exact ⟨hc,g,A,c,l,rfl,ha,hr⟩
def BoundC (bb:Nat) (f g:Fm) (n:Nat):Prop := ∀ (D:Dom) (b o:Nat) (A:Option Addr) (c:Nat) (neg over:Bool) (left d:Int) (w:World),qcp w D b o f A c→(∀ k,D k→k≠bb)→BB w bb left over→(over=false→0≤left) → -1≤left→left≤1000000 → -1000000≤d→d≤1000000 →
 Calls Tryz.prog 111 #[.pointer (some ⟨bb,0,none⟩),.pointer (some ⟨b,o,none⟩),.int .i64 (n:Int),.bool neg,.int .i64 d] w (qa3 bb (qi3 (qbc neg f.op) n (kf neg g)) left (over || !qa4 (qi3 (qbc neg f.op) n (kf neg g)) left d) w)
theorem bounded_zero (bb:Nat) (f g:Fm) (hf:f.args = [g]) (ih:FormC bb g):BoundC bb f g 0:=by
 intro D b o A c neg over left d w h hD hB hl0 hl1 hl2 hd1 hd2
 have HH:=hid h
 have HB:=hid hB
 have hbl:=lt_of_block hB
 clear hB h
 go_enter Tryz.func111,Tryz.ntmps111
 go_upto_region 1 with (fail)
 refine qai fun W hW => ?_
 have HW:=hid (show Chg (fun x=>x=bb) w W by rw [hW];exact (Chg.refl _ w).alloc _)
 have HRES:=hid (show OB W w.heap.size 0 ⟨#[]⟩ 0 0 none 0 0 by rw [hW];exact at_new _ _ _ rfl)
 have hbw:=HB.out.below (show Below w.heap.size w W by rw [hW];go_grown)
 have hhw:=HH.out.keep (HW.out.keeps fun k _ hk hv=>hD k hk hv)
 have hsz:W.heap.size=w.heap.size+1:=by rw [hW];simp
 have hargs:=hhw.args
 rw [hf] at hargs
 obtain ⟨b1',o1,A1,c1,g',rfl,hx,hg⟩:=hargs.get (k:=0) (by simp)
 obtain rfl:g=g':=by have:=hx.out;simpa using this
 rw [Nat.zero_mul,Nat.add_zero] at hg
 have HC:=hid (ih D b1' o1 A1 c1 neg over left d W hg hD hbw hl0 hl1 hl2 (by omega) hd2)
 obtain ⟨q1,q2,c0,cc1,cc2,cc3,c4,q3⟩:=hhw
 have hlen:f.args.length=1:=by rw [hf];rfl
 rw [hlen] at c4
 have HSZ:=hid hsz
 clear hW hbw hargs hx q3 hf hlen hsz
 go_wp2_with (first | (go_at_call 73;refine HC.out.mono ?_;intro e w5 hs5;have hv5:=hs5.val;obtain ⟨g5,A5,c5,rfl⟩:=hv5;have ho5:=HRES.out.chg hs5.1 (by omega);obtain ⟨r0,r1,r2,r3,r4,rl⟩:=ho5.cells;have p0:=ho5.free 0;have p1:=ho5.free 1;have p2:=ho5.free 2;have p3:=ho5.free 3;have p4:=ho5.free 4))
 refine qag fun WE hWE => ?_
 have hoE:OB WE w.heap.size g5.op g5.name g5.val g5.bound A5 g5.args.length c5:=by rw [hWE];exact qaq ho5
 have hcE:Chg (fun x=>x=w.heap.size) w5 WE:=by rw [hWE];exact qaj _ _ _ _ _ _ _
 obtain ⟨y0,y1,y2,y3,y4,yl⟩:=hoE.cells
 clear hWE r0 r1 r2 r3 r4 p0 p1 p2 p3 p4
 exact bodyPost_ret (v := .agg #[.int .i64 g5.op,.string g5.name,.int .i64 g5.val,.int .i64 g5.bound,.slice A5 g5.args.length c5]) (by simp [results,Tryz.results111,go_sem,y0,y1,y2,y3,y4]) rfl
  (qa3.wrap hs5 HW.out (Nat.le_refl _) (by have:=HSZ.out;omega) hbl hcE)
theorem bounded_succ (bb:Nat) (f g:Fm) (n:Nat) (hf:f.args = [g]) (ih:FormC bb g) (ihn:BoundC bb f g n) (hn:n < 1000):BoundC bb f g (n+1):=by
 intro D b o A c neg over left d w h hD hB hl0 hl1 hl2 hd1 hd2
 have HH:=hid h
 have HD:=hid hD
 have HB:=hid hB
 have hbl:=lt_of_block hB
 have hn0:(((n+1:Nat):Int) == 0)=false:=by rw [beq_eq_false_iff_ne];omega
 clear hB h
 go_enter Tryz.func111,Tryz.ntmps111
 go_upto_region 1 with (fail)
 refine qai fun W hW => ?_
 have HW:=hid (show Chg (fun x=>x=bb) w W by rw [hW];exact (Chg.refl _ w).alloc _)
 have HRES:=hid (show OB W w.heap.size 0 ⟨#[]⟩ 0 0 none 0 0 by rw [hW];exact at_new _ _ _ rfl)
 have HBW:=hid (HB.out.below (show Below w.heap.size w W by rw [hW];go_grown))
 have HSZ:=hid (show W.heap.size=w.heap.size+1 by rw [hW];simp)
 clear hW
 obtain ⟨rb,hrb⟩ : ∃ rb,rb=w.heap.size:=⟨_,rfl⟩
 have HRB:=hid hrb
 have hrne : ¬ rb=bb:=by omega
 rw [←hrb] at HRES ⊢
 clear hrb
 have b1:=qaa HBW.out (i:=1) rfl
 obtain ⟨q1,q2,c0,cc1,cc2,cc3,c4,q3⟩:=HH.out.keep (HW.out.keeps fun k _ hk hv=>HD.out k hk hv)
 clear q3 cc1 cc2 cc3 c4 c0
 have hwd:=IntWalk.i64_in (d - 1) (by omega)
 have hwd2:=IntWalk.i64_in (d - 2) (by omega)
 cases over
 rotate_left
 ·obtain ⟨r0,r1,r2,r3,r4,rl⟩:=HRES.out.cells
  have p0:=HRES.out.free 0
  have p1:=HRES.out.free 1
  have p2:=HRES.out.free 2
  have p3:=HRES.out.free 3
  have p4:=HRES.out.free 4
  go_wp2_with fail
  refine qag fun WE hWE => ?_
  have hoE:OB WE rb 0 ⟨#[]⟩ 0 0 none 0 0:=by rw [hWE];exact qaq HRES.out
  have hcE:Chg (fun x=>x=rb) W WE:=by rw [hWE];exact qaj _ _ _ _ _ _ _
  obtain ⟨y0,y1,y2,y3,y4,yl⟩:=hoE.cells
  clear hWE r0 r1 r2 r3 r4 p0 p1 p2 p3 p4
  exact bodyPost_ret (v := .agg #[.int .i64 0,.string ⟨#[]⟩,.int .i64 0,.int .i64 0,.slice none 0 0]) (by simp [results,Tryz.results111,go_sem,y0,y1,y2,y3,y4]) rfl
   (by rw [Bool.true_or];exact qa3.zero (rb:=0) (left':=left) (HW.out.trans' hcE fun x hx h=>absurd (show x=rb from h) (by have:=HRB.out;omega)) (BB.chg HBW.out hcE (fun h=>hrne h.symm)) (by omega) hl1)
 ·have hl0':=hl0 rfl
  clear hl0
  have HREP:=hid (rep_fits (p:=qbc neg f.op) (kf neg g) (qi3 (qbc neg f.op) n (kf neg g)) left d)
  have HT:=hid (take_any bb left d false W HBW.out (by omega) (by omega))
  obtain ⟨t1,ht1⟩ : ∃ t1,qb4 left false d=t1:=⟨_,rfl⟩
  rw [ht1] at HT HREP
  have HT1:=hid ht1
  clear ht1
  cases t1
  rotate_left
  ·go_wp2_with (first | (go_at_call 110;(with_reducible refine HT.out.mono ?_);rintro e w1 ⟨rfl,hc1,hb1⟩;have ho5:=HRES.out.chg hc1 hrne;obtain ⟨r0,r1,r2,r3,r4,rl⟩:=ho5.cells;have p0:=ho5.free 0;have p1:=ho5.free 1;have p2:=ho5.free 2;have p3:=ho5.free 3;have p4:=ho5.free 4))
   refine qag fun WE hWE => ?_
   have hoE:OB WE rb 0 ⟨#[]⟩ 0 0 none 0 0:=by rw [hWE];exact qaq ho5
   have hcE:Chg (fun x=>x=rb) w1 WE:=by rw [hWE];exact qaj _ _ _ _ _ _ _
   obtain ⟨y0,y1,y2,y3,y4,yl⟩:=hoE.cells
   clear hWE r0 r1 r2 r3 r4 p0 p1 p2 p3 p4
   exact bodyPost_ret (v := .agg #[.int .i64 0,.string ⟨#[]⟩,.int .i64 0,.int .i64 0,.slice none 0 0]) (by simp [results,Tryz.results111,go_sem,y0,y1,y2,y3,y4]) rfl
    (by
     have hov:(false || !qa4 (qi3 (qbc neg f.op) (n+1) (kf neg g)) left d)=true:=by
      rw [Bool.false_or];show (!qa4 (opF (qbc neg f.op) [kf neg g,opF 8 [qi3 (qbc neg f.op) n (kf neg g)]]) left d)=true
      rw [HREP.out];simp
     rw [hov]
     exact qa3.zero (rb:=0) (left':=left - 1) ((HW.out.trans hc1).trans' hcE fun x hx h=>absurd (show x=rb from h) (by have:=HRB.out;omega)) (BB.chg hb1 hcE (fun h=>hrne h.symm)) (by omega) (by omega))
  ·have HL1:=hid (show 1≤left∧1≤d by have:=HT1.out;unfold qb4 at this;simp at this;omega)
   have HT2:=hid (fun (V:World) (hV:BB V bb (left - 1) false)=>take_any bb (left - 1) (d - 1) false V hV (by omega) (by omega))
   obtain ⟨t2,ht2⟩ : ∃ t2,qb4 (left - 1) false (d - 1)=t2:=⟨_,rfl⟩
   rw [ht2] at HT2 HREP
   have HTT2:=hid ht2
   clear ht2
   cases t2
   rotate_left
   ·go_wp2_with (first | (go_at_call 110;(with_reducible refine HT.out.mono ?_);rintro e w1 ⟨rfl,hc1,hb1⟩) | (go_at_call 110;(with_reducible refine (HT2.out _ hb1).mono ?_);rintro e w2 ⟨rfl,hc2,hb2⟩;have ho5:=(HRES.out.chg hc1 hrne).chg hc2 hrne;obtain ⟨r0,r1,r2,r3,r4,rl⟩:=ho5.cells;have p0:=ho5.free 0;have p1:=ho5.free 1;have p2:=ho5.free 2;have p3:=ho5.free 3;have p4:=ho5.free 4))
    refine qag fun WE hWE => ?_
    have hoE:OB WE rb 0 ⟨#[]⟩ 0 0 none 0 0:=by rw [hWE];exact qaq ho5
    have hcE:Chg (fun x=>x=rb) w2 WE:=by rw [hWE];exact qaj _ _ _ _ _ _ _
    obtain ⟨y0,y1,y2,y3,y4,yl⟩:=hoE.cells
    clear hWE r0 r1 r2 r3 r4 p0 p1 p2 p3 p4
    exact bodyPost_ret (v := .agg #[.int .i64 0,.string ⟨#[]⟩,.int .i64 0,.int .i64 0,.slice none 0 0]) (by simp [results,Tryz.results111,go_sem,y0,y1,y2,y3,y4]) rfl
     (by
      have hov:(false || !qa4 (qi3 (qbc neg f.op) (n+1) (kf neg g)) left d)=true:=by
       rw [Bool.false_or];show (!qa4 (opF (qbc neg f.op) [kf neg g,opF 8 [qi3 (qbc neg f.op) n (kf neg g)]]) left d)=true
       rw [HREP.out];simp
      rw [hov]
      exact qa3.zero (rb:=0) (left':=left - 1 - 1) (((HW.out.trans hc1).trans hc2).trans' hcE fun x hx h=>absurd (show x=rb from h) (by have:=HRB.out;omega)) (BB.chg hb2 hcE (fun h=>hrne h.symm)) (by omega) (by have:=HL1.out;omega))
   ·go_upto_region 5 with (first | (go_at_call 110;(with_reducible refine HT.out.mono ?_);rintro e w1 ⟨rfl,hc1,hb1⟩) | (go_at_call 110;(with_reducible refine (HT2.out _ hb1).mono ?_);rintro e w2 ⟨rfl,hc2,hb2⟩))
    have HC2:=hid ((HW.out.trans hc1).trans hc2)
    have HO2:=hid ((HRES.out.chg hc1 hrne).chg hc2 hrne)
    have HB2:=hid (show BB w2 bb (left - 2) false by have:=hb2;rwa [show left - 1 - 1=left - 2 by omega] at this)
    obtain ⟨q1,q2,c0,cc1,cc2,cc3,c4,q3⟩:=HH.out.keep (HC2.out.keeps fun k _ hk hv=>HD.out k hk hv)
    clear hc1 hc2 hb1 hb2 q3 cc1 cc2 cc3 b1 HT HT2
    obtain ⟨ob,hob⟩ : ∃ ob,ob=w2.heap.size:=⟨_,rfl⟩
    have HOB:=hid hob
    clear hob
    go_upto_region 6 with (first | (go_at_call 112;(with_reducible refine (full_any f.op _).mono ?_);rintro e w9 ⟨rfl,hw9⟩;rw [hw9];clear hw9))
    have hob:=HOB.out
    rw [←hob]
    refine qai fun W6 hW6 => ?_
    have HC6:=hid (show Chg (fun x=>x=bb) w W6 by rw [hW6];exact HC2.out.alloc _)
    have HO6:=hid (show OB W6 ob (fullZ f.op) ⟨#[]⟩ 0 0 none 0 0 by rw [hW6];exact at_new _ _ _ hob)
    have HR6:=hid (show OB W6 rb 0 ⟨#[]⟩ 0 0 none 0 0 by rw [hW6];exact HO2.out.alloc _)
    have HB6:=hid (show BB W6 bb (left - 2) false by rw [hW6];exact (qan _ _ _ (lt_of_block HB2.out)).trans HB2.out)
    have hrob:rb < ob:=by rw [hob];exact lt_of_block HO2.out
    have hwob:w.heap.size < ob:=by have:=HRB.out;omega
    clear hW6 hob q1 q2 c0 c4
    obtain ⟨x0,x1,x2,x3,x4,xl⟩:=HO6.out.cells
    have y0:=HO6.out.free 0
    rename_i K8 hK8 K7 hK7
    refine qdr K8 (List.range' 49 5) (fun us W'=>Chg (fun x=>x=bb) w W'∧OB W' ob (qbc neg f.op) ⟨#[]⟩ 0 0 none 0 0∧BB W' bb (left - 2) false∧OB W' rb 0 ⟨#[]⟩ 0 0 none 0 0) ?_ ?_
    rotate_left
    ·intro HTAIL
     have HTL:=hid HTAIL
     clear HTAIL hK8
     cases neg
     ·go_wp2_with fail
      refine qak HTL.out ⟨HC6.out,HO6.out,HB6.out,HR6.out⟩ ?_
      kernel_rfl
     ·go_wp2_with (first | (go_at_call 113;refine (dual_any _ _).mono ?_;rintro e w9 ⟨rfl,hw9⟩;rw [hw9];clear hw9))
      have hcs:Chg (fun x=>x=ob) W6 (W6.setCell ⟨ob,0,none⟩ (.int .i64 (dualZ (fullZ f.op)))):=(Chg.refl (fun x=>x=ob) W6).set ⟨ob,0,none⟩ _ fun _=>rfl
      refine qak HTL.out ⟨HC6.out.trans' hcs fun x hx h=>absurd (show x=ob from h) (by omega),?_,HB6.out.chg hcs (by omega),HR6.out.chg hcs (by omega)⟩ ?_
      ·unfold OB
       rw [qae HO6.out];rfl
      ·kernel_rfl
    ·rintro us3 W8 ⟨hc8,ho8,hb8,hr8⟩
     apply hK8
     simp only [qdu,List.range',List.range'_succ,Act.put,List.setIfInBounds_toArray,List.set_cons_zero,List.set_cons_succ]
     clear hK8 hK7 K8 K7 x0 x1 x2 x3 x4 xl y0
     have HC8:=hid hc8
     have HO8:=hid ho8
     have HB8:=hid hb8
     have HR8:=hid hr8
     have hhw:=HH.out.keep (hc8.keeps fun k _ hk hv=>HD.out k hk hv)
     have hargs:=hhw.args
     rw [hf] at hargs
     obtain ⟨b1',o1,A1,c1,g',rfl,hx,hg⟩:=hargs.get (k:=0) (by simp)
     obtain rfl:g=g':=by have:=hx.out;simpa using this
     rw [Nat.zero_mul,Nat.add_zero] at hg
     have HL2:=hid (show 2≤left∧2≤d by have:=HTT2.out;unfold qb4 at this;simp at this;omega)
     have HC:=hid (ih D b1' o1 A1 c1 neg false (left - 2) (d - 1) W8 hg HD.out hb8 (fun _=>by have:=HL2.out;omega) (by have:=HL2.out;omega) (by omega) (by have:=HL2.out;omega) (by omega))
     obtain ⟨q1,q2,c0,cc1,cc2,cc3,c4,q3⟩:=hhw
     have hlen:f.args.length=1:=by rw [hf];rfl
     rw [hlen] at c4
     have HLEN:=hid hlen
     clear hc8 ho8 hb8 hr8 hargs hx hg q3 cc1 cc2 cc3 c0 hlen
     go_upto_region 9 with (first | (go_at_call 73;(with_reducible refine HC.out.mono ?_);intro e w9 hs9;obtain ⟨hc9,g9,A9,c9,l9,rfl,ha9,hb9,hl9,hm9,hov9⟩:=hs9.out;clear hs9))
     refine qai fun W9 hW9 => ?_
     have hc9w:Chg (fun x=>x=bb) w9 W9:=by rw [hW9];exact (Chg.refl _ w9).alloc _
     have HB12:=hid (show OB W9 w9.heap.size g9.op g9.name g9.val g9.bound A9 g9.args.length c9 by rw [hW9];exact at_new _ _ _ rfl)
     have hb9':BB W9 bb l9 (false || !qa4 (kf neg g) (left - 2) (d - 1)):=by rw [hW9];exact (qan _ _ _ (lt_of_block hb9)).trans hb9
     have hlt12:bb < w9.heap.size:=lt_of_block hb9
     have HC9:=hid ((HC8.out.trans hc9).trans hc9w)
     have HO9:=hid ((HO8.out.chg hc9 (by omega)).chg hc9w (by omega))
     have HR9:=hid ((HR8.out.chg hc9 (by omega)).chg hc9w (by omega))
     have HA9:=hid (show RdA W9 (Nw W8.heap.size W9) g9.args A9 c9 from ha9.nw (V:=fun _=>False) (by rw [hW9];exact (Chg.refl _ w9).alloc _) fun _ h=>h.elim)
     have hsz9:W9.heap.size=w9.heap.size+1:=by rw [hW9];simp
     have hhw:=HH.out.keep (HC9.out.keeps fun k _ hk hv=>HD.out k hk hv)
     have HC:=hid (ihn D b o (some ⟨b1',o1,none⟩) c neg (false || !qa4 (kf neg g) (left - 2) (d - 1)) l9 (d - 2) W9 hhw HD.out hb9' (fun h=>(hov9 h).2.2) hm9 (by omega) (by have:=HL2.out;omega) (by omega))
     obtain ⟨b12,hb12⟩ : ∃ b12,b12=w9.heap.size:=⟨_,rfl⟩
     rw [←hb12] at HB12 hsz9 ⊢
     have hl12:ob < b12:=by rw [hb12];exact lt_of_block (HO8.out.chg hc9 (by omega))
     have HOV9:=hid hov9
     have HLL9:=hid hl9
     have hwn:IntKind.i64.wrap (((n+1:Nat):Int) - 1)=(n:Int):=by rw [show ((n+1:Nat):Int) - 1=(n:Int) by omega];exact IntWalk.i64_in _ (by omega)
     have hlw8:w.heap.size≤W8.heap.size:=HC8.out.size
     have hlW8:ob < W8.heap.size:=lt_of_block HO8.out
     have hW8b:W8.heap.size≤b12:=by rw [hb12];exact hc9.size
     clear hW9 hc9 ha9 hb9 hl9 hm9 hov9 hc9w hb9' hhw hb12 q1 q2 c4 hlt12
     go_upto_region 10 with (first | (go_at_call 111;(with_reducible refine HC.out.mono ?_);intro e w10 hs10;obtain ⟨hc10,g10,A10,c10,l10,rfl,ha10,hb10,hl10,hm10,hov10⟩:=hs10.out;clear hs10))
     trace "R10"
     refine qai fun W10 hW10 => ?_
     have hc10w:Chg (fun x=>x=bb) w10 W10:=by rw [hW10];exact (Chg.refl _ w10).alloc _
     have HB13:=hid (show OB W10 w10.heap.size g10.op g10.name g10.val g10.bound A10 g10.args.length c10 by rw [hW10];exact at_new _ _ _ rfl)
     have HC10:=hid ((HC9.out.trans hc10).trans hc10w)
     have HO10:=hid ((HO9.out.chg hc10 (by omega)).chg hc10w (by omega))
     have HR10:=hid ((HR9.out.chg hc10 (by omega)).chg hc10w (by omega))
     have HB12':=hid ((HB12.out.chg hc10 (by omega)).chg hc10w (by omega))
     have HB10:=hid (show BB W10 bb l10 ((false || !qa4 (kf neg g) (left - 2) (d - 1)) || !qa4 (qi3 (qbc neg f.op) n (kf neg g)) l9 (d - 2)) by rw [hW10];exact (qan _ _ _ (lt_of_block hb10)).trans hb10)
     have hb8ob : ∀ x,x=bb→x < W8.heap.size:=fun x h=>by omega
     have HA9':=hid ((HA9.out.nw hc10 hb8ob).nw hc10w hb8ob)
     have HA10:=hid (show RdA W10 (Nw W9.heap.size W10) g10.args A10 c10 from ha10.nw (V:=fun _=>False) (by rw [hW10];exact (Chg.refl _ w10).alloc _) fun _ h=>h.elim)
     have hsz10:W10.heap.size=w10.heap.size+1:=by rw [hW10];simp
     have hl910:W9.heap.size≤w10.heap.size:=hc10.size
     obtain ⟨b13,hb13⟩ : ∃ b13,b13=w10.heap.size:=⟨_,rfl⟩
     rw [←hb13] at HB13 hsz10 hl910 ⊢
     have HSZ10:=hid hsz10
     have HSZ9:=hid hsz9
     clear hW10 hc10 hc10w hb10 ha10 hb13 hsz10 hsz9
     obtain ⟨x0,x1,x2,x3,x4,xl⟩:=HB12'.out.cells
     obtain ⟨z0,z1,z2,z3,z4,zl⟩:=HB13.out.cells
     obtain ⟨u0,u1,u2,u3,u4,ul⟩:=HO10.out.cells
     have v4:=HO10.out.free 4
     go_upto_region 11 with (fail)
     refine qai fun W11 hW11 => ?_
     have hob10:OB (W10.setCell ⟨ob,4,none⟩ (.slice (some ⟨W10.heap.size+1,0,none⟩) 2 2)) ob (qbc neg f.op) ⟨#[]⟩ 0 0 (some ⟨W10.heap.size+1,0,none⟩) 2 2:=by
      unfold OB
      rw [qae HO10.out];rfl
     have hob11:OB W11 ob (qbc neg f.op) ⟨#[]⟩ 0 0 (some ⟨W10.heap.size+1,0,none⟩) 2 2:=by
      rw [hW11];exact (hob10.alloc _).alloc _
     have hcs:Chg (fun x=>x=ob) W10 W11:=by
      rw [hW11]
      exact (((Chg.refl (fun x=>x=ob) W10).set ⟨ob,4,none⟩ _ fun _=>rfl).alloc _).alloc _
     have hn1:W11.heap[W10.heap.size]? = some (.cells #[.int .i64 g10.op,.string g10.name,.int .i64 g10.val,.int .i64 g10.bound,.slice A10 g10.args.length c10] 24 (0,0)):=by
      rw [hW11,qan _ _ _ (by simp),at_new _ _ _ (by simp)]
     have hn2:W11.heap[W10.heap.size+1]? = some (.cells #[.int .i64 g9.op,.string g9.name,.int .i64 g9.val,.int .i64 g9.bound,.slice A9 g9.args.length c9,.int .i64 8,.string ⟨#[]⟩,.int .i64 0,.int .i64 0,.slice (some ⟨W10.heap.size,0,none⟩) 1 1] 24 (0,0)):=by
      rw [hW11,at_new _ _ _ (by simp)]
     have hobW : ∀ x,x=ob→x < W8.heap.size:=fun x h=>by omega
     have ha9:=HA9'.out.nw hcs hobW
     have ha10:=(HA10.out.nw hcs fun x h=>by have:=HSZ9.out;have:x=ob:=h;omega).base (base':=W8.heap.size) (by have:=HSZ9.out;omega)
     have hrd10:RdA W11 (Nw W8.heap.size W11) [g10] (some ⟨W10.heap.size,0,none⟩) 1:=RdA.lit (sl := [(A10,c10)]) hn1 rfl rfl (by have:=HSZ10.out;have:=HSZ9.out;omega) rfl (by omega) fun i hi=>by
      obtain rfl:i=0:=by simpa using hi
      exact ha10
     have HRD:=hid (show RdA W11 (Nw W8.heap.size W11) [g9,opF 8 [g10]] (some ⟨W10.heap.size+1,0,none⟩) 2 from RdA.lit (sl := [(A9,c9),(some ⟨W10.heap.size,0,none⟩,1)]) hn2 rfl rfl (by have:=HSZ10.out;have:=HSZ9.out;omega) rfl (by omega) fun i hi=>by
      match i,hi with
      | 0,_=>exact ha9
      | 1,_=>exact hrd10
      | i+2,hi=>exact absurd hi (by simp))
     have HC11:=hid (HC10.out.trans' hcs fun x hx h=>absurd (show x=ob from h) (by omega))
     have HB11:=hid (HB10.out.chg hcs (by omega))
     have HOV10:=hid hov10
     have hrb8:rb < W8.heap.size:=by omega
     have HR11:=hid (HR10.out.chg hcs (by omega))
     clear hW11 hcs hn1 hn2 ha9 ha10 hrd10 hob10 hov10 x0 x1 x2 x3 x4 xl z0 z1 z2 z3 z4 zl u0 u1 u2 u3 u4 v4
     obtain ⟨u0,u1,u2,u3,u4,ul'⟩:=hob11.cells
     obtain ⟨r0,r1,r2,r3,r4,rl⟩:=HR11.out.cells
     have p0:=HR11.out.free 0
     have p1:=HR11.out.free 1
     have p2:=HR11.out.free 2
     have p3:=HR11.out.free 3
     have p4:=HR11.out.free 4
     go_wp2_with fail
     refine qag fun WE hWE => ?_
     have hoE:OB WE rb (qbc neg f.op) ⟨#[]⟩ 0 0 (some ⟨W10.heap.size+1,0,none⟩) 2 2:=by rw [hWE];exact qaq HR11.out
     have hcE:Chg (fun x=>x=rb) W11 WE:=by rw [hWE];exact qaj _ _ _ _ _ _ _
     obtain ⟨y0,y1,y2,y3,y4,yl⟩:=hoE.cells
     clear hWE r0 r1 r2 r3 r4 p0 p1 p2 p3 p4 u0 u1 u2 u3 u4
     have hfin:qa3 bb (qi3 (qbc neg f.op) (n+1) (kf neg g)) left (false || !qa4 (qi3 (qbc neg f.op) (n+1) (kf neg g)) left d) w (.returned (.agg #[.int .i64 (qbc neg f.op),.string ⟨#[]⟩,.int .i64 0,.int .i64 0,.slice (some ⟨W10.heap.size+1,0,none⟩) 2 2])) WE:=by
      have hov:(false || !qa4 (qi3 (qbc neg f.op) (n+1) (kf neg g)) left d)=((!qa4 (kf neg g) (left - 2) (d - 1)) || !qa4 (qi3 (qbc neg f.op) n (kf neg g)) (left - 2 - (kf neg g).size) (d - 2)):=by
       rw [Bool.false_or]
       show (!qa4 (opF (qbc neg f.op) [kf neg g,opF 8 [qi3 (qbc neg f.op) n (kf neg g)]]) left d)=_
       rw [HREP.out];rfl
      have hov2:(((false || !qa4 (kf neg g) (left - 2) (d - 1)) || !qa4 (qi3 (qbc neg f.op) n (kf neg g)) l9 (d - 2)))=((!qa4 (kf neg g) (left - 2) (d - 1)) || !qa4 (qi3 (qbc neg f.op) n (kf neg g)) (left - 2 - (kf neg g).size) (d - 2)):=by
       rw [Bool.false_or]
       cases hq:qa4 (kf neg g) (left - 2) (d - 1)
       ·rfl
       ·rw [(HOV9.out (by rw [hq];rfl)).2.1]
      rw [hov]
      have hbb11:BB WE bb l10 ((!qa4 (kf neg g) (left - 2) (d - 1)) || !qa4 (qi3 (qbc neg f.op) n (kf neg g)) (left - 2 - (kf neg g).size) (d - 2)):=by
       rw [←hov2]
       exact HB11.out.chg hcE (fun h=>hrne h.symm)
      refine ⟨HC11.out.trans' hcE fun x hx h=>absurd (show x=rb from h) (by have:=HRB.out;omega),_,opF (qbc neg f.op) [g9,opF 8 [g10]],l10,rfl,⟨_,2,rfl,(HRD.out.nw hcE fun x h=>by have:x=rb:=h;omega).base hlw8⟩,hbb11,by have:=HLL9.out;omega,hm10,fun h => ?_⟩
      rw [←hov2] at h
      have h9:(false || !qa4 (kf neg g) (left - 2) (d - 1))=false:=by
       cases hq:(false || !qa4 (kf neg g) (left - 2) (d - 1))
       ·rfl
       ·rw [hq] at h;cases h
      obtain ⟨e1,e2,e3⟩:=HOV9.out h9
      obtain ⟨e4,e5,e6⟩:=HOV10.out h
      refine ⟨by rw [e1,e4];rfl,?_,e6⟩
      have hs:(qi3 (qbc neg f.op) (n+1) (kf neg g)).size=2+(kf neg g).size+(qi3 (qbc neg f.op) n (kf neg g)).size:=by
       show (opF (qbc neg f.op) [kf neg g,opF 8 [qi3 (qbc neg f.op) n (kf neg g)]]).size=_
       rw [Fm.size_eq]
       have e8:(opF 8 [qi3 (qbc neg f.op) n (kf neg g)]).size=1+(qi3 (qbc neg f.op) n (kf neg g)).size:=by rw [Fm.size_eq];simp [opF,Fm.args,sizes]
       simp only [opF,Fm.args,sizes] at e8 ⊢
       rw [e8];omega
      rw [hs];omega
     exact bodyPost_ret (v := .agg #[.int .i64 (qbc neg f.op),.string ⟨#[]⟩,.int .i64 0,.int .i64 0,.slice (some ⟨W10.heap.size+1,0,none⟩) 2 2]) (by simp [results,Tryz.results111,go_sem,y0,y1,y2,y3,y4]) rfl
      hfin
end Go.Proofs.YtdpbgcmfeajigaaGreatDoor
