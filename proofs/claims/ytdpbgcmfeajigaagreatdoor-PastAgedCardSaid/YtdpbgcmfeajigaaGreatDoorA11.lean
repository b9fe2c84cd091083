/-
  Walk of lone.
-/
import Derived.Test.YtdpbgcmfeajigaaGreatDoorA10
set_option linter.unusedSimpArgs false
set_option linter.unusedVariables false
set_option maxHeartbeats 8000000
set_option maxRecDepth 100000
namespace Go.Proofs.YtdpbgcmfeajigaaGreatDoor
open Go.RowKit Go.Shelf
attribute [local go_sem] ak jR
theorem je:(Tryz.prog.info? 24).map (λ i=>(i.zero,i.size,i.bytes))=some (some (.agg #[.int .i64 0,.string ⟨#[]⟩,.int .i64 0,.int .i64 0,.slice none 0 0]),5,64):=by kernel_rfl
theorem Rd.Cj {w:World}{D:Dom}{cs:Array Value}{t:TypeId}{n k size:Nat}(hk:k=w.heap.size)(hD:D k)(hs:cs.size=n*size)(hn:n<=140737488355328) :
  Rd (w.alloc (.cells cs t)).drew D size (some ⟨k,0,none⟩) n n cs.toList:=(Rd.fresh hk hD hs hn).keep (Keeps.refl _ _).drew
theorem kW {w:World}{base n size c:Nat}{A:Option Addr}{e:TypeId}{xs:List Value}(h:w.ownsRow base e size (.slice A n c) n xs)(hn:0<n):∃g,A=some ⟨g,0,none⟩/\base<=g:=by
 rcases h.2 with⟨_,h0⟩|⟨g,cap,cur,hv,hb,_⟩
 ·omega
 ·injection hv with hv
  exact⟨g,hv,hb⟩
theorem lN {w:World}{base n size g c:Nat}{e:TypeId}{xs:List Value}(h:w.ownsRow base e size (.slice (some ⟨g,0,none⟩) n c) n xs){j:Nat}{u0 u1 u2 u3 u4:Value}(hu:(xs.drop j).take 5 = [u0,u1,u2,u3,u4]) :
  w.cell? ⟨g,j,none⟩=some u0/\w.cell? ⟨g,j+1,none⟩=some u1/\w.cell? ⟨g,j+2,none⟩=some u2/\w.cell? ⟨g,j+3,none⟩=some u3/\w.cell? ⟨g,j+4,none⟩=some u4 /\
  w.frozen? ⟨g,j,none⟩=false/\w.frozen? ⟨g,j+1,none⟩=false/\w.frozen? ⟨g,j+2,none⟩=false/\w.frozen? ⟨g,j+3,none⟩=false/\w.frozen? ⟨g,j+4,none⟩=false/\g<w.heap.size:=by
 have key:∀i u,i<5->([u0,u1,u2,u3,u4]:List Value)[i]?=some u->xs[j+i]?=some u := λ i u hi hu'=>by
  rw[<-hu,List.getElem?_take_of_lt hi,List.getElem?_drop]at hu';exact hu'
 have h0:=nK h (key 0 _ (by omega) rfl);have h1:=nK h (key 1 _ (by omega) rfl);have h2:=nK h (key 2 _ (by omega) rfl);have h3:=nK h (key 3 _ (by omega) rfl);have h4:=nK h (key 4 _ (by omega) rfl);exact⟨h0.1,h1.1,h2.1,h3.1,h4.1,h0.2.1,h1.2.1,h2.2.1,h3.2.1,h4.2.1,h0.2.2⟩
def OB (w:World)(ob:Nat)(o:Int)(n:ByteArray)(v b:Int)(A:Option Addr)(k c:Nat):Prop:=w.heap[ob]?=some (.cells #[.int .i64 o,.string n,.int .i64 v,.int .i64 b,.slice A k c] 24 (0,0))
theorem OB.eu {V:Dom}{w w':World}{ob:Nat}{o:Int}{n:ByteArray}{v b:Int}{A:Option Addr}{k c:Nat}(h:OB w ob o n v b A k c)(hc:aH V w w')(hv:¬V ob):OB w' ob o n v b A k c:=hc.box h hv
theorem OB.below {w w':World}{ob:Nat}{o:Int}{n:ByteArray}{v b:Int}{A:Option Addr}{k c:Nat}(h:OB w ob o n v b A k c)(hb:Below w.heap.size w w'):OB w' ob o n v b A k c:=(hb.block _ (lt_of_block h)).trans h
theorem OB.grown {w w':World}{ob:Nat}{o:Int}{n:ByteArray}{v b:Int}{A:Option Addr}{k c:Nat}{row:Option Nat}(h:OB w ob o n v b A k c)(hg:w.grownBy w' row)(hr:some ob≠row):OB w' ob o n v b A k c:=(hg.block _ (lt_of_block h) hr).trans h
def qc:List Value := [.int .i64 0,.string ⟨#[]⟩,.int .i64 0,.int .i64 0,.slice none 0 0]
def wY (o v:Int):Int:=if o=17 then 1 else v
def mP (o:Int):Int:=if o=9\/o=16 then 1 else 2
def EW (bb ob:Nat)(o:Int)(n:ByteArray)(v left:Int)(tk:Bool)(w w':World):Prop :=
 aH (λ k=>k=bb\/k=ob) w w'/\BB w' bb (left-1) tk /\
 (tk=true->OB w' ob o n v 0 none 0 0) /\
 (tk=false->∃A c,OB w' ob o n (wY o v) 0 A 1 c/\bT w' w.heap.size A c [kV (mP o) []] [(none,0)])
theorem BG {w:World}(D:Dom):∀i,i < [dV].length->bZ w D ([dV].getD i default).args (([((none:Option Addr),0)]).getD i (none,0)).1 (([((none:Option Addr),0)]).getD i (none,0)).2
 | 0,_=>bZ.nil _ _ _ (Nat.zero_le _)
 | i+1,h=>absurd h (by simp)
theorem yx {bb ob g5 c5:Nat}{o x v':Int}{n:ByteArray}{v left:Int}{w w5:World}(h9:mP o=x)(h17:wY o v=v')(hne:bb≠ob)(hob:ob<w.heap.size)(hbl:bb<w.heap.size)(hc:aH (λ k=>k=bb\/k=ob) w w5)
  (hb:BB w5 bb (left-1) false) (ho:OB w5 ob o n v' 0 none 0 0) (hr:bT w5 w.heap.size (some ⟨g5,0,none⟩) c5 [dV] [(none,0)]) :
  EW bb ob o n v left false w ((((((w5.setCell ⟨g5,0,none⟩ (.int .i64 x)).setCell ⟨g5,1,none⟩ (.string ⟨#[]⟩)).setCell ⟨g5,2,none⟩ (.int .i64 0)).setCell ⟨g5,3,none⟩ (.int .i64 0)).setCell ⟨g5,4,none⟩ (.slice none 0 0)).setCell ⟨ob,4,none⟩ (.slice (some ⟨g5,0,none⟩) 1 c5)):=by
 subst h9 h17;have hg:w.heap.size<=g5:=(hr.ge rfl).1;have h1:=hr.set (i:=0) (by simp) (kV (mP o) []) none 0 (bZ.nil _ _ _ (by omega))
 have e1:∀y:World,aH (λ k=>k=g5) y (((((y.setCell ⟨g5,0,none⟩ (.int .i64 (mP o))).setCell ⟨g5,1,none⟩ (.string ⟨#[]⟩)).setCell ⟨g5,2,none⟩ (.int .i64 0)).setCell ⟨g5,3,none⟩ (.int .i64 0)).setCell ⟨g5,4,none⟩ (.slice none 0 0)) := λ y =>
  (((((aH.refl (λ k=>k=g5) y).set ⟨g5,0,none⟩ _ λ _=>rfl).set ⟨g5,1,none⟩ _ λ _=>rfl).set ⟨g5,2,none⟩ _ λ _=>rfl).set ⟨g5,3,none⟩ _ λ _=>rfl).set ⟨g5,4,none⟩ _ λ _=>rfl
 obtain⟨W,hW⟩:∃W,W=(((((w5.setCell ⟨g5,0,none⟩ (.int .i64 (mP o))).setCell ⟨g5,1,none⟩ (.string ⟨#[]⟩)).setCell ⟨g5,2,none⟩ (.int .i64 0)).setCell ⟨g5,3,none⟩ (.int .i64 0)).setCell ⟨g5,4,none⟩ (.slice none 0 0)):=⟨_,rfl⟩;have h2:bT W w.heap.size (some ⟨g5,0,none⟩) c5 [kV (mP o) []] [(none,0)]:=by rw[hW];exact h1
 have h3:aH (λ k=>k=g5) w5 W:=by rw[hW];exact e1 w5
 rw[<-hW];have h4:aH (λ k=>k=ob) W (W.setCell ⟨ob,4,none⟩ (.slice (some ⟨g5,0,none⟩) 1 c5)):=(aH.refl (λ k=>k=ob) W).set ⟨ob,4,none⟩ _ λ _=>rfl;have ho':=ho.eu h3 (by omega);refine⟨(hc.trans' h3 λ k hk h=>by omega).trans (h4.mono λ k _ h => .inr h),(hb.eu h3 (by omega)).eu h4 hne,(λ h=>by cases h),λ _=>⟨_,_,?_,h2.eu h4 λ k h=>by omega⟩⟩;unfold OB;rw[aB ho'];rfl
theorem yA {bb ob g5 c5:Nat}{o x v':Int}{n:ByteArray}{v left:Int}{w w5:World}(h9:mP o=x)(h17:wY o v=v')(hne:bb≠ob)(hob:ob<w.heap.size)(hbl:bb<w.heap.size)(hc:aH (λ k=>k=bb\/k=ob) w w5)
  (hb:BB w5 bb (left-1) false) (ho:OB w5 ob o n v' 0 none 0 0) (hr:bT w5 w.heap.size (some ⟨g5,0,none⟩) c5 [dV] [(none,0)]) :
  EW bb ob o n v left false w ((((((w5.setCell ⟨ob,4,none⟩ (.slice (some ⟨g5,0,none⟩) 1 c5)).setCell ⟨g5,0,none⟩ (.int .i64 x)).setCell ⟨g5,1,none⟩ (.string ⟨#[]⟩)).setCell ⟨g5,2,none⟩ (.int .i64 0)).setCell ⟨g5,3,none⟩ (.int .i64 0)).setCell ⟨g5,4,none⟩ (.slice none 0 0)):=by
 subst h9 h17;have hg:w.heap.size<=g5:=(hr.ge rfl).1;obtain⟨W,hW⟩:∃W,W=w5.setCell ⟨ob,4,none⟩ (.slice (some ⟨g5,0,none⟩) 1 c5):=⟨_,rfl⟩;have h4:aH (λ k=>k=ob) w5 W:=by rw[hW];exact(aH.refl (λ k=>k=ob) w5).set ⟨ob,4,none⟩ _ λ _=>rfl
 have ho':OB W ob o n (wY o v) 0 (some ⟨g5,0,none⟩) 1 c5:=by
  unfold OB;rw[hW,aB ho];rfl
 rw[<-hW];have h1:=(hr.eu h4 λ k h=>by omega).set (i:=0) (by simp) (kV (mP o) []) none 0 (bZ.nil _ _ _ (by omega))
 have e1:∀y:World,aH (λ k=>k=g5) y (((((y.setCell ⟨g5,0,none⟩ (.int .i64 (mP o))).setCell ⟨g5,1,none⟩ (.string ⟨#[]⟩)).setCell ⟨g5,2,none⟩ (.int .i64 0)).setCell ⟨g5,3,none⟩ (.int .i64 0)).setCell ⟨g5,4,none⟩ (.slice none 0 0)) := λ y =>
  (((((aH.refl (λ k=>k=g5) y).set ⟨g5,0,none⟩ _ λ _=>rfl).set ⟨g5,1,none⟩ _ λ _=>rfl).set ⟨g5,2,none⟩ _ λ _=>rfl).set ⟨g5,3,none⟩ _ λ _=>rfl).set ⟨g5,4,none⟩ _ λ _=>rfl
 refine⟨(hc.trans (h4.mono λ k _ h => .inr h)).trans' (e1 W) λ k hk h=>by omega,(hb.eu h4 hne).eu (e1 W) (by omega),(λ h=>by cases h),λ _=>⟨_,_,ho'.eu (e1 W) (by omega),h1⟩⟩
theorem AX (bb ob:Nat)(o:Int)(n:ByteArray)(v left d:Int)(over:Bool)(w:World)(hne:bb≠ob)(h:BB w bb left over)(ho:OB w ob o n v 0 none 0 0)(h0 : -1000000<=left)(h1:left<=1000000)(d0 : -1000000<=d)(d1:d<=1000000) :
  Calls Tryz.prog 114 #[.pointer (some ⟨bb,0,none⟩),.pointer (some ⟨ob,0,none⟩),.int .i64 d] w λ e w'=>(∃r,e = .returned r)/\EW bb ob o n v left (eP left over (d-1)) w w':=by
 obtain⟨i0,hti,hz0,hz1,hz2⟩:=info_parts je;have HO:=hid ho;have HB:=hid h;have HT:=hid (take_any bb left (d-1) over w h h0 h1);have hw:IntKind.i64.wrap (d-1)=d-1:=IntWalk.i64_in _ (by omega);clear h ho;obtain⟨tk,htk⟩:∃tk,eP left over (d-1)=tk:=⟨_,rfl⟩;rw[htk]at HT⊢;clear htk;cases tk
 rotate_left
 ·go_enter Tryz.func114,Tryz.ntmps114
  go_wp2_with (first|(go_at_call 110;refine HT.out.mono ?_;rintro e w1 ⟨rfl,hc1,hb1⟩))
  exact bodyPost_ret (results_none rfl _ _ _) rfl ⟨⟨_,rfl⟩,hc1.mono λ k _ h => .inl h,hb1,(λ _=>HO.out.eu hc1 λ h=>hne h.symm),λ h=>by cases h⟩
 ·by_cases h9:o=9
  ·subst h9
   have H9:=hid (show mP 9=1 by rfl);have Xy:=hid (show wY 9 v=v by rfl)
   go_enter Tryz.func114,Tryz.ntmps114
   go_upto_region 6 with(first|(go_at_call 110;refine HT.out.mono ?_;rintro e w1 ⟨rfl,hc1,hb1⟩;have ho1:=HO.out.eu hc1 (λ h=>hne h.symm);have q0:=aj ho1 (i:=0) rfl;have q2:=aj ho1 (i:=2) rfl;have p2:=aA ho1 (i:=2);have ql:=lt_of_block ho1))
   refine aC λ w2 hw2=>?_;have hc2:aH (λ k=>k=bb\/k=ob) w w2:=by rw[hw2];exact hc1.mono λ k _ h => .inl h
   have ho2:OB w2 ob 9 n v 0 none 0 0:=by rw[hw2];exact ho1
   have hb2:BB w2 bb (left-1) false:=by rw[hw2];exact hb1
   have q4:=aj ho2 (i:=4) rfl;have p4:=aA ho2 (i:=4);have ql2:=lt_of_block ho2;have HC2:=hid hc2;have Dl:=hid ho2;have HB2:=hid hb2;clear hw2 hc2 ho2 hb2 hc1 hb1 ho1 q0 q2 p2 ql
   go_region_law (first|(refine dG _ (by rfl) _ _ 22 (by rfl) w.heap.size 24 i0 _ 5 64 Tryz.underlying22 hti hz0 hz1 hz2 rfl (by omega) (.slice none 0 0) 0 [] (by rfl) (bT.nil _ _).own _ (some ⟨w2.heap.size,0,none⟩) 1 1 _ (by rfl) (Rd.fresh (D := λ _=>True) rfl trivial rfl (by omega)) (by simp[Value.oneCell']) (by omega) (dJ (by omega)) (by have:=HC2.out.size;simp;omega) ?_;intro A5 c5 w5 hown hg5 hblk;obtain⟨g5,rfl,Rl⟩:=kW hown (by omega);have hgo:¬ob=g5:=(by have:=lt_of_block HO.out;omega);have hgo':¬g5=ob := λ e=>hgo e.symm;obtain⟨r0,r1,r2,r3,r4,t0,t1,t2,t3,t4,rl⟩:=lN hown (j:=0) (by rfl);have fQ:=OB.grown (Dl.out.below (show Below w2.heap.size w2 _ from(Below.refl _ w2).alloc (Nat.le_refl _) _)) hg5 (by intro h;cases h);have q54:=aj fQ (i:=4) rfl;have p54:=aA fQ (i:=4);have l5:=lt_of_block fQ)|(refine dG _ (by rfl) _ _ 22 (by rfl) w.heap.size 24 i0 _ 5 64 Tryz.underlying22 hti hz0 hz1 hz2 rfl (by omega) (.slice none 0 0) 0 [] (by rfl) (bT.nil _ _).own _ (some ⟨w2.heap.size,0,none⟩) 1 1 _ (by rfl) (Rd.Cj (D := λ _=>True) rfl trivial rfl (by omega)) (by simp[Value.oneCell']) (by omega) (dJ (by omega)) (by have:=HC2.out.size;simp;omega) ?_;intro A5 c5 w5 hown hg5 hblk;obtain⟨g5,rfl,Rl⟩:=kW hown (by omega);have hgo:¬ob=g5:=(by have:=lt_of_block HO.out;omega);have hgo':¬g5=ob := λ e=>hgo e.symm;obtain⟨r0,r1,r2,r3,r4,t0,t1,t2,t3,t4,rl⟩:=lN hown (j:=0) (by rfl);have fQ:=OB.grown (Dl.out.below (show Below w2.heap.size w2 _ from((Below.refl _ w2).alloc (Nat.le_refl _) _).drew)) hg5 (by intro h;cases h);have q54:=aj fQ (i:=4) rfl;have p54:=aA fQ (i:=4);have l5:=lt_of_block fQ))
   all_goals
    have hcs:aH (λ k=>k=bb\/k=ob) w w5:=HC2.out.trans (by first|exact((aH.refl _ w2).alloc _).grown hg5 (λ k hk=>by cases hk)|exact(((aH.refl _ w2).alloc _).drew).grown hg5 (λ k hk=>by cases hk));have DN:bT w5 w.heap.size (some ⟨g5,0,none⟩) c5 [dV] [(none,0)]:=(bT.nil _ w.heap.size).app (n:=1) (ms := [dV]) (sm := [(none,0)]) hg5 rfl hown hblk rfl (BG _)
    have hb5:BB w5 bb (left-1) false:=by
     have h1:BB w2 bb (left-1) false:=HB2.out;exact(hg5.block _ (by simp;have:=lt_of_block h1;omega) (by intro h;cases h)).trans ((aQ _ _ _ (lt_of_block h1)).trans h1)
    have hob:ob<w.heap.size:=lt_of_block HO.out;have hbl:bb<w.heap.size:=lt_of_block HB.out
    go_end0
    refine⟨⟨_,rfl⟩,?_⟩
    first
     | with_reducible exact yx H9.out Xy.out hne hob hbl hcs hb5 fQ DN
     | with_reducible exact yA H9.out Xy.out hne hob hbl hcs hb5 fQ DN
  ·by_cases h16:o=16
   ·subst h16
    have H9:=hid (show mP 16=1 by rfl);have Xy:=hid (show wY 16 v=v by rfl)
    go_enter Tryz.func114,Tryz.ntmps114
    go_upto_region 6 with(first|(go_at_call 110;refine HT.out.mono ?_;rintro e w1 ⟨rfl,hc1,hb1⟩;have ho1:=HO.out.eu hc1 (λ h=>hne h.symm);have q0:=aj ho1 (i:=0) rfl;have q2:=aj ho1 (i:=2) rfl;have p2:=aA ho1 (i:=2);have ql:=lt_of_block ho1))
    refine aC λ w2 hw2=>?_;have hc2:aH (λ k=>k=bb\/k=ob) w w2:=by rw[hw2];exact hc1.mono λ k _ h => .inl h
    have ho2:OB w2 ob 16 n v 0 none 0 0:=by rw[hw2];exact ho1
    have hb2:BB w2 bb (left-1) false:=by rw[hw2];exact hb1
    have q4:=aj ho2 (i:=4) rfl;have p4:=aA ho2 (i:=4);have ql2:=lt_of_block ho2;have HC2:=hid hc2;have Dl:=hid ho2;have HB2:=hid hb2;clear hw2 hc2 ho2 hb2 hc1 hb1 ho1 q0 q2 p2 ql
    go_region_law (first|(refine dG _ (by rfl) _ _ 22 (by rfl) w.heap.size 24 i0 _ 5 64 Tryz.underlying22 hti hz0 hz1 hz2 rfl (by omega) (.slice none 0 0) 0 [] (by rfl) (bT.nil _ _).own _ (some ⟨w2.heap.size,0,none⟩) 1 1 _ (by rfl) (Rd.fresh (D := λ _=>True) rfl trivial rfl (by omega)) (by simp[Value.oneCell']) (by omega) (dJ (by omega)) (by have:=HC2.out.size;simp;omega) ?_;intro A5 c5 w5 hown hg5 hblk;obtain⟨g5,rfl,Rl⟩:=kW hown (by omega);have hgo:¬ob=g5:=(by have:=lt_of_block HO.out;omega);have hgo':¬g5=ob := λ e=>hgo e.symm;obtain⟨r0,r1,r2,r3,r4,t0,t1,t2,t3,t4,rl⟩:=lN hown (j:=0) (by rfl);have fQ:=OB.grown (Dl.out.below (show Below w2.heap.size w2 _ from(Below.refl _ w2).alloc (Nat.le_refl _) _)) hg5 (by intro h;cases h);have q54:=aj fQ (i:=4) rfl;have p54:=aA fQ (i:=4);have l5:=lt_of_block fQ)|(refine dG _ (by rfl) _ _ 22 (by rfl) w.heap.size 24 i0 _ 5 64 Tryz.underlying22 hti hz0 hz1 hz2 rfl (by omega) (.slice none 0 0) 0 [] (by rfl) (bT.nil _ _).own _ (some ⟨w2.heap.size,0,none⟩) 1 1 _ (by rfl) (Rd.Cj (D := λ _=>True) rfl trivial rfl (by omega)) (by simp[Value.oneCell']) (by omega) (dJ (by omega)) (by have:=HC2.out.size;simp;omega) ?_;intro A5 c5 w5 hown hg5 hblk;obtain⟨g5,rfl,Rl⟩:=kW hown (by omega);have hgo:¬ob=g5:=(by have:=lt_of_block HO.out;omega);have hgo':¬g5=ob := λ e=>hgo e.symm;obtain⟨r0,r1,r2,r3,r4,t0,t1,t2,t3,t4,rl⟩:=lN hown (j:=0) (by rfl);have fQ:=OB.grown (Dl.out.below (show Below w2.heap.size w2 _ from((Below.refl _ w2).alloc (Nat.le_refl _) _).drew)) hg5 (by intro h;cases h);have q54:=aj fQ (i:=4) rfl;have p54:=aA fQ (i:=4);have l5:=lt_of_block fQ))
    all_goals
     have hcs:aH (λ k=>k=bb\/k=ob) w w5:=HC2.out.trans (by first|exact((aH.refl _ w2).alloc _).grown hg5 (λ k hk=>by cases hk)|exact(((aH.refl _ w2).alloc _).drew).grown hg5 (λ k hk=>by cases hk));have DN:bT w5 w.heap.size (some ⟨g5,0,none⟩) c5 [dV] [(none,0)]:=(bT.nil _ w.heap.size).app (n:=1) (ms := [dV]) (sm := [(none,0)]) hg5 rfl hown hblk rfl (BG _)
     have hb5:BB w5 bb (left-1) false:=by
      have h1:BB w2 bb (left-1) false:=HB2.out;exact(hg5.block _ (by simp;have:=lt_of_block h1;omega) (by intro h;cases h)).trans ((aQ _ _ _ (lt_of_block h1)).trans h1)
     have hob:ob<w.heap.size:=lt_of_block HO.out;have hbl:bb<w.heap.size:=lt_of_block HB.out
     go_end0
     refine⟨⟨_,rfl⟩,?_⟩
     first
      | with_reducible exact yx H9.out Xy.out hne hob hbl hcs hb5 fQ DN
      | with_reducible exact yA H9.out Xy.out hne hob hbl hcs hb5 fQ DN
   ·by_cases h17:o=17
    ·subst h17
     have H9:=hid (show mP 17=2 by rfl);have Xy:=hid (show wY 17 v=1 by rfl);clear h9 h16
     go_enter Tryz.func114,Tryz.ntmps114
     go_upto_region 6 with(first|(go_at_call 110;refine HT.out.mono ?_;rintro e w1 ⟨rfl,hc1,hb1⟩;have ho1:=HO.out.eu hc1 (λ h=>hne h.symm);have q0:=aj ho1 (i:=0) rfl;have q2:=aj ho1 (i:=2) rfl;have p2:=aA ho1 (i:=2);have ql:=lt_of_block ho1))
     refine aC λ w2 hw2=>?_;have hc2:aH (λ k=>k=bb\/k=ob) w w2:=by rw[hw2];exact(hc1.mono λ k _ h => .inl h).set ⟨ob,2,none⟩ _ λ _ => .inr rfl
     have ho2:OB w2 ob 17 n 1 0 none 0 0:=by unfold OB;rw[hw2,aB ho1];rfl
     have hb2:BB w2 bb (left-1) false:=by rw[hw2];exact BB.eu hb1 ((aH.refl (λ k=>k=ob) w1).set ⟨ob,2,none⟩ _ λ _=>rfl) hne
     have q4:=aj ho2 (i:=4) rfl;have p4:=aA ho2 (i:=4);have ql2:=lt_of_block ho2;have HC2:=hid hc2;have Dl:=hid ho2;have HB2:=hid hb2;clear hw2 hc2 ho2 hb2 hc1 hb1 ho1 q0 q2 p2 ql
     go_region_law (first|(refine dG _ (by rfl) _ _ 22 (by rfl) w.heap.size 24 i0 _ 5 64 Tryz.underlying22 hti hz0 hz1 hz2 rfl (by omega) (.slice none 0 0) 0 [] (by rfl) (bT.nil _ _).own _ (some ⟨w2.heap.size,0,none⟩) 1 1 _ (by rfl) (Rd.fresh (D := λ _=>True) rfl trivial rfl (by omega)) (by simp[Value.oneCell']) (by omega) (dJ (by omega)) (by have:=HC2.out.size;simp;omega) ?_;intro A5 c5 w5 hown hg5 hblk;obtain⟨g5,rfl,Rl⟩:=kW hown (by omega);have hgo:¬ob=g5:=(by have:=lt_of_block HO.out;omega);have hgo':¬g5=ob := λ e=>hgo e.symm;obtain⟨r0,r1,r2,r3,r4,t0,t1,t2,t3,t4,rl⟩:=lN hown (j:=0) (by rfl);have fQ:=OB.grown (Dl.out.below (show Below w2.heap.size w2 _ from(Below.refl _ w2).alloc (Nat.le_refl _) _)) hg5 (by intro h;cases h);have q54:=aj fQ (i:=4) rfl;have p54:=aA fQ (i:=4);have l5:=lt_of_block fQ)|(refine dG _ (by rfl) _ _ 22 (by rfl) w.heap.size 24 i0 _ 5 64 Tryz.underlying22 hti hz0 hz1 hz2 rfl (by omega) (.slice none 0 0) 0 [] (by rfl) (bT.nil _ _).own _ (some ⟨w2.heap.size,0,none⟩) 1 1 _ (by rfl) (Rd.Cj (D := λ _=>True) rfl trivial rfl (by omega)) (by simp[Value.oneCell']) (by omega) (dJ (by omega)) (by have:=HC2.out.size;simp;omega) ?_;intro A5 c5 w5 hown hg5 hblk;obtain⟨g5,rfl,Rl⟩:=kW hown (by omega);have hgo:¬ob=g5:=(by have:=lt_of_block HO.out;omega);have hgo':¬g5=ob := λ e=>hgo e.symm;obtain⟨r0,r1,r2,r3,r4,t0,t1,t2,t3,t4,rl⟩:=lN hown (j:=0) (by rfl);have fQ:=OB.grown (Dl.out.below (show Below w2.heap.size w2 _ from((Below.refl _ w2).alloc (Nat.le_refl _) _).drew)) hg5 (by intro h;cases h);have q54:=aj fQ (i:=4) rfl;have p54:=aA fQ (i:=4);have l5:=lt_of_block fQ))
     all_goals
      have hcs:aH (λ k=>k=bb\/k=ob) w w5:=HC2.out.trans (by first|exact((aH.refl _ w2).alloc _).grown hg5 (λ k hk=>by cases hk)|exact(((aH.refl _ w2).alloc _).drew).grown hg5 (λ k hk=>by cases hk));have DN:bT w5 w.heap.size (some ⟨g5,0,none⟩) c5 [dV] [(none,0)]:=(bT.nil _ w.heap.size).app (n:=1) (ms := [dV]) (sm := [(none,0)]) hg5 rfl hown hblk rfl (BG _)
      have hb5:BB w5 bb (left-1) false:=by
       have h1:BB w2 bb (left-1) false:=HB2.out;exact(hg5.block _ (by simp;have:=lt_of_block h1;omega) (by intro h;cases h)).trans ((aQ _ _ _ (lt_of_block h1)).trans h1)
      have hob:ob<w.heap.size:=lt_of_block HO.out;have hbl:bb<w.heap.size:=lt_of_block HB.out
      go_end0
      refine⟨⟨_,rfl⟩,?_⟩
      first
       | with_reducible exact yx H9.out Xy.out hne hob hbl hcs hb5 fQ DN
       | with_reducible exact yA H9.out Xy.out hne hob hbl hcs hb5 fQ DN
    ·have H9:=hid (show mP o=2 by unfold mP;rw[if_neg (by omega)])
     have Xy:=hid (show wY o v=v by unfold wY;rw[if_neg h17]);have e9:=ay h9;have e16:=ay h16;have e17:=ay h17;clear h9 h16 h17
     go_enter Tryz.func114,Tryz.ntmps114
     go_upto_region 6 with(first|(go_at_call 110;refine HT.out.mono ?_;rintro e w1 ⟨rfl,hc1,hb1⟩;have ho1:=HO.out.eu hc1 (λ h=>hne h.symm);have q0:=aj ho1 (i:=0) rfl;have q2:=aj ho1 (i:=2) rfl;have p2:=aA ho1 (i:=2);have ql:=lt_of_block ho1))
     refine aC λ w2 hw2=>?_;have hc2:aH (λ k=>k=bb\/k=ob) w w2:=by rw[hw2];exact hc1.mono λ k _ h => .inl h
     have ho2:OB w2 ob o n v 0 none 0 0:=by rw[hw2];exact ho1
     have hb2:BB w2 bb (left-1) false:=by rw[hw2];exact hb1
     have q4:=aj ho2 (i:=4) rfl;have p4:=aA ho2 (i:=4);have ql2:=lt_of_block ho2;have HC2:=hid hc2;have Dl:=hid ho2;have HB2:=hid hb2;clear hw2 hc2 ho2 hb2 hc1 hb1 ho1 q0 q2 p2 ql
     go_region_law (first|(refine dG _ (by rfl) _ _ 22 (by rfl) w.heap.size 24 i0 _ 5 64 Tryz.underlying22 hti hz0 hz1 hz2 rfl (by omega) (.slice none 0 0) 0 [] (by rfl) (bT.nil _ _).own _ (some ⟨w2.heap.size,0,none⟩) 1 1 _ (by rfl) (Rd.fresh (D := λ _=>True) rfl trivial rfl (by omega)) (by simp[Value.oneCell']) (by omega) (dJ (by omega)) (by have:=HC2.out.size;simp;omega) ?_;intro A5 c5 w5 hown hg5 hblk;obtain⟨g5,rfl,Rl⟩:=kW hown (by omega);have hgo:¬ob=g5:=(by have:=lt_of_block HO.out;omega);have hgo':¬g5=ob := λ e=>hgo e.symm;obtain⟨r0,r1,r2,r3,r4,t0,t1,t2,t3,t4,rl⟩:=lN hown (j:=0) (by rfl);have fQ:=OB.grown (Dl.out.below (show Below w2.heap.size w2 _ from(Below.refl _ w2).alloc (Nat.le_refl _) _)) hg5 (by intro h;cases h);have q54:=aj fQ (i:=4) rfl;have p54:=aA fQ (i:=4);have l5:=lt_of_block fQ)|(refine dG _ (by rfl) _ _ 22 (by rfl) w.heap.size 24 i0 _ 5 64 Tryz.underlying22 hti hz0 hz1 hz2 rfl (by omega) (.slice none 0 0) 0 [] (by rfl) (bT.nil _ _).own _ (some ⟨w2.heap.size,0,none⟩) 1 1 _ (by rfl) (Rd.Cj (D := λ _=>True) rfl trivial rfl (by omega)) (by simp[Value.oneCell']) (by omega) (dJ (by omega)) (by have:=HC2.out.size;simp;omega) ?_;intro A5 c5 w5 hown hg5 hblk;obtain⟨g5,rfl,Rl⟩:=kW hown (by omega);have hgo:¬ob=g5:=(by have:=lt_of_block HO.out;omega);have hgo':¬g5=ob := λ e=>hgo e.symm;obtain⟨r0,r1,r2,r3,r4,t0,t1,t2,t3,t4,rl⟩:=lN hown (j:=0) (by rfl);have fQ:=OB.grown (Dl.out.below (show Below w2.heap.size w2 _ from((Below.refl _ w2).alloc (Nat.le_refl _) _).drew)) hg5 (by intro h;cases h);have q54:=aj fQ (i:=4) rfl;have p54:=aA fQ (i:=4);have l5:=lt_of_block fQ))
     all_goals
      have hcs:aH (λ k=>k=bb\/k=ob) w w5:=HC2.out.trans (by first|exact((aH.refl _ w2).alloc _).grown hg5 (λ k hk=>by cases hk)|exact(((aH.refl _ w2).alloc _).drew).grown hg5 (λ k hk=>by cases hk));have DN:bT w5 w.heap.size (some ⟨g5,0,none⟩) c5 [dV] [(none,0)]:=(bT.nil _ w.heap.size).app (n:=1) (ms := [dV]) (sm := [(none,0)]) hg5 rfl hown hblk rfl (BG _)
      have hb5:BB w5 bb (left-1) false:=by
       have h1:BB w2 bb (left-1) false:=HB2.out;exact(hg5.block _ (by simp;have:=lt_of_block h1;omega) (by intro h;cases h)).trans ((aQ _ _ _ (lt_of_block h1)).trans h1)
      have hob:ob<w.heap.size:=lt_of_block HO.out;have hbl:bb<w.heap.size:=lt_of_block HB.out
      go_end0
      refine⟨⟨_,rfl⟩,?_⟩
      first
       | with_reducible exact yx H9.out Xy.out hne hob hbl hcs hb5 fQ DN
       | with_reducible exact yA H9.out Xy.out hne hob hbl hcs hb5 fQ DN
end Go.Proofs.YtdpbgcmfeajigaaGreatDoor
