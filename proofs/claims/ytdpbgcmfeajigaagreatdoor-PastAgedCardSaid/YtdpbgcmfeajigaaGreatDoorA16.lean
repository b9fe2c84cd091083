/-
  Parts of a proof: HH HI HJ HS HM HN.
-/
import Derived.Test.YtdpbgcmfeajigaaGreatDoorA15
import Derived.Shelf.SlSortCmp.NoneTotal
import Derived.Shelf.SortM.Plain
import Derived.Shelf.SortM.SortNone
import Derived.Test.YtdpbgcmfeajigaaGreatDoorChecked
set_option linter.unusedSimpArgs false
set_option linter.unusedVariables false
set_option maxHeartbeats 8000000
set_option maxRecDepth 100000
namespace Go.Proofs.YtdpbgcmfeajigaaGreatDoor
open Go.RowKit Go.Shelf
attribute [local go_sem] ak jR nV jQ tK xR
theorem Dv (bb:Nat)(f g:Fm)(hf:f.args = [g])(ih:zO bb g):∀n,n<=1000->JW bb f g n
 | 0,_=>Kw bb f g hf ih
 | n+1,h=>Kv bb f g n hf ih (Dv bb f g hf ih n (by omega)) (by omega)
theorem YK (bb:Nat)(f g:Fm)(hf:f.args = [g])(h13:f.op=13\/f.op=14)(hbd:0<=f.bound/\f.bound<=9)(ih:zO bb g)
  {D:Dom} {b o:Nat} {A:Option Addr} {c:Nat} {neg:Bool} {left d:Int} {w:World}
  (h:dU w D b o f A c) (hD:∀k,D k->k≠bb) (hB:BB w bb left false) (hl0:0<=left) (hl2:left<=1000000) (hd1 : -1000000<=d) (hd2:d<=1000000) :
  Calls Tryz.prog 73 #[.pointer (some ⟨bb,0,none⟩),.pointer (some ⟨b,o,none⟩),.bool neg,.int .i64 d] w (dB bb (oH (cO neg f.op) f.bound.toNat (kf neg g)) left (!bK (oH (cO neg f.op) f.bound.toNat (kf neg g)) left d) w):=by
 have HH:=hid h;have HB:=hid hB;have hbl:=lt_of_block hB;clear hB h;have e4:(f.op==4)=false:=ay (by omega);have e3:(f.op==3)=false:=ay (by omega);obtain⟨n,hn⟩:∃n,f.bound.toNat=n:=⟨_,rfl⟩;have hn2:f.bound=(n:Int):=by omega
 rw[hn];have HBD:=hid (Dv bb f g hf ih n (by omega))
 go_enter Tryz.func73,Tryz.ntmps73
 go_upto_region 1 with(fail)
 refine aC λ W hW=>?_;have HW:=hid (show aH (λ x=>x=bb) w W by rw[hW];exact(aH.refl _ w).alloc _);have gY:=hid (show OB W w.heap.size 0 ⟨#[]⟩ 0 0 none 0 0 by rw[hW];exact at_new _ _ _ rfl);have hbw:=HB.out.below (show Below w.heap.size w W by rw[hW];go_grown);have Uj:=HH.out.keep (HW.out.keeps λ k _ hk hv=>hD k hk hv);have jI:=hid (show W.heap.size=w.heap.size+1 by rw[hW];simp);have b1:=aj hbw (i:=1) rfl;have HC:=hid (HBD.out D b o A c neg false left d W Uj hD hbw (λ _=>hl0) (by omega) hl2 hd1 hd2);obtain⟨q1,q2,c0,Vf,Vg,TT,c4,q3⟩:=Uj;rw[hn2]at TT;clear hW hbw q3 hn hn2 hbd Vf Vg c4
 by_cases hq:f.op=13
 ·have e13:(f.op==13)=true:=by rw[hq];rfl
  clear h13 hq;go_wp2_with (first|(go_at_call 111;refine HC.out.mono ?_;intro e w5 hs5;have hv5:=hs5.val;obtain⟨g5,A5,c5,rfl⟩:=hv5;have fQ:=gY.out.eu hs5.1 (by omega);obtain⟨r0,r1,r2,r3,r4,rl⟩:=fQ.cells;have p0:=fQ.free 0;have p1:=fQ.free 1;have p2:=fQ.free 2;have p3:=fQ.free 3;have p4:=fQ.free 4))
  refine aK λ WE fD=>?_;have jl:OB WE w.heap.size g5.op g5.name g5.val g5.bound A5 g5.args.length c5:=by rw[fD];exact bF fQ
  have hcE:aH (λ x=>x=w.heap.size) w5 WE:=by rw[fD];exact aN _ _ _ _ _ _ _
  obtain⟨y0,y1,y2,y3,y4,yl⟩:=jl.cells;clear fD r0 r1 r2 r3 r4 p0 p1 p2 p3 p4
  exact bodyPost_ret (v := .agg #[.int .i64 g5.op,.string g5.name,.int .i64 g5.val,.int .i64 g5.bound,.slice A5 g5.args.length c5]) (by simp[results,Tryz.results73,go_sem,y0,y1,y2,y3,y4]) rfl
   (dB.wrap hs5 HW.out (Nat.le_refl _) (by have:=jI.out;omega) hbl hcE)
 ·have e13:(f.op==13)=false:=ay hq
  have e14:(f.op==14)=true:=by rw[h13.resolve_left hq];rfl
  clear h13 hq;go_wp2_with (first|(go_at_call 111;refine HC.out.mono ?_;intro e w5 hs5;have hv5:=hs5.val;obtain⟨g5,A5,c5,rfl⟩:=hv5;have fQ:=gY.out.eu hs5.1 (by omega);obtain⟨r0,r1,r2,r3,r4,rl⟩:=fQ.cells;have p0:=fQ.free 0;have p1:=fQ.free 1;have p2:=fQ.free 2;have p3:=fQ.free 3;have p4:=fQ.free 4))
  refine aK λ WE fD=>?_;have jl:OB WE w.heap.size g5.op g5.name g5.val g5.bound A5 g5.args.length c5:=by rw[fD];exact bF fQ
  have hcE:aH (λ x=>x=w.heap.size) w5 WE:=by rw[fD];exact aN _ _ _ _ _ _ _
  obtain⟨y0,y1,y2,y3,y4,yl⟩:=jl.cells;clear fD r0 r1 r2 r3 r4 p0 p1 p2 p3 p4
  exact bodyPost_ret (v := .agg #[.int .i64 g5.op,.string g5.name,.int .i64 g5.val,.int .i64 g5.bound,.slice A5 g5.args.length c5]) (by simp[results,Tryz.results73,go_sem,y0,y1,y2,y3,y4]) rfl
   (dB.wrap hs5 HW.out (Nat.le_refl _) (by have:=jI.out;omega) hbl hcE)
theorem YJ (bb:Nat)(f:Fm):∀ins,allI Bq ins f->zO bb f:=by
 refine Fm.ind (P := λ f=>∀ins,allI Bq ins f->zO bb f) ?_ f;intro f ih ins hf D b o A c neg over left d w h hD hB hl0 hl1 hl2 hd1 hd2;obtain⟨hs,ha⟩:=dL.1 hf;have hs:bW f=true:=hs;have ih':∀g,g∈f.args->zO bb g := λ g hg=>ih g hg _ (ha g hg);cases over
 rotate_left
 ·rw[Bool.true_or]
  exact Vr bb _ hB hl1
 have hl0':=hl0 rfl;rw[Bool.false_or]
 rcases Ou hs with⟨h3,hargs⟩|⟨h4,g,hargs⟩|⟨h13,g,hargs⟩|hg
 ·cases neg
  ·exact NJ bb f hs ih' (by omega) (by omega) (by omega) (λ _=>rfl) h hD hB hl0' hl2 hd1 hd2
  ·have e:kf true f=kV 4 [Xt f.name f.val]:=by
    obtain⟨o',n,v,bd,l⟩:=f;simp only[Fm.op,Fm.args]at h3 hargs;subst h3 hargs;exact Zj n v bd
   rw[e];exact Q8 bb f h3 h hD hB hl0' hl2 hd1 hd2
 ·have e:kf neg f=kf (!neg) g:=by
   obtain⟨o',n,v,bd,l⟩:=f;simp only[Fm.op,Fm.args]at h4 hargs;subst h4 hargs;exact qej neg n v bd g
  rw[e];exact YM bb f g hargs h4 (ih' g (by rw[hargs];simp)) h hD hB hl0' hl2 hd1 hd2
 ·have e:kf neg f=oH (cO neg f.op) f.bound.toNat (kf neg g):=by
   obtain⟨o',n,v,bd,l⟩:=f;simp only[Fm.op,Fm.args,Fm.bound]at h13 hargs⊢;subst hargs;exact qek h13 neg n v bd g
  have hbd:0<=f.bound/\f.bound<=9:=by
   have:=jo hs;refine⟨this.2.2.2.2.2.1,?_⟩;have h2:=this.2.2.2.2.2.2.1
   rcases h13 with h|h <;> rw[h]at h2 <;> exact h2
  rw[e];exact YK bb f g hargs h13 hbd (ih' g (by rw[hargs];simp)) h hD hB hl0' hl2 hd1 hd2
 ·have h3:f.op≠3/\f.op≠4/\f.op≠13/\f.op≠14:=by
   unfold FP at hg;simp at hg;omega
  exact NJ bb f hs ih' h3.2.1 h3.2.2.1 h3.2.2.2 (λ h=>absurd h h3.1) h hD hB hl0' hl2 hd1 hd2
end Go.Proofs.YtdpbgcmfeajigaaGreatDoor
namespace Go.Proofs.YtdpbgcmfeajigaaGreatDoor
open Go.RowKit Go.Shelf
attribute [local go_sem] ak jQ
def qbF (f:Fm):Bool:=allB oh f
def fG (f:Fm):Fm×Int:=if jP f&&qbF f then(if bK (kf false f) 60 20 then(kf false f,0)else(dV,2))else(dV,30)
def mX (f:Fm)(w:World)(v:Value)(w':World):Prop:=Below w.heap.size w w'/\bI w' (Nw w.heap.size w') v f
theorem mX.zero {w w':World}(h:Below w.heap.size w w'):mX dV w (.agg #[.int .i64 0,.string ⟨#[]⟩,.int .i64 0,.int .i64 0,.slice none 0 0]) w':=⟨h,none,0,rfl,bZ.nil _ _ _ (by omega)⟩
theorem RJ {D:Dom}(f:Fm)(v:Value)(w:World)(h:bI w D v f)(hg:GF w)(hk:GK w) :
  Calls Tryz.prog 159 #[v] w λ e w'=>∃kv,e = .returned (.tuple #[kv,.int .i64 (fG f).2])/\mX (fG f).1 w kv w':=by
 obtain⟨A,c,rfl,ha⟩:=h;have HA:=hid ha.old;have HG:=hid hg;have HK:=hid hk;clear ha hg hk
 go_enter Tryz.func159,Tryz.ntmps159
 go_upto_region 1 with(fail)
 refine aC λ W hW=>?_;have HB:=hid (show Below w.heap.size w W by rw[hW];go_grown)
 have HE:=hid (show dH W w.heap.size f A c by
  show W.heap[w.heap.size]?=_
  rw[hW,aQ _ _ _ (by simp)];exact at_new _ _ _ rfl)
 have HR:=hid (show OB W (w.heap.size+1) 0 ⟨#[]⟩ 0 0 none 0 0 by rw[hW];exact at_new _ _ _ (by simp));have jI:=hid (show W.heap.size=w.heap.size+2 by rw[hW];simp);have HG1:=hid (HG.out.below HB.out HG.out.pos);have UK:=hid (HK.out.below HB.out HK.out.pos);have XU:=hid (λ (V:World) (hb:Below W.heap.size W V)=>(show bI V (· < w.heap.size) (.agg #[.int .i64 f.op,.string f.name,.int .i64 f.val,.int .i64 f.bound,.slice A f.args.length c]) f from⟨A,c,rfl,(HA.out.keep (Keeps.of_below HB.out λ _ h=>h)).keep (Keeps.of_below hb λ k (hk:k<w.heap.size)=>by have:=HB.out.size;omega)⟩));obtain⟨x0,x1,x2,x3,x4,xl⟩:=HE.out.cells;clear hW;have HV:=hid (JK f _ W (XU.out W (Below.refl _ _)) HG1.out UK.out)
 cases hv:jP f
 ·have HZ:=hid (show fG f=(dV,30)by unfold fG;rw[hv];rfl)
  rw[hv]at HV;clear hv;go_wp2_with (first|(go_at_call 156;refine HV.out.mono ?_;rintro e V ⟨rfl,ku⟩;have hr:=HR.out.below ku;obtain⟨r0,r1,r2,r3,r4,rl⟩:=hr.cells;have p0:=hr.free 0;have p1:=hr.free 1;have p2:=hr.free 2;have p3:=hr.free 3;have p4:=hr.free 4))
  refine aK λ WE fD=>?_;have jl:OB WE (w.heap.size+1) 0 ⟨#[]⟩ 0 0 none 0 0:=by rw[fD];exact bF hr
  have mO:Below w.heap.size w WE:=by rw[fD];exact(((((HB.out.trans (ku.mono HB.out.size)).setCell (by simp) _).setCell (by simp) _).setCell (by simp) _).setCell (by simp) _).setCell (by simp) _
  obtain⟨y0,y1,y2,y3,y4,yl⟩:=jl.cells;clear fD r0 r1 r2 r3 r4 p0 p1 p2 p3 p4;rw[HZ.out];exact bodyPost_ret (v := .tuple #[.agg #[.int .i64 0,.string ⟨#[]⟩,.int .i64 0,.int .i64 0,.slice none 0 0],.int .i64 30]) (by simp[results,Tryz.results159,go_sem,y0,y1,y2,y3,y4]) rfl ⟨_,rfl,mX.zero mO⟩
 ·have HDP:=hid (show f.depth<=5000/\allI Bq false f by
   unfold jP at hv;rw[Bool.and_eq_true]at hv;have:=(gJ.1 hv.1).2
   exact⟨by omega,hv.2⟩)
  rw[hv]at HV;have HLA:=hid (λ (V:World) (hb:Below W.heap.size W V)=>NY f _ V (XU.out V hb) (HG1.out.below hb HG1.out.pos) HDP.out.1);cases hl:qbF f
  ·have HZ:=hid (show fG f=(dV,30)by unfold fG;rw[hv,hl];rfl)
   unfold qbF at hl;rw[hl]at HLA;clear hv hl;go_wp2_with (first|(go_at_call 156;refine HV.out.mono ?_;rintro e V ⟨rfl,ku⟩;have he:=HE.out.below ku;obtain⟨x0,x1,x2,x3,x4,xl⟩:=he.cells)|(go_at_call 211;refine(HLA.out V ku).mono ?_;rintro e V2 ⟨rfl,FQ⟩;have hr:=(HR.out.below ku).below FQ;obtain⟨r0,r1,r2,r3,r4,rl⟩:=hr.cells;have p0:=hr.free 0;have p1:=hr.free 1;have p2:=hr.free 2;have p3:=hr.free 3;have p4:=hr.free 4))
   refine aK λ WE fD=>?_;have jl:OB WE (w.heap.size+1) 0 ⟨#[]⟩ 0 0 none 0 0:=by rw[fD];exact bF hr
   have mO:Below w.heap.size w WE:=by rw[fD];exact(((((HB.out.trans ((ku.trans (FQ.mono ku.size)).mono HB.out.size)).setCell (by simp) _).setCell (by simp) _).setCell (by simp) _).setCell (by simp) _).setCell (by simp) _
   obtain⟨y0,y1,y2,y3,y4,yl⟩:=jl.cells;clear fD r0 r1 r2 r3 r4 p0 p1 p2 p3 p4;rw[HZ.out];exact bodyPost_ret (v := .tuple #[.agg #[.int .i64 0,.string ⟨#[]⟩,.int .i64 0,.int .i64 0,.slice none 0 0],.int .i64 30]) (by simp[results,Tryz.results159,go_sem,y0,y1,y2,y3,y4]) rfl ⟨_,rfl,mX.zero mO⟩
  ·have zS:=hid (λ bb=>YJ bb f false HDP.out.2)
   have HZ0:=hid (show fG f=(if bK (kf false f) 60 20 then(kf false f,0)else(dV,2))by unfold fG;rw[hv,hl];rfl);unfold qbF at hl;rw[hl]at HLA;clear hv hl;go_upto_region 3 with(first|(go_at_call 156;refine HV.out.mono ?_;rintro e V ⟨rfl,ku⟩;have he:=HE.out.below ku;obtain⟨x0,x1,x2,x3,x4,xl⟩:=he.cells)|(go_at_call 211;refine(HLA.out V ku).mono ?_;rintro e V2 ⟨rfl,FQ⟩))
   have iD:=hid (HB.out.trans ((ku.trans (FQ.mono ku.size)).mono HB.out.size));have HEV:=hid ((HE.out.below ku).below FQ);have LX:=hid ((HR.out.below ku).below FQ);have BK:=hid (show w.heap.size+2<=V2.heap.size by have:=ku.size;have:=FQ.size;have:=jI.out;omega);clear ku FQ he x0 x1 x2 x3 x4 xl HV HLA;go_upto_region 4 with(fail)
   refine aC λ W4 Ej=>?_;obtain⟨bb,hbb⟩:∃bb,bb=V2.heap.size:=⟨_,rfl⟩;rw[<-hbb];have HB4:=hid (show BB W4 bb 60 false by rw[Ej];exact at_new _ _ _ hbb);have XD:=hid (show Below w.heap.size w W4 by rw[Ej];exact iD.out.alloc iD.out.size _);have HE4:=hid (show dH W4 w.heap.size f A c by rw[Ej];exact HEV.out.below ((Below.refl _ _).alloc (Nat.le_refl _) _));have HR4:=hid (show OB W4 (w.heap.size+1) 0 ⟨#[]⟩ 0 0 none 0 0 by rw[Ej];exact LX.out.alloc _);have hbw:w.heap.size+2<=bb:=by rw[hbb];exact BK.out
   have hbl:bb<W4.heap.size:=lt_of_block HB4.out;have HFF:=hid (dH.yN (D := λ k=>k<w.heap.size+1) HE4.out (Nat.lt_succ_self _) ((HA.out.keep (Keeps.of_below XD.out λ _ h=>h)).mono λ k hk _=>Nat.lt_succ_of_lt hk));have HC:=hid (zS.out bb _ w.heap.size 0 A c false false 60 20 W4 HFF.out (λ k hk=>by omega) HB4.out (by decide) (by decide) (by decide) (by decide) (by decide));clear Ej hbb;go_upto_region 5 with(first|(go_at_call 73;refine HC.out.mono ?_;intro e w5 hs5;obtain⟨hc5,g5,A5,c5,l5,rfl,VB,hb5,hl5,hm5,qby⟩:=hs5.out;clear hs5))
   refine aC λ W5 YP=>?_;have qbq:aH (λ x=>x=bb) W4 W5:=by rw[YP];exact hc5.alloc _
   have HC5:=hid qbq;have Px:=hid (show BB W5 bb l5 (false || !bK (kf false f) 60 20)by rw[YP];exact(aQ _ _ _ (lt_of_block hb5)).trans hb5);have HA5:=hid (show bZ W5 (Nw W4.heap.size W5) g5.args A5 c5 from VB.nw (V := λ _=>False) (by rw[YP];exact(aH.refl _ w5).alloc _) λ _ h=>h.elim);have HO5:=hid (show OB W5 w5.heap.size g5.op g5.name g5.val g5.bound A5 g5.args.length c5 by rw[YP];exact at_new _ _ _ rfl);have LV:=hid (HR4.out.eu qbq (by omega));have qge:Below w.heap.size w W5:=(XD.out).trans (qbq.below (B:=w.heap.size) (λ x hx h=>by omega) (by have:=XD.out.size;omega));have HBE:=hid qge;have XR:=hid qby;obtain⟨o5,fQ⟩:∃o5,o5=w5.heap.size:=⟨_,rfl⟩;rw[<-fQ]at HO5⊢
   have hl45:W4.heap.size<=o5:=by rw[fQ];exact hc5.size
   clear YP hc5 VB hb5 qby qbq qge fQ hl5 hm5;obtain⟨r0,r1,r2,r3,r4,rl⟩:=LV.out.cells;have hr:=LV.out;have p0:=hr.free 0;have p1:=hr.free 1;have p2:=hr.free 2;have p3:=hr.free 3;have p4:=hr.free 4;have b1:=aj Px.out (i:=1) rfl;have bl:=lt_of_block Px.out;cases hfit:bK (kf false f) 60 20
   ·have HZ:=hid (show fG f=(dV,2)by rw[HZ0.out,hfit];rfl)
    rw[hfit]at b1;clear hfit;go_wp2_with fail
    refine aK λ WE fD=>?_;have jl:OB WE (w.heap.size+1) 0 ⟨#[]⟩ 0 0 none 0 0:=by rw[fD];exact bF hr
    have mO:Below w.heap.size w WE:=by rw[fD];exact(((((HBE.out).setCell (by simp) _).setCell (by simp) _).setCell (by simp) _).setCell (by simp) _).setCell (by simp) _
    obtain⟨y0,y1,y2,y3,y4,yl⟩:=jl.cells;clear fD r0 r1 r2 r3 r4 p0 p1 p2 p3 p4;rw[HZ.out];exact bodyPost_ret (v := .tuple #[.agg #[.int .i64 0,.string ⟨#[]⟩,.int .i64 0,.int .i64 0,.slice none 0 0],.int .i64 2]) (by simp[results,Tryz.results159,go_sem,y0,y1,y2,y3,y4]) rfl ⟨_,rfl,mX.zero mO⟩
   ·have HZ:=hid (show fG f=(kf false f,0)by rw[HZ0.out,hfit];rfl)
    obtain⟨e1,e2,e3⟩:=XR.out (by rw[hfit];rfl);have kG:=hid e1;clear e1 e2 e3;rw[hfit]at b1;clear hfit;obtain⟨z0,z1,z2,z3,z4,zl⟩:=HO5.out.cells;go_wp2_with fail
    refine aK λ WE fD=>?_;have jl:OB WE (w.heap.size+1) g5.op g5.name g5.val g5.bound A5 g5.args.length c5:=by rw[fD];exact bF hr
    have hcE:aH (λ x=>x=w.heap.size+1) W5 WE:=by rw[fD];exact aN _ _ _ _ _ _ _
    have mO:Below w.heap.size w WE:=HBE.out.trans (hcE.below (B:=w.heap.size) (λ x hx h=>by omega) HBE.out.size);obtain⟨y0,y1,y2,y3,y4,yl⟩:=jl.cells;clear fD r0 r1 r2 r3 r4 p0 p1 p2 p3 p4;rw[HZ.out]
    have hnew:mX (kf false f) w (.agg #[.int .i64 g5.op,.string g5.name,.int .i64 g5.val,.int .i64 g5.bound,.slice A5 g5.args.length c5]) WE:=by
     rw[<-kG.out];refine⟨mO,A5,c5,rfl,(HA5.out.nw hcE λ x h=>by have:x=w.heap.size+1:=h;have:=XD.out.size;omega).base XD.out.size⟩
    exact bodyPost_ret (v := .tuple #[.agg #[.int .i64 g5.op,.string g5.name,.int .i64 g5.val,.int .i64 g5.bound,.slice A5 g5.args.length c5],.int .i64 0]) (by simp[results,Tryz.results159,go_sem,y0,y1,y2,y3,y4]) rfl ⟨_,rfl,hnew⟩
end Go.Proofs.YtdpbgcmfeajigaaGreatDoor
namespace Go.Proofs.YtdpbgcmfeajigaaGreatDoor
open Go.RowKit Go.Shelf
attribute [local go_sem] ak jQ
theorem bI.cells5 {w:World}{D:Dom}{f:Fm}{A:Option Addr}{c:Nat}(h:bZ w D f.args A c):bI w D (.agg #[.int .i64 f.op,.string f.name,.int .i64 f.val,.int .i64 f.bound,.slice A f.args.length c]) f:=⟨A,c,rfl,h⟩
theorem bZ.qel {W:World}{k n:Nat}{gs:List Fm}{sl:List (Option Addr×Nat)}{cs:Array Value}(hk:W.heap[k]?=some (.cells cs 24 (0,0)))(hcs:cs.toList=bQ gs sl)(hsl:sl.length=gs.length)(hn:n=gs.length)(hl:n<=1000000)
  (ha:∀i,i<gs.length->bZ W aW (gs.getD i default).args (sl.getD i (none,0)).1 (sl.getD i (none,0)).2):bZ W aW gs (some ⟨k,0,none⟩) n:=by
 subst hn;refine .mk gs _ _ sl hsl ⟨⟨iM hsl,by omega,Nat.le_refl _,by omega⟩,λ _=>⟨k,0,rfl,trivial,lt_of_block hk,λ j u hu=>?_⟩⟩ ha;rw[Nat.zero_add];refine aj hk ?_;rw[<-hcs]at hu;simpa using hu
theorem nN (o:Int)(f g:Fm)(v v2:Value)(w:World)(h:bI w aW v f)(h2:bI w aW v2 g) :
  Calls Tryz.prog 36 #[.int .i64 o,v,v2] w λ e w'=>∃v',e = .returned v'/\bI w' aW v' (kV o [f,g])/\Below w.heap.size w w':=by
 obtain⟨A,c,rfl,ha⟩:=h;obtain⟨A2,c2,rfl,ha2⟩:=h2;have HA:=hid ha;have HA2:=hid ha2;clear ha ha2
 go_enter Tryz.func36,Tryz.ntmps36
 go_upto_region 1 with(fail)
 refine aC λ W hW=>?_;have HB:=hid (show Below w.heap.size w W by rw[hW];go_grown)
 have HE:=hid (show dH W w.heap.size f A c by
  show W.heap[w.heap.size]?=_
  rw[hW,aQ _ _ _ (by simp;omega),aQ _ _ _ (by simp)];exact at_new _ _ _ rfl)
 have HE2:=hid (show dH W (w.heap.size+1) g A2 c2 by
  show W.heap[w.heap.size+1]?=_
  rw[hW,aQ _ _ _ (by simp)];exact at_new _ _ _ (by simp))
 have HR:=hid (show OB W (w.heap.size+1+1) 0 ⟨#[]⟩ 0 0 none 0 0 by rw[hW];exact at_new _ _ _ (by simp));obtain⟨x0,x1,x2,x3,x4,xl⟩:=HE.out.cells;obtain⟨z0,z1,z2,z3,z4,zl⟩:=HE2.out.cells;clear hW;go_wp2_with (first|(go_at_call 83;refine(qbY o _ 2 2 _).mono ?_;rintro e V ⟨rfl,ku⟩;have hr:=(HR.out.alloc (.cells #[.int .i64 f.op,.string f.name,.int .i64 f.val,.int .i64 f.bound,.slice A f.args.length c,.int .i64 g.op,.string g.name,.int .i64 g.val,.int .i64 g.bound,.slice A2 g.args.length c2] 24)).below ku;obtain⟨r0,r1,r2,r3,r4,rl⟩:=hr.cells;have p0:=hr.free 0;have p1:=hr.free 1;have p2:=hr.free 2;have p3:=hr.free 3;have p4:=hr.free 4))
 refine aK λ WE fD=>?_;have jl:OB WE (w.heap.size+1+1) o ⟨#[]⟩ 0 0 (some ⟨W.heap.size,0,none⟩) 2 2:=by rw[fD];exact bF hr
 have hcE:aH (λ x=>x=w.heap.size+1+1) V WE:=by rw[fD];exact aN _ _ _ _ _ _ _
 have hbW:Below W.heap.size W V:=((Below.refl _ _).alloc (Nat.le_refl _) _).trans (ku.mono (by simp))
 have hnew:WE.heap[W.heap.size]?=some (.cells #[.int .i64 f.op,.string f.name,.int .i64 f.val,.int .i64 f.bound,.slice A f.args.length c,.int .i64 g.op,.string g.name,.int .i64 g.val,.int .i64 g.bound,.slice A2 g.args.length c2] 24 (0,0)) :=
  (hcE.block _ (Nat.lt_of_lt_of_le (by simp) ku.size) (by have:=lt_of_block HR.out;omega)).trans ((ku.block _ (by simp)).trans (at_new _ _ _ rfl))
 have mO:Below w.heap.size w WE:=by
  have h1:=HB.out.trans (hbW.mono HB.out.size);exact h1.trans (hcE.below (B:=w.heap.size) (λ x hx h=>by omega) h1.size)
 have hrd:bZ WE aW [f,g] (some ⟨W.heap.size,0,none⟩) 2:=bZ.qel (sl := [(A,c),(A2,c2)]) hnew rfl rfl rfl (by omega) λ i hi=>by
  match i,hi with
  | 0,_=>exact HA.out.any mO
  | 1,_=>exact HA2.out.any mO
  | i+2,hi=>exact absurd hi (by simp)
 obtain⟨y0,y1,y2,y3,y4,yl⟩:=jl.cells;clear fD r0 r1 r2 r3 r4 p0 p1 p2 p3 p4;exact bodyPost_ret (v := .agg #[.int .i64 o,.string ⟨#[]⟩,.int .i64 0,.int .i64 0,.slice (some ⟨W.heap.size,0,none⟩) 2 2]) (by simp[results,Tryz.results36,go_sem,y0,y1,y2,y3,y4]) rfl ⟨_,rfl,⟨_,2,rfl,hrd⟩,mO⟩
end Go.Proofs.YtdpbgcmfeajigaaGreatDoor
namespace Go.Proofs.YtdpbgcmfeajigaaGreatDoor
open Go.Shelf
def Il:Go.Shelf.Ren:=⟨λ | 6=>218|15=>121|14=>223|28=>149|29=>150|20=>224|21=>225|22=>226|23=>227|24=>228|25=>229|26=>230|27=>231|46=>232|47=>200|48=>201|49=>233|50=>234|57=>235|n=>n,λ | 22=>22|24=>24|25=>32|3=>3|39=>148|0=>0|53=>173|55=>175|4=>4|46=>166|45=>165|50=>61|5=>5|9=>9|66=>190|70=>194|76=>201|77=>202|n=>n,λ | n=>n⟩
theorem JG:Go.Proofs.SlLaysF0.n6 Tryz.prog Il := {
 mixed:=by kernel_rfl
 f6:=⟨Tryz.f218.name,by decide,Tryz.func218.trans (congrArg some (by kernel_rfl))⟩
 f14:=⟨Tryz.f223.name,by decide,Tryz.func223.trans (congrArg some (by kernel_rfl))⟩
 f15:=Tryz.func121.trans (congrArg some (by kernel_rfl))
 f20:=⟨Tryz.f224.name,by decide,Tryz.func224.trans (congrArg some (by kernel_rfl))⟩
 f21:=⟨Tryz.f225.name,by decide,Tryz.func225.trans (congrArg some (by kernel_rfl))⟩
 f22:=⟨Tryz.f226.name,by decide,Tryz.func226.trans (congrArg some (by kernel_rfl))⟩
 f23:=⟨Tryz.f227.name,by decide,Tryz.func227.trans (congrArg some (by kernel_rfl))⟩
 f24:=⟨Tryz.f228.name,by decide,Tryz.func228.trans (congrArg some (by kernel_rfl))⟩
 f25:=⟨Tryz.f229.name,by decide,Tryz.func229.trans (congrArg some (by kernel_rfl))⟩
 f26:=⟨Tryz.f230.name,by decide,Tryz.func230.trans (congrArg some (by kernel_rfl))⟩
 f27:=⟨Tryz.f231.name,by decide,Tryz.func231.trans (congrArg some (by kernel_rfl))⟩
 f28:=Tryz.func149.trans (congrArg some (by kernel_rfl))
 f29:=Tryz.func150.trans (congrArg some (by kernel_rfl))
 f46:=⟨Tryz.f232.name,by decide,Tryz.func232.trans (congrArg some (by kernel_rfl))⟩
 f47:=Tryz.func200.trans (congrArg some (by kernel_rfl))
 f48:=Tryz.func201.trans (congrArg some (by kernel_rfl))
 f49:=⟨Tryz.f233.name,by decide,Tryz.func233.trans (congrArg some (by kernel_rfl))⟩
 f50:=⟨Tryz.f234.name,by decide,Tryz.func234.trans (congrArg some (by kernel_rfl))⟩
 f57:=⟨Tryz.f235.name,by decide,Tryz.func235.trans (congrArg some (by kernel_rfl))⟩
 t0:=Tryz.underlying0
 a0:=Tryz.isAgg0
 z0:=Tryz.sizeOf0
 v0:=Tryz.zeroValue0
 t3:=Tryz.underlying3
 a3:=Tryz.isAgg3
 z3:=Tryz.sizeOf3
 v3:=Tryz.zeroValue3
 t4:=Tryz.underlying4
 a4:=Tryz.isAgg4
 z4:=Tryz.sizeOf4
 v4:=Tryz.zeroValue4
 t5:=Tryz.underlying5
 a5:=Tryz.isAgg5
 z5:=Tryz.sizeOf5
 v5:=Tryz.zeroValue5
 t9:=Tryz.underlying9
 a9:=Tryz.isAgg9
 z9:=Tryz.sizeOf9
 v9:=Tryz.zeroValue9
 t22:=Tryz.underlying22
 a22:=Tryz.isAgg22
 z22:=Tryz.sizeOf22
 v22:=Tryz.zeroValue22
 t25:=Tryz.underlying32
 a25:=Tryz.isAgg32
 z25:=Tryz.sizeOf32
 v25:=Tryz.zeroValue32
 t39:=Tryz.underlying148
 a39:=Tryz.isAgg148
 z39:=Tryz.sizeOf148
 v39:=Tryz.zeroValue148
 t45:=Tryz.underlying165
 a45:=Tryz.isAgg165
 z45:=Tryz.sizeOf165
 v45:=Tryz.zeroValue165
 t46:=Tryz.underlying166
 a46:=Tryz.isAgg166
 z46:=Tryz.sizeOf166
 v46:=Tryz.zeroValue166
 t50:=Tryz.underlying61
 a50:=Tryz.isAgg61
 z50:=Tryz.sizeOf61
 v50:=Tryz.zeroValue61
 t53:=Tryz.underlying173
 a53:=Tryz.isAgg173
 z53:=Tryz.sizeOf173
 v53:=Tryz.zeroValue173
 t55:=Tryz.underlying175
 a55:=Tryz.isAgg175
 z55:=Tryz.sizeOf175
 v55:=Tryz.zeroValue175
 t66:=Tryz.underlying190
 a66:=Tryz.isAgg190
 z66:=Tryz.sizeOf190
 v66:=Tryz.zeroValue190
 t70:=Tryz.underlying194
 a70:=Tryz.isAgg194
 z70:=Tryz.sizeOf194
 v70:=Tryz.zeroValue194
 t76:=Tryz.underlying201
 a76:=Tryz.isAgg201
 z76:=Tryz.sizeOf201
 v76:=Tryz.zeroValue201
 t77:=Tryz.underlying202
 a77:=Tryz.isAgg202
 z77:=Tryz.sizeOf202
 v77:=Tryz.zeroValue202 }
open Go.RowKit Go.Shelf Go.Sort
theorem gV.grow {w w':World}(h:gV w w'):∃q os',w'=Go.Sort.grow (w.drewN q) os':=by
 refine⟨w'.drawn-w.drawn,w'.heap.extract w.heap.size w'.heap.size,?_⟩;obtain⟨hb,hd⟩:=h;obtain⟨heap,tape,drawn,os,output⟩:=w;obtain⟨heap',tape',drawn',os',output'⟩:=w';obtain⟨h1,h2,h3,h4,h5⟩:=hb;simp only at h1 h2 h3 h4 h5 hd;subst h1 h2 h3
 have hh:heap'=heap++heap'.extract heap.size heap'.size:=by
  apply Array.ext_getElem?;intro k
  by_cases hk:k<heap.size
  ·rw[Array.getElem?_append_left hk]
   exact h5 k hk
  ·rw[Array.getElem?_append_right (by omega),Array.getElem?_extract]
   have e:heap.size+(k-heap.size)=k:=by omega
   by_cases hk':k<heap'.size
   ·rw[if_pos (by omega),e]
   ·rw[if_neg (by omega),Array.getElem?_eq_none (by omega)]
 have hd':drawn'=drawn+(drawn'-drawn):=by omega
 show World.mk _ _ _ _ _=World.mk (heap++heap'.extract heap.size heap'.size) _ (drawn+(drawn'-drawn)) _ _;rw[<-hh,<-hd'];rfl
def FA (w:World)(D:Dom):Type := { x:Fm×(Option Addr×Nat) // bZ w D x.1.args x.2.1 x.2.2/\x.1.size<=1000000 }
instance (w:World) (D:Dom):Inhabited (FA w D):=⟨⟨(dV,(none,0)),bZ.nil _ _ _ (Nat.zero_le _),by decide⟩⟩
def FA.enc {w:World}{D:Dom}(x:FA w D):List Value:=fH x.1.1 x.1.2
def FA.cf {w:World}{D:Dom}(x y:FA w D):Int:=x.1.1.cmp y.1.1
theorem FA.lt_iff {w:World}{D:Dom}(x y:FA w D):ltOf FA.cf x y=true ↔ x.1.1.cmp y.1.1<0:=by unfold ltOf FA.cf;simp
theorem FA.swo (w:World)(D:Dom):SWO (ltOf (FA.cf (w:=w) (D:=D))) where
 irrefl x:=by
  cases h:ltOf FA.cf x x
  ·rfl
  ·rw[FA.lt_iff,tY]at h;omega
 trans x y z h1 h2:=by
  rw[FA.lt_iff]at *
  exact(qo _ _ _).lt (by omega) (by omega) (.inl h1)
 ntrans x y z h1 h2:=by
  have k1:¬x.1.1.cmp y.1.1<0 := λ e=>by rw[(FA.lt_iff x y).2 e]at h1;cases h1
  have k2:¬y.1.1.cmp z.1.1<0 := λ e=>by rw[(FA.lt_iff y z).2 e]at h2;cases h2
  cases h:ltOf FA.cf x z
  ·rfl
  ·rw[FA.lt_iff]at h
   have a1:=kR x.1.1 y.1.1;have a2:=kR y.1.1 z.1.1;have a3:=kR x.1.1 z.1.1;have:=(qo z.1.1 y.1.1 x.1.1).le (by omega) (by omega);omega
theorem En {α : Type}[Inhabited α](enc : α -> List Value)(k:Nat)(w:World)(blk off m:Nat)(dk:Array α)(os:Array Obj){j:Nat}(hj:j<w.heap.size)(hne:j≠blk):(sortWorldK enc k w blk off m dk os).heap[j]?=w.heap[j]?:=by
 unfold sortWorldK Go.Sort.grow putRowK putRow mapBlock;simp only;rw[Array.getElem?_append_left (by simpa using hj),Array.getElem?_modify,if_neg (λ e=>hne e.symm)];rfl
theorem BR {α : Type}[Inhabited α](enc : α -> List Value)(k:Nat)(w:World)(blk off m:Nat)(dk:Array α)(os:Array Obj){cs:Array Value}{t:TypeId}{fr:Nat×Nat}(h:w.heap[blk]?=some (.cells cs t fr)) :
  ∃cs',(sortWorldK enc k w blk off m dk os).heap[blk]?=some (.cells cs' t fr)/\cs'.size=cs.size/\∀j,(¬(off<=j/\j<off+dk.size*k))->cs'[j]?=cs[j]?:=by
 have hb:blk<w.heap.size:=lt_of_block h;refine⟨putCells id off (flatK enc k dk) cs,?_,by simp[putCells],λ j hj=>?_⟩
 ·unfold sortWorldK Go.Sort.grow putRowK putRow mapBlock
  simp only;rw[Array.getElem?_append_left (by simpa using hb),Array.getElem?_modify,if_pos rfl];show Option.map _ (w.heap[blk]?)=_;rw[h];rfl
 ·unfold putCells
  rw[Array.getElem?_mapIdx];have:(flatK enc k dk).size=dk.size*k:=by simp[flatK]
  rw[this]
  cases cs[j]? with
  | none=>rfl
  | some x=>simp[hj]
theorem rF {α : Type}[Inhabited α](enc : α -> List Value)(k:Nat)(w:World)(blk off m:Nat)(dk:Array α)(os:Array Obj):aH (λ x=>x=blk) w (sortWorldK enc k w blk off m dk os) :=
 ⟨rfl,rfl,rfl,size_sortWorldK_c enc k w blk off m dk os,λ j hj hne=>En enc k w blk off m dk os hj hne⟩
theorem Yv {w:World}{D:Dom}(blk off size:Nat)(hD:∀k,D k->Cl w k/\k≠blk):CmpLays Tryz.prog 16 #[] (FA.enc (w:=w) (D:=D)) 5 FA.cf blk off size w:=by
 intro m os dk hdk x y;have hk:Keeps D w (sortWorldK FA.enc 5 w blk off m dk os):=(rF FA.enc 5 w blk off m dk os).keeps λ k _ hk hv=>(hD k hk).2 hv;obtain⟨⟨f,A,c⟩,hx,hxs⟩:=x;obtain⟨⟨g,A2,c2⟩,hy,hys⟩:=y;refine(oV f g _ _ _ (bI.cells5 (hx.keep hk)) (bI.cells5 (hy.keep hk)) hxs (.inl λ k hk'=>((hD k hk').1).of_eq (hk.block k hk' (hD k hk').1.lt))).mono ?_;rintro e w' ⟨rfl,hb⟩;exact⟨rfl,hb.grow⟩
theorem YI {w:World}{D:Dom}(d:Array (FA w D)){i j:Nat}(hi:i<d.size)(hj:j<5):(flatK FA.enc 5 d)[i*5+j]?=(FA.enc d[i]!)[j]?:=by
 have hlt:i*5+j<(flatK FA.enc 5 d).size:=by simp[flatK];omega
 have h1:=get_flatK (FA.enc (w:=w) (D:=D)) 5 d (i*5+j) (by omega);rw[getElem!_pos (flatK FA.enc 5 d) (i*5+j) hlt]at h1;rw[Array.getElem?_eq_getElem hlt,h1,show(i*5+j) / 5=i by omega,show(i*5+j) % 5=j by omega];have hl:j<(FA.enc d[i]!).length:=by show j<5;exact hj
 rw[List.getElem?_eq_getElem hl,getElem!_pos (FA.enc d[i]!) j hl]
def wF {w:World}{D:Dom}(d:Array (FA w D)):List Fm:=d.toList.map λ x=>x.1.1
def GZ {w:World}{D:Dom}(d:Array (FA w D)):List (Option Addr×Nat):=d.toList.map λ x=>x.1.2
theorem yg {w:World}{D:Dom}(d:Array (FA w D)){i:Nat}(hi:i<d.size):(wF d).getD i default=(d[i]!).1.1/\(GZ d).getD i (none,0)=(d[i]!).1.2:=by
 unfold wF GZ;rw[getElem!_pos d i hi,List.getD_eq_getElem?_getD,List.getD_eq_getElem?_getD,List.getElem?_map,List.getElem?_map,Array.getElem?_toList,Array.getElem?_eq_getElem hi];exact⟨rfl,rfl⟩
theorem FK {w:World}{D:Dom}(d:Array (FA w D)):(flatK FA.enc 5 d).toList=bQ (wF d) (GZ d):=by
 have hl:(wF d).length=d.size:=by simp[wF]
 have hl2:(GZ d).length=(wF d).length:=by simp[wF,GZ]
 apply List.ext_getElem?;intro t
 by_cases ht:t<d.size*5
 ·have e:t=t / 5*5+t % 5:=by omega
  have hi:t / 5<d.size:=by omega
  rw[e,Array.getElem?_toList,YI d hi (by omega),lu hl2 (by omega) (by omega),(yg d hi).1,(yg d hi).2];rfl
 ·rw[List.getElem?_eq_none (by simp[flatK];omega),List.getElem?_eq_none (by rw[iM hl2,hl];omega)]
theorem fV {gs:List Fm}{i:Nat}(hi:i<gs.length):gs.getD i default∈gs:=by simp[List.getD,hi]
def Dq (gs:List Fm):Prop:=gs.Pairwise λ a b=>a.cmp b<=0
theorem LC {w:World}{base g c n:Nat}{gs:List Fm}{sl:List (Option Addr×Nat)}(h:bT w base (some ⟨g,0,none⟩) c gs sl)(hn:n=gs.length)(hs:∀f,f∈gs->f.size<=1000000)(hlen:gs.length<=1000000) :
  Calls Tryz.prog 218 #[.slice (some ⟨g,0,none⟩) n c,.func (.func 16) #[] #[]] w λ e w' =>
   e = .returned (.tuple #[])/\∃gs' sl',gs'.Perm gs/\Dq gs'/\bT w' base (some ⟨g,0,none⟩) c gs' sl'/\aH (λ x=>x=g) w w':=by
 subst hn;obtain⟨D,hD⟩:∃D:Dom,D = λ k=>Nw base w k/\(Value.slice (some ⟨g,0,none⟩) gs.length c).ownBlock≠some k:=⟨_,rfl⟩
 have hDk:∀k,D k->(base<=k/\Cl w k)/\k≠g := λ k hk=>by
  rw[hD]at hk;exact⟨hk.1,λ e=>hk.2 (by rw[e];rfl)⟩
 have harg:=h.arg;rw[<-hD]at harg;clear hD;obtain⟨d,hd⟩:∃d:Array (FA w D),d=Array.ofFn (n:=gs.length) λ i=>(⟨(gs.getD i default,sl.getD i (none,0)),harg i i.2,hs _ (fV i.2)⟩:FA w D):=⟨_,rfl⟩;have hds:d.size=gs.length:=by rw[hd];exact Array.size_ofFn
 have hdi:∀i (hi:i<gs.length),d[i]?=some (⟨(gs.getD i default,sl.getD i (none,0)),harg i hi,hs _ (fV hi)⟩:FA w D) := λ i hi=>by
  rw[hd];exact Array.getElem?_ofFn.trans (dif_pos hi)
 have hgs:wF d=gs:=by
  apply List.ext_getElem?;intro i
  by_cases hi:i<gs.length
  ·unfold wF
   rw[List.getElem?_map,Array.getElem?_toList,hdi i hi,List.getElem?_eq_getElem hi];show some (gs.getD i default)=some gs[i];simp[List.getD,hi]
  ·rw[List.getElem?_eq_none (by simp[wF,hds];omega),List.getElem?_eq_none (by omega)]
 have hsl:GZ d=sl:=by
  apply List.ext_getElem?;intro i
  by_cases hi:i<gs.length
  ·unfold GZ
   have hi2:i<sl.length:=by rw[h.len];exact hi
   rw[List.getElem?_map,Array.getElem?_toList,hdi i hi,List.getElem?_eq_getElem hi2];show some (sl.getD i (none,0))=some sl[i];simp[List.getD,hi2]
  ·rw[List.getElem?_eq_none (by simp[GZ,hds];omega),List.getElem?_eq_none (by rw[h.len];omega)]
 have qgn:(flatK FA.enc 5 d).toList=bQ gs sl:=by rw[FK,hgs,hsl]
 have qcu:HoldsK FA.enc 5 w g 0 d:=by
  intro j hj;rw[Nat.zero_add];have hj':j<(flatK FA.enc 5 d).size:=hj
  have hu:(bQ gs sl)[j]?=some ((flatK FA.enc 5 d)[j]!):=by
   rw[<-qgn,Array.getElem?_toList,Array.getElem?_eq_getElem hj',getElem!_pos (flatK FA.enc 5 d) j hj']
  have:=nK h.own hu;exact⟨this.1,this.2.1⟩
 have hgl:g<w.heap.size:=(h.ge rfl).2
 have hcon:=AnyQ.slices_SortFunc JG 5 Tryz.isAgg24 Tryz.sizeOf24 (FA.enc (w:=w) (D:=D)) (λ _=>rfl) (λ x v hv=>by
  simp[FA.enc,fH]at hv
  rcases hv with rfl|rfl|rfl|rfl|rfl <;> rfl) FA.cf (FA.swo w D) 16 #[] g 0 c d w (enters_of Tryz.func16 (by kernel_rfl) rfl) (Yv g 0 d.size λ k hk=>⟨(hDk k hk).1.2,(hDk k hk).2⟩) qcu hgl (by omega)
 rw[hds]at hcon
 change Calls Tryz.prog 218 _ _ _ at hcon
 refine hcon.mono ?_;rintro e w' ⟨rfl,d',n,os,⟨hp1,_,hp3⟩,hsort,rfl⟩;have hd's:d'.size=gs.length:=by omega
 have hlen':(wF d').length=gs.length:=by simp[wF];omega
 have hl2:(GZ d').length=(wF d').length:=by simp[wF,GZ]
 refine⟨rfl,wF d',GZ d',?_,?_,?_,rF _ _ _ _ _ _ _ _⟩
 ·rw[<-hgs]
  unfold wF;refine List.Perm.map _ ?_;have e1:d'.extract 0 gs.length=d':=by rw[<-hd's];simp
  have e2:d.extract 0 gs.length=d:=by rw[<-hds];simp
  rwa [e1,e2]at hp3
 ·unfold Dq
  rw[List.pairwise_iff_getElem];intro i j hi hj hij;have hi':i<d'.size:=by omega
  have hj':j<d'.size:=by omega
  have:=hsort i j (Nat.zero_le _) hij (by omega);have h1:¬(d'[j]!).1.1.cmp (d'[i]!).1.1<0 := λ e=>by rw[(FA.lt_iff _ _).2 e]at this;cases this
  have e1:=(yg d' hi').1;have e2:=(yg d' hj').1;have g1:(wF d')[i]=(d'[i]!).1.1:=by rw[<-e1];simp[List.getD,hi]
  have g2:(wF d')[j]=(d'[j]!).1.1:=by rw[<-e2];simp[List.getD,hj]
  rw[g1,g2];have:=kR (d'[i]!).1.1 (d'[j]!).1.1;omega
 ·rcases h.own.2 with⟨h0,_⟩|⟨g',cap,cur,hv,hb,hg,q1,q2,q3,q4⟩
  ·cases h0
  ·injection hv with e1 e2 e3
   injection e1 with e1
   injection e1 with e1
   subst e1 e3;obtain⟨cs',hcs,hsz,_⟩:=BR FA.enc 5 w g 0 n d' os hg;have hH:=holdsK_sortWorldK_c FA.enc 5 w g 0 d d' n os qcu hgl (by omega);refine⟨⟨by rw[iM hl2],.inr ⟨g,c,cs',rfl,hb,hcs,by omega,q2,by omega,?_⟩⟩,hl2,λ i hi=>?_⟩
   ·rw[<-FK]
    apply List.ext_getElem?;intro t
    by_cases ht:t<d'.size*5
    ·have ht':t<(flatK FA.enc 5 d').size:=by simp[flatK];omega
     have h1:=(hH t ht').1;rw[Nat.zero_add]at h1
     have h2:cs'[t]?=some (id (flatK FA.enc 5 d')[t]!):=by
      have:=h1;unfold World.cell? at this;rw[hcs]at this;simpa using this
     rw[List.getElem?_take_of_lt (by omega),Array.getElem?_toList,h2,Array.getElem?_toList,Array.getElem?_eq_getElem ht',getElem!_pos (flatK FA.enc 5 d') t ht'];rfl
    ·rw[List.getElem?_eq_none (by rw[List.length_take];omega),List.getElem?_eq_none (by simp[flatK];omega)]
   ·have hi':i<d'.size:=by omega
    rw[(yg d' hi').1,(yg d' hi').2];have hk:Keeps D w (sortWorldK FA.enc 5 w g 0 n d' os):=(rF FA.enc 5 w g 0 n d' os).keeps λ k _ hk hv=>(hDk k hk).2 hv;exact((d'[i]!).2.1.keep hk).mono λ k hk' _=>⟨⟨(hDk k hk').1.1,(hDk k hk').1.2.of_eq (hk.block k hk' (hDk k hk').1.2.lt)⟩,λ e=>by injection e with e;exact(hDk k hk').2 e.symm⟩
theorem LD (p:Option Addr)(c:Nat)(fv:Value)(w:World):Calls Tryz.prog 218 #[.slice p 0 c,fv] w λ e w'=>e = .returned (.tuple #[])/\w'=w:=by
 have:=AnyF.slices_SortFunc_none JG p c fv w;exact this
end Go.Proofs.YtdpbgcmfeajigaaGreatDoor
namespace Go.Proofs.YtdpbgcmfeajigaaGreatDoor
open Go.RowKit Go.Shelf
attribute [local go_sem] ak jQ
theorem Ob {D:Dom}(f:Fm)(v:Value)(w:World)(h:bI w D v f)(h4:f.op=4->0<f.args.length) :
  Calls Tryz.prog 207 #[v] w λ e w'=>∃kv,e = .returned (.tuple #[kv,.bool (decide (f.op=4))])/\gV w w'/\bI w' (λ k=>D k/\k<w.heap.size) kv (if f.op=4 then f.args.getD 0 default else dV):=by
 obtain⟨A,c,rfl,ha⟩:=h;have HA:=hid (ha.mono (E := λ k=>D k/\k<w.heap.size) λ k hk hl=>⟨hk,hl⟩);clear ha
 go_enter Tryz.func207,Tryz.ntmps207
 go_upto_region 1 with(fail)
 refine aC λ W hW=>?_;have HB:=hid (show gV w W by rw[hW];exact((gV.refl w).alloc _).alloc _)
 have HE:=hid (show dH W w.heap.size f A c by
  show W.heap[w.heap.size]?=_
  rw[hW,aQ _ _ _ (by simp)];exact at_new _ _ _ rfl)
 have HR:=hid (show OB W (w.heap.size+1) 0 ⟨#[]⟩ 0 0 none 0 0 by rw[hW];exact at_new _ _ _ (by simp));have HAW:=hid (HA.out.keep (Keeps.of_below HB.out.below λ _ h=>h.2));obtain⟨x0,x1,x2,x3,x4,xl⟩:=HE.out.cells;obtain⟨r0,r1,r2,r3,r4,rl⟩:=HR.out.cells;have p0:=HR.out.free 0;have p1:=HR.out.free 1;have p2:=HR.out.free 2;have p3:=HR.out.free 3;have p4:=HR.out.free 4;clear hW
 by_cases hq:f.op=4
 ·have hpos:=h4 hq
  obtain⟨b1,o1,A1,c1,g,rfl,hx,hg⟩:=HAW.out.get hpos;rw[Nat.zero_mul,Nat.add_zero]at hg;have HX:=hid hx.out;have Xh:=hid hg.args;obtain⟨q1,q2,c0,Vf,Vg,TT,c4,q3⟩:=hg;have hne:(f.op != 4)=false:=qm hq;have hpi:(0:Int)<f.args.length:=by omega
  have HQ:=hid hq;have hb1:¬b1=w.heap.size+1:=by have:=q1.2;omega
  have hb1':¬w.heap.size+1=b1 := λ e=>hb1 e.symm;clear hx q3 hq h4;go_wp2_with fail
  refine aK λ WE fD=>?_;have jl:OB WE (w.heap.size+1) g.op g.name g.val g.bound A1 g.args.length c1:=by rw[fD];exact bF HR.out
  have mO:gV w WE:=by rw[fD];exact((((HB.out.set _ (by simp) _).set _ (by simp) _).set _ (by simp) _).set _ (by simp) _).set _ (by simp) _
  have hcE:aH (λ x=>x=w.heap.size+1) W WE:=by rw[fD];exact aN _ _ _ _ _ _ _
  have hga:=Xh.out.keep (hcE.keeps λ k _ hk hv=>by have:=hk.2;omega);obtain⟨y0,y1,y2,y3,y4,yl⟩:=jl.cells;clear fD r0 r1 r2 r3 r4 p0 p1 p2 p3 p4;refine bodyPost_ret (v := .tuple #[.agg #[.int .i64 g.op,.string g.name,.int .i64 g.val,.int .i64 g.bound,.slice A1 g.args.length c1],.bool true]) (by simp[results,Tryz.results207,go_sem,y0,y1,y2,y3,y4]) rfl ⟨_,rfl,mO,?_⟩;have hx0:f.args[0]=g:=by have:=HX.out;simpa[List.getD,hpos]using this
  rw[hx0];exact⟨A1,c1,rfl,hga⟩
 ·have hne:(f.op != 4)=true:=mG hq
  have HQ:=hid hq;clear hq h4;go_wp2_with fail
  refine aK λ WE fD=>?_;have jl:OB WE (w.heap.size+1) 0 ⟨#[]⟩ 0 0 none 0 0:=by rw[fD];exact bF HR.out
  have mO:gV w WE:=by rw[fD];exact((((HB.out.set _ (by simp) _).set _ (by simp) _).set _ (by simp) _).set _ (by simp) _).set _ (by simp) _
  obtain⟨y0,y1,y2,y3,y4,yl⟩:=jl.cells;clear fD r0 r1 r2 r3 r4 p0 p1 p2 p3 p4;refine bodyPost_ret (v := .tuple #[.agg #[.int .i64 0,.string ⟨#[]⟩,.int .i64 0,.int .i64 0,.slice none 0 0],.bool false]) (by simp[results,Tryz.results207,go_sem,y0,y1,y2,y3,y4]) rfl ⟨_,rfl,mO,?_⟩;exact⟨none,0,rfl,bZ.nil _ _ _ (by omega)⟩
theorem Yr (A:Option Addr)(n c:Nat)(w:World)(hn:n<=c)(hc:c<=9223372036854775807) :
  Calls Tryz.prog 208 #[.slice A n c] w λ e w'=>e = .returned (.slice A n n)/\w'=w:=by
 have h1:¬((n:Int)<0):=by omega
 have h2:¬((c:Int)<n):=by omega
 have hf:=Tryz.underlying22;have hsz:=Tryz.sizeOf24
 have hs:∀W:World,(Instr.slice 22 (.slice A n c) none (some (.int .i64 (n:Int))) (some (.int .i64 (n:Int)))).run Tryz.prog W = .ok (.slice A n n) W := λ W=>by
  cases A with
  | none=>simp[Instr.slice,run_underlying hf,hsz,Instr.sliceBounds,Instr.sliceBound,asIntOf,go_sem,h1,h2,hn]
  | some a=>simp[Instr.slice,run_underlying hf,hsz,Instr.sliceBounds,Instr.sliceBound,asIntOf,go_sem,h1,h2,hn,Addr.add]
 go_enter Tryz.func208,Tryz.ntmps208
 go_wp2_with fail
 go_ret
 exact⟨rfl,rfl⟩
theorem Ue {D E:Dom}(f g:Fm)(v v2:Value)(cb:Nat)(w:World)(h:bI w D v f)(h2:bI w E v2 g)(hz:f.size<=1000000)(hcl:(∀b,D b->Cl w b)\/(∀b,E b->Cl w b))
  (hc:w.cell? ⟨cb,0,none⟩=some (.func (.func 16) #[] #[])) :
  Calls Tryz.prog 220 #[v,v2,.pointer (some ⟨cb,0,none⟩)] w λ e w'=>e = .returned (.bool (f.cmp g==0))/\gV w w':=by
 obtain⟨A,c,rfl,ha⟩:=h;obtain⟨A2,c2,rfl,ha2⟩:=h2;have HA:=hid (ha.mono (E := λ k=>D k/\k<w.heap.size) λ k hk hl=>⟨hk,hl⟩);have HA2:=hid (ha2.mono (E := λ k=>E k/\k<w.heap.size) λ k hk hl=>⟨hk,hl⟩);have hcb:=World.block_lt_of_cell? w _ hc;have eg:∀args W,(callFunc 16 args).run Tryz.prog W = .ok (.enter 16 args) W:=enters_of Tryz.func16 (by kernel_rfl) rfl;clear ha ha2
 go_enter Tryz.func220,Tryz.ntmps220
 go_upto_region 1 with(fail)
 refine aC λ W hW=>?_;have HB:=hid (show gV w W by rw[hW];exact((gV.refl w).alloc _).alloc _)
 have HE:=hid (show dH W w.heap.size f A c by
  show W.heap[w.heap.size]?=_
  rw[hW,aQ _ _ _ (by simp)];exact at_new _ _ _ rfl)
 have HE2:=hid (show dH W (w.heap.size+1) g A2 c2 by
  show W.heap[w.heap.size+1]?=_
  rw[hW];exact at_new _ _ _ (by simp))
 obtain⟨x0,x1,x2,x3,x4,xl⟩:=HE.out.cells;obtain⟨z0,z1,z2,z3,z4,zl⟩:=HE2.out.cells;have hcW:W.cell? ⟨cb,0,none⟩=some (.func (.func 16) #[] #[]):=(HB.out.below.cell (p:=⟨cb,0,none⟩) hcb).trans hc
 have HCMP:=hid (oV f g _ _ W (bI.cells5 (HA.out.keep (Keeps.of_below HB.out.below λ _ h=>h.2))) (bI.cells5 (HA2.out.keep (Keeps.of_below HB.out.below λ _ h=>h.2))) hz (by
  rcases hcl with h|h
  ·exact .inl λ k hk=>(h k hk.1).of_eq (HB.out.below.block k hk.2)
  ·exact .inr λ k hk=>(h k hk.1).of_eq (HB.out.below.block k hk.2)))
 clear hW hcl hc;go_wp2_with (first|(go_at_call 16;refine HCMP.out.mono ?_;rintro e W9 ⟨rfl,ni⟩))
 go_ret
 exact⟨rfl,HB.out.trans ni⟩
end Go.Proofs.YtdpbgcmfeajigaaGreatDoor
