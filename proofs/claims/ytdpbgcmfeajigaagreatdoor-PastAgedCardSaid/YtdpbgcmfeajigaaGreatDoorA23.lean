/-
  Parts of a proof: X3 X4 X5 X6 LN.
-/
import Derived.Shelf.Abstract
import Derived.Shelf.AbstractIn
import Derived.Test.YtdpbgcmfeajigaaGreatDoorA06
import Derived.Test.YtdpbgcmfeajigaaGreatDoorA22
import Derived.Test.YtdpbgcmfeajigaaGreatDoorA16
import Derived.Test.YtdpbgcmfeajigaaGreatDoorRows
import Derived.ProofKit
import Derived.LaidMore
import Derived.OpenShut
import Derived.Stop.Joined
import Derived.Test.YtdpbgcmfeajigaaGreatDoorA04
set_option linter.unusedSimpArgs false
set_option linter.unusedVariables false
set_option maxHeartbeats 8000000
set_option maxRecDepth 100000
namespace Go.Proofs.YtdpbgcmfeajigaaGreatDoor
open Go.RowKit Go.Shelf
attribute [local go_sem] ak run_store_func
structure TP (l:Nat) (L:List (Fm×Bool)) (Z:Dom) (B0 B1:Nat) (J:Nat->World->Prop) (X:World->Prop):Prop where
 z:∀b,Z b->B0<=b/\(b<B1\/B1+2<=b)
 keep:∀k W W',J k W->aH (λ b=>B1<=b/\b<B1+2) W W'->J k W'
 qcG:∀W W',X W->aH (λ b=>B1<=b/\b<B1+2) W W'->X W'
 step:∀k W b o A c,B1+2<=W.heap.size->J k W->k<L.length->dU W (· < B0) b o (L.getD k default).1 A c ->
  YieldAt Fence.wide 0 Tryz.prog l #[.pointer (some ⟨b,o,none⟩)] W λ e W'=>aH Z W W'/\((e = .returned (.bool true)/\J (k+1) W')\/(e = .returned (.bool false)/\X W'))
structure U4 (w:World) (l yb vb:Nat):Prop where
 y:w.heap[yb]?=some (.cells #[.func (.yield l) #[] #[]] 66 (0,0))
 v:w.heap[vb]?=some (.cells #[.func (.func 210) #[] #[.pointer (some ⟨yb,0,none⟩),.pointer (some ⟨vb,0,none⟩)]] 66 (0,0))
theorem U4.eu {w w':World}{l yb vb:Nat}{V:Dom}(h:U4 w l yb vb)(hc:aH V w w')(hy:¬V yb)(hv:¬V vb):U4 w' l yb vb:=⟨hc.box h.y hy,hc.box h.v hv⟩
theorem TA {l:Nat}{L:List (Fm×Bool)}{Z:Dom}{B0 B1:Nat}{J:Nat->World->Prop}{X:World->Prop}(hR:TP l L Z B0 B1 J X)(yb vb:Nat)(hy:B1<=yb/\yb<B1+2)(hv:B1<=vb/\vb<B1+2)(hB:0<B0)(f:Fm):∀(ins:Bool) (b o:Nat) (A:Option Addr) (c:Nat) (k:Nat) (w:World) (hf:dU w (· < B0) b o f A c) (hvb:U4 w l yb vb) (hs:B1+2<=w.heap.size) (hj:J k w) (hl:(L.drop k).take f.size=fA ins f),
  Calls Tryz.prog 210 #[.pointer (some ⟨b,o,none⟩),.pointer (some ⟨yb,0,none⟩),.pointer (some ⟨vb,0,none⟩)] w (EC Z J X (k+f.size) w):=by
 refine Fm.induct (P := λ f=>∀(ins:Bool) (b o:Nat) (A:Option Addr) (c:Nat) (k:Nat) (w:World) (hf:dU w (· < B0) b o f A c) (hvb:U4 w l yb vb) (hs:B1+2<=w.heap.size) (hj:J k w) (hl:(L.drop k).take f.size=fA ins f),
  Calls Tryz.prog 210 #[.pointer (some ⟨b,o,none⟩),.pointer (some ⟨yb,0,none⟩),.pointer (some ⟨vb,0,none⟩)] w (EC Z J X (k+f.size) w)) ?_ f
 intro f ih ins b o A c k w hf hvb hs hj hl;have HR:=hid hR;have HIH:=hid ih;have jI:=hid (Fm.size_eq f);have HH:=hid hf;have HV:=hid hvb;have HJ:=hid hj;have HL:=hid hl;have HNY:=hid (show¬Z yb from λ h=>by have:=hR.z _ h;omega);have Hl:=hid (show¬Z vb from λ h=>by have:=hR.z _ h;omega);have Ir:Hid (∀b,b<w.heap.size->b<B0->¬Z b):=hid λ b _ h hz=>by have:=hR.z _ hz;omega
 have hal:=hf.args.len.1;obtain⟨hkL,hLk⟩:=wQ hl;obtain⟨yf,yt,ya,yb',Ro,Uh⟩:=hR.step k w b o A c hs hj hkL (by rw[hLk];exact hf);obtain⟨_,hlw,_,_,_,_,_,_⟩:=hf;have y0:=aj hvb.y (i:=0) rfl;have HR4:=hid Uh;clear hR ih hvb hj hl hkL hLk Uh
 go_enter Tryz.func210,Tryz.ntmps210
 go_upto_region 1 with(fail)
 refine(wpIn_wide (n:=1)).1 ?_
 gi_wp2
 refine HR4.out.mono ?_;rintro e w4 ⟨hc4,(⟨rfl,Ug⟩|⟨rfl,YQ⟩)⟩
 rotate_left
 ·have zN:=hid hc4
  have HX4:=hid YQ;clear hc4 YQ y0 Ro
  gi_wp2
  go_wp2_with fail
  go_ret
  exact⟨zN.out,false,rfl,(λ h=>by cases h),λ _=>HX4.out⟩
 ·have HC8:=hid hc4
  have HJ8:=hid Ug;obtain⟨_,hl4,c0,c1,c2,c3,c4,_⟩:=HH.out.keep (hc4.keeps Ir.out);obtain⟨ps,hps⟩:∃ps,ps=(ins || (aJ f.op).past):=⟨_,rfl⟩;have HQ:=hid hps;clear hc4 Ug y0 Ro c0 c1 c2 c3 hps
  gi_wp2
  go_wp2_with fail
  go_loopw [15] (λ q wr=>∃i:Nat,i<=f.args.length/\q = .int .i64 (i:Int)/\aH Z w wr/\J (k+1+sizes (f.args.take i)) wr) (λ q _=>f.args.length-(intOf q).toNat)
  case atStart=>exact⟨0,Nat.zero_le _,rfl,HC8.out,by simpa[sizes]using HJ8.out⟩
  case round =>
   obtain⟨i,hi,rfl,hc,hj⟩:=hrel;have EL:=hid hc;have XJ:=hid hj;obtain⟨_,hlr,_,_,_,_,Xn,ha'⟩:=HH.out.keep (hc.keeps Ir.out);have Pq:=hid ha';have hvr:=HV.out.eu hc HNY.out Hl.out;have zW:=hid hvr;have ML:=hid (Nat.le_trans hs hc.size);clear hc hj ha' hvr
   by_cases uj:i<f.args.length
   ·have hii:(i:Int)<f.args.length:=by omega
    obtain⟨b1,o1,A1,c1,g,rfl,HX,hg⟩:=Pq.out.get uj;have rO:=hid (rE f.args uj);have XL:=hid (sK HL.out uj HX.out);have XI:=hid (HIH.out i uj);rw[HX.out]at rO XI;rw[<-HQ.out]at XL;have f0:=aj zW.out.v (i:=0) rfl
    have aX:Hid (∀W',aU wr W'->Calls Tryz.prog 210 #[.pointer (some ⟨b1,o1+i*5,none⟩),.pointer (some ⟨yb,0,none⟩),.pointer (some ⟨vb,0,none⟩)] W' λ e W9=>aH Z wr W9/\∃r,e = .returned (.bool r)/\(r=true->J (k+1+sizes (f.args.take (i+1))) W9)/\(r=false->X W9)):=hid λ W' hdw=>by
     have hbw:=hdw.below wr.heap.size;have hcd:aH (λ b=>B1<=b/\b<B1+2) wr W':=aH.aS hbw;refine(XI.out ps b1 (o1+i*5) A1 c1 (k+1+sizes (f.args.take i)) W' (hg.keep hdw.keeps) ⟨(hbw.block _ (lt_of_block zW.out.y)).trans zW.out.y,(hbw.block _ (lt_of_block zW.out.v)).trans zW.out.v⟩ (Nat.le_trans ML.out hbw.size) (HR.out.keep _ _ _ XJ.out hcd) XL.out).mono ?_;rintro e w' ⟨hc,hx⟩;rw[rO.out,<-Nat.add_assoc];exact⟨(aH.aS (V:=Z) hbw).trans hc,hx⟩
    have aI:Hid (∀W':World,aH Z wr W'->W'.cell? ⟨vb,0,none⟩=some (.func (.func 210) #[] #[.pointer (some ⟨yb,0,none⟩),.pointer (some ⟨vb,0,none⟩)])/\W'.cell? ⟨b,o+4,none⟩=some (.slice (some ⟨b1,o1,none⟩) f.args.length c)):=hid λ W' hc =>
     ⟨aj (zW.out.eu hc HNY.out Hl.out).v (i:=0) rfl,(HH.out.keep ((EL.out.trans hc).keeps Ir.out)).c4⟩
    clear hg;have HI1:=hid (show aU wr wr.drew from(aU.refl wr).drew);have HI2:=hid (λ i=>aU.n wr i);go_upto_region 6 with(fail)
    go_region_held3 (λ W':World=>W'.cell? ⟨vb,0,none⟩=some (.func (.func 210) #[] #[.pointer (some ⟨yb,0,none⟩),.pointer (some ⟨vb,0,none⟩)])/\W'.cell? ⟨b,o+4,none⟩=some (.slice (some ⟨b1,o1,none⟩) f.args.length c))
     (first|(with_reducible exact aI.out _ hI)|(go_keep;done))
     ((go_at_call 210;with_reducible refine(aX.out _ (by first|exact HI1.out|exact HI2.out _)).mono ?_;rintro e W9 ⟨hI,r,rfl,hJ,hX⟩))
    all_goals
     have Qo:=hid hI;have Xg:=hid hJ;have HCX:=hid hX;clear hI hJ hX f0 Xn;cases r
     ·go_wp2_with fail
      go_ret
      exact⟨EL.out.trans Qo.out,false,rfl,(λ h=>by cases h),λ _=>HCX.out trivial⟩
     ·go_wp2_with fail
      go_roundw
      case rel=>exact⟨i+1,by omega,by go_num,EL.out.trans Qo.out,Xg.out rfl⟩
      case measure=>simp[intOf];omega
   ·have hie:f.args.take i=f.args:=List.take_of_length_le (by omega)
    have hnl:¬(i:Int)<f.args.length:=by omega
    have Xi:=hid (show J (k+f.size) wr by have:=XJ.out;rw[hie]at this;rw[jI.out,<-Nat.add_assoc];exact this);clear hie;go_wp2_with fail
    go_ret
    exact⟨EL.out,true,rfl,(λ _=>Xi.out),λ h=>by cases h⟩
theorem Oo {l:Nat}{Z:Dom}{B0 B1:Nat}{J:Nat->World->Prop}{X:World->Prop}(f:Fm)(hR:TP l (fA false f) Z B0 B1 J X)(hB:0<B0)(b o pb:Nat)(A:Option Addr)(c:Nat)(w:World)
  (hw:w.heap.size=B1) (hBB:B0<=B1) (hf:dU w (· < B0) b o f A c) (hp:w.cell? ⟨pb,0,none⟩=some (.pointer (some ⟨b,o,none⟩))) (hj:J 0 w) :
  Calls Tryz.prog 209 #[.func (.yield l) #[] #[],.pointer (some ⟨pb,0,none⟩)] w λ e w'=>(∃v,e = .returned v)/\aH Z w w'/\(J f.size w'\/X w'):=by
 subst hw;have HR:=hid hR;have HH:=hid hf;have HJ:=hid hj;have hpl:pb<w.heap.size:=World.block_lt_of_cell? w _ hp;clear hR hf hj
 go_enter Tryz.func209,Tryz.ntmps209
 go_upto_region 2 with(fail)
 refine aC λ W hW=>?_;have hbw:Below w.heap.size w W:=by rw[hW];go_grown
 have e0:W.heap[w.heap.size]?=some (.cells #[.func (.yield l) #[] #[]] 66 (0,0)):=by
  rw[hW,aQ _ _ _ (by simp only[World.size_alloc];omega),at_new _ _ _ rfl]
 have e3:W.heap[w.heap.size+1]?=some (.cells #[.nilFunc] 66 (0,0)):=by
  rw[hW,at_new _ _ _ (by simp only[World.size_alloc])]
 have hws:W.heap.size=w.heap.size+2:=by rw[hW];simp only[World.size_alloc]
 have hpW:W.cell? ⟨pb,0,none⟩=some (.pointer (some ⟨b,o,none⟩)):=(hbw.cell (p:=⟨pb,0,none⟩) hpl).trans hp;clear hW hp;have z0:=aj e3 (i:=0) rfl;have z1:=aA e3 (i:=0);have z2:=lt_of_block e3;have qgA:pb<W.heap.size:=by omega
 have mW:=hid e0;have Iq:=hid e3;have aT:=hid hbw;have zk:=hid hws;have HPW:=hid hpW;clear e0 e3 hbw hws hpW;go_upto_region 3 with(fail)
 refine aC λ W3 hW=>?_
 have VK:U4 W3 l w.heap.size (w.heap.size+1):=by
  refine⟨?_,?_⟩
  ·rw[hW,Below.heap_setCell _ _ _ _ (by simp only[];omega)];exact mW.out
  ·rw[hW,aB Iq.out];rfl
 have hb3:Below w.heap.size w W3:=by
  rw[hW];exact aT.out.trans ((aH.set (V := λ k=>k=w.heap.size+1) (aH.refl _ W) _ _ λ _=>rfl).below (λ b hb=>by omega) aT.out.size)
 have hs3:w.heap.size+2<=W3.heap.size:=by rw[hW];simp;have:=zk.out;omega
 have hp3:W3.cell? ⟨pb,0,none⟩=some (.pointer (some ⟨b,o,none⟩)):=by
  rw[<-HPW.out];have:=(aH.set (V := λ k=>k=w.heap.size+1) (aH.refl _ W) (p:=⟨w.heap.size+1,0,none⟩) (u := .func (.func 210) #[] #[.pointer (some ⟨w.heap.size,0,none⟩),.pointer (some ⟨w.heap.size+1,0,none⟩)]) λ _=>rfl);rw[<-hW]at this;exact World.cell?_of_block (w:=W) (a:=⟨pb,0,none⟩) (this.block pb (by simpa using qgA) (by omega))
 have f0:=aj VK.v (i:=0) rfl
 have aX:Hid (Calls Tryz.prog 210 #[.pointer (some ⟨b,o,none⟩),.pointer (some ⟨w.heap.size,0,none⟩),.pointer (some ⟨w.heap.size+1,0,none⟩)] W3 λ e W9=>aH Z W3 W9/\∃r,e = .returned (.bool r)/\(r=true->J (0+f.size) W9)/\(r=false->X W9)) :=
  hid (TA HR.out w.heap.size (w.heap.size+1) (by omega) (by omega) hB f false b o A c 0 W3 (HH.out.keep (Keeps.of_below hb3 λ k (hk:k<B0)=>Nat.lt_of_lt_of_le hk hBB)) VK hs3 (HR.out.keep _ _ _ HJ.out (aH.aS hb3)) (by rw[List.drop_zero,<-qZ false f,List.take_length]))
 have HB3:=hid hb3;clear hW hb3 VK z0 z1 z2 mW Iq aT zk HPW qgA;go_wp2_with (first|(go_at_call 210;with_reducible refine aX.out.mono ?_;rintro e W9 ⟨hI,r,rfl,hJ,hX⟩))
 have Hr:=(aH.aS (V:=Z) HB3.out).trans hI
 go_end0
 refine⟨⟨_,rfl⟩,Hr,?_⟩;cases r
 ·exact .inr (hX rfl)
 ·have:=hJ rfl
  rw[Nat.zero_add]at this;exact .inl this
end Go.Proofs.YtdpbgcmfeajigaaGreatDoor
namespace Go.Proofs.YtdpbgcmfeajigaaGreatDoor
open Go.RowKit Go.Shelf
attribute [local go_sem] ak run_store_func
theorem Ld {g:Operand}{ps:Array Tmp}{assign body:Code}{Q:Exit->Act->World->Prop}{a:Act}{w:World}(f:Fm)(b o pb B0:Nat)(A:Option Addr)(c:Nat)(Z:Dom)(I:Nat->World->Prop)(Ix:Code->World->Prop)
  (hg:a.eval g = .func (.func 209) #[] #[.pointer (some ⟨pb,0,none⟩)]) (hps:ps.size=1)
  (hf:dU w (· < B0) b o f A c) (hB:0<B0) (hBw:B0<=w.heap.size) (hp:w.cell? ⟨pb,0,none⟩=some (.pointer (some ⟨b,o,none⟩)))
  (hZ:∀b,Z b->B0<=b/\(b<w.heap.size\/w.heap.size+4<=b))
  (hI:∀k W W',I k W->aH (λ b=>w.heap.size<=b/\b<w.heap.size+4) W W'->I k W')
  (hIx:∀c W W',Ix c W->aH (λ b=>w.heap.size<=b/\b<w.heap.size+4) W W'->Ix c W') (h0:I 0 w)
  (a₁ : Value->Act)
  (hassign:∀(l:Nat) (p:Value) (W:World) (K:Act->World->Prop),K (a₁ p) W ->
   assign.wpIn (Fence.wide.inRound l) 0 Tryz.prog (Exit.then K (λ _ _ _=>False)) { tmps:=(ps.zip #[p]).foldl (λ t (p,v)=>t.setIfInBounds p v) a.tmps,defers := [] } W)
  (dY:∀(l k:Nat) (W:World) (b o:Nat) (A:Option Addr) (c:Nat),w.heap.size+4<=W.heap.size->aH Z w W->I k W->k<(fA false f).length->dU W (· < B0) b o ((fA false f).getD k default).1 A c ->
   body.wpIn (Fence.wide.inRound l) 0 Tryz.prog (xM Z I Ix k W) (a₁ (.pointer (some ⟨b,o,none⟩))) W)
  (hdone:∀W,aH Z w W->I f.size W->W.heap[w.heap.size]?=some (.deferred (some []))->Q .normal { a with defers := { target := .collected w.heap.size,args := #[] } :: a.defers } W)
  (hstop:∀c W,aH Z w W->Ix c W->W.heap[w.heap.size]?=some (.deferred (some []))->c.wp Tryz.prog Q { a with defers := { target := .collected w.heap.size,args := #[] } :: a.defers } W) :
  (Code.rangeFunc g ps assign body).wp Tryz.prog Q a w:=by
 refine(wpIn_wide (n:=3)).1 (wpIn_rangeFunc λ fn _=>?_);obtain⟨rec,hrec⟩:∃rec:LoopState->Option Code->Loop,rec = λ st pe => { state:=st,pending:=pe,fn,tmps:=a.tmps,params:=ps,assign,body,defers:=w.heap.size }:=⟨_,rfl⟩;obtain⟨W1,hW1⟩:∃W1,(w.alloc (.deferred (some []))).alloc (.loop (rec .ready none))=W1:=⟨_,rfl⟩;have hL1:W1.heap[w.heap.size+1]?=some (.loop (rec .ready none)):=by rw[<-hW1];exact at_new _ _ _ (by simp)
 have hK1:W1.heap[w.heap.size]?=some (.deferred (some [])):=by rw[<-hW1,aQ _ _ _ (by simp)];exact at_new _ _ _ rfl
 have hs1:W1.heap.size=w.heap.size+2:=by rw[<-hW1];simp
 have hb1:Below w.heap.size w W1:=by rw[<-hW1];exact((Below.refl _ w).alloc (Nat.le_refl _) _).alloc (by simp) _
 refine⟨w.heap.size+1,[{ target := .collected w.heap.size,args := #[] }],W1,{ target := .fn (.func 209) #[.pointer (some ⟨pb,0,none⟩)],args := #[.func (.yield (w.heap.size+1)) #[] #[]] },W1,209,
  #[.func (.yield (w.heap.size+1)) #[] #[]] ++ #[.pointer (some ⟨pb,0,none⟩)],W1,?_,?_,?_,?_,?_,?_⟩
 ·rw[<-hW1,hrec];exact run_enterLoop_outer _ _ _ _ _
 ·simp only[resolve,hg]
  simp[go_sem]
 ·exact λ f' _=>trivial
 ·simp[invoke,go_sem,enters_of Tryz.func209 (by kernel_rfl) rfl]
 ·intro hd;simp[Fence.wide]at hd
 ·have own:∀W W':World,aH (λ b=>w.heap.size+2<=b/\b<w.heap.size+4) W W'->aH (λ b=>w.heap.size<=b/\b<w.heap.size+4) W W' := λ W W' h=>h.mono λ b _ hb=>⟨by omega,hb.2⟩
  have oC:∀W W':World,aH (λ b=>b=w.heap.size+1) W W'->aH (λ b=>w.heap.size<=b/\b<w.heap.size+4) W W' := λ W W' h=>h.mono λ b _ hb=>by omega
  refine callsIn_wide.2 ((Oo (l:=w.heap.size+1) (Z := λ b=>Z b\/b=w.heap.size+1) (B0:=B0) (B1:=w.heap.size+2)
   (J := λ k W=>I k W/\aH Z w W/\W.heap[w.heap.size+1]?=some (.loop (rec .ready none))/\W.heap[w.heap.size]?=some (.deferred (some [])))
   (X := λ W=>∃c,Ix c W/\aH Z w W/\W.heap[w.heap.size+1]?=some (.loop (rec .done (some c)))/\W.heap[w.heap.size]?=some (.deferred (some [])))
   f ⟨?_,?_,?_,?_⟩ hB b o pb A c W1 hs1 (by omega) (hf.keep (Keeps.of_below hb1 λ k (hk:k<B0)=>by omega)) ?_ ⟨hI 0 w W1 h0 (aH.aS hb1),aH.aS hb1,hL1,hK1⟩).mono ?_)
  ·rintro b (hb|hb)
   ·have:=hZ b hb;exact⟨this.1,by omega⟩
   ·omega
  ·rintro k W W' ⟨hi,hc,hl,hk⟩ hw
   exact⟨hI k W W' hi (own _ _ hw),hc.trans' hw λ b _ hb=>by omega,hw.box hl (by omega),hw.box hk (by omega)⟩
  ·rintro W W' ⟨c,hi,hc,hl,hk⟩ hw
   exact⟨c,hIx c W W' hi (own _ _ hw),hc.trans' hw λ b _ hb=>by omega,hw.box hl (by omega),hw.box hk (by omega)⟩
  ·rintro k W b o A c hsz ⟨hi,hc,hl,hk⟩ hlen hfw
   have hlt:w.heap.size+1<W.heap.size:=lt_of_block hl;have hy:=run_yield (P:=Tryz.prog) (args := #[.pointer (some ⟨b,o,none⟩)]) hl (by rw[hrec];exact hps.symm);rw[hrec]at hy;refine⟨fn,_,assign,body,hy,roundIn_of_wpIn trivial (hassign _ _ W _ ⟨_,run_beginRound hl (by rw[hrec]),?_⟩)⟩;obtain⟨Wb,Ri⟩:∃Wb,Wb=W.putObj (w.heap.size+1) (.loop { rec .ready none with state := .busy }):=⟨_,rfl⟩;rw[<-Ri];have hcb:aH (λ b=>b=w.heap.size+1) W Wb:=by rw[Ri];exact aH.putObj _ _ _
   have hl2:Wb.heap[w.heap.size+1]?=some (.loop { rec .ready none with state := .busy }):=by rw[Ri];exact World.putObj_heap_same hlt
   have hk2:Wb.heap[w.heap.size]?=some (.deferred (some [])):=hcb.box hk (by omega);have hsb:W.heap.size<=Wb.heap.size:=hcb.size;refine wpIn_mono (dY _ k Wb b o A c (by omega) (hc.trans' hcb λ b _ hb=>by omega) (hI _ _ _ hi (oC _ _ hcb)) hlen (hfw.keep (hcb.keeps λ k _ (hk:k<B0)=>by omega))) ?_
   have fin:∀(jump:Option Code) (W3:World),aH Z Wb W3 ->
     (Instr.endRound (w.heap.size+1) jump).run Tryz.prog W3 = .ok (.bool jump.isNone) (W3.putObj (w.heap.size+1) (.loop (rec (if jump.isNone then .ready else .done) jump))) /\
     aH (λ b=>b=w.heap.size+1) W3 (W3.putObj (w.heap.size+1) (.loop (rec (if jump.isNone then .ready else .done) jump))) /\
     aH (λ b=>Z b\/b=w.heap.size+1) W (W3.putObj (w.heap.size+1) (.loop (rec (if jump.isNone then .ready else .done) jump))) /\
     aH Z w (W3.putObj (w.heap.size+1) (.loop (rec (if jump.isNone then .ready else .done) jump))) /\
     (W3.putObj (w.heap.size+1) (.loop (rec (if jump.isNone then .ready else .done) jump))).heap[w.heap.size+1]?=some (.loop (rec (if jump.isNone then .ready else .done) jump)) /\
     (W3.putObj (w.heap.size+1) (.loop (rec (if jump.isNone then .ready else .done) jump))).heap[w.heap.size]?=some (.deferred (some [])) := λ jump W3 hc3=>by
    have hl3:=hc3.box hl2 (λ h=>by have:=hZ _ h;omega);have hk3:=hc3.box hk2 (λ h=>by have:=hZ _ h;omega);have hcp:=aH.putObj W3 (w.heap.size+1) (.loop (rec (if jump.isNone then .ready else .done) jump));have hr:=run_endRound (P:=Tryz.prog) jump hl3;rw[hrec]at hr hcp⊢;refine⟨hr,hcp,?_,?_,World.putObj_heap_same (lt_of_block hl3),hcp.box hk3 (by omega)⟩
    ·exact((hcb.mono λ b _ hb => .inr hb).trans (hc3.mono λ b _ hb => .inl hb)).trans (hcp.mono λ b _ hb => .inr hb)
    ·exact((hc.trans' hcb λ b _ hb=>by omega).trans hc3).trans' hcp λ b _ hb=>by omega
   rintro e a3 W3 hp
   cases e with
   | normal =>
    obtain⟨hc3,hi3⟩:=hp;obtain⟨hr,hcp,hcW,hcw,hl4,hk4⟩:=fin none W3 hc3;exact⟨_,_,hr,hcW,.inl ⟨rfl,hI _ _ _ hi3 (oC _ _ hcp),hcw,hl4,hk4⟩⟩
   | ret =>
    obtain⟨hc3,hi3⟩:=hp;obtain⟨hr,hcp,hcW,hcw,hl4,hk4⟩:=fin (some .ret) W3 hc3;exact⟨_,_,hr,hcW,.inr ⟨rfl,_,hIx _ _ _ hi3 (oC _ _ hcp),hcw,hl4,hk4⟩⟩
   | exit id =>
    obtain⟨hc3,hi3⟩:=hp;obtain⟨hr,hcp,hcW,hcw,hl4,hk4⟩:=fin (some (.exit id)) W3 hc3;exact⟨_,_,hr,hcW,.inr ⟨rfl,_,hIx _ _ _ hi3 (oC _ _ hcp),hcw,hl4,hk4⟩⟩
   | goto t =>
    obtain⟨hc3,hi3⟩:=hp;obtain⟨hr,hcp,hcW,hcw,hl4,hk4⟩:=fin (some (.goto t)) W3 hc3;exact⟨_,_,hr,hcW,.inr ⟨rfl,_,hIx _ _ _ hi3 (oC _ _ hcp),hcw,hl4,hk4⟩⟩
   | panic ch=>exact hp.elim
   | outgrown=>exact hp.elim
  ·exact(hb1.cell (p:=⟨pb,0,none⟩) (World.block_lt_of_cell? w _ hp)).trans hp
  ·rintro e W2 ⟨⟨v,rfl⟩,hc2,(⟨hi,hc,hl,hk⟩|⟨c,hi,hc,hl,hk⟩)⟩
   ·refine⟨none,_,by have:=run_endLoop (P:=Tryz.prog) hl (by rw[hrec];simp);rw[hrec]at this;exact this,?_⟩
    have hcp:=aH.putObj W2 (w.heap.size+1) (.loop { rec .ready none with state := .exhausted });rw[hrec]at hcp;exact hdone _ (hc.trans' hcp λ b _ hb=>by omega) (hI _ _ _ hi (oC _ _ hcp)) (hcp.box hk (by omega))
   ·refine⟨some c,_,by have:=run_endLoop (P:=Tryz.prog) hl (by rw[hrec];simp);rw[hrec]at this;exact this,?_⟩
    have hcp:=aH.putObj W2 (w.heap.size+1) (.loop { rec .done (some c)with state := .exhausted });rw[hrec]at hcp;exact wpIn_wide.2 (hstop c _ (hc.trans' hcp λ b _ hb=>by omega) (hIx _ _ _ hi (oC _ _ hcp)) (hcp.box hk (by omega)))
theorem Sl (p:Option Addr)(w:World) :
  Calls Tryz.prog 157 #[.pointer p] w λ e w'=>e = .returned (.func (.func 209) #[] #[.pointer (some ⟨w.heap.size,0,none⟩)])/\w'=w.alloc (.cells #[.pointer p] 67):=by
 have hmf:∀(fn:Fn) (first cap:Array Value) (w:World),(Instr.makeFunc fn first cap).run Tryz.prog w = .ok (.func fn first cap) w := λ _ _ _ _=>rfl
 go_enter Tryz.func157,Tryz.ntmps157
 go_wp2_with fail
 go_ret
 exact⟨rfl,rfl⟩
end Go.Proofs.YtdpbgcmfeajigaaGreatDoor
namespace Go.Proofs.YtdpbgcmfeajigaaGreatDoor
open Go.RowKit
attribute [local go_sem] ak
theorem QY {l:List Sg}{s:ByteArray}(h:∀j,j<l.length->(l.getD j default).name≠s):iO l s = -1:=by
 unfold iO;rw[if_neg];have:=FH (l:=l) (s:=s) (Nat.le_refl _) h;omega
theorem YD {l:List Sg}{s:ByteArray}{i:Nat}(hi:i<l.length)(h:(l.getD i default).name=s)(hm:∀j,j<i->(l.getD j default).name≠s):fK l s=i:=by
 have h1:=FI hi h;have h2:=FH (Nat.le_of_lt hi) hm;omega
theorem YE {l:List Sg}{s:ByteArray}{i:Nat}(hi:i<l.length)(h:(l.getD i default).name=s)(hm:∀j,j<i->(l.getD j default).name≠s):iO l s=(i:Int):=by
 unfold iO;rw[YD hi h hm,if_pos hi]
theorem BQ {a b:Int}(h:a=b):(a==b)=true:=by rw[h];exact beq_self_eq_true b
theorem cu {a b:Int}(h:a≠b):(a==b)=false:=by
 cases h':a==b
 ·rfl
 ·exact absurd (by simpa using h') h
theorem Yn {a b:ByteArray}(h:a≠b):(a.toList==b.toList)=false:=by
 cases hb:(a.toList==b.toList)
 ·rfl
 ·exact absurd (xU.1 hb) h
theorem uH {D:Dom}(l:List Sg)(s:ByteArray)(A:Option Addr)(c n:Nat)(w:World)(hn:n=l.length)(h:ng w D A c l) :
  Calls Tryz.prog 103 #[.slice A n c,.string s] w λ e w'=>e = .returned (.int .i64 (iO l s))/\Below w.heap.size w w':=by
 subst hn;have hlen:=h.len.1;have HH:=hid h;clear h
 go_enter Tryz.func103,Tryz.ntmps103
 go_wp2_with fail
 go_loopw [8] (λ q wr=>∃i:Nat,i<=l.length/\q = .int .i64 (i:Int)/\tq w wr/\Hid (∀j,j<i->(l.getD j default).name≠s)) (λ q _=>l.length-(intOf q).toNat)
 case atStart=>exact⟨0,Nat.zero_le _,rfl,rfl,λ j h=>absurd h (Nat.not_lt_zero _)⟩
 case round =>
  obtain⟨i,hi,rfl,hw,iY⟩:=hrel;obtain rfl:w=wr:=hw.symm
  by_cases hlt:i<l.length
  ·have hii:(i:Int)<l.length:=by omega
   obtain⟨b,o,t,rfl,hlb,HX,x0,x1,x2⟩:=HH.out.get hlt;have MG:=hid (show(l.getD i default).name=t.name by rw[HX.out]);clear HX
   by_cases ht:t.name=s
   ·have d1:(t.name.toList==s.toList)=true:=xU.2 ht
    have HR:=hid (YE (s:=s) hlt (by rw[MG.out];exact ht) iY.out);clear ht;go_wp2_with fail
    go_ret
    exact⟨dD HR.out.symm,Below.refl _ _⟩
   ·have d1:(t.name.toList==s.toList)=false:=Yn ht
    have wL:=hid ht;clear ht;go_wp2_with fail
    go_roundw
    case rel =>
     refine⟨i+1,by omega,by go_num,rfl,λ j hj=>?_⟩
     by_cases e:j=i
     ·rw[e,MG.out];exact wL.out
     ·exact iY.out j (by omega)
    case measure=>simp[intOf];omega
  ·have hii:¬(i:Int)<l.length:=by omega
   have HR:=hid (QY (s:=s) λ j hj=>iY.out j (by omega));go_wp2_with fail
   go_ret
   exact⟨dD HR.out.symm,Below.refl _ _⟩
theorem Oi {l:List Sg}{f:Fm}(h:f.op=3):iW l f=if fK l f.name<l.length then(if(l.getD (fK l f.name) default).size<=f.val then 71 else 0)else 70:=by
 unfold iW;rw[if_pos h]
theorem Oj {l:List Sg}{f:Fm}(h:15<=f.op/\f.op<=19):iW l f=if f.args.all (allB iC)then 0 else 72:=by
 unfold iW SC;rw[if_neg (by omega),decide_eq_true h.1,decide_eq_true h.2];rfl
theorem RZ {l:List Sg}{f:Fm}(h3:f.op≠3)(h:¬(15<=f.op/\f.op<=19)):iW l f=0:=by
 unfold iW SC;rw[if_neg h3,if_neg];rw[Bool.and_eq_true,decide_eq_true_eq,decide_eq_true_eq];exact h
theorem Yk {l:List Fm}{q:Fm->Bool}(h:∀j,j<l.length->q (l.getD j default)=true):l.all q=true:=by
 rw[List.all_eq_true];intro x hx;obtain⟨i,hi,rfl⟩:=List.getElem_of_mem hx;have:=h i hi;simpa[List.getD,hi]using this
theorem qa3 {l:List Fm}{q:Fm->Bool}{i:Nat}(hi:i<l.length)(h:q (l.getD i default)=false):l.all q=false:=by
 rw[List.all_eq_false];exact⟨l.getD i default,by simp[List.getD,hi],by rw[h];simp⟩
theorem Om {D E:Dom}(l:List Sg)(A:Option Addr)(c n:Nat)(f:Fm)(b o:Nat)(A':Option Addr)(c':Nat)(w:World)(hn:n=l.length)(h:ng w D A c l)(hf:dU w E b o f A' c')(hg:GF w)(hd:f.depth<=5000) :
  Calls Tryz.prog 158 #[.slice A n c,.pointer (some ⟨b,o,none⟩)] w λ e w'=>e = .returned (.int .i64 (iW l f))/\Below w.heap.size w w':=by
 subst hn;have hlen:=h.len.1;have HL:=hid h.old;have HF:=hid hf.old;have HG:=hid hg;have HD:=hid hd;obtain⟨_,hlb,f0,f1,f2,f3,f4,_⟩:=hf;clear h hg hd
 by_cases h3:f.op=3
 ·have d3:=BQ h3
  have HR:=hid (Oi (l:=l) h3);clear h3
  by_cases hfn:fK l f.name<l.length
  ·have hz:iO l f.name=((fK l f.name:Nat):Int):=by unfold iO;rw[if_pos hfn]
   have hcall := λ W (hb:Below w.heap.size w W)=>uH l f.name A c l.length W rfl (HL.out.any hb);rw[hz]at hcall;have HC:=hid hcall;obtain⟨k,hk⟩:∃k,fK l f.name=k:=⟨_,rfl⟩;rw[hk]at HC HR hfn;clear hcall hz hk;have hkl:(k:Int)<l.length:=by omega
   have hk0:¬(k:Int)<0:=by omega
   rw[if_pos hfn]at HR;obtain⟨bg,og,s,rfl,Uk,HX,g0,g1,g2⟩:=HL.out.get hfn;have jI:=hid (show(l.getD k default).size=s.size by rw[HX.out]);rw[jI.out]at HR;clear HX
   by_cases hs:s.size<=f.val
   ·rw[if_pos hs]at HR
    have ds:decide (s.size<=f.val)=true:=decide_eq_true hs
    go_enter Tryz.func158,Tryz.ntmps158
    go_upto_region 6 with(go_at_call 103;(with_reducible refine(HC.out _ (by first|exact Below.refl _ _|go_grown)).mono ?_);rintro e W2 ⟨rfl,hb2⟩;have k0:=(hb2.cell (p:=⟨bg,og+k*3+2,none⟩) Uk).trans g2;have k2:=(hb2.cell (p:=⟨b,o+2,none⟩) hlb).trans f2;have hl2:=Nat.lt_of_lt_of_le Uk hb2.size;have hl3:=Nat.lt_of_lt_of_le hlb hb2.size;have HB2:=hid hb2;clear hb2 g0 g1 g2 f0 f1 f2 f3 f4 Uk hlb)
    go_quiet (fail)
    go_wp2_with fail
    go_ret
    exact⟨dD HR.out.symm,below_drewN HB2.out _⟩
   ·rw[if_neg hs]at HR
    have ds:decide (s.size<=f.val)=false:=decide_eq_false hs
    go_enter Tryz.func158,Tryz.ntmps158
    go_upto_region 6 with(go_at_call 103;(with_reducible refine(HC.out _ (by first|exact Below.refl _ _|go_grown)).mono ?_);rintro e W2 ⟨rfl,hb2⟩;have k0:=(hb2.cell (p:=⟨bg,og+k*3+2,none⟩) Uk).trans g2;have k2:=(hb2.cell (p:=⟨b,o+2,none⟩) hlb).trans f2;have hl2:=Nat.lt_of_lt_of_le Uk hb2.size;have hl3:=Nat.lt_of_lt_of_le hlb hb2.size;have HB2:=hid hb2;clear hb2 g0 g1 g2 f0 f1 f2 f3 f4 Uk hlb)
    go_quiet (fail)
    go_wp2_with fail
    go_ret
    exact⟨dD HR.out.symm,below_drewN HB2.out _⟩
  ·rw[if_neg hfn]at HR
   have hz:iO l f.name = -1:=by unfold iO;rw[if_neg hfn]
   have hcall := λ W (hb:Below w.heap.size w W)=>uH l f.name A c l.length W rfl (HL.out.any hb);rw[hz]at hcall;have HC:=hid hcall;clear hcall hz hfn
   go_enter Tryz.func158,Tryz.ntmps158
   go_wp2_with (go_at_call 103;(with_reducible refine(HC.out _ (by first|exact Below.refl _ _|go_grown)).mono ?_);rintro e W2 ⟨rfl,hb2⟩;have HB2:=hid hb2;clear hb2)
   go_ret
   exact⟨dD HR.out.symm,HB2.out⟩
 have d3:=cu h3
 by_cases hp:15<=f.op/\f.op<=19
 ·have HR:=hid (Oj (l:=l) hp)
  have hcs:f.op=15\/f.op=16\/f.op=17\/f.op=18\/f.op=19:=by omega
  clear h3 hp
  rcases hcs with hop|hcs
  case' pos =>
   have e15:=BQ (a:=f.op) (b:=15) (by omega);clear hop
   go_enter Tryz.func158,Tryz.ntmps158
   go_wp2_with fail
  rotate_left
  rcases hcs with hop|hcs
  case' pos =>
   have e15:=cu (a:=f.op) (b:=15) (by omega);have e16:=BQ (a:=f.op) (b:=16) (by omega);clear hop
   go_enter Tryz.func158,Tryz.ntmps158
   go_wp2_with fail
  rotate_left
  rcases hcs with hop|hcs
  case' pos =>
   have e15:=cu (a:=f.op) (b:=15) (by omega);have e16:=cu (a:=f.op) (b:=16) (by omega);have e17:=BQ (a:=f.op) (b:=17) (by omega);clear hop
   go_enter Tryz.func158,Tryz.ntmps158
   go_wp2_with fail
  rotate_left
  rcases hcs with hop|hop
  case' pos =>
   have e15:=cu (a:=f.op) (b:=15) (by omega);have e16:=cu (a:=f.op) (b:=16) (by omega);have e17:=cu (a:=f.op) (b:=17) (by omega);have e18:=BQ (a:=f.op) (b:=18) (by omega);clear hop
   go_enter Tryz.func158,Tryz.ntmps158
   go_wp2_with fail
  rotate_left
  case' pos =>
   have e15:=cu (a:=f.op) (b:=15) (by omega);have e16:=cu (a:=f.op) (b:=16) (by omega);have e17:=cu (a:=f.op) (b:=17) (by omega);have e18:=cu (a:=f.op) (b:=18) (by omega);have e19:=BQ (a:=f.op) (b:=19) (by omega);clear hop
   go_enter Tryz.func158,Tryz.ntmps158
   go_wp2_with fail
  rotate_left
  all_goals
   go_loopw [42] (λ q wr=>∃i:Nat,i<=f.args.length/\q = .int .i64 (i:Int)/\Hid (Below w.heap.size w wr)/\Hid (∀j,j<i->allB iC (f.args.getD j default)=true)) (λ q _=>f.args.length-(intOf q).toNat)
   case atStart=>exact⟨0,Nat.zero_le _,rfl,by first|exact Below.refl _ _|go_grown,λ j h=>absurd h (Nat.not_lt_zero _)⟩
   case round =>
    obtain⟨i,hi,rfl,HB,iY⟩:=hrel;have y4:=(HB.out.cell (p:=⟨b,o+4,none⟩) hlb).trans f4;have Pq:=hid (HF.out.args.any HB.out);have hly:=Nat.lt_of_lt_of_le hlb HB.out.size;have hal:=Pq.out.len.1
    by_cases hlt:i<f.args.length
    ·have hii:(i:Int)<f.args.length:=by omega
     obtain⟨b1,o1,A1,c1,g,rfl,HX,hg1⟩:=Pq.out.get hlt
     have HPA:=hid (Gj g _ wr ⟨A1,c1,rfl,hg1.args⟩ (HG.out.below HB.out HG.out.pos) (by
      have h1:=tJ hlt;rw[HX.out]at h1;have:=HD.out
      omega))
     obtain⟨_,hl1,a0,a1,a2,a3,a4,_⟩:=hg1;have mZ:=hid HX.out;clear HX;cases hq:allB iC g
     ·have HRR:=hid (show iW l f=72 by rw[HR.out,qa3 hlt (by rw[mZ.out];exact hq)];rfl)
      rw[hq]at HPA;clear hq;go_wp2_with (go_at_call 12;(with_reducible refine HPA.out.mono ?_);rintro e W2 ⟨rfl,hb2⟩;have HB2:=hid (HB.out.trans (hb2.mono HB.out.size));clear hb2)
      go_ret
      exact⟨dD HRR.out.symm,HB2.out⟩
     ·have HQ:=hid hq
      rw[hq]at HPA;clear hq;go_wp2_with (go_at_call 12;(with_reducible refine HPA.out.mono ?_);rintro e W2 ⟨rfl,hb2⟩;have HB2:=hid (HB.out.trans (hb2.mono HB.out.size));clear hb2)
      go_roundw
      case rel =>
       refine⟨i+1,by omega,by go_num,HB2.out,λ j hj=>?_⟩
       by_cases e:j=i
       ·rw[e,mZ.out];exact HQ.out
       ·exact iY.out j (by omega)
      case measure=>simp[intOf];omega
    ·have hii:¬(i:Int)<f.args.length:=by omega
     have HRR:=hid (show iW l f=0 by rw[HR.out,Yk λ j hj=>iY.out j (by omega)];rfl);go_wp2_with fail
     go_ret
     exact⟨dD HRR.out.symm,HB.out⟩
 ·have HR:=hid (RZ (l:=l) h3 hp)
  have e15:=cu (a:=f.op) (b:=15) (by omega);have e16:=cu (a:=f.op) (b:=16) (by omega);have e17:=cu (a:=f.op) (b:=17) (by omega);have e18:=cu (a:=f.op) (b:=18) (by omega);have e19:=cu (a:=f.op) (b:=19) (by omega);clear h3 hp
  go_enter Tryz.func158,Tryz.ntmps158
  go_wp2_with fail
  go_ret
  exact⟨dD HR.out.symm,by first|exact Below.refl _ _|go_grown⟩
end Go.Proofs.YtdpbgcmfeajigaaGreatDoor
namespace Go.Proofs.YtdpbgcmfeajigaaGreatDoor
open Go.RowKit Go.Shelf
attribute [local go_sem] ak Oper.semAt_some
theorem FC (l:List Sg):∀{L:List (Fm×Bool)} {k:Nat},k<L.length->(∀j,j<k->iW l (L.getD j default).1=0)->iW l (L.getD k default).1≠0->Ak l L=iW l (L.getD k default).1
 | [],k,h,_,_=>absurd h (Nat.not_lt_zero _)
 | x :: r,0,_,_,hn=>by
  rw[Ak,if_neg]
  ·rfl
  ·exact hn
 | x :: r,k+1,hk,h,hn=>by
  have h0:=h 0 (Nat.succ_pos _);have h0:iW l x.1=0:=h0;rw[Ak,if_pos h0,List.getD_cons_succ];rw[List.getD_cons_succ]at hn;refine FC l (by simpa using hk) (λ j hj=>?_) hn;have:=h (j+1) (by omega);rw[List.getD_cons_succ]at this;exact this
theorem Ju {ins:Bool}{x:Fm×Bool}:∀{l:List Fm},x∈kE ins l->∃g,g∈l/\x∈fA ins g
 | [],h=>by cases h
 | g :: l,h=>by
  simp only[kE,List.mem_append]at h
  rcases h with h|h
  ·exact⟨g,by simp,h⟩
  ·obtain⟨g',h1,h2⟩:=Ju h
   exact⟨g',by simp[h1],h2⟩
theorem Si (f:Fm):∀(ins:Bool) (x:Fm×Bool),x∈fA ins f->x.1.depth<=f.depth:=by
 refine Fm.induct (P := λ f=>∀(ins:Bool) (x:Fm×Bool),x∈fA ins f->x.1.depth<=f.depth) ?_ f;intro f ih ins x hx;rw[su,List.mem_cons]at hx
 rcases hx with rfl|hx
 ·exact Nat.le_refl _
 ·obtain⟨g,hg,hx⟩:=Ju hx
  obtain⟨i,hi,rfl⟩:=List.getElem_of_mem hg;have e:f.args.getD i default=f.args[i]:=by simp[List.getD,hi]
  have h1:=ih i hi _ x (by rw[e];exact hx);have h2:=tJ hi;omega
theorem O8 {D E:Dom}(l:List Sg)(AS:Option Addr)(cS n:Nat)(f:Fm)(v:Value)(w:World)(hn:n=l.length)(hl:ng w D AS cS l)(h:bI w E v f)(hg:GF w)(hk:GK w) :
  Calls Tryz.prog 133 #[.slice AS n cS,v] w λ e w'=>e = .returned (.int .i64 (lU l f))/\Below w.heap.size w w':=by
 subst hn;obtain⟨A,c,rfl,ha⟩:=h;have HL:=hid hl.old;have HA:=hid ha.old;have HG:=hid hg;have HK:=hid hk;have hlen:=hl.len.1;clear hl ha hg hk;refine(callsIn_wide (n:=3)).1 (callsIn_of_wp_marks Tryz.func133 rfl trivial ?_ rfl);simp only[Tryz.ntmps133,List.size_toArray,List.length_cons,List.length_nil,Nat.reduceAdd,Nat.reduceSub,Array.replicate_succ,Array.replicate_zero,List.push_toArray,List.append_toArray,List.nil_append,List.cons_append];refine wpIn_wide.2 ?_;go_upto_region 1 with(fail)
 refine aC λ W hW=>?_;have hb:Below w.heap.size w W:=by rw[hW];go_grown
 have eS:W.heap[w.heap.size]?=some (.cells #[.slice AS l.length cS] 34 (0,0)):=by rw[hW,aQ _ _ _ (by simp;omega),aQ _ _ _ (by simp)];exact at_new _ _ _ rfl
 have e0:dH W (w.heap.size+1) f A c:=by
  show W.heap[w.heap.size+1]?=_;rw[hW,aQ _ _ _ (by simp)];exact at_new _ _ _ (by simp)
 have e1:W.heap[w.heap.size+2]?=some (.cells #[.int .i64 0] 155 (0,0)):=by rw[hW];exact at_new _ _ _ (by simp)
 have HB:=hid hb;have HES:=hid eS;have mW:=hid e0;have kG:=hid e1;have HS:=hid (show w.heap.size+3<=W.heap.size by rw[hW];simp);clear hW hb eS e0 e1;have s0:=aj HES.out (i:=0) rfl;have s1:=lt_of_block HES.out;have BK:=hid (vK l AS cS l.length W rfl (HL.out.any HB.out) (HK.out.below HB.out HK.out.pos));cases hv:dN l
 ·have HR:=hid (show lU l f=1 by unfold lU;rw[hv];rfl)
  rw[hv]at BK;clear hv;go_wp2_with (first|(go_at_call 84;refine BK.out.mono ?_;rintro e V ⟨rfl,ku⟩;have q0:=(ku.block _ (lt_of_block kG.out)).trans kG.out;have r0:=aj q0 (i:=0) rfl;have r1:=aA q0 (i:=0);have r2:=lt_of_block q0))
  have q1:(V.setCell ⟨w.heap.size+2,0,none⟩ (.int .i64 1)).heap[w.heap.size+2]?=some (.cells #[.int .i64 1] 155 (0,0)):=by rw[aB q0];rfl
  have q2:=aj q1 (i:=0) rfl;refine vg rfl (v := .int .i64 1) ?_ ⟨by rw[HR.out],(HB.out.trans (ku.mono HB.out.size)).setCell (p:=⟨w.heap.size+2,0,none⟩) (by simp) _⟩;simp[results,Tryz.results133,go_sem,q2]
 rw[hv]at BK;have zi:=hid hv;clear hv;have XU:=hid (λ (V:World) (hb:Below W.heap.size W V)=>(show bI V aW (.agg #[.int .i64 f.op,.string f.name,.int .i64 f.val,.int .i64 f.bound,.slice A f.args.length c]) f from⟨A,c,rfl,HA.out.any (HB.out.trans (hb.mono HB.out.size)) |>.mono λ _ _ _=>trivial⟩));have HG1:=hid (λ (V:World) (hb:Below W.heap.size W V)=>HG.out.below (HB.out.trans (hb.mono HB.out.size)) HG.out.pos);have UK:=hid (λ (V:World) (hb:Below W.heap.size W V)=>HK.out.below (HB.out.trans (hb.mono HB.out.size)) HK.out.pos)
 have HFV:Hid (∀V:World,Below W.heap.size W V->Calls Tryz.prog 156 #[.agg #[.int .i64 f.op,.string f.name,.int .i64 f.val,.int .i64 f.bound,.slice A f.args.length c]] V λ e w'=>e = .returned (.bool (jP f))/\Below V.heap.size V w'):=hid λ V hb=>JK f _ V (XU.out V hb) (HG1.out V hb) (UK.out V hb);cases hf:jP f
 ·have HR:=hid (show lU l f=30 by unfold lU;rw[zi.out,hf];rfl)
  rw[hf]at HFV;clear hf;go_wp2_with (first|(go_at_call 84;refine BK.out.mono ?_;rintro e V ⟨rfl,ku⟩;have iD:=hid ku;obtain⟨b0,b1,b2,b3,b4,b5⟩:=(mW.out.below ku).cells;clear ku)|(go_at_call 156;refine(HFV.out _ iD.out).mono ?_;rintro e V2 ⟨rfl,hb2⟩;have HB2:=hid (iD.out.trans (hb2.mono iD.out.size));have q0:=(HB2.out.block _ (lt_of_block kG.out)).trans kG.out;have r0:=aj q0 (i:=0) rfl;have r1:=aA q0 (i:=0);have r2:=lt_of_block q0;clear hb2))
  have q1:(V2.setCell ⟨w.heap.size+2,0,none⟩ (.int .i64 30)).heap[w.heap.size+2]?=some (.cells #[.int .i64 30] 155 (0,0)):=by rw[aB q0];rfl
  have q2:=aj q1 (i:=0) rfl;refine vg rfl (v := .int .i64 30) ?_ ⟨by rw[HR.out],(HB.out.trans (HB2.out.mono HB.out.size)).setCell (p:=⟨w.heap.size+2,0,none⟩) (by simp) _⟩;simp[results,Tryz.results133,go_sem,q2]
 have HFT:=hid hf;have HD:=hid (show f.depth<=20 by unfold jP at hf;rw[Bool.and_eq_true,gJ]at hf;omega);rw[hf]at HFV;clear hf;go_wp2_with (first|(go_at_call 84;refine BK.out.mono ?_;rintro e V ⟨rfl,ku⟩;have iD:=hid ku;obtain⟨b0,b1,b2,b3,b4,b5⟩:=(mW.out.below ku).cells;clear ku)|(go_at_call 156;refine(HFV.out _ iD.out).mono ?_;rintro e V2 ⟨rfl,hb2⟩;have HB2:=hid (iD.out.trans (hb2.mono iD.out.size));clear hb2 b0 b1 b2 b3 b4 b5)|(go_at_call 157;refine(Sl _ V2).mono ?_;rintro e w2 ⟨rfl,rfl⟩))
 refine aC λ W2 hW2=>?_;have hb2:Below V2.heap.size V2 W2:=by rw[hW2];go_grown
 have hp2:W2.cell? ⟨V2.heap.size,0,none⟩=some (.pointer (some ⟨w.heap.size+1,0,none⟩)):=by rw[hW2];exact aj (at_new _ _ _ rfl) (i:=0) rfl
 have aT:=hid (HB2.out.trans (hb2.mono HB2.out.size));have HS2:=hid (Nat.le_trans HS.out aT.out.size);have HP:=hid hp2;have Me:=hid (mW.out.below aT.out);have wK:=hid ((aT.out.block _ (lt_of_block kG.out)).trans kG.out);have HES':=hid ((aT.out.block _ (lt_of_block HES.out)).trans HES.out);have HBw:=hid (HB.out.trans (aT.out.mono HB.out.size));have HF:=hid (dH.yN (D:=(· < w.heap.size+2)) Me.out (Nat.lt_succ_self _) ((HA.out.keep (Keeps.of_below HBw.out λ _ h=>h)).mono λ k hk _=>by have:k<w.heap.size:=hk;omega));clear hW2 hb2 hp2 s0 s1 BK HFV XU
 refine Ld f (w.heap.size+1) 0 V2.heap.size (w.heap.size+2) A c (λ b=>b=w.heap.size+2)
  (λ k W'=>vS (qdU l) f k/\W'.heap[w.heap.size+2]?=some (.cells #[.int .i64 0] 155 (0,0)))
  (λ c W'=>c = .ret/\Ak l (fA false f)≠0/\W'.heap[w.heap.size+2]?=some (.cells #[.int .i64 (Ak l (fA false f))] 155 (0,0)))
  rfl rfl HF.out (by omega) (by have:=HS2.out;omega) HP.out ?hZ ?hI ?hIx ⟨qL _ _,wK.out⟩ ?a1 ?hassign ?dY ?hdone ?hstop
 case hassign =>
  intro l p W K hK
  gi_wp2
  exact hK
 case hZ=>intro b hb;have:=HS2.out;omega
 case hI=>rintro k W3 W4 ⟨h1,h2⟩ hc;exact⟨h1,hc.box h2 (by have:=HS2.out;omega)⟩
 case hIx=>rintro c W3 W4 ⟨h0,h1,h2⟩ hc;exact⟨h0,h1,hc.box h2 (by have:=HS2.out;omega)⟩
 case dY =>
  rintro lr k W3 b o A' c' hs3 hc3 ⟨hk1,hk2⟩ Zc hf3;have hB3:Below w.heap.size w W3:=HBw.out.trans (hc3.below (B:=w.heap.size) (λ b hb=>by omega) HBw.out.size)
  have hdn:((fA false f).getD k default).1.depth<=5000:=by
   have:=Si f false _ (Jd Zc);have:=HD.out;omega
  have hcall:=Om l AS cS l.length ((fA false f).getD k default).1 b o A' c' W3 rfl (HL.out.any hB3) hf3 (HG.out.below hB3 HG.out.pos) hdn;have q2:=hc3.box HES'.out (show w.heap.size≠w.heap.size+2 by omega);have c0:=aj q2 (i:=0) rfl;have c1:=lt_of_block q2;have qfj:=hid hk1;have zT:=hid hk2;have HLEN:=hid Zc;have r0:=aj hk2 (i:=0) rfl;have r1:=aA hk2 (i:=0);have r2:=lt_of_block hk2;clear hk1 hk2 Zc q2 hf3 hB3 hdn;have NQ:Fence.wide.fn 158:=trivial;have hfd:Fence.wide.depth=none:=rfl;obtain⟨ne,hne⟩:∃ne,iW l ((fA false f).getD k default).1=ne:=⟨_,rfl⟩;rw[hne]at hcall;have wL:=hid hne;clear hne
  by_cases h0:ne=0
  ·rw[h0]at hcall wL
   clear h0
   gi_wp2_with (gi_at_call 158;refine(CallsIn.inRound lr (callsIn_wide.2 hcall)).mono ?_;rintro e W4 ⟨rfl,hb4⟩;have q0:=(hb4.block _ (lt_of_block zT.out)).trans zT.out)
   exact⟨aH.aS (V := λ b=>b=w.heap.size+2) hb4,qK qfj.out (decide_eq_true wL.out),q0⟩
  ·have hb0:(ne != 0)=true:=bne_iff_ne.2 h0
   have HEF:=hid (show Ak l (fA false f)=ne by
    rw[<-wL.out]
    exact FC l HLEN.out (λ j hj=>of_decide_eq_true (qfj.out j hj)) (by rw[wL.out];exact h0))
   have HN0:=hid h0;clear h0
   gi_wp2_with (gi_at_call 158;refine(CallsIn.inRound lr (callsIn_wide.2 hcall)).mono ?_;rintro e W4 ⟨rfl,hb4⟩;have q0:=(hb4.block _ (lt_of_block zT.out)).trans zT.out;have r0:=aj q0 (i:=0) rfl;have r1:=aA q0 (i:=0);have r2:=lt_of_block q0)
   refine⟨(aH.aS (V := λ b=>b=w.heap.size+2) hb4).set ⟨w.heap.size+2,0,none⟩ (.int .i64 ne) (λ _=>rfl),rfl,by rw[HEF.out];exact HN0.out,?_⟩;rw[aB q0,HEF.out];rfl
 case hdone =>
  rintro W3 hc ⟨h1,h2⟩ hD3;have HE:=hid (show Ak l (fA false f)=0 from(IX l _).2 (tH h1));have hB3:Below w.heap.size w W3:=HBw.out.trans (hc.below (B:=w.heap.size) (λ b hb=>by omega) HBw.out.size);have hb5:dH W3 (w.heap.size+1) f A c:=hc.box Me.out (show w.heap.size+1≠w.heap.size+2 by omega);obtain⟨b0,b1,b2,b3,b4,b5⟩:=hb5.cells;have qbu:=RJ f _ W3 ⟨A,c,rfl,HA.out.any hB3⟩ (HG.out.below hB3 HG.out.pos) (HK.out.below hB3 HK.out.pos);have HB3:=hid hB3;have zT:=hid h2;have HD3:=hid hD3;clear hB3 h1 h2 hD3 hb5;obtain⟨r,hr⟩:∃r,(fG f).2=r:=⟨_,rfl⟩;rw[hr]at qbu;have HR:=hid hr;clear hr
  dsimp only
  by_cases hr0:r=0
  ·have EN:=hid (show lU l f=0 by unfold lU;rw[zi.out,HFT.out,if_pos rfl,if_pos rfl,if_pos HE.out,HR.out,if_pos hr0])
   rw[hr0]at qbu;clear hr0;go_wp2_with (go_at_call 159;refine qbu.mono ?_;rintro e W4 ⟨kv,rfl,hb4,A4,c4,rfl,_⟩;have HB4:=hid hb4;have q0:=(hb4.block _ (lt_of_block zT.out)).trans zT.out;have r0:=aj q0 (i:=0) rfl;have r1:=aA q0 (i:=0);have r2:=lt_of_block q0;have HQ0:=hid q0;have HD4:=hid ((hb4.block _ (lt_of_block HD3.out)).trans HD3.out);clear hb4 q0)
   have hDl:=lt_of_block HD4.out;have hne:W2.heap.size≠w.heap.size+2:=by have:=HS2.out;omega
   have hD5:((W4.setCell ⟨w.heap.size+2,0,none⟩ (.int .i64 0)).alloc (.cells #[.int .i64 (fG f).1.op,.string (fG f).1.name,.int .i64 (fG f).1.val,.int .i64 (fG f).1.bound,.slice A4 (fG f).1.args.length c4] 24)).heap[W2.heap.size]?=some (.deferred (some [])):=by
    rw[aQ _ _ _ (by simpa using hDl)];exact(at_set (w:=W4) (p:=⟨w.heap.size+2,0,none⟩) (u := .int .i64 0) hne).trans HD4.out
   have e5:((W4.setCell ⟨w.heap.size+2,0,none⟩ (.int .i64 0)).alloc (.cells #[.int .i64 (fG f).1.op,.string (fG f).1.name,.int .i64 (fG f).1.val,.int .i64 (fG f).1.bound,.slice A4 (fG f).1.args.length c4] 24)).heap[w.heap.size+2]?=some (.cells #[.int .i64 0] 155 (0,0)):=by
    rw[aQ _ _ _ (by simpa using r2),aB HQ0.out];rfl
   have hc5:Below w.heap.size w ((W4.setCell ⟨w.heap.size+2,0,none⟩ (.int .i64 0)).alloc (.cells #[.int .i64 (fG f).1.op,.string (fG f).1.name,.int .i64 (fG f).1.val,.int .i64 (fG f).1.bound,.slice A4 (fG f).1.args.length c4] 24)) :=
    ((HB3.out.trans (HB4.out.mono HB3.out.size)).setCell (p:=⟨w.heap.size+2,0,none⟩) (by simp) (.int .i64 0)).alloc (by have:=HB3.out.size;have:=HB4.out.size;simp;omega) _
   refine fZ rfl hD5 (v := .int .i64 0) (λ w' hc'=>?_) (λ w' hc'=>⟨by rw[EN.out],hc5.trans (hc'.below (λ b hb=>by have:=HS2.out;omega) hc5.size)⟩);have:=aj (hc'.box e5 (show w.heap.size+2≠W2.heap.size from λ e=>hne e.symm)) (i:=0) rfl;simp[results,Tryz.results133,go_sem,this]
  ·have EN:=hid (show lU l f=2 by unfold lU;rw[zi.out,HFT.out,if_pos rfl,if_pos rfl,if_pos HE.out,HR.out,if_neg hr0])
   have hb0:(r != 0)=true:=bne_iff_ne.2 hr0;clear hr0;go_wp2_with (go_at_call 159;refine qbu.mono ?_;rintro e W4 ⟨kv,rfl,hb4,A4,c4,rfl,_⟩;have HB4:=hid hb4;have q0:=(hb4.block _ (lt_of_block zT.out)).trans zT.out;have r0:=aj q0 (i:=0) rfl;have r1:=aA q0 (i:=0);have r2:=lt_of_block q0;have HQ0:=hid q0;have HD4:=hid ((hb4.block _ (lt_of_block HD3.out)).trans HD3.out);clear hb4 q0)
   have hDl:=lt_of_block HD4.out;have hne:W2.heap.size≠w.heap.size+2:=by have:=HS2.out;omega
   have hD5:((W4.setCell ⟨w.heap.size+2,0,none⟩ (.int .i64 2)).alloc (.cells #[.int .i64 (fG f).1.op,.string (fG f).1.name,.int .i64 (fG f).1.val,.int .i64 (fG f).1.bound,.slice A4 (fG f).1.args.length c4] 24)).heap[W2.heap.size]?=some (.deferred (some [])):=by
    rw[aQ _ _ _ (by simpa using hDl)];exact(at_set (w:=W4) (p:=⟨w.heap.size+2,0,none⟩) (u := .int .i64 2) hne).trans HD4.out
   have e5:((W4.setCell ⟨w.heap.size+2,0,none⟩ (.int .i64 2)).alloc (.cells #[.int .i64 (fG f).1.op,.string (fG f).1.name,.int .i64 (fG f).1.val,.int .i64 (fG f).1.bound,.slice A4 (fG f).1.args.length c4] 24)).heap[w.heap.size+2]?=some (.cells #[.int .i64 2] 155 (0,0)):=by
    rw[aQ _ _ _ (by simpa using r2),aB HQ0.out];rfl
   have hc5:Below w.heap.size w ((W4.setCell ⟨w.heap.size+2,0,none⟩ (.int .i64 2)).alloc (.cells #[.int .i64 (fG f).1.op,.string (fG f).1.name,.int .i64 (fG f).1.val,.int .i64 (fG f).1.bound,.slice A4 (fG f).1.args.length c4] 24)) :=
    ((HB3.out.trans (HB4.out.mono HB3.out.size)).setCell (p:=⟨w.heap.size+2,0,none⟩) (by simp) (.int .i64 2)).alloc (by have:=HB3.out.size;have:=HB4.out.size;simp;omega) _
   refine fZ rfl hD5 (v := .int .i64 2) (λ w' hc'=>?_) (λ w' hc'=>⟨by rw[EN.out],hc5.trans (hc'.below (λ b hb=>by have:=HS2.out;omega) hc5.size)⟩);have:=aj (hc'.box e5 (show w.heap.size+2≠W2.heap.size from λ e=>hne e.symm)) (i:=0) rfl;simp[results,Tryz.results133,go_sem,this]
 case hstop =>
  rintro c W3 hc ⟨rfl,h1,h2⟩ hD3
  dsimp only
  go_wp2_with fail
  have hc4:=HBw.out.trans (hc.below (B:=w.heap.size) (λ b hb=>by omega) HBw.out.size);refine fZ rfl hD3 (v := .int .i64 (Ak l (fA false f))) (λ w' hc'=>?_) (λ w' hc'=>⟨by unfold lU;rw[zi.out,HFT.out,if_pos rfl,if_pos rfl,if_neg h1],hc4.trans (hc'.below (λ b hb=>by have:=HS2.out;omega) hc4.size)⟩);have:=aj (hc'.box h2 (by have:=HS2.out;omega)) (i:=0) rfl;simp[results,Tryz.results133,go_sem,this]
end Go.Proofs.YtdpbgcmfeajigaaGreatDoor
namespace Go.Proofs.YtdpbgcmfeajigaaGreatDoor
open Go.ChangeShapes Go.WideShapes Go.ChangeAt Go.WideMaps Go.WideElems Go.RowKit
def I7 {H:Type}(s:Form):DataW H := .agg [.lit (.int .i64 s.least),.lit (.int .i64 s.most),.lit (.int .i64 s.val),.lit (.int .i64 s.bound),.lit (.bool s.named),.lit (.bool s.past),.lit (.bool s.future),.lit (.bool s.loose)]
theorem Q9 {H:Type}:(Rows.laid_foresight_formula_forms:DataW H) = .agg (jZ.map I7):=rfl
theorem VN {H:Type}:(Rows.laid_foresight_signal_keys:DataW H) = .agg (keysL.map λ s => .lit (.string s.data.toList)):=rfl
theorem qf7:Tryz.prog.globalNamed "foresight/signal.keys" = some 1:=by kernel_rfl
theorem qdV:Tryz.prog.globalNamed "foresight/formula.forms" = some 0:=by kernel_rfl
theorem take_one {l:List Value}{j:Nat}{v:Value}(h:(l.drop j).take 1 = [v]):l[j]?=some v:=by
 have h1:=congrArg (λ x:List Value=>x[0]?) h;simpa[List.getElem?_take]using h1
section
variable {H:Type}{enc:TypeId×Value->H}{w:World}{base:Nat}{sp:Nat->Bool}{held:Bool}
theorem Q7 {fuel:Nat}{cs:List Value}{s:Form}{ps:List MemPlace}(h:DataW.trod enc Tryz.prog w base sp held fuel 78 cs=some (I7 s,ps)) :
  cs[0]?=some (.int .i64 s.least)/\cs[1]?=some (.int .i64 s.most)/\cs[2]?=some (.int .i64 s.val)/\cs[3]?=some (.int .i64 s.bound)/\cs[4]?=some (.bool s.named)/\cs[5]?=some (.bool s.past)/\cs[6]?=some (.bool s.future)/\cs[7]?=some (.bool s.loose):=by
 obtain⟨xs,n,rfl,hx,hl,hn,hel⟩:=DataW.trod_struct Tryz.underlying78 h;simp only[Prod.mk.injEq,I7,DataW.agg.injEq]at hx;have c3:Tryz.prog.cellsOf 3=1:=by kernel_rfl
 have c4:Tryz.prog.cellsOf 4=1:=by kernel_rfl
 have e0:DataW.trod enc Tryz.prog w base sp held n 3 ((cs.drop 0).take (Tryz.prog.cellsOf 3))=xs[0]?:=hel 0 _ rfl;have e1:DataW.trod enc Tryz.prog w base sp held n 3 ((cs.drop 1).take (Tryz.prog.cellsOf 3))=xs[1]?:=hel 1 _ rfl;have e2:DataW.trod enc Tryz.prog w base sp held n 3 ((cs.drop 2).take (Tryz.prog.cellsOf 3))=xs[2]?:=hel 2 _ rfl;have e3:DataW.trod enc Tryz.prog w base sp held n 3 ((cs.drop 3).take (Tryz.prog.cellsOf 3))=xs[3]?:=hel 3 _ rfl;have e4:DataW.trod enc Tryz.prog w base sp held n 4 ((cs.drop 4).take (Tryz.prog.cellsOf 4))=xs[4]?:=hel 4 _ rfl;have e5:DataW.trod enc Tryz.prog w base sp held n 4 ((cs.drop 5).take (Tryz.prog.cellsOf 4))=xs[5]?:=hel 5 _ rfl
 have e6:DataW.trod enc Tryz.prog w base sp held n 4 ((cs.drop 6).take (Tryz.prog.cellsOf 4))=xs[6]?:=hel 6 _ rfl;have e7:DataW.trod enc Tryz.prog w base sp held n 4 ((cs.drop 7).take (Tryz.prog.cellsOf 4))=xs[7]?:=hel 7 _ rfl
 match xs,hn,hx,e0,e1,e2,e3,e4,e5,e6,e7 with
 | [x0,x1,x2,x3,x4,x5,x6,x7],_,hx,e0,e1,e2,e3,e4,e5,e6,e7 =>
  simp only[List.map_cons,List.map_nil,List.cons.injEq,and_true]at hx;obtain⟨⟨h0,h1,h2,h3,h4,h5,h6,h7⟩,_⟩:=hx;rw[c3]at e0 e1 e2 e3;rw[c4]at e4 e5 e6 e7;obtain⟨k0,a0,b0,_⟩:=DataW.trod_int Tryz.underlying3 e0;obtain⟨k1,a1,b1,_⟩:=DataW.trod_int Tryz.underlying3 e1;obtain⟨k2,a2,b2,_⟩:=DataW.trod_int Tryz.underlying3 e2;obtain⟨k3,a3,b3,_⟩:=DataW.trod_int Tryz.underlying3 e3;obtain⟨k4,a4,b4⟩:=DataW.trod_bool Tryz.underlying4 e4;obtain⟨k5,a5,b5⟩:=DataW.trod_bool Tryz.underlying4 e5;obtain⟨k6,a6,b6⟩:=DataW.trod_bool Tryz.underlying4 e6;obtain⟨k7,a7,b7⟩:=DataW.trod_bool Tryz.underlying4 e7;rw[b0]at h0;rw[b1]at h1;rw[b2]at h2;rw[b3]at h3;rw[b4]at h4;rw[b5]at h5;rw[b6]at h6;rw[b7]at h7
  simp only[DataW.lit.injEq,Lit.int.injEq,Lit.bool.injEq,true_and]at h0 h1 h2 h3 h4 h5 h6 h7;subst h0 h1 h2 h3 h4 h5 h6 h7;exact⟨take_one a0,take_one a1,take_one a2,take_one a3,take_one a4,take_one a5,take_one a6,take_one a7⟩
end
theorem of_laid {W:World}(h:laidMetH Tryz.prog [("foresight/signal.keys", Rows.laid_foresight_signal_keys),("foresight/formula.forms", Rows.laid_foresight_formula_forms)] W):GF W/\GK W:=by
 rw[MakeChecks.laidMetH_plain _ _ _ (by kernel_rfl)]at h;obtain⟨ps,⟨g0,t0,cs0,f0,p0,q0,hg0,ht0,hv0,hd0,⟨g1,t1,cs1,f1,p1,q1,hg1,ht1,hv1,hd1,_,_⟩,_⟩,_,_⟩:=h;obtain rfl:=Option.some.inj (qf7.symm.trans hg0);obtain rfl:=Option.some.inj (qdV.symm.trans hg1);obtain rfl:=Option.some.inj ((show(Tryz.prog.globals[1]?).map (·.type)=some 176 by kernel_rfl).symm.trans ht0);obtain rfl:=Option.some.inj ((show(Tryz.prog.globals[0]?).map (·.type)=some 125 by kernel_rfl).symm.trans ht1);rw[VN]at hd0;rw[Q9]at hd1
 constructor
 ·obtain⟨xs,m,rfl,hx,hlen,hn,hel⟩:=DataW.trod_array Tryz.underlying125 hd1
  have c8:Tryz.prog.cellsOf 78=8:=by kernel_rfl
  simp only[Prod.mk.injEq,DataW.agg.injEq]at hx
  have key:∀k,k<20->∀j u,(((cs1.toList.drop (k*8)).take 8)[j]?=some u)->W.cell? ⟨0,k*8+j,none⟩=some u := λ k hk j u hu=>by
   have hj:j<8:=by
    rcases Nat.lt_or_ge j 8 with h|h
    ·exact h
    ·rw[List.getElem?_take_eq_none h]at hu;cases hu
   rw[List.getElem?_take_of_lt hj,List.getElem?_drop]at hu;have:=World.var?_cell hg1 hv1 (k*8+j);rw[this,<-hu];simp
  have el:∀k,k<20->_ := λ k hk=>by
   have e:=hel k hk;rw[c8]at e;have hk':k<xs.length:=by rw[hn];exact hk
   rw[List.getElem?_eq_getElem hk']at e
   have e2:xs[k].1=I7 (jZ.getD k fP):=by
    have h1:(xs.map (·.1))[k]?=(jZ.map I7)[k]?:=by rw[<-hx.1]
    rw[List.getElem?_map,List.getElem?_map,List.getElem?_eq_getElem hk']at h1;have hf:k<jZ.length:=hk;rw[List.getElem?_eq_getElem hf]at h1;simp only[Option.map_some,Option.some.injEq]at h1;rw[h1];simp[List.getD,List.getElem?_eq_getElem hf]
   have e3:xs[k]=(I7 (jZ.getD k fP),xs[k].2):=Prod.ext e2 rfl;rw[e3]at e;exact Q7 e
  refine⟨?_,λ k hk=>?_⟩
  ·have:=key 0 (by omega) 0 _ (el 0 (by omega)).1
   exact World.block_lt_of_cell? W ⟨0,_,none⟩ this
  ·obtain⟨a0,a1,a2,a3,a4,a5,a6,a7⟩:=el k hk
   exact⟨key k hk 0 _ a0,key k hk 1 _ a1,key k hk 2 _ a2,key k hk 3 _ a3,key k hk 4 _ a4,key k hk 5 _ a5,key k hk 6 _ a6,key k hk 7 _ a7⟩
 ·obtain⟨xs,m,rfl,hx,hlen,hn,hel⟩:=DataW.trod_array Tryz.underlying176 hd0
  have c1:Tryz.prog.cellsOf 9=1:=by kernel_rfl
  simp only[Prod.mk.injEq,DataW.agg.injEq]at hx
  have el:∀k,k<10->W.cell? ⟨1,k,none⟩=some (.string (keysL.getD k ByteArray.empty)) := λ k hk=>by
   have e:=hel k hk;rw[c1,Nat.mul_one]at e;have hk':k<xs.length:=by rw[hn];exact hk
   rw[List.getElem?_eq_getElem hk']at e;obtain⟨s,e1,e2,_⟩:=DataW.trod_string Tryz.underlying9 e;have h1:(xs.map (·.1))[k]?=(keysL.map λ s=>(.lit (.string s.data.toList):DataW Unit))[k]?:=by rw[<-hx.1]
   have hf:k<keysL.length:=hk;rw[List.getElem?_map,List.getElem?_map,List.getElem?_eq_getElem hk',List.getElem?_eq_getElem hf,e2]at h1;simp only[Option.map_some,Option.some.injEq,DataW.lit.injEq,Lit.string.injEq]at h1
   have hs:s=keysL[k]:=by
    have:=Array.toList_inj.1 h1;cases s;cases hq:keysL[k];rw[hq]at this;simp only at this;rw[this]
   have:=World.var?_cell hg0 hv0 k;rw[this];have h2:=take_one e1;rw[hs]at h2;have h3:keysL.getD k ByteArray.empty=keysL[k]:=by simp[List.getD,List.getElem?_eq_getElem hf]
   rw[h3,<-h2];simp
  exact⟨World.block_lt_of_cell? W ⟨1,_,none⟩ (el 0 (by omega)),el⟩
end Go.Proofs.YtdpbgcmfeajigaaGreatDoor
