/-
  Walk of the builder's form: what is left behind the switch.
-/
import Derived.Test.YtdpbgcmfeajigaaGreatDoorA11
import Derived.Test.YtdpbgcmfeajigaaGreatDoorA10
set_option linter.unusedSimpArgs false
set_option linter.unusedVariables false
namespace Go.Proofs.YtdpbgcmfeajigaaGreatDoor
open Go.RowKit Go.Shelf
attribute [local go_sem] ak jR
def dB (bb:Nat)(k:Fm)(left:Int)(ov:Bool)(w:World)(e:Ending)(w':World):Prop :=
 aH (λ x=>x=bb) w w'/\∃v g left',e = .returned v/\bI w' (Nw w.heap.size w') v g/\BB w' bb left' ov/\left'<=left /\ -1<=left'/\(ov=false->g=k/\left'=left-k.size/\0<=left')
def zO (bb:Nat)(f:Fm):Prop:=∀(D:Dom) (b o:Nat) (A:Option Addr) (c:Nat) (neg over:Bool) (left d:Int) (w:World),dU w D b o f A c->(∀k,D k->k≠bb)->BB w bb left over->(over=false->0<=left) -> -1<=left->left<=1000000 -> -1000000<=d->d<=1000000 ->
 Calls Tryz.prog 73 #[.pointer (some ⟨bb,0,none⟩),.pointer (some ⟨b,o,none⟩),.bool neg,.int .i64 d] w (dB bb (kf neg f) left (over || !bK (kf neg f) left d) w)
theorem nV (o v:Int)(s:ByteArray)(w:World):(Instr.build 24 #[(0,.int .i64 o),(1,.string s),(2,.int .i64 v)]).run Tryz.prog w = .ok (.agg #[.int .i64 o,.string s,.int .i64 v,.int .i64 0,.slice none 0 0]) w:=run_build w 24 _ _ (by kernel_rfl)
theorem jQ (w:World):(Instr.build 24 #[]).run Tryz.prog w = .ok (.agg #[.int .i64 0,.string ⟨#[]⟩,.int .i64 0,.int .i64 0,.slice none 0 0]) w:=run_build w 24 _ _ (by kernel_rfl)
attribute [local go_sem] nV jQ
def jL (a:Act):List Nat->(Nat->Value)->Act
 | [],_=>a
 | s :: r,us=>jL (a.put (some s) (us s)) r us
theorem kF {P:Program}{c:Code}{Q:Exit->Act->World->Prop}{a:Act}{w:World}(K:Act->World->Prop)(slots:List Nat)(F:(Nat->Value)->World->Prop)
  (h2:∀(us:Nat->Value) w',F us w'->K (jL a slots us) w') (h1:(∀(us:Nat->Value) w',F us w'->K (jL a slots us) w')->c.wp P Q a w):c.wp P Q a w:=h1 h2
theorem aO {K:Act->World->Prop}{F:(Nat->Value)->World->Prop}{a a':Act}{slots:List Nat}{w':World}(h:∀(us:Nat->Value) w',F us w'->K (jL a slots us) w')(hF:F (λ s=>a'.tmps.getD s (.bool false)) w')(he:jL a slots (λ s=>a'.tmps.getD s (.bool false))=a'):K a' w':=he ▸ h _ _ hF
theorem OB.alloc {w:World}{ob:Nat}{o:Int}{n:ByteArray}{v b:Int}{A:Option Addr}{k c:Nat}(h:OB w ob o n v b A k c)(x:Obj):OB (w.alloc x) ob o n v b A k c:=(aQ _ _ _ (lt_of_block h)).trans h
theorem bT.alloc {w:World}{base c:Nat}{A:Option Addr}{gs:List Fm}{sl:List (Option Addr×Nat)}(h:bT w base A c gs sl)(x:Obj):bT (w.alloc x) base A c gs sl:=h.eu ((aH.refl (λ _=>False) w).alloc x) λ _ h=>h.elim
theorem bT.drew {w:World}{base c:Nat}{A:Option Addr}{gs:List Fm}{sl:List (Option Addr×Nat)}(h:bT w base A c gs sl):bT w.drew base A c gs sl:=h.eu ((aH.refl (λ _=>False) w).drew) λ _ h=>h.elim
theorem bZ.grow {w w':World}{D:Dom}{l:List Fm}{A:Option Addr}{c:Nat}{row:Option Nat}(h:bZ w D l A c)(hg:w.grownBy w' row)(hD:∀k,D k->k<w.heap.size->some k≠row):bZ w' (λ k=>(D k/\k<w.heap.size)/\w'.heap[k]?=w.heap[k]?) l A c:=by
 have h1:bZ w (λ k=>(D k/\k<w.heap.size)/\w'.heap[k]?=w.heap[k]?) l A c:=h.mono λ k hk hl=>⟨⟨hk,hl⟩,hg.block k hl (hD k hk hl)⟩;exact h1.keep ⟨hg.size,λ k hk _=>hk.2⟩
structure Ey (bb ob base:Nat) (o:Int) (n:ByteArray) (v b left:Int) (ov:Bool) (gs:List Fm) (w W:World):Prop where
 eu:aH (λ x=>x=bb) w W
 bb:BB W bb left ov
 out:∃A c sl,OB W ob o n v b A gs.length c/\bT W base A c gs sl
theorem OV (gs:List Fm)(x f:Fm):(gs ++ [x]).set gs.length f=gs ++ [f]:=by
 rw[List.set_append_right _ _ (Nat.le_refl _),Nat.sub_self];rfl
theorem Yl {w w5:World}{bb ob g5 c5 base k k' c0 d:Nat}{o v b left:Int}{n:ByteArray}{ov:Bool}{A0 A:Option Addr}{gs:List Fm}{sl:List (Option Addr×Nat)}{f:Fm}
  (hk:k=gs.length) (hk1:k'=gs.length+1) (hne:bb≠ob) (hob:ob<base) (hbl:bb<base) (hwo:w.heap.size<=ob) (hc:aH (λ x=>x=bb) w w5) (hb:BB w5 bb left ov) (ho:OB w5 ob o n v b A0 k c0)
  (hr:bT w5 base (some ⟨g5,0,none⟩) c5 (gs ++ [dV]) (sl ++ [(none,0)])) (hf:bZ w5 (λ x=>Nw base w5 x/\x≠g5) f.args A d) :
  Ey bb ob base o n v b left ov (gs ++ [f]) w ((((((w5.setCell ⟨g5,k*5,none⟩ (.int .i64 f.op)).setCell ⟨g5,k*5+1,none⟩ (.string f.name)).setCell ⟨g5,k*5+2,none⟩ (.int .i64 f.val)).setCell ⟨g5,k*5+3,none⟩ (.int .i64 f.bound)).setCell ⟨g5,k*5+4,none⟩ (.slice A f.args.length d)).setCell ⟨ob,4,none⟩ (.slice (some ⟨g5,0,none⟩) k' c5)):=by
 subst hk hk1;have hg:base<=g5:=(hr.ge rfl).1;have h1:=hr.set (i:=gs.length) (by simp) f A d hf;rw[OV]at h1;obtain⟨W,hW⟩:∃W,W=(((((w5.setCell ⟨g5,gs.length*5,none⟩ (.int .i64 f.op)).setCell ⟨g5,gs.length*5+1,none⟩ (.string f.name)).setCell ⟨g5,gs.length*5+2,none⟩ (.int .i64 f.val)).setCell ⟨g5,gs.length*5+3,none⟩ (.int .i64 f.bound)).setCell ⟨g5,gs.length*5+4,none⟩ (.slice A f.args.length d)):=⟨_,rfl⟩
 have h3:aH (λ x=>x=g5) w5 W:=by
  rw[hW];exact(((((aH.refl (λ x=>x=g5) w5).set ⟨g5,_,none⟩ _ λ _=>rfl).set ⟨g5,_,none⟩ _ λ _=>rfl).set ⟨g5,_,none⟩ _ λ _=>rfl).set ⟨g5,_,none⟩ _ λ _=>rfl).set ⟨g5,_,none⟩ _ λ _=>rfl
 rw[<-hW]at h1⊢;have h4:aH (λ x=>x=ob) W (W.setCell ⟨ob,4,none⟩ (.slice (some ⟨g5,0,none⟩) (gs.length+1) c5)):=(aH.refl (λ x=>x=ob) W).set ⟨ob,4,none⟩ _ λ _=>rfl;have ho':=ho.eu h3 (by omega);refine⟨(hc.trans' h3 λ x hx h=>by omega).trans' h4 λ x hx h=>by omega,(hb.eu h3 (by omega)).eu h4 hne,_,c5,_,?_,h1.eu h4 λ x h=>by omega⟩;unfold OB;rw[aB ho',List.length_append];rfl
theorem Ym {w w5:World}{bb ob g5 c5 base k k' c0 d:Nat}{o v b left:Int}{n:ByteArray}{ov:Bool}{A0 A:Option Addr}{gs:List Fm}{sl:List (Option Addr×Nat)}{f:Fm}
  (hk:k=gs.length) (hk1:k'=gs.length+1) (hne:bb≠ob) (hob:ob<base) (hbl:bb<base) (hwo:w.heap.size<=ob) (hc:aH (λ x=>x=bb) w w5) (hb:BB w5 bb left ov) (ho:OB w5 ob o n v b A0 k c0)
  (hr:bT w5 base (some ⟨g5,0,none⟩) c5 (gs ++ [dV]) (sl ++ [(none,0)])) (hf:bZ w5 (λ x=>Nw base w5 x/\x≠g5) f.args A d) :
  Ey bb ob base o n v b left ov (gs ++ [f]) w ((((((w5.setCell ⟨ob,4,none⟩ (.slice (some ⟨g5,0,none⟩) k' c5)).setCell ⟨g5,k*5,none⟩ (.int .i64 f.op)).setCell ⟨g5,k*5+1,none⟩ (.string f.name)).setCell ⟨g5,k*5+2,none⟩ (.int .i64 f.val)).setCell ⟨g5,k*5+3,none⟩ (.int .i64 f.bound)).setCell ⟨g5,k*5+4,none⟩ (.slice A f.args.length d)):=by
 subst hk hk1;have hg:base<=g5:=(hr.ge rfl).1;obtain⟨W,hW⟩:∃W,W=w5.setCell ⟨ob,4,none⟩ (.slice (some ⟨g5,0,none⟩) (gs.length+1) c5):=⟨_,rfl⟩;have h4:aH (λ x=>x=ob) w5 W:=by rw[hW];exact(aH.refl (λ x=>x=ob) w5).set ⟨ob,4,none⟩ _ λ _=>rfl
 have ho':OB W ob o n v b (some ⟨g5,0,none⟩) (gs ++ [f]).length c5:=by
  unfold OB;rw[hW,aB ho,List.length_append];rfl
 rw[<-hW]
 have hf':bZ W (λ x=>Nw base W x/\x≠g5) f.args A d:=by
  have hk:Keeps (λ x=>Nw base w5 x/\x≠g5) w5 W:=h4.keeps λ x _ hx hv=>by have:=hx.1.1;omega
  exact(hf.keep hk).mono λ x hx _=>⟨⟨hx.1.1,hx.1.2.of_eq (hk.block x hx hx.1.2.lt)⟩,hx.2⟩
 have h1:=(hr.eu h4 λ x h=>by omega).set (i:=gs.length) (by simp) f A d hf';rw[OV]at h1;obtain⟨W2,hW2⟩:∃W2,W2=(((((W.setCell ⟨g5,gs.length*5,none⟩ (.int .i64 f.op)).setCell ⟨g5,gs.length*5+1,none⟩ (.string f.name)).setCell ⟨g5,gs.length*5+2,none⟩ (.int .i64 f.val)).setCell ⟨g5,gs.length*5+3,none⟩ (.int .i64 f.bound)).setCell ⟨g5,gs.length*5+4,none⟩ (.slice A f.args.length d)):=⟨_,rfl⟩
 have h3:aH (λ x=>x=g5) W W2:=by
  rw[hW2];exact(((((aH.refl (λ x=>x=g5) W).set ⟨g5,_,none⟩ _ λ _=>rfl).set ⟨g5,_,none⟩ _ λ _=>rfl).set ⟨g5,_,none⟩ _ λ _=>rfl).set ⟨g5,_,none⟩ _ λ _=>rfl).set ⟨g5,_,none⟩ _ λ _=>rfl
 rw[<-hW2]at h1⊢;exact⟨(hc.trans' h4 λ x hx h=>by omega).trans' h3 λ x hx h=>by omega,(hb.eu h4 hne).eu h3 (by omega),_,c5,_,ho'.eu h3 (by omega),h1⟩
def Gh (made:List Fm)(left d:Int):Bool := !(decide (1+(sizes made:Int)<=left)&&decide (1+(depths made:Int)<=d))
theorem KE (o:Int)(n:ByteArray)(v b:Int)(l:List Fm)(left d:Int):(!bK (.mk o n v b l) left d)=Gh l left d:=by
 unfold bK Gh;rw[Fm.size_eq,Fm.jr];simp only[Fm.args];have e1:(((1+sizes l:Nat):Int)<=left)=(1+(sizes l:Int)<=left):=by simp
 have e2:(((1+depths l:Nat):Int)<=d)=(1+(depths l:Int)<=d):=by simp
 simp only[e1,e2]
theorem rZ (left d:Int):Gh [] left d=eP left false d:=by
 unfold Gh eP
 by_cases h1:left-1<0 <;> by_cases h2:d<1 <;> simp[sizes,depths,h1,h2] <;> omega
theorem Ox (l:List Fm)(g:Fm)(left d:Int):Gh (l ++ [g]) left d=(Gh l left d || !bK g (left-(1+sizes l)) (d-1)):=by
 unfold Gh bK;have s1:sizes (l ++ [g])=sizes l+g.size:=by rw[jh];simp[sizes]
 have d1:depths (l ++ [g])=max (depths l) g.depth:=by rw[oK];simp[depths]
 rw[s1,d1]
 have e1:decide (1+((sizes l+g.size:Nat):Int)<=left)=(decide (1+(sizes l:Int)<=left)&&decide ((g.size:Int)<=left-(1+(sizes l:Int)))):=by
  rw[<-Bool.decide_and];exact decide_eq_decide.2 (by omega)
 have e2:decide (1+((max (depths l) g.depth:Nat):Int)<=d)=(decide (1+(depths l:Int)<=d)&&decide ((g.depth:Int)<=d-1)):=by
  rw[<-Bool.decide_and];exact decide_eq_decide.2 (by omega)
 rw[e1,e2]
 cases decide (1+(sizes l:Int)<=left) <;> cases decide (1+(depths l:Int)<=d) <;> cases decide ((g.size:Int)<=left-(1+(sizes l:Int))) <;> cases decide ((g.depth:Int)<=d-1) <;> rfl
theorem bT.base {w:World}{base base' c:Nat}{A:Option Addr}{gs:List Fm}{sl:List (Option Addr×Nat)}(h:bT w base A c gs sl)(hb:base'<=base):bT w base' A c gs sl:=by
 refine⟨⟨h.own.1,?_⟩,h.len,λ i hi=>(h.arg i hi).mono λ k hk _=>⟨⟨Nat.le_trans hb hk.1.1,hk.1.2⟩,hk.2⟩⟩
 rcases h.own.2 with h0|⟨g,cap,cur,hv,hg,hr⟩
 ·exact .inl h0
 ·exact .inr ⟨g,cap,cur,hv,Nat.le_trans hb hg,hr⟩
structure TD (bb ob:Nat) (w1:World) (o:Int) (n:ByteArray) (vv left d:Int) (made:List Fm) (m:Nat) (W:World):Prop where
 eu:aH (λ x=>x=bb) w1 W
 ex:∃v' A c gs sl left',OB W ob o n v' 0 A gs.length c/\bT W (ob+1) A c gs sl/\BB W bb left' (Gh made left d)/\gs.length<=m/\left'<=left /\ -1<=left'/\(Gh made left d=false->v'=vv/\gs=made/\left'=left-(1+sizes made)/\0<=left')
theorem LM {neg:Bool}{o v:Int}(h15:o≠15)(h16:o≠16)(h17:o≠17)(h11:o≠11)(h12:o≠12)(h18:o≠18)(h19:o≠19):nO neg o v=v/\o7 neg o = []:=by
 unfold nO o7 RD uY;simp[h15,h16,h17,h11,h12,h18,h19]
theorem yB {neg:Bool}{o:Int}(h:uY o=true):o7 neg o = [kV (mP (cO neg o)) []]:=by
 unfold o7 mP;rw[if_pos h]
theorem AY {neg:Bool}{o v:Int}(h:uY o=true)(h2:RD o=false):nO neg o v=wY (cO neg o) v:=by
 unfold nO wY;rw[h,h2];simp
theorem Bd (x:Fm)(h:x.args = [])(left d:Int):Gh [x] left d=(eP left false d || eP (left-1) false (d-1)):=by
 have:=Ox [] x left d;rw[List.nil_append]at this;rw[this,rZ]
 congr 1
 have hs:x.size=1:=by rw[Fm.size_eq,h];rfl
 have hd:x.depth=1:=by rw[Fm.jr,h];rfl
 unfold bK eP;rw[hs,hd]
 have e1:decide (((1:Nat):Int)<=left-(1+((sizes []:Nat):Int))) = !decide (left-1-1<0):=by
  rw[<-decide_not];have:sizes []=0:=rfl;exact decide_eq_decide.2 (by rw[this];omega)
 have e2:decide (((1:Nat):Int)<=d-1) = !decide (d-1<1):=by
  rw[<-decide_not];exact decide_eq_decide.2 (by omega)
 rw[e1,e2]
 cases decide (left-1-1<0) <;> cases decide (d-1<1) <;> rfl
theorem Xe {w:World}(D:Dom):∀i,i < [dV].length->bZ w D ([dV].getD i default).args (([((none:Option Addr),0)]).getD i (none,0)).1 (([((none:Option Addr),0)]).getD i (none,0)).2
 | 0,_=>bZ.nil _ _ _ (Nat.zero_le _)
 | i+1,h=>absurd h (by simp)
theorem IC {w5 wA w6:World}{base bb ob c c6 k cc n N:Nat}{A A6 A' AA:Option Addr}{c':Nat}{gs:List Fm}{sl:List (Option Addr×Nat)}{g:Fm}{o v b left:Int}{nm:ByteArray}{ov:Bool}{zc:List Value}
  (hA:aH (λ _=>False) w5 wA) (hr:bT w5 base A c gs sl) (hn:n=gs.length) (hN:N=n+1) (hz:zc=qc) (hown:w6.ownsRow base 24 5 (.slice A6 N c6) N (bQ gs sl++zc))
  (hg:wA.grownBy w6 (Value.slice A n c).ownBlock) (hblk:(Value.slice A6 N c6).ownBlock=(Value.slice A n c).ownBlock\/(Value.slice A6 N c6).ownBlock=some wA.heap.size)
  (ho:OB w5 ob o nm v b AA k cc) (hob:ob<base) (hb:BB w5 bb left ov) (hbb:bb<base) (hf:bZ w5 (λ x=>Nw base w5 x/\(Value.slice A gs.length c).ownBlock≠some x) g.args A' c') :
  ∃g6,A6=some ⟨g6,0,none⟩/\base<=g6/\bT w6 base (some ⟨g6,0,none⟩) c6 (gs ++ [dV]) (sl ++ [(none,0)])/\OB w6 ob o nm v b AA k cc/\BB w6 bb left ov/\bZ w6 (λ x=>Nw base w6 x/\x≠g6) g.args A' c'/\aH (λ x=>base<=x) w5 w6:=by
 subst hn hN hz;obtain⟨g6,rfl,hge⟩:=kW hown (by omega);have VJ:bT wA base A c gs sl:=hr.eu hA λ _ h=>h.elim;have FU:=ho.eu hA (λ h=>h);have LY:=hb.eu hA (λ h=>h);have hne:∀x,x<base->some x≠(Value.slice A gs.length c).ownBlock := λ x hx e=>by have:=(hr.ge e.symm).1;omega
 have hr6:bT w6 base (some ⟨g6,0,none⟩) c6 (gs ++ [dV]) (sl ++ [(none,0)]):=VJ.app (n:=gs.length+1) (ms := [dV]) (sm := [(none,0)]) hg (by simp) hown hblk rfl (Xe _)
 have hch:aH (λ x=>base<=x) w5 w6:=by
  refine(hA.mono λ _ _ h=>h.elim).trans ⟨hg.os,hg.tape,hg.output,hg.size,λ x hx hnb=>hg.block x hx (hne x (by omega))⟩
 refine⟨g6,rfl,hge,hr6,ho.eu hch (by omega),hb.eu hch (by omega),?_,hch⟩
 have h1:bZ wA (λ x=>Nw base wA x/\(Value.slice A gs.length c).ownBlock≠some x) g.args A' c':=by
  have hk:Keeps (λ x=>Nw base w5 x/\(Value.slice A gs.length c).ownBlock≠some x) w5 wA:=hA.keeps λ _ _ _ h=>h;exact(hf.keep hk).mono λ x hx _=>⟨⟨hx.1.1,hx.1.2.of_eq (hk.block x hx hx.1.2.lt)⟩,hx.2⟩
 refine(h1.grow hg λ x hx hl e=>hx.2 e.symm).mono λ x hx _=>⟨⟨hx.1.1.1.1,hx.1.1.1.2.of_eq hx.2⟩,λ e=>?_⟩;subst e
 rcases hblk with hb|hb
 ·exact hx.1.1.2 hb.symm
 ·injection hb with hb
  have:=hx.1.2;have hb':x=wA.heap.size:=hb;omega
theorem GI (w:World)(b o:Nat)(v0 v1 v2 v3 v4:Value):aH (λ x=>x=b) w (((((w.setCell ⟨b,o,none⟩ v0).setCell ⟨b,o+1,none⟩ v1).setCell ⟨b,o+2,none⟩ v2).setCell ⟨b,o+3,none⟩ v3).setCell ⟨b,o+4,none⟩ v4) :=
 (((((aH.refl (λ x=>x=b) w).set ⟨b,_,none⟩ _ λ _=>rfl).set ⟨b,_,none⟩ _ λ _=>rfl).set ⟨b,_,none⟩ _ λ _=>rfl).set ⟨b,_,none⟩ _ λ _=>rfl).set ⟨b,_,none⟩ _ λ _=>rfl
theorem aN (w:World)(b:Nat)(v0 v1 v2 v3 v4:Value):aH (λ x=>x=b) w (((((w.setCell ⟨b,0,none⟩ v0).setCell ⟨b,1,none⟩ v1).setCell ⟨b,2,none⟩ v2).setCell ⟨b,3,none⟩ v3).setCell ⟨b,4,none⟩ v4):=GI w b 0 v0 v1 v2 v3 v4
theorem bF {w:World}{b:Nat}{o v bd o' v' b':Int}{n n':ByteArray}{A A':Option Addr}{k c k' c':Nat}(h:OB w b o n v bd A k c) :
  OB (((((w.setCell ⟨b,0,none⟩ (.int .i64 o')).setCell ⟨b,1,none⟩ (.string n')).setCell ⟨b,2,none⟩ (.int .i64 v')).setCell ⟨b,3,none⟩ (.int .i64 b')).setCell ⟨b,4,none⟩ (.slice A' k' c')) b o' n' v' b' A' k' c':=by
 unfold OB at h⊢;rw[aB (aB (aB (aB (aB h _) _) _) _)];rfl
theorem ZI {l:List Fm}{left d:Int}(h:eP left false d=true):Gh l left d=true:=by
 unfold eP at h;unfold Gh;simp only[Bool.false_or,Bool.or_eq_true,decide_eq_true_eq]at h;rw[Bool.not_eq_true',Bool.and_eq_false_iff,decide_eq_false_iff_not,decide_eq_false_iff_not];omega
theorem Vs {bb ob:Nat}{w1 WF:World}{o:Int}{n:ByteArray}{vv v' left left' rV d:Int}{made gs:List Fm}{m:Nat}{ov:Bool}{kg g':Fm}(hov:ov=Gh made left d)
  (h1:ov=false->v'=vv/\gs=made/\left'=left-(1+sizes made)/\0<=left') (h2:(ov || !bK kg left' (d-1))=false->g'=kg/\rV=left'-kg.size/\0<=rV)
  (hgl:gs.length<=m) (hll:left'<=left) (hl5:rV<=left') (hm5 : -1<=rV) (happ:Ey bb ob (ob+1) o n v' 0 rV (ov || !bK kg left' (d-1)) (gs ++ [g']) w1 WF) :
  TD bb ob w1 o n vv left d (made ++ [kg]) (m+1) WF:=by
 have key:(ov || !bK kg left' (d-1))=Gh (made ++ [kg]) left d:=by
  rw[Ox,<-hov];cases hc:ov
  ·rw[(h1 hc).2.2.1]
  ·rfl
 rw[key]at h2 happ;obtain⟨A,c,sl,ho,hr⟩:=happ.out;refine⟨happ.eu,v',A,c,_,sl,rV,ho,hr,happ.bb,by simp;omega,by omega,hm5,λ h=>?_⟩
 have hov0:ov=false:=by
  rw[<-key]at h;cases ov
  ·rfl
  ·cases h
 obtain⟨q1,q2,q3,q4⟩:=h1 hov0;obtain⟨r1,r2,r3⟩:=h2 h;refine⟨q1,by rw[q2,r1],?_,r3⟩;rw[jh];simp only[sizes];omega
theorem Um {f:Fm}{neg:Bool}(hs:bW f=true)(h4:f.op≠4)(h13:f.op≠13)(Rh:f.op≠14)(h3:f.op=3->neg=false) :
  kf neg f = .mk (cO neg f.op) f.name (nO neg f.op f.val) 0 (o7 neg f.op++Ht (rG neg f.op) (qj neg f.op) f.args):=by
 rcases Ou hs with⟨h,ha⟩|⟨h,_⟩|⟨h|h,_⟩|hg
 ·have hn:=h3 h
  subst hn;obtain⟨o,n,v,b,l⟩:=f;simp only[Fm.op,Fm.args]at h ha;subst h ha;exact qgM n v b
 ·exact absurd h h4
 ·exact absurd h h13
 ·exact absurd h Rh
 ·obtain⟨o,n,v,b,l⟩:=f
  exact qei hg neg n v b l
theorem YL {bb ob rb:Nat}{w w1 W:World}{f:Fm}{neg:Bool}{left d:Int}{made:List Fm}{v':Int}{A:Option Addr}{c k:Nat}{gs:List Fm}{sl:List (Option Addr×Nat)}{left':Int}
  (hs:bW f=true) (h4:f.op≠4) (h13:f.op≠13) (Rh:f.op≠14) (h3:f.op=3->neg=false) (hm:made=o7 neg f.op++Ht (rG neg f.op) (qj neg f.op) f.args)
  (hc0:aH (λ x=>x=bb) w w1) (hc:aH (λ x=>x=bb) w1 W) (hrb:w.heap.size<=rb) (hro:rb<ob) (hbb:bb<w.heap.size) (hr:bT W (ob+1) A c gs sl) (hb:BB W bb left' (Gh made left d)) (hk:k=gs.length)
  (hl:gs.length<=140737488355328) (hl1:left'<=left) (hl2 : -1<=left') (hov:Gh made left d=false->v'=nO neg f.op f.val/\gs=made/\left'=left-(1+sizes made)/\0<=left')
  {W':World} (hW:aH (λ x=>x=rb) W W') :
  dB bb (kf neg f) left (!bK (kf neg f) left d) w (.returned (.agg #[.int .i64 (cO neg f.op),.string f.name,.int .i64 v',.int .i64 0,.slice A k c])) W':=by
 subst hk;have hkf:=Um hs h4 h13 Rh h3;rw[<-hm]at hkf;have hfit:(!bK (kf neg f) left d)=Gh made left d:=by rw[hkf,KE]
 rw[hfit];refine⟨(hc0.trans hc).trans' hW λ x hx h=>by omega,_,.mk (cO neg f.op) f.name v' 0 gs,left',rfl,⟨A,c,rfl,?_⟩,hb.eu hW (by omega),hl1,hl2,λ h=>?_⟩
 ·have:=((hr.eu hW λ x h=>by omega).rd hl).base (base':=w.heap.size) (by omega)
  exact this
 ·obtain⟨q1,q2,q3,q4⟩:=hov h
  refine⟨by rw[hkf,q1,q2],?_,q4⟩;rw[hkf,Fm.size_eq];simp only[Fm.args];omega
end Go.Proofs.YtdpbgcmfeajigaaGreatDoor
