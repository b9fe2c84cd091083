/-
  Parts of a proof: LP XO PA PB PC PD PE PF PG PH PI PJ.
-/
import Derived.ProofKit
import Derived.SizedLaws
import Derived.Deep.Slices
import Derived.Deep.SlicePairs
import Derived.Deep.Fields
import Derived.Lib.SmallJoins
import Derived.Test.YtdpbgcmfeajigaaGreatDoorA23
import Derived.Test.YtdpbgcmfeajigaaGreatDoorA00
import Derived.Test.YtdpbgcmfeajigaaGreatDoorA22
import Derived.Test.YtdpbgcmfeajigaaGreatDoorA21
import Derived.Test.YtdpbgcmfeajigaaGreatDoorA20
set_option linter.unusedSimpArgs false
set_option linter.unusedVariables false
set_option maxHeartbeats 8000000
set_option maxRecDepth 100000
namespace Go.Proofs.YtdpbgcmfeajigaaGreatDoor
theorem ng.nil (w:World)(D:Dom)(A:Option Addr){c:Nat}(hc:c<=9223372036854775807):ng w D A c []:=Rd.nil w D 3 A hc
open Go.ChangeShapes Go.WideShapes Go.RowKit Go.Deep Go.Joins
def Light {H:Type}(P:Program)(t:TypeId)(d:DataW H):Prop:=(d.weights P t).all (· <= reachBytes)=true
theorem AV {H:Type}{P:Program}{ts:List TypeId}{ds:List (DataW H)}(h:(DataW.weightsEach P ts ds).all (· <= reachBytes)=true){j:Nat}{t:TypeId}{d:DataW H}(ht:ts[j]?=some t)(hd:ds[j]?=some d):Light P t d:=by
 unfold Light;rw[List.all_eq_true]at h⊢;exact λ n hn=>h n (DataW.weights_mem_each ht hd n hn)
theorem wX {H:Type}{P:Program}{t e:TypeId}{elems spare:List (DataW H)}(hu:P.underlying t=some (.slice e))(h:Light P t (.slice elems spare)) :
  (elems.length+spare.length)*P.bytesOf e<=reachBytes/\∀d∈elems,Light P e d:=by
 unfold Light at h;simp only[DataW.weights,hu,List.all_cons,Bool.and_eq_true,decide_eq_true_eq,List.all_append]at h;refine⟨h.1,λ d hd=>?_⟩
 have key:∀(l:List (DataW H)),(DataW.weightsAll P e l).all (· <= reachBytes)=true->∀d∈l,Light P e d:=by
  intro l
  induction l with
  | nil=>intro _ d hd;cases hd
  | cons x l ih =>
   intro hl d hd;simp only[DataW.weightsAll,List.all_append,Bool.and_eq_true]at hl
   rcases List.mem_cons.1 hd with rfl|hd
   ·exact hl.1
   ·exact ih hl.2 d hd
 exact key elems h.2.1 d hd
section
variable {H:Type}{enc:TypeId×Value->H}{w:World}{base:Nat}{held:Bool}
theorem zF {a:Addr}{u:Value}(h:w.cell? (a.add 0)=some u):a=⟨a.block,a.off,none⟩/\a.block<w.heap.size:=by
 have h0:a.add 0=a:=by unfold Addr.add;simp
 rw[h0]at h;refine⟨?_,World.block_lt_of_cell? w a h⟩;obtain⟨b,o,s⟩:=a
 cases s with
 | none=>rfl
 | some s =>
  unfold World.cell? at h
  split at h <;> simp at h
theorem QD (b o k:Nat):(⟨b,o,none⟩:Addr).add k=⟨b,o+k,none⟩:=by
 unfold Addr.add
 by_cases h:k=0 <;> simp[h]
theorem NM {α : Type}(l:List α)(x d : α)(j:Nat):(l ++ [x]).getD j d=if j<l.length then l.getD j d else if j=l.length then x else d:=by
 simp only[List.getD,List.getElem?_append]
 split
 ·rfl
 ·split
  ·rename_i h h2;subst h2;simp
  ·rename_i h h2
   rw[List.getElem?_eq_none (by simp;omega)];rfl
theorem wS {α : Type}(d : α){n:Nat}{P:Nat -> α -> Prop}(h:∀i,i<n->∃x,P i x):∃l:List α,l.length=n/\∀i,i<n->P i (l.getD i d):=by
 induction n with
 | zero=>exact⟨[],rfl,λ i hi=>absurd hi (Nat.not_lt_zero _)⟩
 | succ n ih =>
  obtain⟨l,hl,hp⟩:=ih (λ i hi=>h i (by omega));obtain⟨x,hx⟩:=h n (by omega);refine⟨l ++ [x],by simp[hl],λ i hi=>?_⟩;rw[NM,hl]
  split
  ·exact hp i ‹_›
  ·rw[if_pos (by omega)]
   obtain rfl:i=n:=by omega
   exact hx
theorem yw {P:Program}{t:TypeId}{fs:Array Field}{parts:List (DataW H)}(hu:P.underlying t=some (.struct fs))(h:Light P t (.agg parts)){j:Nat}{f:Field}{d:DataW H}(hf:fs[j]?=some f)(hd:parts[j]?=some d):Light P f.type d:=by
 unfold Light at h;simp only[DataW.weights,hu]at h;exact AV h (j:=j) (by simp[hf]) hd
theorem Ce {α : Type}(f : α -> List Value)(s:Nat)(hf:∀x,(f x).length=s)(l:List α):(l.flatMap f).length=l.length*s:=by
 induction l with
 | nil=>simp
 | cons x l ih=>rw[List.flatMap_cons,List.length_append,hf,ih,List.length_cons,Nat.add_mul,Nat.one_mul];omega
theorem JV {α β : Type}:∀l:List (α × β),(l.map Prod.fst).zip (l.map Prod.snd)=l
 | []=>rfl
 | x :: l=>by simp[JV l]
theorem TU:Tryz.prog.cellsOf 24=5:=by kernel_rfl
theorem qa5:Tryz.prog.bytesOf 24=64:=by kernel_rfl
theorem ED:Tryz.prog.cellsOf 3=1:=by kernel_rfl
theorem TV:Tryz.prog.cellsOf 9=1:=by kernel_rfl
theorem Yp:Tryz.prog.cellsOf 22=1:=by kernel_rfl
theorem DX {n:Nat}{cs:List Value}{y:DataW H×List MemPlace}(h:DataW.trod enc Tryz.prog w base (λ _=>true) held n 24 cs=some y)(hcl:cs.length=5) :
  ∃(o:Int) (s:ByteArray) (v b:Int) (a:Value) (k:Nat) (y4:DataW H×List MemPlace) (d0 d1 d2 d3:DataW H),cs = [.int .i64 o,.string s,.int .i64 v,.int .i64 b,a]/\y.1 = .agg [d0,d1,d2,d3,y4.1]/\DataW.trod enc Tryz.prog w base (λ _=>true) held k 22 [a]=some y4:=by
 obtain⟨xs,k',_,hxy,_,hyl,hf⟩:=DataW.trod_struct Tryz.underlying24 h
 match xs,hyl,cs,hcl with
 | [y0,y1,y2,y3,y4],_,[v0,v1,v2,v3,v4],_ =>
  have g0:DataW.trod enc Tryz.prog w base (λ _=>true) held k' 3 [v0]=some y0:=by
   have:=hf 0 _ rfl
   change DataW.trod enc Tryz.prog w base (λ _=>true) held k' 3 (([v0,v1,v2,v3,v4].drop 0).take (Tryz.prog.cellsOf 3))=some y0 at this
   rw[ED]at this;simpa using this
  have g1:DataW.trod enc Tryz.prog w base (λ _=>true) held k' 9 [v1]=some y1:=by
   have:=hf 1 _ rfl
   change DataW.trod enc Tryz.prog w base (λ _=>true) held k' 9 (([v0,v1,v2,v3,v4].drop 1).take (Tryz.prog.cellsOf 9))=some y1 at this
   rw[TV]at this;simpa using this
  have g2:DataW.trod enc Tryz.prog w base (λ _=>true) held k' 3 [v2]=some y2:=by
   have:=hf 2 _ rfl
   change DataW.trod enc Tryz.prog w base (λ _=>true) held k' 3 (([v0,v1,v2,v3,v4].drop 2).take (Tryz.prog.cellsOf 3))=some y2 at this
   rw[ED]at this;simpa using this
  have g3:DataW.trod enc Tryz.prog w base (λ _=>true) held k' 3 [v3]=some y3:=by
   have:=hf 3 _ rfl
   change DataW.trod enc Tryz.prog w base (λ _=>true) held k' 3 (([v0,v1,v2,v3,v4].drop 3).take (Tryz.prog.cellsOf 3))=some y3 at this
   rw[ED]at this;simpa using this
  have g4:DataW.trod enc Tryz.prog w base (λ _=>true) held k' 22 [v4]=some y4:=by
   have:=hf 4 _ rfl
   change DataW.trod enc Tryz.prog w base (λ _=>true) held k' 22 (([v0,v1,v2,v3,v4].drop 4).take (Tryz.prog.cellsOf 22))=some y4 at this
   rw[Yp]at this;simpa using this
  obtain⟨z0,hz0,_⟩:=DataW.trod_int Tryz.underlying3 g0;obtain⟨z1,hz1,_⟩:=DataW.trod_string Tryz.underlying9 g1;obtain⟨z2,hz2,_⟩:=DataW.trod_int Tryz.underlying3 g2;obtain⟨z3,hz3,_⟩:=DataW.trod_int Tryz.underlying3 g3;have e0:v0 = .int .i64 z0:=by simpa using hz0
  have e1:v1 = .string z1:=by simpa using hz1
  have e2:v2 = .int .i64 z2:=by simpa using hz2
  have e3:v3 = .int .i64 z3:=by simpa using hz3
  refine⟨z0,z1,z2,z3,v4,k',y4,y0.1,y1.1,y2.1,y3.1,by rw[e0,e1,e2,e3],?_,g4⟩;rw[hxy];rfl
theorem qbN:∀(N:Nat) {n:Nat} {v:Value} {y:DataW H×List MemPlace},SizeOf.sizeOf y.1<=N->DataW.trod enc Tryz.prog w base (λ _=>true) held n 22 [v]=some y->Light Tryz.prog 22 y.1 ->
  ∃(A:Option Addr) (c:Nat) (l:List Fm),v = .slice A l.length c/\bZ w (· < w.heap.size) l A c:=by
 intro N
 induction N with
 | zero =>
  intro n v y hN h hl
  exfalso
  have:0<SizeOf.sizeOf y.1:=by cases y.1 <;> simp <;> omega
  omega
 | succ N ih =>
  intro n v y hN h hl
  rcases open_slice Tryz.underlying22 h with⟨hv,rfl⟩|⟨a,len,cap,m,k,D,Pl,hv,hb,hlc,hcm,hmm,rfl,hx⟩
  ·obtain rfl:v = .slice none 0 0:=by simpa using hv
   exact⟨none,0,[],rfl,bZ.nil _ _ _ (by omega)⟩
  ·obtain rfl:v = .slice (some a) len cap:=by simpa using hv
   simp only[if_true]at hmm;obtain rfl:cap=m:=hmm.symm;obtain⟨h8,hin⟩:=wX Tryz.underlying22 hl;rw[qa5]at h8;simp only[List.length_map,List.length_range,reachBytes]at h8;rw[TU]at hx
   have each:∀i,i<len->∃q:Fm×(Option Addr×Nat),w.cell? (a.add (i*5))=some (.int .i64 q.1.op)/\w.cell? (a.add (i*5+1))=some (.string q.1.name)/\w.cell? (a.add (i*5+2))=some (.int .i64 q.1.val)/\w.cell? (a.add (i*5+3))=some (.int .i64 q.1.bound)/\w.cell? (a.add (i*5+4))=some (.slice q.2.1 q.1.args.length q.2.2)/\bZ w (· < w.heap.size) q.1.args q.2.1 q.2.2:=by
    intro i hi;obtain⟨cs',hc,ht'⟩:=hx i (by omega);obtain⟨_,hcl,hat⟩:=World.cells?_some hc;obtain⟨o,s,vv,bb,av,k2,y4,d0,d1,d2,d3,rfl,hy,g4⟩:=DX ht' hcl;have hDm:D i∈(List.range len).map D:=List.mem_map.2 ⟨i,by simp[hi],rfl⟩;have uj:=hin (D i) hDm;have hy:D i = .agg [d0,d1,d2,d3,y4.1]:=hy;have hs1:SizeOf.sizeOf (D i)<SizeOf.sizeOf ((List.range len).map D):=List.sizeOf_lt_of_mem hDm
    have hs2:SizeOf.sizeOf y4.1<=N:=by
     rw[hy]at hs1;simp at hN hs1;omega
    rw[hy]at uj;obtain⟨A2,c2,l2,e4,r2⟩:=ih hs2 g4 (yw Tryz.underlying24 uj (j:=4) rfl rfl);have c0:=hat 0 (by omega);have c1:=hat 1 (by omega);have c2':=hat 2 (by omega);have c3:=hat 3 (by omega);have c4:=hat 4 (by omega);rw[Go.Deep.add_add]at c0 c1 c2' c3 c4;exact⟨(.mk o s vv bb l2,(A2,c2)),by simpa[Fm.op]using c0,by simpa[Fm.name]using c1,by simpa[Fm.val]using c2',by simpa[Fm.bound]using c3,by simpa[e4,Fm.args]using c4,r2⟩
   obtain⟨qs,hgl,hg⟩:=wS (default,(none,0)) each;have hz:(qs.map Prod.fst).zip (qs.map Prod.snd)=qs:=JV qs;have hlen:(qs.map Prod.snd).length=(qs.map Prod.fst).length:=by simp
   refine⟨some a,cap,qs.map Prod.fst,by rw[List.length_map,hgl],.mk _ _ _ (qs.map Prod.snd) hlen ?_ λ i hi=>?_⟩
   ·rw[List.length_map]
    have hfl:(bQ (qs.map Prod.fst) (qs.map Prod.snd)).length=qs.length*5:=by
     unfold bQ;rw[hz];exact Ce _ 5 (λ _=>rfl) qs
    refine⟨⟨hfl,by omega,by omega,hcm⟩,λ hn=>?_⟩;rw[hgl]at hn;obtain⟨ha,hlt⟩:=zF (by simpa using(hg 0 hn).1);refine⟨a.block,a.off,by rw[<-ha],hlt,hlt,λ j u hu=>?_⟩
    have hjl:j<qs.length*5:=by
     rcases Nat.lt_or_ge j (qs.length*5)with h|h
     ·exact h
     ·rw[List.getElem?_eq_none (by rw[hfl];exact h)]at hu;cases hu
    obtain⟨q,r,rfl,hr⟩:∃q r,j=q*5+r/\r<5:=⟨j / 5,j % 5,by omega,by omega⟩;have hq:q<qs.length:=by omega
    rw[lu hlen (by simpa using hq) hr]at hu;have e1:(qs.map Prod.fst).getD q default=(qs.getD q (default,(none,0))).1:=by simp[List.getD,hq]
    have e2:(qs.map Prod.snd).getD q (none,0)=(qs.getD q (default,(none,0))).2:=by simp[List.getD,hq]
    rw[e1,e2]at hu;obtain⟨c0,c1,c2,c3,c4,_⟩:=hg q (by omega);rw[ha,QD]at c0 c1 c2 c3 c4
    match r,hr with
    | 0,_=>simp only[fH]at hu;have hu:=Option.some.inj hu;rw[<-hu];exact c0
    | 1,_=>simp only[fH]at hu;have hu:=Option.some.inj hu;rw[<-hu];exact c1
    | 2,_=>simp only[fH]at hu;have hu:=Option.some.inj hu;rw[<-hu];exact c2
    | 3,_=>simp only[fH]at hu;have hu:=Option.some.inj hu;rw[<-hu];exact c3
    | 4,_=>simp only[fH]at hu;have hu:=Option.some.inj hu;rw[<-hu];exact c4
   ·rw[List.length_map]at hi
    have:=(hg i (by omega)).2.2.2.2.2;simpa[List.getD,hi]using this
theorem qep {v:Value}{d:DataW H}{p:List MemPlace}{r:Reach}{b0:Nat}(hv:Value.okWide Tryz.prog w r b0 24 v)(h:DataW.Trod enc Tryz.prog w base (λ _=>true) held 24 v d p)(hl:Light Tryz.prog 24 d) :
  ∃f:Fm,bI w (· < w.heap.size) v f:=by
 obtain⟨cs,rfl,hsz⟩:=okWide_struct Tryz.underlying24 hv;obtain⟨l⟩:=cs;obtain⟨fuel,hf⟩:=h;have hl5:l.length=5:=hsz.trans TU;obtain⟨o,s,vv,bb,av,k2,y4,d0,d1,d2,d3,e,hy,g4⟩:=DX hf hl5;have e':l = [.int .i64 o,.string s,.int .i64 vv,.int .i64 bb,av]:=e;have hy:d = .agg [d0,d1,d2,d3,y4.1]:=hy;rw[hy]at hl;obtain⟨A2,c2,l2,e4,r2⟩:=qbN _ (Nat.le_refl _) g4 (yw Tryz.underlying24 hl (j:=4) rfl rfl);subst e' e4;exact⟨.mk o s vv bb l2,A2,c2,rfl,r2⟩
end
theorem ZJ:ownKnob Tryz.prog.godebug=none:=by kernel_rfl
theorem F5:laidOutB Tryz.prog=true:=by kernel_rfl
theorem xA {H:Type}{enc:TypeId×Value->H}{W W':World}{sp:Nat->Bool}{t:TypeId}{v:Value}{d:DataW H}{ps:List MemPlace}(hl:laidOutB Tryz.prog=true)(hr:Tryz.prog.readableRec t=true)(hrow:t<Tryz.prog.types.size)
  (h:DataW.Trod enc Tryz.prog W 0 (λ _=>true) true t v d ps) (hb:Below W.heap.size W W') (hlt:∀x∈ps,x.block<W.heap.size) (hsp:∀x∈ps,sp x.block=true):DataW.Trod enc Tryz.prog W' 0 sp true t v d ps :=
 WideElems.Trod_stays hl hr hrow h (λ x hx=>hb.same (hlt x hx)) hsp
theorem Ie {H:Type}{enc:TypeId×Value->H}{P:Program}{f:Func}{s:ChangeSpec}{apart fresh handsOn again:Bool}{W W':World}{args:Array Value}{v:Value}{ds gs:List (DataW H)}{before pa pv:List MemPlace}
  (hW:DataW.Whole enc P f.params.toList s.vars apart W args.toList ds gs before)
  (hres:∀(b:Nat) (sp:Nat->Bool) (hd:Bool),DataW.TrodAll enc P W' b sp hd f.resultTypes.toList (v.resultList f.resultTypes.size) (s.fn H (ds++gs)).results [])
  (hargs:∀sp:Nat->Bool,(∀p∈before,sp p.block=true)->DataW.TrodAll enc P W' 0 sp true f.params.toList args.toList (s.fn H (ds++gs)).args pa)
  (hvars:∀sp:Nat->Bool,(∀p∈before,sp p.block=true)->DataW.TrodVars enc P W' sp s.vars (s.fn H (ds++gs)).vars pv)
  (hps:before=pa++pv) (hb:Below W.heap.size W W')
  (hok:∀(j:Nat) (t:TypeId) (r:Value),f.resultTypes[j]?=some t->(v.resultList f.resultTypes.size)[j]?=some r->Value.okWide P W' .any 0 t r) :
  s.post enc P f apart fresh handsOn again W args v W':=by
 have hlt:∀p∈before,p.block<W.heap.size := λ p hp=>hW.lt p hp;have hold:∀p∈before,(λ b=>decide (b<W.heap.size)) p.block=true := λ p hp=>by simpa using hlt p hp
 refine⟨ds,gs,before,[],pa,pv,hW,hres _ _ _,hargs _ hold,hvars _ hold,World.keptBut_mono (λ p hp=>⟨hp,?_⟩) (hb.frame (· ∈ before)),λ _=>?_⟩
 ·rw[hps,List.mem_append]at hp
  exact Or.inr hp
 ·obtain⟨_,_,_,_,_,hz,hn⟩:=hW
  refine⟨hok,_,_,([]++pa)++pv,⟨[]++pa,pv,trodAll_append (hargs _ (λ _ _=>rfl)) (hres _ _ _),hvars _ (λ _ _=>rfl),rfl,?_,?_⟩,?_⟩
  ·intro b off hp
   have hin:MemPlace.cell b off∈before:=by rw[hps];simpa using hp
   rw[hb.frozen (hlt _ hin)];exact hz b off hin
  ·intro ha
   have:=hn ha;rw[hps]at this;simpa using this
  ·intro p hp _
   rw[hps];simpa using hp
theorem qa7:Tryz.prog.cellsOf 103=3:=by kernel_rfl
theorem qa6:Tryz.prog.bytesOf 103=32:=by kernel_rfl
theorem qa9:Tryz.prog.cellsOf 4=1:=by kernel_rfl
section
variable {H:Type}{enc:TypeId×Value->H}{w:World}{base:Nat}{held:Bool}
theorem KX {n:Nat}{cs:List Value}{y:DataW H×List MemPlace}(h:DataW.trod enc Tryz.prog w base (λ _=>true) held n 103 cs=some y)(hcl:cs.length=3) :
  ∃s:Sg,cs=nX s:=by
 obtain⟨xs,k',_,hxy,_,hyl,hf⟩:=DataW.trod_struct Tryz.underlying103 h
 match xs,hyl,cs,hcl with
 | [y0,y1,y2],_,[v0,v1,v2],_ =>
  have g0:DataW.trod enc Tryz.prog w base (λ _=>true) held k' 9 [v0]=some y0:=by
   have:=hf 0 _ rfl
   change DataW.trod enc Tryz.prog w base (λ _=>true) held k' 9 (([v0,v1,v2].drop 0).take (Tryz.prog.cellsOf 9))=some y0 at this
   rw[TV]at this;simpa using this
  have g1:DataW.trod enc Tryz.prog w base (λ _=>true) held k' 4 [v1]=some y1:=by
   have:=hf 1 _ rfl
   change DataW.trod enc Tryz.prog w base (λ _=>true) held k' 4 (([v0,v1,v2].drop 1).take (Tryz.prog.cellsOf 4))=some y1 at this
   rw[qa9]at this;simpa using this
  have g2:DataW.trod enc Tryz.prog w base (λ _=>true) held k' 3 [v2]=some y2:=by
   have:=hf 2 _ rfl
   change DataW.trod enc Tryz.prog w base (λ _=>true) held k' 3 (([v0,v1,v2].drop 2).take (Tryz.prog.cellsOf 3))=some y2 at this
   rw[ED]at this;simpa using this
  obtain⟨z0,hz0,_⟩:=DataW.trod_string Tryz.underlying9 g0;obtain⟨z1,hz1⟩:=DataW.trod_bool Tryz.underlying4 g1;obtain⟨z2,hz2,_⟩:=DataW.trod_int Tryz.underlying3 g2;have e0:v0 = .string z0:=by simpa using hz0
  have e1:v1 = .bool z1:=by simpa using hz1.1
  have e2:v2 = .int .i64 z2:=by simpa using hz2
  exact⟨⟨z0,z1,z2⟩,by rw[e0,e1,e2];rfl⟩
theorem qbO {n:Nat}{v:Value}{y:DataW H×List MemPlace}(h:DataW.trod enc Tryz.prog w base (λ _=>true) held n 34 [v]=some y)(hl:Light Tryz.prog 34 y.1) :
  ∃(A:Option Addr) (c:Nat) (l:List Sg),v = .slice A l.length c/\ng w (· < w.heap.size) A c l:=by
 rcases open_slice Tryz.underlying34 h with⟨hv,rfl⟩|⟨a,len,cap,m,k,D,Pl,hv,hb,hlc,hcm,hmm,rfl,hx⟩
 ·obtain rfl:v = .slice none 0 0:=by simpa using hv
  exact⟨none,0,[],rfl,ng.nil _ _ _ (by omega)⟩
 ·obtain rfl:v = .slice (some a) len cap:=by simpa using hv
  simp only[if_true]at hmm;obtain rfl:cap=m:=hmm.symm;obtain⟨h8,hin⟩:=wX Tryz.underlying34 hl;rw[qa6]at h8;simp only[List.length_map,List.length_range,reachBytes]at h8;rw[qa7]at hx
  have each:∀i,i<len->∃q:Sg,w.cell? (a.add (i*3))=some (.string q.name)/\w.cell? (a.add (i*3+1))=some (.bool q.inp)/\w.cell? (a.add (i*3+2))=some (.int .i64 q.size):=by
   intro i hi;obtain⟨cs',hc,ht'⟩:=hx i (by omega);obtain⟨_,hcl,hat⟩:=World.cells?_some hc;obtain⟨s,rfl⟩:=KX ht' hcl;have c0:=hat 0 (by omega);have c1:=hat 1 (by omega);have c2:=hat 2 (by omega);rw[Go.Deep.add_add]at c0 c1 c2;exact⟨s,by simpa[nX]using c0,by simpa[nX]using c1,by simpa[nX]using c2⟩
  obtain⟨gs,hgl,hg⟩:=wS default each;refine⟨some a,cap,gs,by rw[hgl],⟨⟨Ce nX 3 (λ _=>rfl) gs,by omega,by omega,hcm⟩,λ hn=>?_⟩⟩;rw[hgl]at hn;obtain⟨ha,hlt⟩:=zF (by simpa using(hg 0 hn).1);refine⟨a.block,a.off,by rw[<-ha],hlt,hlt,λ j u hu=>?_⟩
  have hjl:j<gs.length*3:=by
   rcases Nat.lt_or_ge j (gs.length*3)with h|h
   ·exact h
   ·rw[List.getElem?_eq_none (by rw[Ce nX 3 (λ _=>rfl) gs];exact h)]at hu;cases hu
  obtain⟨q,r,rfl,hr⟩:∃q r,j=q*3+r/\r<3:=⟨j / 3,j % 3,by omega,by omega⟩;rw[Am nX default 3 (λ _=>rfl) gs q r (by omega) hr]at hu;obtain⟨c0,c1,c2⟩:=hg q (by omega);rw[ha,QD]at c0 c1 c2
  match r,hr with
  | 0,_=>simp only[nX]at hu;have hu:=Option.some.inj hu;rw[<-hu];exact c0
  | 1,_=>simp only[nX]at hu;have hu:=Option.some.inj hu;rw[<-hu];exact c1
  | 2,_=>simp only[nX]at hu;have hu:=Option.some.inj hu;rw[<-hu];exact c2
theorem qbP {v:Value}{d:DataW H}{p:List MemPlace}(hc:v.cells = #[v])(h:DataW.Trod enc Tryz.prog w base (λ _=>true) held 34 v d p)(hl:Light Tryz.prog 34 d) :
  ∃(A:Option Addr) (c:Nat) (l:List Sg),v = .slice A l.length c/\ng w (· < w.heap.size) A c l:=by
 obtain⟨n,hn⟩:=h;rw[hc]at hn;exact qbO hn hl
end
instance decFm:DecidableEq Fm := λ _ _=>decidable_of_iff _ nC
def jV (o:Int):Bool:=decide (o=15) || decide (o=16) || decide (o=17)
theorem pF {o:Int}:jV o=true ↔ o=15\/o=16\/o=17:=by unfold jV;simp only[Bool.or_eq_true,decide_eq_true_eq,or_assoc]
mutual
def aY:Fm->List Fm
 | .mk o n v b l=>dM l++(if jV o then [.mk o n v b l]else [])
def dM:List Fm->List Fm
 | [] => []
 | f :: l=>aY f++dM l
end
theorem xu (f:Fm):aY f=dM f.args++(if jV f.op then [f]else []):=by cases f;simp only[aY,Fm.op,Fm.args];rfl
theorem DY:∀(l:List Fm) (f:Fm),dM (l ++ [f])=dM l++aY f
 | [],f=>by simp[dM]
 | g :: l,f=>by simp only[List.cons_append,dM,DY l f,List.append_assoc]
theorem zI {x:Fm}:∀{l:List Fm},x∈dM l ↔ ∃g,g∈l/\x∈aY g
 | []=>by simp[dM]
 | f :: l=>by
  simp only[dM,List.mem_append,zI (l:=l),List.mem_cons]
  constructor
  ·rintro(h|⟨g,hg,h⟩)
   ·exact⟨f,.inl rfl,h⟩
   ·exact⟨g,.inr hg,h⟩
  ·rintro⟨g,rfl|hg,h⟩
   ·exact .inl h
   ·exact .inr ⟨g,hg,h⟩
theorem oD {f x:Fm}:x∈aY f ↔ (∃g,g∈f.args/\x∈aY g)\/(jV f.op=true/\x=f):=by
 rw[xu,List.mem_append,zI]
 by_cases h:jV f.op=true
 ·rw[if_pos h];simp[h]
 ·rw[if_neg h];simp[h]
theorem qY {f:Fm}(h:jV f.op=true):f∈aY f:=oD.2 (.inr ⟨h,rfl⟩)
theorem mQ {f g x:Fm}(hg:g∈f.args)(h:x∈aY g):x∈aY f:=oD.2 (.inl ⟨g,hg,h⟩)
theorem Fm.pW {P:Fm->Prop}(h:∀f,(∀g,g∈f.args->P g)->P f)(f:Fm):P f :=
 Fm.induct (λ f ih=>h f λ g hg=>by
  obtain⟨i,hi,rfl⟩:=List.getElem_of_mem hg;have:=ih i hi
  rwa [List.getD_eq_getElem?_getD,List.getElem?_eq_getElem hi,Option.getD_some]at this) f
theorem Wx {f:Fm}:∀{x:Fm},x∈aY f->jV x.op=true:=by
 refine Fm.pW (P := λ f=>∀{x:Fm},x∈aY f->jV x.op=true) ?_ f;intro f ih x hx
 rcases oD.1 hx with⟨g,hg,h⟩|⟨h,rfl⟩
 ·exact ih g hg h
 ·exact h
theorem Gm {f:Fm}:∀{x:Fm},x∈aY f->x.size<=f.size:=by
 refine Fm.pW (P := λ f=>∀{x:Fm},x∈aY f->x.size<=f.size) ?_ f;intro f ih x hx
 rcases oD.1 hx with⟨g,hg,h⟩|⟨h,rfl⟩
 ·have h1:=ih g hg h
  have h2:=gq hg;rw[Fm.size_eq f];omega
 ·exact Nat.le_refl _
theorem OC {f:Fm}:∀{x y:Fm},x∈aY f->y∈aY x->y∈aY f:=by
 refine Fm.pW (P := λ f=>∀{x y:Fm},x∈aY f->y∈aY x->y∈aY f) ?_ f;intro f ih x y hx hy
 rcases oD.1 hx with⟨g,hg,h⟩|⟨h,rfl⟩
 ·exact mQ hg (ih g hg h hy)
 ·exact hy
theorem Jt {Q:Fm->Prop}(hq:∀f g,Q f->g∈f.args->Q g){f:Fm}:Q f->∀{x:Fm},x∈aY f->Q x:=by
 refine Fm.pW (P := λ f=>Q f->∀{x:Fm},x∈aY f->Q x) ?_ f;intro f ih h x hx
 rcases oD.1 hx with⟨g,hg,h1⟩|⟨_,rfl⟩
 ·exact ih g hg (hq f g h hg) h1
 ·exact h
theorem qF {f g:Fm}(hg:g∈f.args)(h:bf f=true):bf g=true:=by
 unfold bf at h⊢;rw[Bool.and_eq_true]at h⊢;exact⟨YH hg h.1,MR QG hg h.2⟩
theorem OA {f x:Fm}(h:bf f=true)(hx:x∈aY f):bf x=true:=Jt (Q := λ f=>bf f=true) (λ _ _ h hg=>qF hg h) h hx
theorem Jz {o:Int}(h:jV o=true):(aJ o).past=true/\(aJ o).future=false:=by
 rcases pF.1 h with rfl|rfl|rfl <;> exact⟨rfl,rfl⟩
theorem U9 (x:Fm×Bool)(h:bU x=true):oh x=true:=by
 unfold bU at h;unfold oh;simp only[Bool.and_eq_true]at h;exact h.1.2
theorem qbS {f:Fm}(h:allI bU true f):allB iC f=true:=by
 rw[<-Oz];exact(Zx f).1 (Fa U9 h)
theorem Wv {f:Fm}(h:(aJ f.op).future=false)(ha:∀g,g∈f.args->allB iC g=true):allB iC f=true:=by
 refine qJ.2 (dL.2 ⟨by unfold iC;rw[h];rfl,λ g hg=>?_⟩);exact Yi SE (ha g hg)
theorem yE {f g:Fm}(h:allB iC f=true)(hg:g∈f.args):allB iC g=true:=MR (q:=iC) (λ _ h=>h) hg h
theorem WI {f:Fm}(h:bf f=true)(hr:jV f.op=true):allB iC f=true:=by
 have hb:=dL.1 (iI h).2.2;rw[(Jz hr).1,Bool.or_true]at hb;exact Wv (Jz hr).2 λ g hg=>qbS (hb.2 g hg)
def jU (g:Fm):List Fm->Nat
 | []=>0
 | x :: l=>if x=g then 0 else jU g l+1
theorem qw {g:Fm}:∀{l:List Fm},jU g l<l.length ↔ g∈l
 | []=>by simp[jU]
 | x :: l=>by
  rw[jU]
  by_cases h:x=g
  ·simp[h]
  ·rw[if_neg h,List.length_cons,Nat.add_lt_add_iff_right,qw,List.mem_cons]
   simp[show¬g=x from λ e=>h e.symm]
theorem oL {g:Fm}:∀{l:List Fm},jU g l<l.length->l.getD (jU g l) default=g
 | [],h=>by simp[jU]at h
 | x :: l,h=>by
  rw[jU]at h⊢
  by_cases e:x=g
  ·rw[if_pos e];exact e
  ·rw[if_neg e]at h⊢
   rw[List.getD_cons_succ];exact oL (by simpa using h)
theorem NS {g:Fm}:∀{l:List Fm} {k:Nat},k<jU g l->l.getD k default≠g
 | [],k,h=>by simp[jU]at h
 | x :: l,k,h=>by
  rw[jU]at h
  by_cases e:x=g
  ·rw[if_pos e]at h;omega
  ·rw[if_neg e]at h
   cases k with
   | zero=>exact e
   | succ k=>rw[List.getD_cons_succ];exact NS (by omega)
theorem yj {g:Fm}{l:List Fm}{k:Nat}(hk:k<l.length)(h:l.getD k default=g):jU g l<=k:=by
 by_cases hl:k<jU g l
 ·exact absurd h (NS hl)
 ·omega
theorem Ul {g:Fm}{l:List Fm}{k:Nat}(hk:k<l.length)(h:l.getD k default=g)(hm:∀j,j<k->l.getD j default≠g):jU g l=k:=by
 have h1:=yj hk h;have h2:¬jU g l<k := λ hl=>hm _ hl (oL (by omega));omega
theorem Wp {l:List Fm}(h:l.Nodup){i:Nat}(hi:i<l.length):jU (l.getD i default) l=i:=by
 refine Ul hi rfl λ j hj e=>?_;unfold List.Nodup at h;rw[List.pairwise_iff_getElem]at h;have:=h j i (by omega) hi hj;simp[List.getD,hi,show j<l.length by omega]at e;exact this e
theorem zA {l:List Fm}{i k:Nat}(h:i<k):(l.take k).getD i default=l.getD i default:=by
 simp only[List.getD_eq_getElem?_getD];rw[List.getElem?_take_of_lt h]
theorem Jj {g:Fm}{l:List Fm}{k:Nat}(hk:k<=l.length):jU g (l.take k)<(l.take k).length ↔ jU g l<k:=by
 have hlen:(l.take k).length=k:=by rw[List.length_take];omega
 constructor
 ·intro h
  have h1:=oL h;rw[hlen]at h;rw[zA h]at h1;have:=yj (by omega) h1;omega
 ·intro h
  have h1:=oL (g:=g) (l:=l) (by omega);rw[<-zA h]at h1;have:=yj (l:=l.take k) (g:=g) (by omega) h1;omega
def sJ (out:List Fm)(g:Fm):List Fm:=if g∈out then out else out ++ [g]
def gX (out L:List Fm):List Fm:=L.foldl sJ out
theorem nD (out L M:List Fm):gX out (L++M)=gX (gX out L) M:=List.foldl_append ..
theorem Ja (out:List Fm):gX out []=out:=rfl
theorem zy (out:List Fm)(g:Fm)(L:List Fm):gX out (g :: L)=gX (sJ out g) L:=rfl
theorem Jb (out:List Fm)(g:Fm):gX out [g]=sJ out g:=rfl
theorem Yg {out:List Fm}{g x:Fm}:x∈sJ out g ↔ x∈out\/x=g:=by
 unfold sJ
 by_cases h:g∈out
 ·rw[if_pos h]
  constructor
  ·exact .inl
  ·rintro(h1|rfl)
   ·exact h1
   ·exact h
 ·rw[if_neg h];simp
theorem xZ {x:Fm}:∀{L out:List Fm},x∈gX out L ↔ x∈out\/x∈L
 | [],out=>by simp[Ja]
 | g :: L,out=>by rw[zy,xZ,Yg,List.mem_cons,or_assoc]
theorem QC {out:List Fm}{g:Fm}(h:out.Nodup):(sJ out g).Nodup:=by
 unfold sJ
 by_cases hg:g∈out
 ·rw[if_pos hg];exact h
 ·rw[if_neg hg]
  unfold List.Nodup at h⊢;rw[List.pairwise_append];refine⟨h,List.pairwise_singleton ..,λ a ha b hb e=>?_⟩;rw[List.mem_singleton]at hb;subst hb;subst e;exact hg ha
theorem DK:∀{L out:List Fm},out.Nodup->(gX out L).Nodup
 | [],_,h=>h
 | g :: L,out,h=>by rw[zy];exact DK (QC h)
theorem Yf (out:List Fm)(g:Fm):out.length<=(sJ out g).length/\(sJ out g).length<=out.length+1:=by
 unfold sJ
 split
 ·omega
 ·simp
theorem uh:∀(L out:List Fm),out.length<=(gX out L).length/\(gX out L).length<=out.length+L.length
 | [],out=>⟨Nat.le_refl _,Nat.le_refl _⟩
 | g :: L,out=>by
  rw[zy];have h1:=uh L (sJ out g);have h2:=Yf out g;simp only[List.length_cons];omega
def Clo (l:List Fm):Prop:=∀i,i<l.length->∀g,g∈aY (l.getD i default)->jU g l<=i
theorem TW:Clo [] := λ i h=>absurd h (Nat.not_lt_zero _)
theorem Ye {out:List Fm}{f:Fm}(h:Clo out)(hs:∀x,x∈aY f->x=f\/x∈out):Clo (sJ out f):=by
 unfold sJ
 by_cases hf:f∈out
 ·rw[if_pos hf];exact h
 ·rw[if_neg hf]
  intro i hi g hg
  by_cases hl:i<out.length
  ·have e:(out ++ [f]).getD i default=out.getD i default:=by simp[List.getD,List.getElem?_append_left hl]
   rw[e]at hg;have h1:=h i hl g hg;have h2:=oL (g:=g) (l:=out) (by omega);refine Nat.le_trans (yj (k:=jU g out) (by simp;omega) ?_) h1;have e2:(out ++ [f]).getD (jU g out) default=out.getD (jU g out) default:=by simp[List.getD,List.getElem?_append_left (show jU g out<out.length by omega)]
   rw[e2];exact h2
  ·have hi':i=out.length:=by rw[List.length_append]at hi;simp at hi;omega
   subst hi';have e:(out ++ [f]).getD out.length default=f:=by simp[List.getD]
   rw[e]at hg
   rcases hs g hg with rfl|hm
   ·exact yj (by simp) e
   ·have h1:=qw.2 hm
    have h2:=oL h1;refine Nat.le_trans (yj (k:=jU g out) (by simp;omega) ?_) (Nat.le_of_lt h1);have e2:(out ++ [f]).getD (jU g out) default=out.getD (jU g out) default:=by simp[List.getD,List.getElem?_append_left h1]
    rw[e2];exact h2
theorem Vu (f:Fm):∀{out:List Fm},Clo out->Clo (gX out (aY f)):=by
 refine Fm.pW (P := λ f=>∀{out:List Fm},Clo out->Clo (gX out (aY f))) ?_ f;intro f ih out h
 have key:∀l:List Fm,(∀g,g∈l->g∈f.args)->∀{out:List Fm},Clo out->Clo (gX out (dM l)):=by
  intro l
  induction l with
  | nil=>intro _ out h;exact h
  | cons g l ihl =>
   intro hl out h;simp only[dM];rw[nD];exact ihl (λ x hx=>hl x (by simp[hx])) (ih g (hl g (by simp)) h)
 rw[xu,nD];have h1:=key f.args (λ _ h=>h) h
 by_cases hr:jV f.op=true
 ·rw[if_pos hr,Jb]
  refine Ye h1 λ x hx=>?_
  rcases oD.1 hx with⟨g,hg,h2⟩|⟨_,h2⟩
  ·exact .inr (xZ.2 (.inr (zI.2 ⟨g,hg,h2⟩)))
  ·exact .inl h2
 ·rw[if_neg hr,Ja];exact h1
def aZ (f:Fm):List Fm:=if bf f then gX [] (aY f)else []
theorem vk {f:Fm}(h:bf f=true):aZ f=gX [] (aY f):=by unfold aZ;rw[if_pos h]
theorem qW {f x:Fm}(h:bf f=true):x∈aZ f ↔ x∈aY f:=by rw[vk h,xZ];simp
theorem KQ (f:Fm):(aZ f).Nodup:=by
 unfold aZ
 split
 ·exact DK List.nodup_nil
 ·exact List.nodup_nil
theorem Sm (f:Fm):Clo (aZ f):=by
 unfold aZ
 split
 ·exact Vu f TW
 ·exact TW
theorem F8 {f x:Fm}(h:x∈aZ f):bf f=true/\bf x=true/\jV x.op=true/\allB iC x=true:=by
 by_cases hl:bf f=true
 ·rw[qW hl]at h
  have h1:=OA hl h;have h2:=Wx h;exact⟨hl,h1,h2,WI h1 h2⟩
 ·unfold aZ at h
  rw[if_neg hl]at h;cases h
def lH (l:List Fm):Bool:=decide (l.length<=8)&&pO l.length λ i=>jV (l.getD i default).op&&bf (l.getD i default)&&allB iC (l.getD i default)&&decide (i<=jU (l.getD i default) l)&&(aY (l.getD i default)).all λ g=>decide (jU g l<=i)
theorem Oq {f:Fm}(h:(aZ f).length<=8):lH (aZ f)=true:=by
 unfold lH;rw[decide_eq_true h,Bool.true_and,iZ];intro i hi;have hm:(aZ f).getD i default∈aZ f:=by simp[List.getD,hi]
 obtain⟨_,h1,h2,h3⟩:=F8 hm;rw[h1,h2,h3,Wp (KQ f) hi,decide_eq_true (Nat.le_refl _),Bool.true_and,Bool.true_and,Bool.true_and,Bool.true_and,List.all_eq_true];intro g hg;exact decide_eq_true (Sm f i hi g hg)
def jy:List Bool->Nat
 | []=>0
 | b :: l=>(if b then 1 else 0)+2*jy l
theorem xg:∀l:List Bool,jy l<2 ^ l.length
 | []=>by simp[jy]
 | b :: l=>by
  have:=xg l;rw[jy,List.length_cons,Nat.pow_succ]
  split <;> omega
theorem CJ:∀(l:List Bool) (i:Nat),(jy l).testBit i=l.getD i false
 | [],i=>by simp[jy]
 | b :: l,0=>by
  rw[jy,Nat.testBit_zero]
  cases b <;> simp <;> omega
 | b :: l,i+1=>by
  rw[jy,Nat.testBit_succ,List.getD_cons_succ,<-CJ l i]
  congr 1
  split <;> omega
theorem zC (b:Bool):∀l:List Bool,jy (l ++ [b])=jy l+(if b then 2 ^ l.length else 0)
 | []=>by cases b <;> simp[jy]
 | c :: l=>by
  rw[List.cons_append,jy,jy,zC b l,List.length_cons,Nat.pow_succ]
  cases b <;> simp <;> omega
theorem ZB (l:List Bool):jy (l ++ [true])=jy l ||| (1 <<< l.length):=by
 rw[zC,if_pos rfl,Nat.one_shiftLeft,Nat.or_comm];have:=Nat.two_pow_add_eq_or_of_lt (xg l) 1;rw[Nat.mul_one]at this;omega
def qcK (o:Int)(a s:Bool)(bs:List Bool):Bool :=
 if o=1 then true else if o=3 then a else if o=4 then !bs.getD 0 false else if o=5 then bs.all id else if o=6 then bs.any id
 else if o=15 then s else if o=16 then bs.getD 1 false || (bs.getD 0 false&&s)else if o=17 then bs.getD 1 false&&(bs.getD 0 false || s)else false
mutual
def fE (sg:ByteArray->Int->Bool)(sy:Fm->Bool):Fm->Bool
 | .mk o n v b l=>qcK o (sg n v) (sy (.mk o n v b l)) (Us sg sy l)
def Us (sg:ByteArray->Int->Bool)(sy:Fm->Bool):List Fm->List Bool
 | [] => []
 | f :: l=>fE sg sy f :: Us sg sy l
end
theorem Jr (sg:ByteArray->Int->Bool)(sy:Fm->Bool):∀l:List Fm,Us sg sy l=l.map (fE sg sy)
 | []=>rfl
 | f :: l=>by simp only[Us,List.map_cons,Jr sg sy l]
theorem Ur (sg:ByteArray->Int->Bool)(sy:Fm->Bool)(f:Fm):fE sg sy f=qcK f.op (sg f.name f.val) (sy f) (f.args.map (fE sg sy)):=by
 cases f;simp only[fE,Fm.op,Fm.name,Fm.val,Fm.args,Jr]
theorem o8 {α β : Type}(φ : α -> β)(l:List α)(i:Nat)(d : α)(e : β)(h:i<l.length):(l.map φ).getD i e = φ (l.getD i d):=by
 simp[List.getD,h]
def bG (nodes:List Fm)(mem:Nat)(f:Fm):Bool:=mem.testBit (jU f nodes)
def Dc (nodes:List Fm):List Bool:=nodes.map λ n=>decide (n.val=1)
def sS (nodes:List Fm):Nat:=jy (Dc nodes)
def iy (n:Fm):Fm:=if n.op=15 then n.args.getD 0 default else n
def Jo (sg:ByteArray->Int->Bool)(nodes:List Fm)(mem:Nat):List Bool:=nodes.map λ n=>fE sg (bG nodes mem) (iy n)
def rW (sg:ByteArray->Int->Bool)(nodes:List Fm)(mem:Nat):Nat:=jy (Jo sg nodes mem)
theorem WY (nodes:List Fm):sS nodes<2 ^ nodes.length:=by have:=xg (Dc nodes);unfold Dc at this;rwa [List.length_map]at this
theorem ZC (sg:ByteArray->Int->Bool)(nodes:List Fm)(mem:Nat):rW sg nodes mem<2 ^ nodes.length:=by have:=xg (Jo sg nodes mem);unfold Jo at this;rwa [List.length_map]at this
theorem kT {o:Int}(h:(aJ o).loose=true):vC o\/o=3\/o=4:=by
 unfold aJ at h
 split at h
 ·rename_i h1
  unfold isOp at h1;rw[Bool.and_eq_true,decide_eq_true_eq,decide_eq_true_eq]at h1;have:o=1\/o=2\/o=3\/o=4\/o=5\/o=6\/o=7\/o=8\/o=9\/o=10\/o=11\/o=12\/o=13\/o=14\/o=15\/o=16\/o=17\/o=18\/o=19:=by omega
  unfold vC
  rcases this with rfl|rfl|rfl|rfl|rfl|rfl|rfl|rfl|rfl|rfl|rfl|rfl|rfl|rfl|rfl|rfl|rfl|rfl|rfl <;> first|exact absurd h (by decide)|omega
 ·cases h
theorem iG {f:Fm}(h:bf f=true):Bare f:=⟨_,(iI h).2.2⟩
mutual
def fC (vb:Fm->Int):Fm->Fm
 | .mk o n v b l => .mk o n (if jV o then vb (.mk o n v b l)else v) b (Kq vb l)
def Kq (vb:Fm->Int):List Fm->List Fm
 | [] => []
 | f :: l=>fC vb f :: Kq vb l
end
theorem EY (vb:Fm->Int):∀l:List Fm,Kq vb l=l.map (fC vb)
 | []=>rfl
 | f :: l=>by simp only[Kq,List.map_cons,EY vb l]
theorem tC (vb:Fm->Int)(f:Fm):fC vb f = .mk f.op f.name (if jV f.op then vb f else f.val) f.bound (f.args.map (fC vb)):=by
 cases f;simp only[fC,Fm.op,Fm.name,Fm.val,Fm.bound,Fm.args,EY];rfl
section
variable (vb:Fm->Int)(f:Fm)
theorem kD:(fC vb f).op=f.op:=by rw[tC];rfl
theorem xO:(fC vb f).name=f.name:=by rw[tC];rfl
theorem qI:(fC vb f).val=if jV f.op then vb f else f.val:=by rw[tC];rfl
theorem zo:(fC vb f).bound=f.bound:=by rw[tC];rfl
theorem jW:(fC vb f).args=f.args.map (fC vb):=by rw[tC];rfl
end
theorem U5 (f:Fm):fC Fm.val f=f:=by
 refine Fm.pW (P := λ f=>fC Fm.val f=f) ?_ f;intro f ih
 have e:f.args.map (fC Fm.val)=f.args:=by
  have:f.args.map (fC Fm.val)=f.args.map id:=List.map_congr_left λ g hg=>ih g hg;rw[this,List.map_id]
 rw[tC,e,ite_self,f.eta]
theorem BO (vb:Fm->Int)(f:Fm):(fC vb f).size=f.size:=by
 refine Fm.pW (P := λ f=>(fC vb f).size=f.size) ?_ f;intro f ih;rw[Fm.size_eq,Fm.size_eq f,jW]
 have:∀l:List Fm,(∀g,g∈l->g∈f.args)->sizes (l.map (fC vb))=sizes l:=by
  intro l
  induction l with
  | nil=>intro _;rfl
  | cons g l ihl=>intro h;simp only[List.map_cons,sizes];rw[ih g (h g (by simp)),ihl λ x hx=>h x (by simp[hx])]
 rw[this f.args λ _ h=>h]
theorem EZ (vb:Fm->Int)(f:Fm):(fC vb f).depth=f.depth:=by
 refine Fm.pW (P := λ f=>(fC vb f).depth=f.depth) ?_ f;intro f ih;rw[Fm.jr,Fm.jr f,jW]
 have:∀l:List Fm,(∀g,g∈l->g∈f.args)->depths (l.map (fC vb))=depths l:=by
  intro l
  induction l with
  | nil=>intro _;rfl
  | cons g l ihl=>intro h;simp only[List.map_cons,depths];rw[ih g (h g (by simp)),ihl λ x hx=>h x (by simp[hx])]
 rw[this f.args λ _ h=>h]
theorem MQ {vb:Fm->Int}{f:Fm}(h:bW f=true)(hv:jV f.op=true->vb f=0\/vb f=1):bW (fC vb f)=true:=by
 have hs:=jo h;refine Lu (by rw[kD];exact hs.1) (by rw[kD,jW,List.length_map];exact hs.2.1) (by rw[kD,jW,List.length_map];exact hs.2.2.1) ?_ ?_ (by rw[zo];exact hs.2.2.2.2.2.1) (by rw[kD,zo];exact hs.2.2.2.2.2.2.1) (by rw[kD,xO];exact hs.2.2.2.2.2.2.2)
 ·rw[qI]
  split
  ·rename_i hr;have:=hv hr;omega
  ·exact hs.2.2.2.1
 ·rw[qI,kD]
  split
  ·rename_i hr
   have h1:(aJ f.op).val=1:=by rcases pF.1 hr with e|e|e <;> rw[e] <;> rfl
   rw[h1];have:=hv hr;omega
  ·exact hs.2.2.2.2.1
theorem Iz {vb:Fm->Int}(f:Fm):∀ins,allI bU ins f->(∀x,x∈aY f->vb x=0\/vb x=1)->allI bU ins (fC vb f):=by
 refine Fm.pW (P := λ f=>∀ins,allI bU ins f->(∀x,x∈aY f->vb x=0\/vb x=1)->allI bU ins (fC vb f)) ?_ f;intro f ih ins h hv;obtain⟨h1,h2⟩:=dL.1 h;obtain⟨p1,p2,p3,p4⟩:=jE h1;refine dL.2 ⟨xP (by rw[kD];exact p1) (MQ p2 λ hr=>hv f (qY hr)) (by rw[kD];exact p3) (λ h4=>?_),λ g hg=>?_⟩
 ·rw[kD]at h4
  have h5:=p4 h4;obtain⟨y,hy⟩:=EG (f:=f) (by rw[h4];rfl) (by rw[h4];rfl) p2;rw[hy]at h5;rw[jW,hy];show(fC vb y).op=3;rw[kD];exact h5
 ·rw[jW]at hg
  obtain⟨y,hy,rfl⟩:=List.mem_map.1 hg;rw[kD];exact ih y hy _ (h2 y hy) λ x hx=>hv x (mQ hy hx)
theorem E5 {vb:Fm->Int}{f:Fm}(h:bf f=true)(hv:∀x,x∈aY f->vb x=0\/vb x=1):bf (fC vb f)=true:=by
 obtain⟨h1,h2,h3⟩:=iI h;exact N7 (by rw[BO];exact h1) (by rw[EZ];exact h2) (Iz f _ h3 hv)
theorem MP {vb:Fm->Int}{f:Fm}(h:fU f=true)(hv:∀x,x∈aY f->vb x=0\/vb x=1):fU (fC vb f)=true:=by
 unfold fU bK at h⊢;rw[Bool.and_eq_true]at h⊢;rw[BO,EZ];exact⟨h.1,Iz f _ h.2 hv⟩
def Ee (nodes:List Fm)(mem:Nat)(f:Fm):Int:=if bG nodes mem f then 1 else 0
theorem Ku (nodes:List Fm)(mem:Nat)(f:Fm):Ee nodes mem f=0\/Ee nodes mem f=1:=by unfold Ee;split <;> simp
def qy (nodes:List Fm)(mem:Nat)(f:Fm):Fm:=fC (Ee nodes mem) f
def Per {α : Type}(u:Nat -> α)(b L:Nat):Prop:=∀t,b<=t->u (t+L)=u t
theorem Per.mono {α : Type}{u:Nat -> α}{b c L:Nat}(h:Per u b L)(hc:b<=c):Per u c L:=λ t ht=>h t (Nat.le_trans hc ht)
theorem Per.mul {α : Type}{u:Nat -> α}{b L:Nat}(h:Per u b L):∀(k t:Nat),b<=t->u (t+k*L)=u t
 | 0,t,_=>by rw[Nat.zero_mul,Nat.add_zero]
 | k+1,t,ht=>by
  rw[Nat.succ_mul,<-Nat.add_assoc,h (t+k*L) (by omega)];exact h.mul k t ht
def fJ (b L t:Nat):Nat:=if t<b+L then t else b+(t-b) % L
theorem lF {b L t:Nat}(hL:0<L):fJ b L t<b+L:=by
 unfold fJ
 split
 ·assumption
 ·have:=Nat.mod_lt (t-b) hL;omega
theorem Per.place {α : Type}{u:Nat -> α}{b L:Nat}(h:Per u b L)(hL:0<L)(t:Nat):u (fJ b L t)=u t:=by
 unfold fJ
 split
 ·rfl
 ·have h1:=h.mul ((t-b) / L) (b+(t-b) % L) (by omega)
  have h2:b+(t-b) % L+(t-b) / L*L=t:=by
   have:=Nat.mod_add_div (t-b) L;rw[Nat.mul_comm]at this;omega
  rw[h2]at h1;exact h1.symm
theorem Gl {b L t:Nat}(ht:t<b+L):fJ b L (t+1)=if t+1=b+L then b else t+1:=by
 unfold fJ
 by_cases h:t+1=b+L
 ·rw[if_neg (by omega),if_pos h,h]
  have:b+L-b=L:=by omega
  rw[this,Nat.mod_self];rfl
 ·rw[if_pos (by omega),if_neg h]
open Classical in
noncomputable def kC (a b:Nat->Bool)(t:Nat):Bool:=decide (∃k,t<=k/\b k=true/\∀j,t<=j->j<k->a j=true)
theorem jO {a b:Nat->Bool}{t:Nat}:kC a b t=true ↔ ∃k,t<=k/\b k=true/\∀j,t<=j->j<k->a j=true:=by
 unfold kC;simp only[decide_eq_true_eq]
theorem Pg (a b:Nat->Bool)(t:Nat):kC a b t=(b t || (a t&&kC a b (t+1))):=by
 rw[Bool.eq_iff_iff,Bool.or_eq_true,Bool.and_eq_true,jO,jO]
 constructor
 ·rintro⟨k,hk,hb,ha⟩
  by_cases e:k=t
  ·subst e;exact .inl hb
  ·exact .inr ⟨ha t (Nat.le_refl _) (by omega),k,by omega,hb,λ j h1 h2=>ha j (by omega) h2⟩
 ·rintro(hb|⟨ha,k,hk,hb,h⟩)
  ·exact⟨t,Nat.le_refl _,hb,λ j h1 h2=>by omega⟩
  ·refine⟨k,by omega,hb,λ j h1 h2=>?_⟩
   by_cases e:j=t
   ·rw[e];exact ha
   ·exact h j (by omega) h2
theorem zL {a b:Nat->Bool}{c L:Nat}(ha:Per a c L)(hb:Per b c L):Per (kC a b) c L:=by
 intro t ht;rw[Bool.eq_iff_iff,jO,jO]
 constructor
 ·rintro⟨k,hk,h1,h2⟩
  refine⟨k-L,by omega,?_,λ j h3 h4=>?_⟩
  ·have:=hb (k-L) (by omega);rw[show k-L+L=k by omega]at this;rw[<-this];exact h1
  ·rw[<-ha j (by omega)];exact h2 (j+L) (by omega) (by omega)
 ·rintro⟨k,hk,h1,h2⟩
  refine⟨k+L,by omega,by rw[hb k (by omega)];exact h1,λ j h3 h4=>?_⟩;have:=ha (j-L) (by omega);rw[show j-L+L=j by omega]at this;rw[this];exact h2 (j-L) (by omega) (by omega)
def UC (a b:Nat->Bool)(n t:Nat):Prop:=∃k,t<=k/\k<n/\b k=true/\∀j,t<=j->j<k->a j=true
def uI (b L:Nat)(u v:List Bool)(i:Nat)(out:List Bool):List Bool :=
 out.set (b+L-1-i % (b+L)) (v.getD (b+L-1-i % (b+L)) false || (u.getD (b+L-1-i % (b+L)) false&&out.getD (fJ b L (b+L-1-i % (b+L)+1)) false))
def iF (b L:Nat)(u v:List Bool):Nat->List Bool
 | 0=>List.replicate (b+L) false
 | k+1=>uI b L u v k (iF b L u v k)
def vN (b L:Nat)(u v:List Bool):List Bool:=iF b L u v (2*(b+L))
theorem jM (b L:Nat)(u v:List Bool):∀k,(iF b L u v k).length=b+L
 | 0=>List.length_replicate ..
 | k+1=>by rw[iF,uI,List.length_set,jM]
theorem Je {l:List Bool}{i j:Nat}{x:Bool}(hi:i<l.length):(l.set i x).getD j false=if j=i then x else l.getD j false:=by
 rw[List.getD_eq_getElem?_getD,List.getElem?_set]
 by_cases e:i=j
 ·subst e;simp[hi]
 ·rw[if_neg e,if_neg (λ h=>e h.symm),List.getD_eq_getElem?_getD]
def oU (n:Nat)(r:List Bool)(u:Nat->Bool):Prop:=r.length=n/\∀t,t<n->r.getD t false=u t
section
variable {b L:Nat}{ru rv:List Bool}{u v:Nat->Bool}
theorem Xb (hL:0<L)(hu:oU (b+L) ru u)(hv:oU (b+L) rv v):∀k,k<=b+L->∀t,t<b+L ->
  ((iF b L ru rv k).getD t false=true ↔ (b+L-k<=t/\UC u v (b+L) t)):=by
 intro k
 induction k with
 | zero =>
  intro _ t ht;rw[iF,List.getD_eq_getElem?_getD,List.getElem?_replicate,if_pos ht];simp;omega
 | succ k ih =>
  intro hk t ht;have ih:=ih (by omega);rw[iF,uI,Nat.mod_eq_of_lt (show k<b+L by omega)];obtain⟨p,hp⟩:∃p,p=b+L-1-k:=⟨_,rfl⟩;rw[<-hp];have hpl:p<b+L:=by omega
  rw[Je (by rw[jM];exact hpl)]
  by_cases e:t=p
  ·rw[if_pos e,hu.2 p hpl,hv.2 p hpl,Gl hpl,e]
   have hge:b+L-(k+1)<=p:=by omega
   rw[Bool.or_eq_true,Bool.and_eq_true]
   constructor
   ·rintro(h|⟨h1,h2⟩)
    ·exact⟨hge,p,Nat.le_refl _,hpl,h,λ j h1 h2=>by omega⟩
    ·by_cases e2:p+1=b+L
     ·rw[if_pos e2]at h2
      have:=((ih b (by omega)).1 h2).1;omega
     ·rw[if_neg e2]at h2
      obtain⟨_,m,hm1,hm2,hm3,hm4⟩:=(ih (p+1) (by omega)).1 h2;refine⟨hge,m,by omega,hm2,hm3,λ j h3 h4=>?_⟩
      by_cases e3:j=p
      ·rw[e3];exact h1
      ·exact hm4 j (by omega) h4
   ·rintro⟨_,m,hm1,hm2,hm3,hm4⟩
    by_cases e2:m=p
    ·subst e2;exact .inl hm3
    ·refine .inr ⟨hm4 p (Nat.le_refl _) (by omega),?_⟩
     rw[if_neg (by omega)];exact(ih (p+1) (by omega)).2 ⟨by omega,m,by omega,hm2,hm3,λ j h3 h4=>hm4 j (by omega) h4⟩
  ·rw[if_neg e,ih t ht]
   constructor
   ·rintro⟨h1,h2⟩;exact⟨by omega,h2⟩
   ·rintro⟨h1,h2⟩;exact⟨by omega,h2⟩
theorem Ip (hL:0<L)(hu:Per u b L)(hv:Per v b L){t:Nat}(ht:b<=t)(htl:t<=b+L)(h:kC u v t=true):∃k,t<=k/\k<t+L/\v k=true/\∀j,t<=j->j<k->u j=true:=by
 obtain⟨k,hk⟩:=jO.1 h
 have key:∀n k,k<=n->(t<=k/\v k=true/\∀j,t<=j->j<k->u j=true)->∃k,t<=k/\k<t+L/\v k=true/\∀j,t<=j->j<k->u j=true:=by
  intro n
  induction n with
  | zero=>intro k hkn h;exact⟨k,h.1,by omega,h.2⟩
  | succ n ih =>
   intro k hkn h
   by_cases hl:k<t+L
   ·exact⟨k,h.1,hl,h.2⟩
   ·refine ih (k-L) (by omega) ⟨by omega,?_,λ j h1 h2=>h.2.2 j h1 (by omega)⟩
    have:=hv (k-L) (by omega);rw[show k-L+L=k by omega]at this;rw[<-this];exact h.2.1
 exact key k k (Nat.le_refl _) hk
theorem Xc (hL:0<L)(hu:oU (b+L) ru u)(hv:oU (b+L) rv v)(pu:Per u b L)(pv:Per v b L):∀k,k<=b+L->∀t,t<b+L ->
  (((iF b L ru rv (b+L+k)).getD t false=true->kC u v t=true)/\(b+L-k<=t->kC u v t=true->(iF b L ru rv (b+L+k)).getD t false=true)/\(UC u v (b+L) t->(iF b L ru rv (b+L+k)).getD t false=true)):=by
 have hP:=zL pu pv;intro k
 induction k with
 | zero =>
  intro _ t ht;rw[Nat.add_zero];have h1:=Xb hL hu hv (b+L) (Nat.le_refl _) t ht;refine⟨λ h=>?_,λ h=>by omega,λ h=>h1.2 ⟨by omega,h⟩⟩;obtain⟨_,m,a1,a2,a3,a4⟩:=h1.1 h;exact jO.2 ⟨m,a1,a3,a4⟩
 | succ k ih =>
  intro hk t ht;have ih:=ih (by omega);rw[<-Nat.add_assoc,iF,uI,Nat.add_mod_left,Nat.mod_eq_of_lt (show k<b+L by omega)];obtain⟨p,hp⟩:∃p,p=b+L-1-k:=⟨_,rfl⟩;rw[<-hp];have hpl:p<b+L:=by omega
  rw[Je (by rw[jM];exact hpl)]
  by_cases e:t=p
  ·subst e
   rw[if_pos rfl,hu.2 t hpl,hv.2 t hpl,Gl hpl,Bool.or_eq_true,Bool.and_eq_true,Pg u v t,Bool.or_eq_true,Bool.and_eq_true]
   have hnext:∀q,(q=if t+1=b+L then b else t+1)->kC u v q=kC u v (t+1):=by
    intro q hq
    by_cases e2:t+1=b+L
    ·rw[if_pos e2]at hq
     rw[hq,e2];exact(hP b (Nat.le_refl _)).symm
    ·rw[if_neg e2]at hq;rw[hq]
   obtain⟨q,hq⟩:∃q,q=if t+1=b+L then b else t+1:=⟨_,rfl⟩;rw[<-hq]
   have VI:q<b+L:=by rw[hq];split <;> omega
   have hqe:=hnext q hq
   have back:kC u v q=true->(iF b L ru rv (b+L+k)).getD q false=true:=by
    intro h
    by_cases e2:t+1=b+L
    ·rw[if_pos e2]at hq
     subst hq;obtain⟨m,a1,a2,a3,a4⟩:=Ip hL pu pv (Nat.le_refl _) (by omega) h;exact(ih q VI).2.2 ⟨m,a1,a2,a3,a4⟩
    ·rw[if_neg e2]at hq
     exact(ih q VI).2.1 (by omega) h
   refine⟨?_,?_,?_⟩
   ·rintro(h|⟨h1,h2⟩)
    ·exact .inl h
    ·exact .inr ⟨h1,by rw[<-hqe];exact(ih q VI).1 h2⟩
   ·rintro _ (h|⟨h1,h2⟩)
    ·exact .inl h
    ·exact .inr ⟨h1,back (by rw[hqe];exact h2)⟩
   ·rintro⟨m,a1,a2,a3,a4⟩
    by_cases e3:m=t
    ·subst e3;exact .inl a3
    ·refine .inr ⟨a4 t (Nat.le_refl _) (by omega),back ?_⟩
     rw[hqe];exact jO.2 ⟨m,by omega,a3,λ j h1 h2=>a4 j (by omega) h2⟩
  ·rw[if_neg e]
   obtain⟨h1,h2,h3⟩:=ih t ht;refine⟨h1,λ h4=>h2 (by omega),h3⟩
theorem JJ (hL:0<L)(hu:oU (b+L) ru u)(hv:oU (b+L) rv v)(pu:Per u b L)(pv:Per v b L):oU (b+L) (vN b L ru rv) (kC u v):=by
 refine⟨jM ..,λ t ht=>?_⟩;unfold vN;have h:=Xc hL hu hv pu pv (b+L) (Nat.le_refl _) t ht;rw[show 2*(b+L)=b+L+(b+L)by omega,Bool.eq_iff_iff];exact⟨h.1,h.2.1 (by omega)⟩
end
noncomputable def lQ (a b:Nat->Bool)(t:Nat):Bool := !kC (λ k => !a k) (λ k => !b k) t
def vF (b L:Nat)(u v:List Bool)(i:Nat)(out:List Bool):List Bool :=
 out.set (b+L-1-i % (b+L)) (v.getD (b+L-1-i % (b+L)) false&&(u.getD (b+L-1-i % (b+L)) false || out.getD (fJ b L (b+L-1-i % (b+L)+1)) false))
def iT (b L:Nat)(u v:List Bool):Nat->List Bool
 | 0=>List.replicate (b+L) true
 | k+1=>vF b L u v k (iT b L u v k)
def pz (b L:Nat)(u v:List Bool):List Bool:=iT b L u v (2*(b+L))
theorem nM (b L:Nat)(u v:List Bool):∀k,(iT b L u v k).length=b+L
 | 0=>List.length_replicate ..
 | k+1=>by rw[iT,vF,List.length_set,nM]
theorem qC {l:List Bool}{t:Nat}(h:t<l.length):(l.map (!·)).getD t false = !l.getD t false:=by simp[List.getD,h]
theorem Bh {b L:Nat}{u v:List Bool}(hL:0<L)(hu:u.length=b+L)(hv:v.length=b+L):∀k,iT b L u v k=(iF b L (u.map (!·)) (v.map (!·)) k).map (!·)
 | 0=>by rw[iT,iF,List.map_replicate];rfl
 | k+1=>by
  rw[iT,iF,vF,uI,Bh hL hu hv k,List.map_set]
  congr 1
  have h1:b+L-1-k % (b+L)<b+L:=by omega
  have h2:fJ b L (b+L-1-k % (b+L)+1)<b+L:=lF hL;rw[qC (l:=iF b L (u.map (!·)) (v.map (!·)) k) (by rw[jM];exact h2),qC (l:=v) (by rw[hv];exact h1),qC (l:=u) (by rw[hu];exact h1)]
  cases v.getD (b+L-1-k % (b+L)) false <;> cases u.getD (b+L-1-k % (b+L)) false <;> simp
theorem Lh {a b:Nat->Bool}{c L:Nat}(ha:Per a c L)(hb:Per b c L):Per (lQ a b) c L:=by
 intro t ht;unfold lQ;rw[zL (a := λ k => !a k) (b := λ k => !b k) (λ t ht=>by simp only[ha t ht]) (λ t ht=>by simp only[hb t ht]) t ht]
theorem OG {b L:Nat}{ru rv:List Bool}{u v:Nat->Bool}(hL:0<L)(hu:oU (b+L) ru u)(hv:oU (b+L) rv v)(pu:Per u b L)(pv:Per v b L):oU (b+L) (pz b L ru rv) (lQ u v):=by
 refine⟨nM ..,λ t ht=>?_⟩;unfold pz lQ;rw[Bh hL hu.1 hv.1,qC (by rw[jM];exact ht)];have:=(JJ (ru:=ru.map (!·)) (rv:=rv.map (!·)) (u := λ k => !u k) (v := λ k => !v k) hL ⟨by rw[List.length_map];exact hu.1,λ t ht=>by rw[qC (by rw[hu.1];exact ht),hu.2 t ht]⟩ ⟨by rw[List.length_map];exact hv.1,λ t ht=>by rw[qC (by rw[hv.1];exact ht),hv.2 t ht]⟩ (λ t ht=>by simp only[pu t ht]) (λ t ht=>by simp only[pv t ht])).2 t ht;unfold vN at this;rw[this]
def dI (a b:Nat->Bool)(c:Bool):Nat->Bool
 | 0=>b 0 || (a 0&&c)
 | t+1=>b (t+1) || (a (t+1)&&dI a b c t)
def bY (a b:Nat->Bool)(c:Bool):Nat->Bool
 | 0=>b 0&&(a 0 || c)
 | t+1=>b (t+1)&&(a (t+1) || bY a b c t)
theorem vM (a b:Nat->Bool)(c:Bool):∀t,bY a b c t = !dI (λ k => !a k) (λ k => !b k) (!c) t
 | 0=>by simp only[bY,dI];cases b 0 <;> cases a 0 <;> cases c <;> rfl
 | t+1=>by simp only[bY,dI,vM a b c t];cases b (t+1) <;> cases a (t+1) <;> simp
theorem Tj {a b:Nat->Bool}{c:Bool}{L p:Nat}(hp:(b p || !a p)=true)(h1:b (p+L)=b p)(h2:a (p+L)=a p) :
  ∀t,p<=t->(∀k,p<=k->k<=t->a (k+L)=a k/\b (k+L)=b k)->dI a b c (t+L)=dI a b c t:=by
 have base:∀q,(b q || !a q)=true->dI a b c q=b q:=by
  intro q hq
  cases q with
  | zero=>simp only[dI];revert hq;cases b 0 <;> cases a 0 <;> simp
  | succ q=>simp only[dI];revert hq;cases b (q+1) <;> cases a (q+1) <;> simp
 intro t
 induction t with
 | zero =>
  intro ht _;obtain rfl:p=0:=by omega
  rw[base _ (by rw[h1,h2];exact hp),base _ hp,h1]
 | succ t ih =>
  intro ht hk
  by_cases e:p=t+1
  ·subst e
   rw[base _ (by rw[h1,h2];exact hp),base _ hp,h1]
  ·have h3:=ih (by omega) λ k a1 a2=>hk k a1 (by omega)
   have h4:=hk (t+1) ht (Nat.le_refl _);have e1:t+1+L=(t+L)+1:=by omega
   rw[e1]at h4⊢;simp only[dI];rw[h4.1,h4.2,h3]
theorem D9 {a b:Nat->Bool}{c:Bool}{p:Nat}:∀n,(∀k,p<k->k<=p+n->a k=true/\b k=false)->dI a b c (p+n)=dI a b c p
 | 0,_=>rfl
 | n+1,h=>by
  have h1:=h (p+n+1) (by omega) (by omega);rw[<-Nat.add_assoc];simp only[dI];rw[h1.1,h1.2,D9 n λ k a1 a2=>h k a1 (by omega)];simp
theorem GU {a b:Nat->Bool}{c:Bool}{d L:Nat}(ha:Per a d L)(hb:Per b d L):Per (dI a b c) (d+L) L:=by
 intro t ht
 by_cases h:∃p,d<=p/\p<=t/\(b p || !a p)=true
 ·obtain⟨p,h1,h2,h3⟩:=h
  exact Tj h3 (hb p h1) (ha p h1) t h2 λ k a1 a2=>⟨ha k (by omega),hb k (by omega)⟩
 ·have key:∀p,d<=p->p<=t->a p=true/\b p=false:=by
   intro p h1 h2;have:¬(b p || !a p)=true := λ h3=>h ⟨p,h1,h2,h3⟩
   revert this
   cases a p <;> cases b p <;> simp
  have k2:∀k,t<k->k<=t+L->a k=true/\b k=false:=by
   intro k h1 h2;have:=key (k-L) (by omega) (by omega);have e1:=ha (k-L) (by omega);have e2:=hb (k-L) (by omega);rw[show k-L+L=k by omega]at e1 e2;rw[e1,e2];exact this
  exact D9 L k2
theorem LH {a b:Nat->Bool}{c:Bool}{d L:Nat}(ha:Per a d L)(hb:Per b d L):Per (bY a b c) (d+L) L:=by
 intro t ht;rw[vM,vM,GU (a := λ k => !a k) (b := λ k => !b k) (λ t ht=>by simp only[ha t ht]) (λ t ht=>by simp only[hb t ht]) t ht]
def kK (n:Nat)(u:Nat->Bool):List Bool:=(List.range n).map u
theorem oO (n:Nat)(u:Nat->Bool):oU n (kK n u) u:=by
 refine⟨by unfold kK;simp,λ t ht=>?_⟩;unfold kK;simp[List.getD,ht]
theorem oU.congr {n:Nat}{r:List Bool}{u v:Nat->Bool}(h:oU n r u)(e:∀t,t<n->u t=v t):oU n r v:=⟨h.1,λ t ht=>(h.2 t ht).trans (e t ht)⟩
def dP (r:List Bool)(t:Nat):Bool:=r.getD t false
def OZ (b L:Nat)(a:Nat->Bool)(o v:Int)(rs:List (List Bool)):List Bool :=
 if o=1 then kK (b+L) λ _=>true
 else if o=2 then kK (b+L) λ _=>false
 else if o=3 then kK (b+L) a
 else if o=4 then kK (b+L) λ t => !dP (rs.getD 0 []) t
 else if o=5 then kK (b+L) λ t=>rs.all λ r=>dP r t
 else if o=6 then kK (b+L) λ t=>rs.any λ r=>dP r t
 else if o=8 then kK (b+L) λ t=>dP (rs.getD 0 []) (fJ b L (t+1))
 else if o=9 then vN b L (rs.getD 0 []) (rs.getD 1 [])
 else if o=10 then pz b L (rs.getD 0 []) (rs.getD 1 [])
 else if o=15 then kK (b+L) λ t=>(decide (t=0)&&decide (v=1)) || (decide (0<t)&&dP (rs.getD 0 []) (t-1))
 else if o=16 then kK (b+L) (dI (dP (rs.getD 0 [])) (dP (rs.getD 1 [])) (decide (v=1)))
 else if o=17 then kK (b+L) (bY (dP (rs.getD 0 [])) (dP (rs.getD 1 [])) (decide (v=1)))
 else []
mutual
def rC (b L:Nat)(sg:Nat->ByteArray->Int->Bool):Fm->List Bool
 | .mk o n v bd l=>OZ b L (λ t=>sg t n v) o v (Ux b L sg l)
def Ux (b L:Nat)(sg:Nat->ByteArray->Int->Bool):List Fm->List (List Bool)
 | [] => []
 | f :: l=>rC b L sg f :: Ux b L sg l
end
theorem JA (b L:Nat)(sg:Nat->ByteArray->Int->Bool):∀l:List Fm,Ux b L sg l=l.map (rC b L sg)
 | []=>rfl
 | f :: l=>by simp only[Ux,List.map_cons,JA b L sg l]
theorem Lm (b L:Nat)(sg:Nat->ByteArray->Int->Bool)(f:Fm):rC b L sg f=OZ b L (λ t=>sg t f.name f.val) f.op f.val (f.args.map (rC b L sg)):=by
 cases f;simp only[rC,Fm.op,Fm.name,Fm.val,Fm.args,JA]
noncomputable def stepS (a:Nat->Bool)(o v:Int)(us:List (Nat->Bool))(t:Nat):Bool :=
 if o=1 then true
 else if o=2 then false
 else if o=3 then a t
 else if o=4 then !us.getD 0 (λ _=>false) t
 else if o=5 then us.all λ u=>u t
 else if o=6 then us.any λ u=>u t
 else if o=8 then us.getD 0 (λ _=>false) (t+1)
 else if o=9 then kC (us.getD 0 λ _=>false) (us.getD 1 λ _=>false) t
 else if o=10 then lQ (us.getD 0 λ _=>false) (us.getD 1 λ _=>false) t
 else if o=15 then(decide (t=0)&&decide (v=1)) || (decide (0<t)&&us.getD 0 (λ _=>false) (t-1))
 else if o=16 then dI (us.getD 0 λ _=>false) (us.getD 1 λ _=>false) (decide (v=1)) t
 else if o=17 then bY (us.getD 0 λ _=>false) (us.getD 1 λ _=>false) (decide (v=1)) t
 else false
mutual
noncomputable def cZ (sg:Nat->ByteArray->Int->Bool):Fm->Nat->Bool
 | .mk o n v bd l=>stepS (λ t=>sg t n v) o v (Uy sg l)
noncomputable def Uy (sg:Nat->ByteArray->Int->Bool):List Fm->List (Nat->Bool)
 | [] => []
 | f :: l=>cZ sg f :: Uy sg l
end
theorem JC (sg:Nat->ByteArray->Int->Bool):∀l:List Fm,Uy sg l=l.map (cZ sg)
 | []=>rfl
 | f :: l=>by simp only[Uy,List.map_cons,JC sg l]
theorem sF (sg:Nat->ByteArray->Int->Bool)(f:Fm):cZ sg f=stepS (λ t=>sg t f.name f.val) f.op f.val (f.args.map (cZ sg)):=by
 cases f;simp only[cZ,Fm.op,Fm.name,Fm.val,Fm.args,JC]
mutual
def eU:Fm->Nat
 | .mk o n v b l=>iq l+(if 15<=o/\o<=19 then 1 else 0)
def iq:List Fm->Nat
 | []=>0
 | f :: l=>max (eU f) (iq l)
end
theorem uw (f:Fm):eU f=iq f.args+(if 15<=f.op/\f.op<=19 then 1 else 0):=by cases f;simp only[eU,Fm.op,Fm.args];rfl
theorem qV:∀{l:List Fm} {f:Fm},f∈l->eU f<=iq l
 | [],_,h=>by cases h
 | g :: l,f,h=>by
  rw[iq]
  rcases List.mem_cons.1 h with e|e
  ·subst e;omega
  ·have:=qV e;omega
theorem Wj {f g:Fm}(h:g∈f.args):eU g<=eU f:=by rw[uw f];have:=qV h;omega
theorem RX {f g:Fm}(h:g∈f.args)(hr:jV f.op=true):eU g+1<=eU f:=by
 rw[uw f,if_pos]
 ·have:=qV h;omega
 ·rcases pF.1 hr with e|e|e <;> omega
theorem qP {α : Type}(φ : Fm -> α)(l:List Fm)(i:Nat)(d : α)(h:i<l.length):(l.map φ).getD i d = φ (l.getD i default):=by simp[List.getD,h]
theorem dA {l:List Fm}{i:Nat}(h:i<l.length):l.getD i default∈l:=by simp[List.getD,h]
theorem qM {α β : Type}{p : α -> Bool}{q : β -> Bool}{φ : Fm -> α}{ψ : Fm -> β}:∀{l:List Fm},(∀g,g∈l->p (φ g)=q (ψ g))->(l.map φ).all p=(l.map ψ).all q
 | [],_=>rfl
 | f :: l,h=>by simp only[List.map_cons,List.all_cons];rw[h f (by simp),qM λ g hg=>h g (by simp[hg])]
theorem qN {α β : Type}{p : α -> Bool}{q : β -> Bool}{φ : Fm -> α}{ψ : Fm -> β}:∀{l:List Fm},(∀g,g∈l->p (φ g)=q (ψ g))->(l.map φ).any p=(l.map ψ).any q
 | [],_=>rfl
 | f :: l,h=>by simp only[List.map_cons,List.any_cons];rw[h f (by simp),qN λ g hg=>h g (by simp[hg])]
theorem Bv {a b a' b':Nat->Bool}{c:Bool}:∀t,(∀k,k<=t->a k=a' k/\b k=b' k)->dI a b c t=dI a' b' c t
 | 0,h=>by simp only[dI];rw[(h 0 (Nat.le_refl _)).1,(h 0 (Nat.le_refl _)).2]
 | t+1,h=>by simp only[dI];rw[(h (t+1) (Nat.le_refl _)).1,(h (t+1) (Nat.le_refl _)).2,Bv t λ k hk=>h k (by omega)]
theorem xG {a b a' b':Nat->Bool}{c:Bool}:∀t,(∀k,k<=t->a k=a' k/\b k=b' k)->bY a b c t=bY a' b' c t
 | 0,h=>by simp only[bY];rw[(h 0 (Nat.le_refl _)).1,(h 0 (Nat.le_refl _)).2]
 | t+1,h=>by simp only[bY];rw[(h (t+1) (Nat.le_refl _)).1,(h (t+1) (Nat.le_refl _)).2,xG t λ k hk=>h k (by omega)]
theorem lX {f:Fm}(h:Bare f):(f.op=4\/f.op=8\/f.op=15->f.args.length=1)/\(f.op=9\/f.op=10\/f.op=16\/f.op=17->f.args.length=2):=by
 have hs:=jo h.node.2.1
 constructor
 ·intro h1
  have:(aJ f.op).least=1/\(aJ f.op).most=1:=by rcases h1 with e|e|e <;> rw[e] <;> exact⟨rfl,rfl⟩
  omega
 ·intro h1
  have:(aJ f.op).least=2/\(aJ f.op).most=2:=by rcases h1 with e|e|e|e <;> rw[e] <;> exact⟨rfl,rfl⟩
  omega
theorem qb3 {b L s:Nat}{sg:Nat->ByteArray->Int->Bool}(hL:0<L)(hsg:∀n v,Per (λ t=>sg t n v) s L)(f:Fm):Bare f->s+eU f*L<=b ->
  oU (b+L) (rC b L sg f) (cZ sg f)/\Per (cZ sg f) (s+eU f*L) L:=by
 refine Fm.pW (P := λ f=>Bare f->s+eU f*L<=b->oU (b+L) (rC b L sg f) (cZ sg f)/\Per (cZ sg f) (s+eU f*L) L) ?_ f;intro f ih hb hn;have hle:∀g,g∈f.args->s+eU g*L<=s+eU f*L := λ g hg=>Nat.add_le_add_left (Nat.mul_le_mul_right _ (Wj hg)) _
 have ih':∀g,g∈f.args->oU (b+L) (rC b L sg g) (cZ sg g)/\Per (cZ sg g) (s+eU f*L) L := λ g hg =>
  ⟨(ih g hg (hb.arg hg) (Nat.le_trans (hle g hg) hn)).1,(ih g hg (hb.arg hg) (Nat.le_trans (hle g hg) hn)).2.mono (hle g hg)⟩
 have hlt:∀g,g∈f.args->jV f.op=true->s+eU g*L+L<=s+eU f*L := λ g hg hr=>by
  have:=Nat.mul_le_mul_right L (RX hg hr);rw[Nat.add_mul,Nat.one_mul]at this;omega
 have ihp:∀g,g∈f.args->jV f.op=true->∃d,d+L<=s+eU f*L/\Per (cZ sg g) d L := λ g hg hr =>
  ⟨_,hlt g hg hr,(ih g hg (hb.arg hg) (Nat.le_trans (hle g hg) hn)).2⟩
 have har:=lX hb;rw[Lm,sF]
 have hop:f.op=1\/f.op=2\/f.op=3\/f.op=4\/f.op=5\/f.op=6\/f.op=8\/f.op=9\/f.op=10\/f.op=15\/f.op=16\/f.op=17:=by
  rcases kT hb.node.1 with h|h|h
  ·unfold vC at h;omega
  ·omega
  ·omega
 have one:f.args.length=1->∃g,f.args = [g]/\g∈f.args := λ h=>by
  match hf:f.args,h with
  | [g],_=>exact⟨g,rfl,by simp⟩
 have two:f.args.length=2->∃g h,f.args = [g,h]/\g∈f.args/\h∈f.args := λ h=>by
  match hf:f.args,h with
  | [g,k],_=>exact⟨g,k,rfl,by simp,by simp⟩
 rcases hop with e|e|e|e|e|e|e|e|e|e|e|e
 ·rw[e];exact⟨oO _ _,λ _ _=>rfl⟩
 ·rw[e];exact⟨oO _ _,λ _ _=>rfl⟩
 ·rw[e]
  exact⟨oO _ _,(hsg f.name f.val).mono (by omega)⟩
 ·obtain⟨g,hf,hg⟩:=one (har.1 (by omega))
  obtain⟨h1,h2⟩:=ih' g hg;rw[e,hf];refine⟨(oO _ _).congr λ t ht=>?_,λ t ht=>?_⟩
  ·show(!(rC b L sg g).getD t false) = !cZ sg g t
   rw[h1.2 t ht]
  ·show(!cZ sg g (t+L)) = !cZ sg g t
   rw[h2 t ht]
 ·rw[e]
  refine⟨(oO _ _).congr λ t ht=>?_,λ t ht=>?_⟩
  ·exact qM λ g hg=>(ih' g hg).1.2 t ht
  ·exact qM (p := λ u:Nat->Bool=>u (t+L)) (q := λ u:Nat->Bool=>u t) λ g hg=>(ih' g hg).2 t ht
 ·rw[e]
  refine⟨(oO _ _).congr λ t ht=>?_,λ t ht=>?_⟩
  ·exact qN λ g hg=>(ih' g hg).1.2 t ht
  ·exact qN (p := λ u:Nat->Bool=>u (t+L)) (q := λ u:Nat->Bool=>u t) λ g hg=>(ih' g hg).2 t ht
 ·obtain⟨g,hf,hg⟩:=one (har.1 (by omega))
  obtain⟨h1,h2⟩:=ih' g hg;rw[e,hf];refine⟨(oO _ _).congr λ t ht=>?_,λ t ht=>?_⟩
  ·show(rC b L sg g).getD (fJ b L (t+1)) false=cZ sg g (t+1)
   rw[h1.2 _ (lF hL),(h2.mono hn).place hL]
  ·show cZ sg g (t+L+1)=cZ sg g (t+1)
   rw[show t+L+1=t+1+L by omega,h2 (t+1) (by omega)]
 ·obtain⟨g,k,hf,hg,hk⟩:=two (har.2 (by omega))
  obtain⟨h1,h2⟩:=ih' g hg;obtain⟨h3,h4⟩:=ih' k hk;rw[e,hf];exact⟨JJ hL h1 h3 (h2.mono hn) (h4.mono hn),zL h2 h4⟩
 ·obtain⟨g,k,hf,hg,hk⟩:=two (har.2 (by omega))
  obtain⟨h1,h2⟩:=ih' g hg;obtain⟨h3,h4⟩:=ih' k hk;rw[e,hf];exact⟨OG hL h1 h3 (h2.mono hn) (h4.mono hn),Lh h2 h4⟩
 ·obtain⟨g,hf,hg⟩:=one (har.1 (by omega))
  obtain⟨h1,h2⟩:=ih' g hg;obtain⟨d,hd,h5⟩:=ihp g hg (pF.2 (.inl e));rw[e,hf];refine⟨(oO _ _).congr λ t ht=>?_,λ t ht=>?_⟩
  ·show((decide (t=0)&&decide (f.val=1)) || (decide (0<t)&&(rC b L sg g).getD (t-1) false))=((decide (t=0)&&decide (f.val=1)) || (decide (0<t)&&cZ sg g (t-1)))
   rw[h1.2 (t-1) (by omega)]
  ·show((decide (t+L=0)&&decide (f.val=1)) || (decide (0<t+L)&&cZ sg g (t+L-1)))=((decide (t=0)&&decide (f.val=1)) || (decide (0<t)&&cZ sg g (t-1)))
   have:=h5 (t-1) (by omega);rw[show t-1+L=t+L-1 by omega]at this;rw[decide_eq_false (show¬t+L=0 by omega),decide_eq_false (show¬t=0 by omega),decide_eq_true (show 0<t+L by omega),decide_eq_true (show 0<t by omega),this]
 ·obtain⟨g,k,hf,hg,hk⟩:=two (har.2 (by omega))
  obtain⟨h1,h2⟩:=ih' g hg;obtain⟨h3,h4⟩:=ih' k hk;have hr:=pF.2 (.inr (.inl e));have hm:eU f*L=iq f.args*L+L:=by rw[uw,if_pos (by omega),Nat.add_mul,Nat.one_mul]
  have hp:∀x,x∈f.args->Per (cZ sg x) (s+iq f.args*L) L := λ x hx =>
   (ih x hx (hb.arg hx) (Nat.le_trans (hle x hx) hn)).2.mono (Nat.add_le_add_left (Nat.mul_le_mul_right _ (qV hx)) _)
  rw[e];refine⟨?_,?_⟩
  ·rw[hf]
   exact(oO _ _).congr λ t ht=>Bv t λ j hj=>⟨h1.2 j (by omega),h3.2 j (by omega)⟩
  ·have:=GU (c:=decide (f.val=1)) (hp g hg) (hp k hk)
   rw[hm,<-Nat.add_assoc,hf];rw[hf]at this;exact this
 ·obtain⟨g,k,hf,hg,hk⟩:=two (har.2 (by omega))
  obtain⟨h1,h2⟩:=ih' g hg;obtain⟨h3,h4⟩:=ih' k hk;have hr:=pF.2 (.inr (.inr e));have hm:eU f*L=iq f.args*L+L:=by rw[uw,if_pos (by omega),Nat.add_mul,Nat.one_mul]
  have hp:∀x,x∈f.args->Per (cZ sg x) (s+iq f.args*L) L := λ x hx =>
   (ih x hx (hb.arg hx) (Nat.le_trans (hle x hx) hn)).2.mono (Nat.add_le_add_left (Nat.mul_le_mul_right _ (qV hx)) _)
  rw[e];refine⟨?_,?_⟩
  ·rw[hf]
   exact(oO _ _).congr λ t ht=>xG t λ j hj=>⟨h1.2 j (by omega),h3.2 j (by omega)⟩
  ·have:=LH (c:=decide (f.val=1)) (hp g hg) (hp k hk)
   rw[hm,<-Nat.add_assoc,hf];rw[hf]at this;exact this
end Go.Proofs.YtdpbgcmfeajigaaGreatDoor
namespace Go.Proofs.YtdpbgcmfeajigaaGreatDoor
open Go.RowKit Go.Shelf
attribute [local go_sem] ak
theorem jm.any {w w':World}{D:Dom}{A:Option Addr}{c:Nat}{zs:List Int}(h:jm w D A c zs)(hb:Below w.heap.size w w'):jm w' aW A c zs:=(h.old.keep (Keeps.of_below hb λ _ h=>h)).mono λ _ _ _=>trivial
theorem au {w w' w'':World}(h:Below w.heap.size w w')(hb:Below w'.heap.size w' w''):Below w.heap.size w w'':=h.trans (hb.mono h.size)
def pV (m x:Int):Bool:=decide (0<=x)&&decide (x<m)
def dO (l:List Int)(m:Int):Bool:=l.all (pV m)
theorem IE {l:List Int}{m:Int}{i:Nat}(hi:i<l.length)(h:pV m (l.getD i 0)=false):dO l m=false:=by
 unfold dO;rw[List.all_eq_false];exact⟨l.getD i 0,by simp[List.getD,hi],by rw[h];simp⟩
theorem QI {l:List Int}{m:Int}(h:∀i,i<l.length->pV m (l.getD i 0)=true):dO l m=true:=by
 unfold dO;rw[List.all_eq_true];intro x hx;obtain⟨i,hi,rfl⟩:=List.getElem_of_mem hx;have:=h i hi;simpa[List.getD,hi]using this
theorem Va {D:Dom}(l:List Int)(m:Int)(A:Option Addr)(c n:Nat)(w:World)(hn:n=l.length)(h:jm w D A c l) :
  Calls Tryz.prog 87 #[.slice A n c,.int .i64 m] w λ e w'=>e = .returned (.bool (dO l m))/\Below w.heap.size w w':=by
 subst hn;have hlen:=h.len.1;have HH:=hid h;clear h
 go_enter Tryz.func87,Tryz.ntmps87
 go_wp2_with fail
 go_loopw [9] (λ q wr=>∃i:Nat,i<=l.length/\q = .int .i64 (i:Int)/\tq w wr/\Hid (∀k,k<i->pV m (l.getD k 0)=true)) (λ q _=>l.length-(intOf q).toNat)
 case atStart=>exact⟨0,Nat.zero_le _,rfl,rfl,λ j h=>absurd h (Nat.not_lt_zero _)⟩
 case round =>
  obtain⟨i,hi,rfl,hw,iY⟩:=hrel;obtain rfl:w=wr:=hw.symm
  by_cases hlt:i<l.length
  ·have hii:(i:Int)<l.length:=by omega
   have dX:=hid hlt;obtain⟨b,o,x,rfl,_,hlb,HX,x0⟩:=HH.out.get hlt;have mZ:=hid HX.out;clear HX hi hlt
   by_cases h0:x<0
   ·have d0:decide (x<0)=true:=decide_eq_true h0
    have HR:=hid (show dO l m=false from IE dX.out (by rw[mZ.out];unfold pV;rw[decide_eq_false (by omega)];rfl));go_wp2_with fail
    go_ret
    exact⟨aF HR.out.symm,Below.refl _ _⟩
   have d0:decide (x<0)=false:=decide_eq_false h0
   by_cases h1:m<=x
   ·have d1:decide (m<=x)=true:=decide_eq_true h1
    have HR:=hid (show dO l m=false from IE dX.out (by rw[mZ.out];unfold pV;rw[decide_eq_false (show¬x<m by omega)];simp));go_wp2_with fail
    go_ret
    exact⟨aF HR.out.symm,Below.refl _ _⟩
   ·have d1:decide (m<=x)=false:=decide_eq_false h1
    have lM:=hid (show pV m (l.getD i 0)=true by rw[mZ.out];unfold pV;rw[decide_eq_true (show 0<=x by omega),decide_eq_true (show x<m by omega)];rfl);clear h0 h1;go_wp2_with fail
    go_roundw
    case rel =>
     refine⟨i+1,by have:=dX.out;omega,by go_num,rfl,λ j hj=>?_⟩
     by_cases e:j=i
     ·rw[e];exact lM.out
     ·exact iY.out j (by omega)
    case measure=>have:=dX.out;simp[intOf];omega
  ·have hii:¬(i:Int)<l.length:=by omega
   have HR:=hid (show dO l m=true from QI λ j hj=>iY.out j (by omega));go_wp2_with fail
   go_ret
   exact⟨aF HR.out.symm,Below.refl _ _⟩
theorem xQ {D:Dom}{l:List Int}{m:Int}{A:Option Addr}{c n:Nat}{w:World}(r:Bool)(hr:dO l m=r)(hn:n=l.length)(h:jm w D A c l) :
  Calls Tryz.prog 87 #[.slice A n c,.int .i64 m] w λ e w'=>e = .returned (.bool r)/\Below w.heap.size w w':=by
 subst hr;exact Va l m A c n w hn h
structure iV where
 stem:List Int
 loop:List Int
def dF (W:iV):Bool:=decide (W.stem.length<=60)&&decide (1<=W.loop.length)&&decide (W.loop.length<=40)&&dO W.stem 64&&dO W.loop 64
def iH (m:Int)(W:iV):Bool:=dF W&&dO W.stem m&&dO W.loop m
def aP (W:iV)(i:Nat):Int:=if i<W.stem.length then W.stem.getD i 0 else W.loop.getD ((i-W.stem.length) % W.loop.length) 0
def yT (w:World)(D:Dom)(v:Value)(W:iV):Prop:=∃As cs Al cl,v = .agg #[.slice As W.stem.length cs,.slice Al W.loop.length cl]/\jm w D As cs W.stem/\jm w D Al cl W.loop
theorem yT.any {w w':World}{D:Dom}{v:Value}{W:iV}(h:yT w D v W)(hb:Below w.heap.size w w'):yT w' aW v W:=let ⟨As,cs,Al,cl,e,h1,h2⟩:=h;⟨As,cs,Al,cl,e,h1.any hb,h2.any hb⟩
def gQ (w:World)(b:Nat)(W:iV)(As:Option Addr)(cs:Nat)(Al:Option Addr)(cl:Nat):Prop:=w.heap[b]?=some (.cells #[.slice As W.stem.length cs,.slice Al W.loop.length cl] 37 (0,0))
section
variable {w w':World}{b:Nat}{W:iV}{As Al:Option Addr}{cs cl:Nat}
theorem gQ.below (h:gQ w b W As cs Al cl)(hb:Below w.heap.size w w'):gQ w' b W As cs Al cl:=(hb.block _ (lt_of_block h)).trans h
theorem gQ.cells (h:gQ w b W As cs Al cl):w.cell? ⟨b,0,none⟩=some (.slice As W.stem.length cs)/\w.cell? ⟨b,1,none⟩=some (.slice Al W.loop.length cl)/\b<w.heap.size:=⟨aj h (i:=0) rfl,aj h (i:=1) rfl,lt_of_block h⟩
end
theorem FM {D:Dom}(W:iV)(v:Value)(w:World)(h:yT w D v W) :
  Calls Tryz.prog 62 #[v] w λ e w'=>e = .returned (.bool (dF W))/\Below w.heap.size w w':=by
 obtain⟨As,cs,Al,cl,rfl,hs,hl⟩:=h;have hsl:=hs.len.1;have hll:=hl.len.1;have HS:=hid hs.old;have HL:=hid hl.old;clear hs hl
 go_enter Tryz.func62,Tryz.ntmps62
 go_upto_region 1 with(fail)
 refine aC λ U hU=>?_;have HB:=hid (show Below w.heap.size w U by rw[hU];go_grown);have HO:=hid (show gQ U w.heap.size W As cs Al cl by show U.heap[_]?=_;rw[hU];exact at_new _ _ _ rfl);clear hU;obtain⟨s0,s1,s2⟩:=HO.out.cells
 by_cases h1:60<W.stem.length
 ·have hi:60<(W.stem.length:Int):=by omega
  have di:=decide_eq_true hi;have HR:=hid (show dF W=false by unfold dF;rw[decide_eq_false (show¬W.stem.length<=60 by omega)];simp);clear h1;go_wp2_with fail
  go_ret
  exact⟨aF HR.out.symm,HB.out⟩
 have Za:¬60<(W.stem.length:Int):=by omega
 have qf2:=decide_eq_false Za
 by_cases h1:W.loop.length<1
 ·have hi:(W.loop.length:Int)<1:=by omega
  have di:=decide_eq_true hi;have HR:=hid (show dF W=false by unfold dF;rw[decide_eq_false (show¬1<=W.loop.length by omega)];simp);clear h1;go_wp2_with fail
  go_ret
  exact⟨aF HR.out.symm,HB.out⟩
 have qgp:¬(W.loop.length:Int)<1:=by omega
 have di_17:=decide_eq_false qgp
 by_cases h1:40<W.loop.length
 ·have hi:40<(W.loop.length:Int):=by omega
  have di:=decide_eq_true hi;have HR:=hid (show dF W=false by unfold dF;rw[decide_eq_false (show¬W.loop.length<=40 by omega)];simp);clear h1;go_wp2_with fail
  go_ret
  exact⟨aF HR.out.symm,HB.out⟩
 have Za:¬40<(W.loop.length:Int):=by omega
 have qf2:=decide_eq_false Za
 have HF:=hid (show dF W=(dO W.stem 64&&dO W.loop 64)by
  unfold dF
  rw[decide_eq_true (show W.stem.length<=60 by omega),decide_eq_true (show 1<=W.loop.length by omega),decide_eq_true (show W.loop.length<=40 by omega),Bool.true_and,Bool.true_and,Bool.true_and])
 cases hb1:dO W.stem 64
 ·have HQ:=hid hb1
  have HR:=hid (show dF W=false by rw[HF.out,hb1];rfl);clear hb1;go_wp2_with (go_at_call 87;(with_reducible refine(xQ (l:=W.stem) false HQ.out rfl (HS.out.any HB.out)).mono ?_);rintro e V ⟨rfl,hbv⟩;have iD:=hid hbv;clear hbv)
  go_ret
  exact⟨aF HR.out.symm,au HB.out iD.out⟩
 have HQ:=hid hb1;have HR:=hid (show dF W=dO W.loop 64 by rw[HF.out,hb1];rfl);clear hb1;obtain⟨r,hr⟩:∃r,dO W.loop 64=r:=⟨_,rfl⟩;have HRR:=hid hr;clear hr;go_wp2_with (first|(go_at_call 87;(with_reducible refine(xQ (l:=W.stem) true HQ.out rfl (HS.out.any HB.out)).mono ?_);rintro e V ⟨rfl,hbv⟩;have iD:=hid hbv;clear hbv HQ s0 s1 s2;obtain⟨s0,s1,s2⟩:=(HO.out.below iD.out).cells)|(go_at_call 87;(with_reducible refine(xQ (l:=W.loop) r HRR.out rfl (HL.out.any (au HB.out iD.out))).mono ?_);rintro e V2 ⟨rfl,hbv⟩;have HB2:=hid (au iD.out hbv);clear hbv))
 go_ret
 exact⟨aF (HR.out.trans HRR.out).symm,au HB.out HB2.out⟩
theorem wU {D:Dom}{W:iV}{v:Value}{w:World}(r:Bool)(hr:dF W=r)(h:yT w D v W) :
  Calls Tryz.prog 62 #[v] w λ e w'=>e = .returned (.bool r)/\Below w.heap.size w w':=by
 subst hr;exact FM W v w h
theorem G9 {D:Dom}(m:Int)(W:iV)(v:Value)(w:World)(h:yT w D v W) :
  Calls Tryz.prog 40 #[.int .i64 m,v] w λ e w'=>e = .returned (.bool (iH m W))/\Below w.heap.size w w':=by
 obtain⟨As,cs,Al,cl,rfl,hs,hl⟩:=h;have hsl:=hs.len.1;have hll:=hl.len.1;have HS:=hid hs.old;have HL:=hid hl.old;clear hs hl
 go_enter Tryz.func40,Tryz.ntmps40
 go_upto_region 1 with(fail)
 refine aC λ U hU=>?_;have HB:=hid (show Below w.heap.size w U by rw[hU];go_grown);have HO:=hid (show gQ U w.heap.size W As cs Al cl by show U.heap[_]?=_;rw[hU];exact at_new _ _ _ rfl);clear hU;obtain⟨s0,s1,s2⟩:=HO.out.cells;have pK:=hid (show yT U aW (.agg #[.slice As W.stem.length cs,.slice Al W.loop.length cl]) W from⟨As,cs,Al,cl,rfl,HS.out.any HB.out,HL.out.any HB.out⟩);cases hf:dF W
 ·have HQ:=hid hf
  have HR:=hid (show iH m W=false by unfold iH;rw[hf];rfl);clear hf;go_wp2_with (go_at_call 62;(with_reducible refine(wU (W:=W) false HQ.out pK.out).mono ?_);rintro e V ⟨rfl,hbv⟩;have iD:=hid hbv;clear hbv s0 s1 s2;obtain⟨s0,s1,s2⟩:=(HO.out.below iD.out).cells)
  go_ret
  exact⟨aF HR.out.symm,au HB.out iD.out⟩
 have HQ:=hid hf;have HF:=hid (show iH m W=(dO W.stem m&&dO W.loop m)by unfold iH;rw[hf,Bool.true_and]);clear hf;cases hb1:dO W.stem m
 ·have HQ1:=hid hb1
  have HR:=hid (show iH m W=false by rw[HF.out,hb1];rfl);clear hb1;go_wp2_with (first|(go_at_call 62;(with_reducible refine(wU (W:=W) true HQ.out pK.out).mono ?_);rintro e V ⟨rfl,hbv⟩;have iD:=hid hbv;clear hbv s0 s1 s2;obtain⟨s0,s1,s2⟩:=(HO.out.below iD.out).cells)|(go_at_call 87;(with_reducible refine(xQ (l:=W.stem) false HQ1.out rfl (HS.out.any (au HB.out iD.out))).mono ?_);rintro e V1 ⟨rfl,hbv⟩;have HB1:=hid (au iD.out hbv);clear hbv HQ1 s0 s1 s2;obtain⟨s0,s1,s2⟩:=(HO.out.below HB1.out).cells))
  go_ret
  exact⟨aF HR.out.symm,au HB.out HB1.out⟩
 have HQ1:=hid hb1;have HR:=hid (show iH m W=dO W.loop m by rw[HF.out,hb1];rfl);clear hb1;obtain⟨r,hr⟩:∃r,dO W.loop m=r:=⟨_,rfl⟩;have HRR:=hid hr;clear hr
 go_wp2_with (first|(go_at_call 62;(with_reducible refine(wU (W:=W) true HQ.out pK.out).mono ?_);rintro e V ⟨rfl,hbv⟩;have iD:=hid hbv;clear hbv s0 s1 s2;obtain⟨s0,s1,s2⟩:=(HO.out.below iD.out).cells)|(go_at_call 87;(with_reducible refine(xQ (l:=W.stem) true HQ1.out rfl (HS.out.any (au HB.out iD.out))).mono ?_);rintro e V1 ⟨rfl,hbv⟩;have HB1:=hid (au iD.out hbv);clear hbv HQ1 s0 s1 s2;obtain⟨s0,s1,s2⟩:=(HO.out.below HB1.out).cells)|(go_at_call 87;(with_reducible refine(xQ (l:=W.loop) r HRR.out rfl (HL.out.any (au HB.out HB1.out))).mono ?_);rintro e V2 ⟨rfl,hbv⟩;have HB2:=hid (au HB1.out hbv);clear hbv))
 go_ret
 exact⟨aF (HR.out.trans HRR.out).symm,au HB.out HB2.out⟩
theorem qaf {D:Dom}{m:Int}{W:iV}{v:Value}{w:World}(r:Bool)(hr:iH m W=r)(h:yT w D v W) :
  Calls Tryz.prog 40 #[.int .i64 m,v] w λ e w'=>e = .returned (.bool r)/\Below w.heap.size w w':=by
 subst hr;exact G9 m W v w h
theorem pick_any {D:Dom}(W:iV)(i:Nat)(v:Value)(w:World)(h:yT w D v W)(hi:i<=1000000)(hne:0<W.loop.length) :
  Calls Tryz.prog 63 #[v,.int .i64 (i:Int)] w λ e w'=>e = .returned (.int .i64 (aP W i))/\Below w.heap.size w w':=by
 obtain⟨As,cs,Al,cl,rfl,hs,hl⟩:=h;have hsl:=hs.len.1;have hll:=hl.len.1;have HS:=hid hs.old;have HL:=hid hl.old;clear hs hl
 go_enter Tryz.func63,Tryz.ntmps63
 go_upto_region 1 with(fail)
 refine aC λ U hU=>?_;have HB:=hid (show Below w.heap.size w U by rw[hU];go_grown);have HO:=hid (show gQ U w.heap.size W As cs Al cl by show U.heap[_]?=_;rw[hU];exact at_new _ _ _ rfl);clear hU;obtain⟨s0,s1,s2⟩:=HO.out.cells
 by_cases h1:i<W.stem.length
 ·have hii:(i:Int)<W.stem.length:=by omega
  obtain⟨b,o,x,rfl,_,hlb,HX,x0⟩:=(HS.out.any HB.out).get h1;have HR:=hid (show aP W i=x by unfold aP;rw[if_pos h1];exact HX.out);clear HX h1;go_wp2_with fail
  go_ret
  exact⟨dD HR.out.symm,HB.out⟩
 ·have hii:¬(i:Int)<W.stem.length:=by omega
  obtain⟨r,hr⟩:∃r,(i-W.stem.length) % W.loop.length=r:=⟨_,rfl⟩;have hrl:r<W.loop.length:=by rw[<-hr];exact Nat.mod_lt _ hne
  obtain⟨b,o,x,rfl,_,hlb,HX,x0⟩:=(HL.out.any HB.out).get hrl;have HR:=hid (show aP W i=x by unfold aP;rw[if_neg h1,hr];exact HX.out)
  have hsub:IntKind.i64.wrap ((i:Int)-(W.stem.length:Int))=((i-W.stem.length:Nat):Int):=by
   rw[IntWalk.i64_in _ (by omega)];omega
  have htm:((i-W.stem.length:Nat):Int).tmod (W.loop.length:Int)=(r:Int):=by
   rw[Int.tmod_eq_emod_of_nonneg (by omega),<-hr];rfl
  have hne1:¬(W.loop.length:Int)=0:=by omega
  have hne2:((W.loop.length:Int)==0)=false:=ay hne1;have hne3:¬W.loop.length=0:=by omega
  have hwr:IntKind.i64.wrap (r:Int)=(r:Int):=IntWalk.i64_in _ (by omega);have hr0:(0:Int)<=(r:Int):=by omega
  have hri:(r:Int)<W.loop.length:=by omega
  obtain⟨d,hd⟩:∃d,i-W.stem.length=d:=⟨_,rfl⟩;rw[hd]at hsub htm;clear HX h1 hr hd hrl;go_upto_region 3 with(fail)
  go_quiet (fail)
  go_wp2_with fail
  go_ret
  exact⟨dD HR.out.symm,below_drewN HB.out _⟩
theorem qb7 {D:Dom}(W:iV)(i:Nat)(v:Value)(w:World)(h:yT w D v W)(hi:i<=1000000)(hf:dF W=true) :
  Calls Tryz.prog 19 #[v,.int .i64 (i:Int)] w λ e w'=>e = .returned (.int .i64 (aP W i))/\Below w.heap.size w w':=by
 obtain⟨As,cs,Al,cl,rfl,hs,hl⟩:=h;have hsl:=hs.len.1;have hll:=hl.len.1;have HS:=hid hs.old;have HL:=hid hl.old;clear hs hl;have HQ:=hid hf;have wL:=hid (show 0<W.loop.length by unfold dF at hf;simp only[Bool.and_eq_true,decide_eq_true_eq]at hf;omega);have HI:=hid hi;have hi0:¬(i:Int)<0:=by omega
 have di0:=decide_eq_false hi0;clear hf hi
 go_enter Tryz.func19,Tryz.ntmps19
 go_upto_region 1 with(fail)
 refine aC λ U hU=>?_;have HB:=hid (show Below w.heap.size w U by rw[hU];go_grown);have HO:=hid (show gQ U w.heap.size W As cs Al cl by show U.heap[_]?=_;rw[hU];exact at_new _ _ _ rfl);clear hU;obtain⟨s0,s1,s2⟩:=HO.out.cells;have pK:=hid (λ (V:World) (hb:Below U.heap.size U V)=>(show yT V aW (.agg #[.slice As W.stem.length cs,.slice Al W.loop.length cl]) W from⟨As,cs,Al,cl,rfl,HS.out.any (au HB.out hb),HL.out.any (au HB.out hb)⟩));obtain⟨y,hy⟩:∃y,aP W i=y:=⟨_,rfl⟩;have HY:=hid hy;clear hy
 go_wp2_with (first|(go_at_call 62;(with_reducible refine(wU (W:=W) true HQ.out (pK.out _ (Below.refl _ _))).mono ?_);rintro e V ⟨rfl,hbv⟩;have iD:=hid hbv;clear hbv s0 s1 s2;obtain⟨s0,s1,s2⟩:=(HO.out.below iD.out).cells)|(go_at_call 63;(with_reducible refine(pick_any W i _ _ (pK.out _ iD.out) HI.out wL.out).mono ?_);rw[HY.out];rintro e V2 ⟨rfl,hbv⟩;have HB2:=hid (au iD.out hbv);clear hbv))
 go_ret
 exact⟨dD HY.out.symm,au HB.out HB2.out⟩
end Go.Proofs.YtdpbgcmfeajigaaGreatDoor
namespace Go.Proofs.YtdpbgcmfeajigaaGreatDoor
open Go.RowKit Go.Shelf
attribute [local go_sem] ak run_store_func
structure qaZ (l N:Nat) (item:Nat->World->Array Value->Prop) (Z M:Dom) (B1 own:Nat) (J:Nat->World->Prop) (X:World->Prop):Prop where
 z:∀b,Z b->¬M b/\(b<B1\/B1+own<=b)
 keep:∀k W W',J k W->aH (λ b=>B1<=b/\b<B1+own) W W'->J k W'
 qcG:∀W W',X W->aH (λ b=>B1<=b/\b<B1+own) W W'->X W'
 step:∀k W vs,B1+own<=W.heap.size->J k W->k<N->item k W vs->YieldAt Fence.wide 0 Tryz.prog l vs W λ e W'=>aH Z W W'/\((e = .returned (.bool true)/\J (k+1) W')\/(e = .returned (.bool false)/\X W'))
def wM (inf:Bool)(gf:Nat)(caps:Array Value)(N:Nat)(item:Nat->World->Array Value->Prop)(M:Dom)(own:Nat)(w:World):Prop :=
 ∀(l:Nat) (Z:Dom) (J:Nat->World->Prop) (X:World->Prop) (W1:World) (B1:Nat),W1.heap.size=B1->Below w.heap.size w W1->qaZ l N item Z M B1 own J X->J 0 W1->(inf=true->∀W,¬J N W) ->
  Calls Tryz.prog gf (#[.func (.yield l) #[] #[]]++caps) W1 λ e w'=>(∃v,e = .returned v)/\aH Z W1 w'/\(J N w'\/X w')
theorem Jw {inf:Bool}{g:Operand}{ps:Array Tmp}{assign body:Code}{Q:Exit->Act->World->Prop}{a:Act}{w:World}(gf:Nat)(caps:Array Value)(N own:Nat)(M:Dom)(item:Nat->World->Array Value->Prop)(Z:Dom)(I:Nat->World->Prop)(Ix:Code->World->Prop)
  (eg:∀args w,(callFunc gf args).run Tryz.prog w = .ok (.enter gf args) w) (hg:a.eval g = .func (.func gf) #[] caps) (hit:wM inf gf caps N item M own w) (hps:∀k W vs,item k W vs->vs.size=ps.size) (hMw:∀b,M b->b<w.heap.size)
  (NR:∀k W W' vs,item k W vs->aH (λ b=>b=w.heap.size+1) W W'->item k W' vs)
  (hZ:∀b,Z b->¬M b/\(b<w.heap.size\/w.heap.size+2+own<=b))
  (hI:∀k W W',I k W->aH (λ b=>w.heap.size<=b/\b<w.heap.size+2+own) W W'->I k W')
  (hIx:∀c W W',Ix c W->aH (λ b=>w.heap.size<=b/\b<w.heap.size+2+own) W W'->Ix c W') (h0:I 0 w)
  (a₁ : Array Value->Act)
  (hassign:∀(l k:Nat) (vs:Array Value) (W:World) (K:Act->World->Prop),item k W vs->K (a₁ vs) W ->
   assign.wpIn (Fence.wide.inRound l) 0 Tryz.prog (Exit.then K (λ _ _ _=>False)) { tmps:=(ps.zip vs).foldl (λ t (p,v)=>t.setIfInBounds p v) a.tmps,defers := [] } W)
  (dY:∀(l k:Nat) (W:World) (vs:Array Value),w.heap.size+2+own<=W.heap.size->aH Z w W->I k W->k<N->item k W vs ->
   body.wpIn (Fence.wide.inRound l) 0 Tryz.prog (xM Z I Ix k W) (a₁ vs) W)
  (hdone:∀W,aH Z w W->I N W->W.heap[w.heap.size]?=some (.deferred (some []))->Q .normal { a with defers := { target := .collected w.heap.size,args := #[] } :: a.defers } W)
  (hstop:∀c W,aH Z w W->Ix c W->W.heap[w.heap.size]?=some (.deferred (some []))->c.wp Tryz.prog Q { a with defers := { target := .collected w.heap.size,args := #[] } :: a.defers } W)
  (Zb:inf=true->∀W,¬I N W) :
  (Code.rangeFunc g ps assign body).wp Tryz.prog Q a w:=by
 refine(wpIn_wide (n:=3)).1 (wpIn_rangeFunc λ fn _=>?_);obtain⟨rec,hrec⟩:∃rec:LoopState->Option Code->Loop,rec = λ st pe => { state:=st,pending:=pe,fn,tmps:=a.tmps,params:=ps,assign,body,defers:=w.heap.size }:=⟨_,rfl⟩;obtain⟨W1,hW1⟩:∃W1,(w.alloc (.deferred (some []))).alloc (.loop (rec .ready none))=W1:=⟨_,rfl⟩;have hL1:W1.heap[w.heap.size+1]?=some (.loop (rec .ready none)):=by rw[<-hW1];exact at_new _ _ _ (by simp)
 have hK1:W1.heap[w.heap.size]?=some (.deferred (some [])):=by rw[<-hW1,aQ _ _ _ (by simp)];exact at_new _ _ _ rfl
 have hs1:W1.heap.size=w.heap.size+2:=by rw[<-hW1];simp
 have hb1:Below w.heap.size w W1:=by rw[<-hW1];exact((Below.refl _ w).alloc (Nat.le_refl _) _).alloc (by simp) _
 refine⟨w.heap.size+1,[{ target := .collected w.heap.size,args := #[] }],W1,{ target := .fn (.func gf) caps,args := #[.func (.yield (w.heap.size+1)) #[] #[]] },W1,gf,
  #[.func (.yield (w.heap.size+1)) #[] #[]]++caps,W1,?_,?_,?_,?_,?_,?_⟩
 ·rw[<-hW1,hrec];exact run_enterLoop_outer _ _ _ _ _
 ·simp only[resolve,hg]
  simp[go_sem]
 ·exact λ f' _=>trivial
 ·simp[invoke,go_sem,eg]
 ·intro hd;simp[Fence.wide]at hd
 ·have qgN:∀W W':World,aH (λ b=>w.heap.size+2<=b/\b<w.heap.size+2+own) W W'->aH (λ b=>w.heap.size<=b/\b<w.heap.size+2+own) W W' := λ W W' h=>h.mono λ b _ hb=>⟨by omega,hb.2⟩
  have oC:∀W W':World,aH (λ b=>b=w.heap.size+1) W W'->aH (λ b=>w.heap.size<=b/\b<w.heap.size+2+own) W W' := λ W W' h=>h.mono λ b _ hb=>by omega
  refine callsIn_wide.2 ((hit (w.heap.size+1) (λ b=>Z b\/b=w.heap.size+1)
   (λ k W=>I k W/\aH Z w W/\W.heap[w.heap.size+1]?=some (.loop (rec .ready none))/\W.heap[w.heap.size]?=some (.deferred (some [])))
   (λ W=>∃c,Ix c W/\aH Z w W/\W.heap[w.heap.size+1]?=some (.loop (rec .done (some c)))/\W.heap[w.heap.size]?=some (.deferred (some [])))
   W1 (w.heap.size+2) hs1 hb1 ⟨?_,?_,?_,?_⟩ ⟨hI 0 w W1 h0 (aH.aS hb1),aH.aS hb1,hL1,hK1⟩ (λ h W hj=>Zb h W hj.1)).mono ?_)
  ·rintro b (hb|hb)
   ·have:=hZ b hb;exact⟨this.1,by omega⟩
   ·exact⟨λ hm=>by have:=hMw b hm;omega,by omega⟩
  ·rintro k W W' ⟨hi,hc,hl,hk⟩ hw
   exact⟨hI k W W' hi (qgN _ _ hw),hc.trans' hw λ b _ hb=>by omega,hw.box hl (by omega),hw.box hk (by omega)⟩
  ·rintro W W' ⟨c,hi,hc,hl,hk⟩ hw
   exact⟨c,hIx c W W' hi (qgN _ _ hw),hc.trans' hw λ b _ hb=>by omega,hw.box hl (by omega),hw.box hk (by omega)⟩
  ·rintro k W vs hsz ⟨hi,hc,hl,hk⟩ hlen hfw
   have hlt:w.heap.size+1<W.heap.size:=lt_of_block hl;have hy:=run_yield (P:=Tryz.prog) (args:=vs) hl (by rw[hrec];exact hps _ _ _ hfw);rw[hrec]at hy;refine⟨fn,_,assign,body,hy,roundIn_of_wpIn trivial (hassign _ _ _ W _ hfw ⟨_,run_beginRound hl (by rw[hrec]),?_⟩)⟩;obtain⟨Wb,Ri⟩:∃Wb,Wb=W.putObj (w.heap.size+1) (.loop { rec .ready none with state := .busy }):=⟨_,rfl⟩;rw[<-Ri];have hcb:aH (λ b=>b=w.heap.size+1) W Wb:=by rw[Ri];exact aH.putObj _ _ _
   have hl2:Wb.heap[w.heap.size+1]?=some (.loop { rec .ready none with state := .busy }):=by rw[Ri];exact World.putObj_heap_same hlt
   have hk2:Wb.heap[w.heap.size]?=some (.deferred (some [])):=hcb.box hk (by omega);have hsb:W.heap.size<=Wb.heap.size:=hcb.size;refine wpIn_mono (dY _ k Wb vs (by omega) (hc.trans' hcb λ b _ hb=>by omega) (hI _ _ _ hi (oC _ _ hcb)) hlen (NR _ _ _ _ hfw hcb)) ?_
   have fin:∀(jump:Option Code) (W3:World),aH Z Wb W3 ->
     (Instr.endRound (w.heap.size+1) jump).run Tryz.prog W3 = .ok (.bool jump.isNone) (W3.putObj (w.heap.size+1) (.loop (rec (if jump.isNone then .ready else .done) jump))) /\
     aH (λ b=>b=w.heap.size+1) W3 (W3.putObj (w.heap.size+1) (.loop (rec (if jump.isNone then .ready else .done) jump))) /\
     aH (λ b=>Z b\/b=w.heap.size+1) W (W3.putObj (w.heap.size+1) (.loop (rec (if jump.isNone then .ready else .done) jump))) /\
     aH Z w (W3.putObj (w.heap.size+1) (.loop (rec (if jump.isNone then .ready else .done) jump))) /\
     (W3.putObj (w.heap.size+1) (.loop (rec (if jump.isNone then .ready else .done) jump))).heap[w.heap.size+1]?=some (.loop (rec (if jump.isNone then .ready else .done) jump)) /\
     (W3.putObj (w.heap.size+1) (.loop (rec (if jump.isNone then .ready else .done) jump))).heap[w.heap.size]?=some (.deferred (some [])) := λ jump W3 hc3=>by
    have hl3:=hc3.box hl2 (λ h=>by have:=hZ _ h;omega);have hk3:=hc3.box hk2 (λ h=>by have:=hZ _ h;omega);have hcp:=aH.putObj W3 (w.heap.size+1) (.loop (rec (if jump.isNone then .ready else .done) jump));have hr:=run_endRound (P:=Tryz.prog) jump hl3;rw[hrec]at hr hcp⊢;refine⟨hr,hcp,?_,?_,World.putObj_heap_same (lt_of_block hl3),hcp.box hk3 (by omega)⟩
    ·exact((hcb.mono λ b _ hb => .inr hb).trans (hc3.mono λ b _ hb => .inl hb)).trans (hcp.mono λ b _ hb => .inr hb)
    ·exact((hc.trans' hcb λ b _ hb=>by omega).trans hc3).trans' hcp λ b _ hb=>by omega
   rintro e a3 W3 hp
   cases e with
   | normal =>
    obtain⟨hc3,hi3⟩:=hp;obtain⟨hr,hcp,hcW,hcw,hl4,hk4⟩:=fin none W3 hc3;exact⟨_,_,hr,hcW,.inl ⟨rfl,hI _ _ _ hi3 (oC _ _ hcp),hcw,hl4,hk4⟩⟩
   | ret =>
    obtain⟨hc3,hi3⟩:=hp;obtain⟨hr,hcp,hcW,hcw,hl4,hk4⟩:=fin (some .ret) W3 hc3;exact⟨_,_,hr,hcW,.inr ⟨rfl,_,hIx _ _ _ hi3 (oC _ _ hcp),hcw,hl4,hk4⟩⟩
   | exit id =>
    obtain⟨hc3,hi3⟩:=hp;obtain⟨hr,hcp,hcW,hcw,hl4,hk4⟩:=fin (some (.exit id)) W3 hc3;exact⟨_,_,hr,hcW,.inr ⟨rfl,_,hIx _ _ _ hi3 (oC _ _ hcp),hcw,hl4,hk4⟩⟩
   | goto t =>
    obtain⟨hc3,hi3⟩:=hp;obtain⟨hr,hcp,hcW,hcw,hl4,hk4⟩:=fin (some (.goto t)) W3 hc3;exact⟨_,_,hr,hcW,.inr ⟨rfl,_,hIx _ _ _ hi3 (oC _ _ hcp),hcw,hl4,hk4⟩⟩
   | panic ch=>exact hp.elim
   | outgrown=>exact hp.elim
  ·rintro e W2 ⟨⟨v,rfl⟩,hc2,(⟨hi,hc,hl,hk⟩|⟨c,hi,hc,hl,hk⟩)⟩
   ·refine⟨none,_,by have:=run_endLoop (P:=Tryz.prog) hl (by rw[hrec];simp);rw[hrec]at this;exact this,?_⟩
    have hcp:=aH.putObj W2 (w.heap.size+1) (.loop { rec .ready none with state := .exhausted });rw[hrec]at hcp;exact hdone _ (hc.trans' hcp λ b _ hb=>by omega) (hI _ _ _ hi (oC _ _ hcp)) (hcp.box hk (by omega))
   ·refine⟨some c,_,by have:=run_endLoop (P:=Tryz.prog) hl (by rw[hrec];simp);rw[hrec]at this;exact this,?_⟩
    have hcp:=aH.putObj W2 (w.heap.size+1) (.loop { rec .done (some c)with state := .exhausted });rw[hrec]at hcp;exact wpIn_wide.2 (hstop c _ (hc.trans' hcp λ b _ hb=>by omega) (hIx _ _ _ hi (oC _ _ hcp)) (hcp.box hk (by omega)))
def Zg (it:Nat->World->Value->Prop)(k:Nat)(W:World)(vs:Array Value):Prop:=∃u,vs = #[u]/\it k W u
def Zh (it:Nat->World->Value->Value->Prop)(k:Nat)(W:World)(vs:Array Value):Prop:=∃u v,vs = #[u,v]/\it k W u v
theorem range_one {inf:Bool}{g:Operand}{ps:Array Tmp}{assign body:Code}{Q:Exit->Act->World->Prop}{a:Act}{w:World}(gf:Nat)(caps:Array Value)(N own:Nat)(M:Dom)(it:Nat->World->Value->Prop)(Z:Dom)(I:Nat->World->Prop)(Ix:Code->World->Prop)
  (eg:∀args w,(callFunc gf args).run Tryz.prog w = .ok (.enter gf args) w) (hg:a.eval g = .func (.func gf) #[] caps) (hps:ps.size=1) (hit:wM inf gf caps N (Zg it) M own w) (hMw:∀b,M b->b<w.heap.size)
  (NR:∀k W W' u,it k W u->aH (λ b=>b=w.heap.size+1) W W'->it k W' u)
  (hZ:∀b,Z b->¬M b/\(b<w.heap.size\/w.heap.size+2+own<=b))
  (hI:∀k W W',I k W->aH (λ b=>w.heap.size<=b/\b<w.heap.size+2+own) W W'->I k W')
  (hIx:∀c W W',Ix c W->aH (λ b=>w.heap.size<=b/\b<w.heap.size+2+own) W W'->Ix c W') (h0:I 0 w)
  (a₁ : Value->Act)
  (hassign:∀(l:Nat) (u:Value) (W:World) (K:Act->World->Prop),K (a₁ u) W ->
   assign.wpIn (Fence.wide.inRound l) 0 Tryz.prog (Exit.then K (λ _ _ _=>False)) { tmps:=(ps.zip #[u]).foldl (λ t (p,v)=>t.setIfInBounds p v) a.tmps,defers := [] } W)
  (dY:∀(l k:Nat) (W:World) (u:Value),w.heap.size+2+own<=W.heap.size->aH Z w W->I k W->k<N->it k W u ->
   body.wpIn (Fence.wide.inRound l) 0 Tryz.prog (xM Z I Ix k W) (a₁ u) W)
  (hdone:∀W,aH Z w W->I N W->W.heap[w.heap.size]?=some (.deferred (some []))->Q .normal { a with defers := { target := .collected w.heap.size,args := #[] } :: a.defers } W)
  (hstop:∀c W,aH Z w W->Ix c W->W.heap[w.heap.size]?=some (.deferred (some []))->c.wp Tryz.prog Q { a with defers := { target := .collected w.heap.size,args := #[] } :: a.defers } W)
  (Zb:inf=true->∀W,¬I N W) :
  (Code.rangeFunc g ps assign body).wp Tryz.prog Q a w :=
 Jw gf caps N own M (Zg it) Z I Ix eg hg hit (λ k W vs h=>by obtain⟨u,rfl,_⟩:=h;exact hps.symm) hMw (λ k W W' vs h hc=>by obtain⟨u,rfl,h⟩:=h;exact⟨u,rfl,NR _ _ _ _ h hc⟩) hZ hI hIx h0
  (λ vs=>a₁ (vs.getD 0 undef)) (λ l k vs W K h hK=>by obtain⟨u,rfl,h⟩:=h;exact hassign l u W K hK) (λ l k W vs h1 h2 h3 h4 h=>by obtain⟨u,rfl,h⟩:=h;exact dY l k W u h1 h2 h3 h4 h) hdone hstop Zb
theorem CW {inf:Bool}{g:Operand}{ps:Array Tmp}{assign body:Code}{Q:Exit->Act->World->Prop}{a:Act}{w:World}(gf:Nat)(caps:Array Value)(N own:Nat)(M:Dom)(it:Nat->World->Value->Value->Prop)(Z:Dom)(I:Nat->World->Prop)(Ix:Code->World->Prop)
  (eg:∀args w,(callFunc gf args).run Tryz.prog w = .ok (.enter gf args) w) (hg:a.eval g = .func (.func gf) #[] caps) (hps:ps.size=2) (hit:wM inf gf caps N (Zh it) M own w) (hMw:∀b,M b->b<w.heap.size)
  (NR:∀k W W' u v,it k W u v->aH (λ b=>b=w.heap.size+1) W W'->it k W' u v)
  (hZ:∀b,Z b->¬M b/\(b<w.heap.size\/w.heap.size+2+own<=b))
  (hI:∀k W W',I k W->aH (λ b=>w.heap.size<=b/\b<w.heap.size+2+own) W W'->I k W')
  (hIx:∀c W W',Ix c W->aH (λ b=>w.heap.size<=b/\b<w.heap.size+2+own) W W'->Ix c W') (h0:I 0 w)
  (a₁ : Value->Value->Act)
  (hassign:∀(l:Nat) (u v:Value) (W:World) (K:Act->World->Prop),K (a₁ u v) W ->
   assign.wpIn (Fence.wide.inRound l) 0 Tryz.prog (Exit.then K (λ _ _ _=>False)) { tmps:=(ps.zip #[u,v]).foldl (λ t (p,v)=>t.setIfInBounds p v) a.tmps,defers := [] } W)
  (dY:∀(l k:Nat) (W:World) (u v:Value),w.heap.size+2+own<=W.heap.size->aH Z w W->I k W->k<N->it k W u v ->
   body.wpIn (Fence.wide.inRound l) 0 Tryz.prog (xM Z I Ix k W) (a₁ u v) W)
  (hdone:∀W,aH Z w W->I N W->W.heap[w.heap.size]?=some (.deferred (some []))->Q .normal { a with defers := { target := .collected w.heap.size,args := #[] } :: a.defers } W)
  (hstop:∀c W,aH Z w W->Ix c W->W.heap[w.heap.size]?=some (.deferred (some []))->c.wp Tryz.prog Q { a with defers := { target := .collected w.heap.size,args := #[] } :: a.defers } W)
  (Zb:inf=true->∀W,¬I N W) :
  (Code.rangeFunc g ps assign body).wp Tryz.prog Q a w :=
 Jw gf caps N own M (Zh it) Z I Ix eg hg hit (λ k W vs h=>by obtain⟨u,v,rfl,_⟩:=h;exact hps.symm) hMw (λ k W W' vs h hc=>by obtain⟨u,v,rfl,h⟩:=h;exact⟨u,v,rfl,NR _ _ _ _ _ h hc⟩) hZ hI hIx h0
  (λ vs=>a₁ (vs.getD 0 undef) (vs.getD 1 undef)) (λ l k vs W K h hK=>by obtain⟨u,v,rfl,h⟩:=h;exact hassign l u v W K hK) (λ l k W vs h1 h2 h3 h4 h=>by obtain⟨u,v,rfl,h⟩:=h;exact dY l k W u v h1 h2 h3 h4 h) hdone hstop Zb
end Go.Proofs.YtdpbgcmfeajigaaGreatDoor
namespace Go.Proofs.YtdpbgcmfeajigaaGreatDoor
open Go.RowKit Go.Shelf
attribute [local go_sem] ak run_store_func
theorem gI {l:List Sg}(h:dN l=true):1<=l.length/\l.length<=6/\mV l<=64/\∀i,i<l.length->C9 l i=true:=by
 unfold dN at h;simp only[Bool.and_eq_true,decide_eq_true_eq]at h;exact⟨h.1.1.1,h.1.1.2,h.2,λ i hi=>iZ.1 h.1.2 i hi⟩
theorem pG {l:List Sg}{i:Nat}(h:C9 l i=true):nameB (l.getD i default).name=true/\2<=(l.getD i default).size/\(l.getD i default).size<=4:=by
 unfold C9 at h;simp only[Bool.and_eq_true,decide_eq_true_eq]at h;exact⟨h.1.1.1,h.1.1.2,h.1.2⟩
theorem qG {l:List Sg}(h:dN l=true):∀i,i<=l.length->BM l i (mV (l.take i))
 | 0,_=>BM.zero l
 | i+1,hi=>by
  have hv:=gI h;have ho:=pG (hv.2.2.2 i (by omega));have:=(qG h i (by omega)).succ (s:=(l.getD i default).size) (by omega) (by omega) rfl ho.2.1 ho.2.2;rw[this.is]at this;exact this
def fB (l:List Sg)(i:Nat):Int:=mV (l.take i)
theorem Ea {l:List Sg}{i:Nat}(hi:i<l.length):fB l (i+1)=fB l i*(l.getD i default).size:=by
 unfold fB;rw[bP l default hi,qx];show _*((l.getD i default).size*1)=_;rw[Int.mul_one]
def UD (l:List Sg)(k:Nat)(_:World)(u v:Value):Prop:=u = .int .i64 (k:Int)/\v = .int .i64 (fB l k)
theorem sV {l:List Sg}(A:Option Addr)(c pb:Nat)(M:Dom)(w:World)(hv:dN l=true)(hl:ng w M A c l)(hp:w.cell? ⟨pb,0,none⟩=some (.slice A l.length c))(hpb:M pb)(hM:∀b,M b->b<w.heap.size) :
  wM false 123 #[.pointer (some ⟨pb,0,none⟩)] l.length (Zh (UD l)) M 0 w:=by
 intro ln Z J X W1 B1 hW1 hb1 hR hj _;subst hW1;have HR:=hid hR;have HJ:=hid hj;have HV:=hid hv;have TI:=hid (hl.keep (Keeps.of_below hb1 hM));have HPW:=hid ((hb1.cell (p:=⟨pb,0,none⟩) (World.block_lt_of_cell? w _ hp)).trans hp);have HPB:=hid hpb;have hlen:=hl.len.1;have Ir:Hid (∀b,M b->¬Z b):=hid λ b h hz=>(hR.z _ hz).1 h;clear hR hj hl hp hb1 hpb;have p0:=HPW.out;have p1:pb<W1.heap.size:=World.block_lt_of_cell? W1 _ p0;simp only[List.append_toArray,List.cons_append,List.nil_append]
 go_enter Tryz.func123,Tryz.ntmps123
 go_wp2_with fail
 clear p0 p1
 go_loopw [3,7] (λ p q wr=>∃i:Nat,i<=l.length/\q = .int .i64 (i:Int)/\p = .int .i64 (fB l i)/\Hid (aH Z W1 wr)/\Hid (J i wr)) (λ _ q _=>l.length-(intOf q).toNat)
 case atStart=>exact⟨0,Nat.zero_le _,rfl,rfl,aH.refl _ _,HJ.out⟩
 case round =>
  obtain⟨i,hi,rfl,rfl,HC,HJI⟩:=hrel
  by_cases hlt:i<l.length
  ·have hii:(i:Int)<l.length:=by omega
   have dX:=hid hlt;have hst:=HR.out.step i wr #[.int .i64 (i:Int),.int .i64 (fB l i)] (by have:=HC.out.size;omega) HJI.out hlt ⟨_,_,rfl,rfl,rfl⟩;obtain⟨yf,yt,ya,yb',Ro,Uh⟩:=hst;have HR4:=hid Uh;clear Uh hlt;obtain⟨z,hz⟩:∃z,fB l i=z:=⟨_,rfl⟩;have HZ:=hid hz;rw[hz]at Ro⊢;clear hz;go_upto_region 4 with(fail)
   refine(wpIn_wide (n:=1)).1 ?_
   gi_wp2
   refine HR4.out.mono ?_;rintro e w4 ⟨hc4,(⟨rfl,Ug⟩|⟨rfl,YQ⟩)⟩
   ·have zN:=hid hc4
    have HJ4:=hid Ug;have Py:=hid (HC.out.trans hc4);obtain⟨b,o,s,rfl,hlb,HX,x0,x1,x2⟩:=(TI.out.keep (Py.out.keeps λ b _ h=>Ir.out b h)).get dX.out
    have q0:=World.cell?_of_block (w:=W1) (a:=⟨pb,0,none⟩) (Py.out.block pb (World.block_lt_of_cell? W1 _ HPW.out) (Ir.out pb HPB.out)) |>.trans HPW.out
    have q1:=World.block_lt_of_cell? w4 _ q0;have jI:=hid (show(l.getD i default).size=s.size by rw[HX.out]);have lM:=hid (pG ((gI HV.out).2.2.2 i dX.out));rw[jI.out]at lM;have HWN:=hid (show fB l (i+1)=z*s.size by rw[Ea dX.out,jI.out,HZ.out])
    have hwr:IntKind.i64.wrap (z*s.size)=z*s.size:=by
     have h1:=qG HV.out i (Nat.le_of_lt dX.out);have h2:=h1.wrap (s:=s.size) (by have:=(gI HV.out).2.1;have:=dX.out;omega) lM.out.2.1 lM.out.2.2;have:mV (l.take i)=z:=HZ.out;rw[this]at h2;exact h2
    clear hc4 Ug Ro HX
    gi_wp2
    go_wp2_with fail
    go_roundw
    case rel=>exact⟨i+1,by have:=dX.out;omega,by go_num,by rw[HWN.out];(try rw[hwr]),Py.out,HJ4.out⟩
    case measure=>have:=dX.out;simp[intOf];omega
   ·have zN:=hid (HC.out.trans hc4)
    have HX4:=hid YQ;clear hc4 YQ Ro
    gi_wp2
    go_wp2_with fail
    refine bodyPost_ret (results_none rfl _ _ _) rfl ?_;exact⟨⟨_,rfl⟩,zN.out,.inr HX4.out⟩
  ·have hii:¬(i:Int)<l.length:=by omega
   obtain rfl:i=l.length:=by omega
   have Xi:=hid HJI.out;go_wp2_with fail
   go_end0
   exact⟨⟨_,rfl⟩,HC.out,.inl Xi.out⟩
theorem xI (A:Option Addr)(n c:Nat)(w:World) :
  Calls Tryz.prog 85 #[.slice A n c] w λ e w'=>e = .returned (.func (.func 123) #[] #[.pointer (some ⟨w.heap.size,0,none⟩)])/\w'=w.alloc (.cells #[.slice A n c] 34):=by
 have hmf:∀(fn:Fn) (first cap:Array Value) (w:World),(Instr.makeFunc fn first cap).run Tryz.prog w = .ok (.func fn first cap) w := λ _ _ _ _=>rfl
 go_enter Tryz.func85,Tryz.ntmps85
 go_wp2_with fail
 go_ret
 exact⟨rfl,rfl⟩
end Go.Proofs.YtdpbgcmfeajigaaGreatDoor
namespace Go.Proofs.YtdpbgcmfeajigaaGreatDoor
open Go.RowKit Go.Shelf
attribute [local go_sem] ak run_store_func Oper.semAt_some
theorem Dj {P:Program}{id l n:Nat}{Q:Exit->Act->World->Prop}{a:Act}{w:World}{L:List Oper}(hm:P.follows .mixedOrders=true)(hd:rX L.toArray=true)(hQ:¬LetsOut Q)(hB:Region.lexB .any L.toArray=true)
  (h:wpQuiet P L.toArray (λ w'=>∃n,w'=w.drewN n) (λ a'=>∀w',(∃n,w'=w.drewN n)->Q .normal a' w') L a):(Code.region id L.toArray true).wpIn (Fence.wide.inRound l) n P Q a w:=by
 have hB':=hB;simp only[Region.lexB,Bool.and_eq_true]at hB';refine nP hm hd hQ (wpAny_of_quiet (C := λ w'=>∃n,w'=w.drewN n) (Q := λ a'=>∀w',(∃n,w'=w.drewN n)->Q .normal a' w') (λ _ w' hw' h=>h w' hw') _ _ _ _ ⟨1,rfl⟩ ?_);have:=wpAnyQ_lex (C := λ w'=>∃n,w'=w.drewN n) (md := .any) hB'.1 L.toArray.toList 0 (Array.replicate L.toArray.size false) a (by simp) (by simpa using hB'.2) (by simpa using h);simpa using this
theorem Et {P:Program}{id l n:Nat}{Q:Exit->Act->World->Prop}{a:Act}{w:World}{ops:Array Oper}(S:World->Prop)(hm:P.follows .mixedOrders=true)(hd:rX ops=true)(hQ:¬LetsOut Q)(hS:S w.drew)
  (h:S w.drew->wpAnyH P .any ops Q S ops.size (Array.replicate ops.size false) a w.drew):(Code.region id ops true).wpIn (Fence.wide.inRound l) n P Q a w :=
 nP hm hd hQ (wpAny_of_held _ _ _ _ (h hS))
def dh (l:List Sg):Int:=if dN l then mV l else 0
theorem KJ (v:Value)(a:ByteArray)(b:Bool)(c:Int)(w:World) :
  Calls Tryz.prog 132 #[.agg #[.string a,.bool b,.int .i64 c]] w λ e w'=>e = .returned (.bool true)/\Below w.heap.size w w':=by
 go_enter Tryz.func132,Tryz.ntmps132
 go_wp2_with fail
 go_ret
 exact⟨rfl,by go_grown⟩
theorem Vk {D:Dom}(l:List Sg)(A:Option Addr)(n c:Nat)(w:World)(hn:n=l.length)(h:ng w D A c l)(hk:GK w) :
  Calls Tryz.prog 131 #[.slice A n c,.func (.func 132) #[] #[]] w λ e w'=>e = .returned (.int .i64 (dh l))/\Below w.heap.size w w':=by
 subst hn;have HL:=hid h.old;have HK:=hid hk;have hlen:=h.len.1;clear h hk;refine(callsIn_wide (n:=3)).1 (callsIn_of_wp_marks Tryz.func131 rfl trivial ?_ rfl);simp only[Tryz.ntmps131,List.size_toArray,List.length_cons,List.length_nil,Nat.reduceAdd,Nat.reduceSub,Array.replicate_succ,Array.replicate_zero,List.push_toArray,List.append_toArray,List.nil_append,List.cons_append];refine wpIn_wide.2 ?_;go_upto_region 1 with(fail)
 refine aC λ W hW=>?_;have HB:=hid (show Below w.heap.size w W by rw[hW];go_grown);have mW:=hid (show W.heap[w.heap.size]?=some (.cells #[.slice A l.length c] 34 (0,0))by rw[hW,aQ _ _ _ (by simp)];exact at_new _ _ _ rfl);have kG:=hid (show W.heap[w.heap.size+1]?=some (.cells #[.func (.func 132) #[] #[]] 154 (0,0))by rw[hW];exact at_new _ _ _ (by simp));have HS:=hid (show W.heap.size=w.heap.size+2 by rw[hW];simp);clear hW;have s0:=aj mW.out (i:=0) rfl;have s1:=lt_of_block mW.out;have BK:=hid (vK l A c l.length W rfl (HL.out.any HB.out) (HK.out.below HB.out HK.out.pos));cases hv:dN l
 ·have HR:=hid (show dh l=0 by unfold dh;rw[hv];rfl)
  rw[hv]at BK;clear hv;go_wp2_with (first|(go_at_call 84;refine BK.out.mono ?_;rintro e V ⟨rfl,ku⟩;have iD:=hid (au HB.out ku)))
  refine vg rfl (v := .int .i64 0) ?_ ⟨by rw[HR.out],iD.out⟩;simp[results,Tryz.results131,go_sem]
 rw[hv]at BK;have HV:=hid hv;have HR:=hid (show dh l=mV l by unfold dh;rw[hv];rfl);clear hv;go_upto_region 4 with(go_at_call 84;refine BK.out.mono ?_;rintro e V ⟨rfl,ku⟩;have iD:=hid ku;clear s0 s1 ku)
 refine aC λ V2 hV2=>?_;have hb2:Below V.heap.size V V2:=by rw[hV2];go_grown
 have HB2:=hid (au iD.out hb2);have HE2:=hid (show V2.heap[V.heap.size]?=some (.cells #[.int .i64 1] 3 (0,0))by rw[hV2];first|exact at_new _ _ _ rfl|(rw[aB (at_new _ _ _ rfl)];rfl));have zi:=hid (show w.heap.size+2<=V.heap.size by have:=iD.out.size;have:=HS.out;omega);obtain⟨nb,hnb⟩:∃nb,nb=V.heap.size:=⟨_,rfl⟩;rw[<-hnb]at HE2 zi⊢;clear hV2 hb2 hnb iD BK;have Me:=hid ((HB2.out.block _ (lt_of_block mW.out)).trans mW.out);have wK:=hid ((HB2.out.block _ (lt_of_block kG.out)).trans kG.out);have s0:=aj Me.out (i:=0) rfl;have s1:=lt_of_block Me.out;go_wp2_with (go_at_call 85;refine(xI A l.length c V2).mono ?_;rintro e w2 ⟨rfl,rfl⟩)
 refine aC λ W2 hW2=>?_;have hb2:Below V2.heap.size V2 W2:=by rw[hW2];go_grown
 have HP:=hid (show W2.cell? ⟨V2.heap.size,0,none⟩=some (.slice A l.length c)by rw[hW2];exact aj (at_new _ _ _ rfl) (i:=0) rfl);have HS2:=hid (show W2.heap.size=V2.heap.size+1 by rw[hW2];simp);have aT:=hid (au HB.out (au HB2.out hb2));have EN:=hid ((hb2.block _ (lt_of_block Me.out)).trans Me.out);have Qu:=hid ((hb2.block _ (lt_of_block wK.out)).trans wK.out);have HF2:=hid ((hb2.block _ (lt_of_block HE2.out)).trans HE2.out);have lW:=hid (show w.heap.size+2<=nb/\nb<V2.heap.size from⟨zi.out,lt_of_block HE2.out⟩);have TI:=hid ((HL.out.keep (Keeps.of_below aT.out λ _ h=>h)).mono (E := λ x=>x<w.heap.size\/x=V2.heap.size) λ k hk hl => .inl hk);clear hW2 hb2 s0 s1 mW kG HE2 Me wK
 have Hy:=hid (sV A c V2.heap.size (λ x=>x<w.heap.size\/x=V2.heap.size) W2 HV.out TI.out HP.out (.inr rfl) (λ x hx=>by have:=HS2.out;have:=lW.out;omega));have HMP:=hid (λ i (hi:i<=l.length)=>qG HV.out i hi)
 refine CW 123 #[.pointer (some ⟨V2.heap.size,0,none⟩)] l.length 0 (λ x=>x<w.heap.size\/x=V2.heap.size) (UD l) (λ x=>x=nb)
  (λ k W'=>W'.heap[nb]?=some (.cells #[.int .i64 (fB l k)] 3 (0,0)))
  (λ _ _=>False)
  (enters_of Tryz.func123 (by kernel_rfl) rfl) rfl rfl Hy.out (λ x hx=>by have:=HS2.out;have:=lW.out;omega) (λ _ _ _ _ _ h _=>h) ?hZ ?hI (λ _ _ _ h _=>h) HF2.out ?a1 ?hassign ?dY ?hdone (λ _ _ _ h _=>h.elim) (λ h=>by cases h)
 case hassign =>
  intro l u v W K hK
  gi_wp2
  exact hK
 case hZ=>intro x hx;have:=HS2.out;have:=lW.out;exact⟨by omega,by omega⟩
 case hI=>intro k W3 W4 h hc;exact hc.box h (by have:=HS2.out;have:=lW.out;omega)
 case dY =>
  rintro ln k W3 u v hs3 hc3 Xp hkl ⟨rfl,rfl⟩;have HKL:=hid hkl;have HI3:=hid Xp;have Dk:=hid hc3;have hkk:(k:Int)<(l.length:Int):=by omega
  have hk0:(0:Int)<=(k:Int):=by omega
  have wL:=hid (show w.heap.size≠nb/\w.heap.size+1≠nb by have:=lW.out;omega);have t0:=aj (hc3.box EN.out wL.out.1) (i:=0) rfl;have t1:=aj (hc3.box Qu.out wL.out.2) (i:=0) rfl;have tl0:=lt_of_block (hc3.box EN.out wL.out.1);obtain⟨b,o,s,rfl,hlb,HX,x0,x1,x2⟩:=(TI.out.keep (hc3.keeps λ x _ h e=>by have:=lW.out;omega)).get hkl;have jI:=hid (show(l.getD k default).size=s.size by rw[HX.out]);have lM:=hid (pG ((gI HV.out).2.2.2 k hkl));rw[jI.out]at lM;clear HX hc3 Xp hkl
  gi_upto_region 6 with(fail)
  refine Et (λ W'=>W'.cell? ⟨w.heap.size+1,0,none⟩=some (.func (.func 132) #[] #[])/\W'.cell? ⟨w.heap.size,0,none⟩=some (.slice (some ⟨b,o,none⟩) l.length c)/\W'.cell? ⟨b,o+k*3,none⟩=some (.string s.name)/\W'.cell? ⟨b,o+k*3+1,none⟩=some (.bool s.inp)/\W'.cell? ⟨b,o+k*3+2,none⟩=some (.int .i64 s.size)) (by kernel_rfl) (by kernel_rfl) (λ h=>by obtain⟨_,_,h⟩:=h;exact h) ⟨t1,t0,x0,x1,x2⟩ (λ hHeld=>?_);clear t0 t1 x0 x1 x2;refine dS 0 ?_ rfl (by kernel_rfl) (λ _ _ _ h=>h) ?_ (by assumption) ?_
  rotate_left
  ·intro w hSw;(try dsimp only at hSw);go_simp;(try(with_reducible rfl))
  try simp only[Act.put,bn,bC,bD]
  refine dS 1 ?_ rfl (by kernel_rfl) (λ _ _ _ h=>h) ?_ (by assumption) ?_
  rotate_left
  ·intro w hSw;(try dsimp only at hSw);go_simp;(try(with_reducible rfl))
  try simp only[Act.put,bn,bC,bD]
  refine dS 2 ?_ rfl (by kernel_rfl) (λ _ _ _ h=>h) ?_ (by assumption) ?_
  rotate_left
  ·intro w hSw;(try dsimp only at hSw);go_simp;(try(with_reducible rfl))
  try simp only[Act.put,bn,bC,bD]
  refine dS 3 ?_ rfl (by kernel_rfl) (λ _ _ _ h=>h) ?_ (by assumption) ?_
  rotate_left
  ·intro w hSw;(try dsimp only at hSw);go_simp;(try(with_reducible rfl))
  try simp only[Act.put,bn,bC,bD]
  refine dS 4 ?_ rfl (by kernel_rfl) (λ _ _ _ h=>h) ?_ (by assumption) ?_
  rotate_left
  ·intro w hSw;(try dsimp only at hSw);go_simp;(try(with_reducible rfl))
  try simp only[Act.put,bn,bC,bD]
  refine lK 5 (by kernel_rfl) rfl λ K hK=>?_
  go_simp
  refine(KJ (.int .i64 0) s.name s.inp s.size _).mono ?_;rintro e V3 ⟨rfl,hb3⟩;have vO:=hid (show Below W3.heap.size W3 V3 from((Below.refl _ _).drew).trans (hb3.mono (by simp)));have kH:=hid tl0;have LU:=hid hlb
  have hq:V3.cell? ⟨w.heap.size+1,0,none⟩=some (.func (.func 132) #[] #[])/\V3.cell? ⟨w.heap.size,0,none⟩=some (.slice (some ⟨b,o,none⟩) l.length c)/\V3.cell? ⟨b,o+k*3,none⟩=some (.string s.name)/\V3.cell? ⟨b,o+k*3+1,none⟩=some (.bool s.inp)/\V3.cell? ⟨b,o+k*3+2,none⟩=some (.int .i64 s.size):=by
   obtain⟨h1,h2,h3,h4,h5⟩:=hHeld;exact⟨(hb3.cell (World.block_lt_of_cell? _ _ h1)).trans h1,(hb3.cell (World.block_lt_of_cell? _ _ h2)).trans h2,(hb3.cell (World.block_lt_of_cell? _ _ h3)).trans h3,(hb3.cell (World.block_lt_of_cell? _ _ h4)).trans h4,(hb3.cell (World.block_lt_of_cell? _ _ h5)).trans h5⟩
  refine hK.out _ _ hq (λ hHeld=>?_);clear hK K hb3 tl0 hlb
  try simp only[Act.put,bn,bC,bD]
  refine wpAnyH_done (by kernel_rfl) ?_ _;clear hHeld;obtain⟨-,q1, -, -,q4⟩:=hq;have HN3:=hid ((vO.out.block _ (lt_of_block HI3.out)).trans HI3.out);have r0:=aj HN3.out (i:=0) rfl;have r1:=aA HN3.out (i:=0);have r2:=lt_of_block HN3.out;have q5:w.heap.size<V3.heap.size:=Nat.lt_of_lt_of_le kH.out vO.out.size;have q6:b<V3.heap.size:=Nat.lt_of_lt_of_le LU.out vO.out.size;have HWN:=hid (show fB l (k+1)=fB l k*s.size by rw[Ea HKL.out,jI.out])
  have hwr:IntKind.i64.wrap (fB l k*s.size)=fB l k*s.size :=
   (qG HV.out k (Nat.le_of_lt HKL.out)).wrap (s:=s.size) (by have:=(gI HV.out).2.1;have:=HKL.out;omega) lM.out.2.1 lM.out.2.2
  obtain⟨z,hz⟩:∃z,fB l k=z:=⟨_,rfl⟩;rw[hz]at r0 hwr HWN;clear hz
  gi_upto_region 7 with(fail)
  refine pY (λ W'=>W'.cell? ⟨nb,0,none⟩=some (.int .i64 z)/\W'.cell? ⟨w.heap.size,0,none⟩=some (.slice (some ⟨b,o,none⟩) l.length c)/\W'.cell? ⟨b,o+k*3+2,none⟩=some (.int .i64 s.size)) (by kernel_rfl) (by kernel_rfl) (λ h=>by obtain⟨_,_,h⟩:=h;exact h) (by kernel_rfl) (by kernel_rfl) ⟨r0,q1,q4⟩ (λ hHeld=>?_);simp only[List.dropLast_cons_cons,List.dropLast_singleton,List.getLast_cons_cons,List.getLast_singleton];refine dS 0 ?_ rfl (by kernel_rfl) (λ _ _ _ h=>h) ?_ (by assumption) ?_
  rotate_left
  ·intro w hSw;(try dsimp only at hSw);go_simp;(try(with_reducible rfl))
  try simp only[Act.put,bn,bC,bD]
  refine dS 1 ?_ rfl (by kernel_rfl) (λ _ _ _ h=>h) ?_ (by assumption) ?_
  rotate_left
  ·intro w hSw;(try dsimp only at hSw);go_simp;(try(with_reducible rfl))
  try simp only[Act.put,bn,bC,bD]
  refine dS 2 ?_ rfl (by kernel_rfl) (λ _ _ _ h=>h) ?_ (by assumption) ?_
  rotate_left
  ·intro w hSw;(try dsimp only at hSw);go_simp;(try(with_reducible rfl))
  try simp only[Act.put,bn,bC,bD]
  refine dS 3 ?_ rfl (by kernel_rfl) (λ _ _ _ h=>h) ?_ (by assumption) ?_
  rotate_left
  ·intro w hSw;(try dsimp only at hSw);go_simp;(try(with_reducible rfl))
  try simp only[Act.put,bn,bC,bD]
  refine dS 4 ?_ rfl (by kernel_rfl) (λ _ _ _ h=>h) ?_ (by assumption) ?_
  rotate_left
  ·intro w hSw;(try dsimp only at hSw);go_simp;(try(with_reducible rfl))
  try simp only[Act.put,bn,bC,bD]
  refine dS 5 ?_ rfl (by kernel_rfl) (λ _ _ _ h=>h) ?_ (by assumption) ?_
  rotate_left
  ·intro w hSw;(try dsimp only at hSw);go_simp;(try(with_reducible rfl))
  try simp only[Act.put,bn,bC,bD]
  refine dS 6 ?_ rfl (by kernel_rfl) (λ _ _ _ h=>h) ?_ (by assumption) ?_
  rotate_left
  ·intro w hSw;(try dsimp only at hSw);go_simp;(try(with_reducible rfl))
  try simp only[Act.put,bn,bC,bD]
  refine wpAnyH_done (by kernel_rfl) ?_ _;unfold kZ
  go_simp
  gi_wp2_with fail
  refine⟨((aH.aS (V := λ x=>x=nb) vO.out).set ⟨nb,0,none⟩ _ λ _=>rfl).drew,?_⟩;show(V3.setCell ⟨nb,0,none⟩ (.int .i64 (z*s.size))).heap[nb]?=some (Obj.cells #[.int .i64 (fB l (k+1))] 3 (0,0));rw[aB HN3.out,HWN.out];rfl
 case hdone =>
  rintro W3 hc h1 hD3;have r0:=aj h1 (i:=0) rfl
  dsimp only
  go_wp2_with fail
  have hbf:=aT.out.trans (hc.below (B:=w.heap.size) (λ x hx=>by have:=lW.out;omega) aT.out.size);have hpl:fB l l.length=mV l:=by unfold fB;rw[List.take_length]
  refine fZ rfl hD3 (v := .int .i64 (fB l l.length)) (λ w' hc'=>?_) (λ w' hc'=>⟨by rw[HR.out,hpl],hbf.trans (hc'.below (λ x hx=>by have:=HS2.out;have:=lW.out;omega) hbf.size)⟩);simp[results,Tryz.results131,go_sem]
theorem DT {D:Dom}(l:List Sg)(A:Option Addr)(n c:Nat)(w:World)(hn:n=l.length)(h:ng w D A c l)(hk:GK w) :
  Calls Tryz.prog 101 #[.slice A n c] w λ e w'=>e = .returned (.int .i64 (dh l))/\Below w.heap.size w w':=by
 subst hn;have HC:=hid (Vk l A l.length c w rfl h hk);clear h hk
 go_enter Tryz.func101,Tryz.ntmps101
 go_wp2_with (go_at_call 131;(with_reducible refine HC.out.mono ?_);rintro e V ⟨rfl,hb⟩)
 go_ret
 exact⟨dD rfl,hb⟩
theorem Jl {D:Dom}{l:List Sg}{A:Option Addr}{n c:Nat}{w:World}(r:Int)(hr:dh l=r)(hn:n=l.length)(h:ng w D A c l)(hk:GK w) :
  Calls Tryz.prog 101 #[.slice A n c] w λ e w'=>e = .returned (.int .i64 r)/\Below w.heap.size w w':=by
 subst hr;exact DT l A n c w hn h hk
end Go.Proofs.YtdpbgcmfeajigaaGreatDoor
namespace Go.Proofs.YtdpbgcmfeajigaaGreatDoor
open Go.RowKit Go.Shelf
attribute [local go_sem] ak run_store_func Oper.semAt_some
def gy (l:List Sg)(x:Int)(i:Nat):Int:=x / fB l i % (l.getD i default).size
theorem sU {l:List Sg}(hv:dN l=true){i:Nat}(hi:i<=l.length):1<=fB l i/\fB l i<=4096:=by
 have h:=qG hv i hi;refine⟨h.lo,Int.le_trans h.hi ?_⟩;have h6:=(gI hv).2.1;have:i=0\/i=1\/i=2\/i=3\/i=4\/i=5\/i=6:=by omega
 rcases this with rfl|rfl|rfl|rfl|rfl|rfl|rfl <;> decide
theorem nI {l:List Sg}{x:Int}(h0:0<=x)(h:x<dh l):dN l=true/\dh l=mV l/\x<64:=by
 unfold dh at h⊢;cases hv:dN l
 ·rw[hv]at h
  have h:x<0:=h;omega
 ·rw[hv]at h
  have h:x<mV l:=h;have:=(gI hv).2.2.1;exact⟨rfl,rfl,by omega⟩
theorem JO {D:Dom}(l:List Sg)(A:Option Addr)(n c:Nat)(x:Int)(i:Nat)(w:World)(hn:n=l.length)(h:ng w D A c l)(hk:GK w)(h0:0<=x)(hx:x<dh l)(hi:i<l.length) :
  Calls Tryz.prog 102 #[.slice A n c,.int .i64 x,.int .i64 (i:Int)] w λ e w'=>e = .returned (.int .i64 (gy l x i))/\Below w.heap.size w w':=by
 subst hn;obtain⟨hv,hlz,h64⟩:=nI h0 hx;have HL:=hid h.old;have HK:=hid hk;have HV:=hid hv;have HI:=hid hi;have HX:=hid (show 0<=x/\x<64 from⟨h0,h64⟩);have hlen:=h.len.1;obtain⟨lz,hlz'⟩:∃lz,dh l=lz:=⟨_,rfl⟩;have UL:=hid hlz';rw[hlz']at hx;have d1:¬x<0:=by omega
 have e1:decide (x<0)=false:=decide_eq_false d1;have d2:¬lz<=x:=by omega
 have e2:decide (lz<=x)=false:=decide_eq_false d2;have d3:¬(i:Int)<0:=by omega
 have e3:decide ((i:Int)<0)=false:=decide_eq_false d3;have d4:¬(l.length:Int)<=(i:Int):=by omega
 have e4:decide ((l.length:Int)<=(i:Int))=false:=decide_eq_false d4;clear h hk hv hlz h64 hlz' h0 hx hi;refine(callsIn_wide (n:=3)).1 (callsIn_of_wp_marks Tryz.func102 rfl trivial ?_ rfl);simp only[Tryz.ntmps102,List.size_toArray,List.length_cons,List.length_nil,Nat.reduceAdd,Nat.reduceSub,Array.replicate_succ,Array.replicate_zero,List.push_toArray,List.append_toArray,List.nil_append,List.cons_append];refine wpIn_wide.2 ?_;go_upto_region 1 with(fail)
 refine aC λ W hW=>?_;have HB:=hid (show Below w.heap.size w W by rw[hW];go_grown);have mW:=hid (show W.heap[w.heap.size]?=some (.cells #[.slice A l.length c] 34 (0,0))by rw[hW,aQ _ _ _ (by first|(simp;done)|(simp;omega)),aQ _ _ _ (by first|(simp;done)|(simp;omega)),aQ _ _ _ (by simp)];exact at_new _ _ _ rfl);have kG:=hid (show W.heap[w.heap.size+1]?=some (.cells #[.int .i64 x] 3 (0,0))by rw[hW,aQ _ _ _ (by first|(simp;done)|(simp;omega)),aQ _ _ _ (by simp)];exact at_new _ _ _ (by simp));have HE2:=hid (show W.heap[w.heap.size+2]?=some (.cells #[.int .i64 (i:Int)] 3 (0,0))by rw[hW,aQ _ _ _ (by simp)];exact at_new _ _ _ (by simp))
 have Iq:=hid (show W.heap[w.heap.size+3]?=some (.cells #[.int .i64 0] 3 (0,0))by rw[hW];exact at_new _ _ _ (by simp));have HS:=hid (show W.heap.size=w.heap.size+4 by rw[hW];simp);clear hW
 have aI:Hid (∀W':World,Below W.heap.size W W'->W'.cell? ⟨w.heap.size,0,none⟩=some (.slice A l.length c)/\W'.cell? ⟨w.heap.size+1,0,none⟩=some (.int .i64 x)/\W'.cell? ⟨w.heap.size+2,0,none⟩=some (.int .i64 (i:Int))):=hid λ W' hb =>
  ⟨aj ((hb.block _ (lt_of_block mW.out)).trans mW.out) (i:=0) rfl,aj ((hb.block _ (lt_of_block kG.out)).trans kG.out) (i:=0) rfl,aj ((hb.block _ (lt_of_block HE2.out)).trans HE2.out) (i:=0) rfl⟩
 have HC:Hid (∀W':World,Below W.heap.size W W'->Calls Tryz.prog 101 #[.slice A l.length c] W' λ e w'=>e = .returned (.int .i64 lz)/\Below W.heap.size W w'):=hid λ W' hb=>by
  refine(Jl (l:=l) (w:=W') (n:=l.length) lz UL.out rfl (HL.out.any (au HB.out hb)) (HK.out.below (au HB.out hb) HK.out.pos)).mono ?_;rintro e w' ⟨rfl,hb'⟩;exact⟨rfl,au hb hb'⟩
 have HI1:=hid (show Below W.heap.size W W.drew from(Below.refl _ _).drew);have HI2:=hid (show∀i,Below W.heap.size W (W.drewN i)from λ i=>(aU.n W i).below _);obtain⟨s0,s1,s2⟩:=aI.out W (Below.refl _ _)
 go_region_held3 (λ W':World=>W'.cell? ⟨w.heap.size,0,none⟩=some (.slice A l.length c)/\W'.cell? ⟨w.heap.size+1,0,none⟩=some (.int .i64 x)/\W'.cell? ⟨w.heap.size+2,0,none⟩=some (.int .i64 (i:Int)))
  (first|(with_reducible exact aI.out _ hI)|(go_keep;done))
  ((go_at_call 101;(with_reducible refine(HC.out _ (by first|exact HI1.out|exact HI2.out _)).mono ?_);rintro e V ⟨rfl,hI⟩))
 all_goals
  have iD:=hid hI;clear hI s0 s1 s2 HI1 HI2;obtain⟨s0,s1,s2⟩:=aI.out _ iD.out;have s3:=lt_of_block ((iD.out.block _ (lt_of_block mW.out)).trans mW.out);clear s1 s2;go_wp2_with (go_at_call 85;refine(xI A l.length c _).mono ?_;rintro e w2 ⟨rfl,rfl⟩)
  refine aC λ W2 hW2=>?_;have hb2:Below V.heap.size V W2:=by rw[hW2];go_grown
  have HP:=hid (show W2.cell? ⟨V.heap.size,0,none⟩=some (.slice A l.length c)by rw[hW2];exact aj (at_new _ _ _ rfl) (i:=0) rfl);have HS2:=hid (show W2.heap.size=V.heap.size+1 by rw[hW2];simp);have uN:=hid (au iD.out hb2);have aT:=hid (au HB.out uN.out);have zi:=hid (show w.heap.size+4<=V.heap.size by have:=iD.out.size;have:=HS.out;omega);have HF3:=hid ((uN.out.block _ (lt_of_block Iq.out)).trans Iq.out);have TI:=hid ((HL.out.keep (Keeps.of_below aT.out λ _ h=>h)).mono (E := λ x=>x<w.heap.size\/x=V.heap.size) λ k hk hl => .inl hk);have HCW:=hid (aI.out _ uN.out);clear hW2 hb2 s0 s3
  have Hy:=hid (sV A c V.heap.size (λ x=>x<w.heap.size\/x=V.heap.size) W2 HV.out TI.out HP.out (.inr rfl) (λ x hx=>by have:=HS2.out;have:=zi.out;omega))
  refine CW 123 #[.pointer (some ⟨V.heap.size,0,none⟩)] l.length 0 (λ x=>x<w.heap.size\/x=V.heap.size) (UD l) (λ x=>x=w.heap.size+3)
   (λ k W'=>k<=i/\W'.heap[w.heap.size+3]?=some (.cells #[.int .i64 0] 3 (0,0)))
   (λ c W'=>c = .ret/\W'.heap[w.heap.size+3]?=some (.cells #[.int .i64 (gy l x i)] 3 (0,0)))
   (enters_of Tryz.func123 (by kernel_rfl) rfl) rfl rfl Hy.out (λ x hx=>by have:=HS2.out;have:=zi.out;omega) (λ _ _ _ _ _ h _=>h) ?hZ ?hI ?hIx ⟨Nat.zero_le _,HF3.out⟩ ?a1 ?hassign ?dY ?hdone ?hstop (λ h=>by cases h)
  case hassign =>
   intro l u v W K hK
   gi_wp2
   exact hK
  case hZ=>intro x hx;have:=HS2.out;have:=zi.out;exact⟨by omega,by omega⟩
  case hI=>rintro k W3 W4 ⟨h1,h2⟩ hc;exact⟨h1,hc.box h2 (by have:=HS2.out;have:=zi.out;omega)⟩
  case hIx=>rintro c W3 W4 ⟨h1,h2⟩ hc;exact⟨h1,hc.box h2 (by have:=HS2.out;have:=zi.out;omega)⟩
  case dY =>
   rintro ln k W3 u v hs3 hc3 ⟨hki,Xp⟩ hkl ⟨rfl,rfl⟩;have HKL:=hid hkl;have HKI:=hid hki;have HI3:=hid Xp;obtain⟨t0,t1,t2⟩:=HCW.out;have AQ:∀(b:Nat) (v:Value),b≠w.heap.size+3->W2.cell? ⟨b,0,none⟩=some v->W3.cell? ⟨b,0,none⟩=some v := λ b v hb hv=>(World.cell?_of_block (w:=W2) (a:=⟨b,0,none⟩) (hc3.block b (World.block_lt_of_cell? _ _ hv) hb)).trans hv;have q0:=AQ _ _ (by omega) t0;have q1:=AQ _ _ (by omega) t1;have q2:=AQ _ _ (by omega) t2;have ql:=World.block_lt_of_cell? _ _ q0
   by_cases qd8:k=i
   ·have dk:((k:Int)==(i:Int))=true:=by rw[qd8];exact beq_self_eq_true _
    have hk0:(0:Int)<=(i:Int):=by omega
    have hkk:(i:Int)<(l.length:Int):=by have:=HI.out;omega
    obtain⟨b,o,s,rfl,hlb,HSX,x0,x1,x2⟩:=(TI.out.keep (hc3.keeps λ x _ h e=>by have:=zi.out;omega)).get HI.out;have lM:=hid (pG ((gI HV.out).2.2.2 i HI.out));have hwb:=sU HV.out (Nat.le_of_lt HI.out);have HVZ:=hid (show gy l x i=x / fB l i % s.size by unfold gy;rw[HSX.out]);rw[HSX.out]at lM;obtain⟨z,hz⟩:∃z,fB l i=z:=⟨_,rfl⟩;rw[hz]at hwb HVZ;have hxx:=HX.out;obtain⟨d,hd⟩:∃d,x / z=d:=⟨_,rfl⟩;have hq:x.tdiv z=d:=by rw[Int.tdiv_eq_ediv_of_nonneg hxx.1];exact hd
    have hdb:0<=d/\d<64:=by rw[<-hd];exact⟨Int.ediv_nonneg hxx.1 (by omega),Int.lt_of_le_of_lt (Int.ediv_le_self z hxx.1) hxx.2⟩
    obtain⟨r,hr⟩:∃r,d % s.size=r:=⟨_,rfl⟩;have hm:d.tmod s.size=r:=by rw[Int.tmod_eq_emod_of_nonneg hdb.1];exact hr
    rw[hd,hr]at HVZ
    have hrb:0<=r/\r<4:=by
     rw[<-hr];have:=lM.out.2;exact⟨Int.emod_nonneg _ (by omega),Int.lt_of_lt_of_le (Int.emod_lt_of_pos _ (by omega)) (by omega)⟩
    have w1:IntKind.i64.wrap d=d:=IntWalk.i64_in _ (by omega);have w2:IntKind.i64.wrap r=r:=IntWalk.i64_in _ (by omega);have n1:¬z=0:=by omega
    have n2:(z==0)=false:=ay n1;have n3:¬s.size=0:=by have:=lM.out.2;omega
    have n4:(s.size==0)=false:=ay n3;have r0:=aj HI3.out (i:=0) rfl;have r1:=aA HI3.out (i:=0);have r2:=lt_of_block HI3.out;have HHC:=hid hc3;rw[qd8,hz];clear Xp hkl hki qd8 t0 t1 t2 AQ hd hr HSX x0 x1 hc3 hz dk;have dk:((i:Int)==(i:Int))=true:=beq_self_eq_true _
    gi_upto_region 7 with(fail)
    refine pY (λ W'=>W'.cell? ⟨w.heap.size+1,0,none⟩=some (.int .i64 x)/\W'.cell? ⟨w.heap.size,0,none⟩=some (.slice (some ⟨b,o,none⟩) l.length c)/\W'.cell? ⟨w.heap.size+2,0,none⟩=some (.int .i64 (i:Int))/\W'.cell? ⟨b,o+i*3+2,none⟩=some (.int .i64 s.size)) (by kernel_rfl) (by kernel_rfl) (λ h=>by obtain⟨_,_,h⟩:=h;exact h) (by kernel_rfl) (by kernel_rfl) ⟨q1,q0,q2,x2⟩ (λ hHeld=>?_);simp only[List.dropLast_cons_cons,List.dropLast_singleton,List.getLast_cons_cons,List.getLast_singleton];refine dS 0 ?_ rfl (by kernel_rfl) (λ _ _ _ h=>h) ?_ (by assumption) ?_
    rotate_left
    ·intro w hSw;(try dsimp only at hSw);go_simp;(try(with_reducible rfl))
    try simp only[Act.put,bn,bC,bD]
    refine dS 1 ?_ rfl (by kernel_rfl) (λ _ _ _ h=>h) ?_ (by assumption) ?_
    rotate_left
    ·intro w hSw;(try dsimp only at hSw);go_simp;(try(with_reducible rfl))
    try simp only[Act.put,bn,bC,bD]
    refine dS 2 ?_ rfl (by kernel_rfl) (λ _ _ _ h=>h) ?_ (by assumption) ?_
    rotate_left
    ·intro w hSw;(try dsimp only at hSw);go_simp;(try(with_reducible rfl))
    try simp only[Act.put,bn,bC,bD]
    refine dS 3 ?_ rfl (by kernel_rfl) (λ _ _ _ h=>h) ?_ (by assumption) ?_
    rotate_left
    ·intro w hSw;(try dsimp only at hSw);go_simp;(try(with_reducible rfl))
    try simp only[Act.put,bn,bC,bD]
    refine dS 4 ?_ rfl (by kernel_rfl) (λ _ _ _ h=>h) ?_ (by assumption) ?_
    rotate_left
    ·intro w hSw;(try dsimp only at hSw);go_simp;(try(with_reducible rfl))
    try simp only[Act.put,bn,bC,bD]
    refine dS 5 ?_ rfl (by kernel_rfl) (λ _ _ _ h=>h) ?_ (by assumption) ?_
    rotate_left
    ·intro w hSw;(try dsimp only at hSw);go_simp;(try(with_reducible rfl))
    try simp only[Act.put,bn,bC,bD]
    refine dS 6 ?_ rfl (by kernel_rfl) (λ _ _ _ h=>h) ?_ (by assumption) ?_
    rotate_left
    ·intro w hSw;(try dsimp only at hSw);go_simp;(try(with_reducible rfl))
    try simp only[Act.put,bn,bC,bD]
    refine dS 7 ?_ rfl (by kernel_rfl) (λ _ _ _ h=>h) ?_ (by assumption) ?_
    rotate_left
    ·intro w hSw;(try dsimp only at hSw);go_simp;(try(with_reducible rfl))
    try simp only[Act.put,bn,bC,bD]
    refine dS 8 ?_ rfl (by kernel_rfl) (λ _ _ _ h=>h) ?_ (by assumption) ?_
    rotate_left
    ·intro w hSw;(try dsimp only at hSw);go_simp;(try(with_reducible rfl))
    try simp only[Act.put,bn,bC,bD]
    refine wpAnyH_done (by kernel_rfl) ?_ _;unfold kZ
    go_simp
    gi_wp2_with fail
    refine⟨((aH.refl (λ x=>x=w.heap.size+3) W3).set ⟨w.heap.size+3,0,none⟩ _ λ _=>rfl).drew,rfl,?_⟩;show(W3.setCell ⟨w.heap.size+3,0,none⟩ (.int .i64 r)).heap[w.heap.size+3]?=some (Obj.cells #[.int .i64 (gy l x i)] 3 (0,0));rw[aB HI3.out,HVZ.out];rfl
   ·have dk:((k:Int)==(i:Int))=false:=ay (by omega)
    clear Xp hkl hki t0 t1 t2 AQ q0 q1
    gi_wp2_with fail
    exact⟨aH.refl _ _,by have:=HKI.out;omega,HI3.out⟩
  case hdone =>
   rintro W3 hc ⟨h1,h2⟩ hD3;exact absurd h1 (by have:=HI.out;omega)
  case hstop =>
   rintro c W3 hc ⟨rfl,h2⟩ hD3
   dsimp only
   go_wp2_with fail
   have hbf:=aT.out.trans (hc.below (B:=w.heap.size) (λ x hx=>by omega) aT.out.size);refine fZ rfl hD3 (v := .int .i64 (gy l x i)) (λ w' hc'=>?_) (λ w' hc'=>⟨rfl,hbf.trans (hc'.below (λ x hx=>by have:=HS2.out;have:=zi.out;omega) hbf.size)⟩);have:=aj (hc'.box h2 (by have:=HS2.out;have:=zi.out;omega)) (i:=0) rfl;simp[results,Tryz.results102,go_sem,this]
end Go.Proofs.YtdpbgcmfeajigaaGreatDoor
