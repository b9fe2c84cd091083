/-
  Parts of a proof: LP XO PA PB PC PD PE PF PG PH PI PJ.
-/
import Derived.ProofKit
import Derived.SizedLaws
import Derived.Deep.Slices
import Derived.Deep.SlicePairs
import Derived.Deep.Fields
import Derived.Lib.SmallJoins
import Derived.Test.YtdpbgcmfeajigaaGreatDoorP23
import Derived.Test.YtdpbgcmfeajigaaGreatDoorP00
import Derived.Test.YtdpbgcmfeajigaaGreatDoorP22
import Derived.Test.YtdpbgcmfeajigaaGreatDoorP21
import Derived.Test.YtdpbgcmfeajigaaGreatDoorP20
set_option linter.unusedSimpArgs false
set_option linter.unusedVariables false
set_option maxHeartbeats 8000000
set_option maxRecDepth 100000
namespace Go.Proofs.YtdpbgcmfeajigaaGreatDoor
open Go.ChangeShapes Go.WideShapes Go.RowKit Go.Deep Go.Joins
def Light {H:Type}(P:Program)(t:TypeId)(d:DataW H):Prop:=(d.weights P t).all (· <= reachBytes)=true
theorem FV {H:Type}{P:Program}{ts:List TypeId}{ds:List (DataW H)}(h:(DataW.weightsEach P ts ds).all (· <= reachBytes)=true){j:Nat}{t:TypeId}{d:DataW H}(ht:ts[j]?=some t)(hd:ds[j]?=some d):Light P t d:=by
 unfold Light;rw[List.all_eq_true]at h⊢;exact fun n hn=>h n (DataW.weights_mem_each ht hd n hn)
theorem Dx {H:Type}{P:Program}{t e:TypeId}{elems spare:List (DataW H)}(hu:P.underlying t=some (.slice e))(h:Light P t (.slice elems spare)) :
  (elems.length+spare.length)*P.bytesOf e<=reachBytes/\∀d∈elems,Light P e d:=by
 unfold Light at h;simp only[DataW.weights,hu,List.all_cons,Bool.and_eq_true,decide_eq_true_eq,List.all_append]at h;refine⟨h.1,fun d hd=>?_⟩
 have key:∀(l:List (DataW H)),(DataW.weightsAll P e l).all (· <= reachBytes)=true->∀d∈l,Light P e d:=by
  intro l
  induction l with
  | nil=>intro _ d hd;cases hd
  | cons x l ih =>
   intro hl d hd;simp only[DataW.weightsAll,List.all_append,Bool.and_eq_true]at hl
   rcases List.mem_cons.1 hd with rfl|hd
   ·exact hl.1
   ·exact ih hl.2 d hd
 exact key elems h.2.1 d hd
section
variable {H:Type}{enc:TypeId×Value->H}{w:World}{base:Nat}{held:Bool}
theorem Gg {a:Addr}{u:Value}(h:w.cell? (a.add 0)=some u):a=⟨a.block,a.off,none⟩/\a.block<w.heap.size:=by
 have h0:a.add 0=a:=by unfold Addr.add;simp
 rw[h0]at h;refine⟨?_,World.block_lt_of_cell? w a h⟩;obtain⟨b,o,s⟩:=a
 cases s with
 | none=>rfl
 | some s =>
  unfold World.cell? at h
  split at h <;> simp at h
theorem XO (b o k:Nat):(⟨b,o,none⟩:Addr).add k=⟨b,o+k,none⟩:=by
 unfold Addr.add
 by_cases h:k=0 <;> simp[h]
theorem NG {α : Type}(l:List α)(x d : α)(j:Nat):(l ++ [x]).getD j d=if j<l.length then l.getD j d else if j=l.length then x else d:=by
 simp only[List.getD,List.getElem?_append]
 split
 ·rfl
 ·split
  ·rename_i h h2;subst h2;simp
  ·rename_i h h2
   rw[List.getElem?_eq_none (by simp;omega)];rfl
theorem Dn {α : Type}(d : α){n:Nat}{P:Nat -> α -> Prop}(h:∀i,i<n->∃x,P i x):∃l:List α,l.length=n/\∀i,i<n->P i (l.getD i d):=by
 induction n with
 | zero=>exact⟨[],rfl,fun i hi=>absurd hi (Nat.not_lt_zero _)⟩
 | succ n ih =>
  obtain⟨l,hl,hp⟩:=ih (fun i hi=>h i (by omega));obtain⟨x,hx⟩:=h n (by omega);refine⟨l ++ [x],by simp[hl],fun i hi=>?_⟩;rw[NG,hl]
  split
  ·exact hp i ‹_›
  ·rw[if_pos (by omega)]
   obtain rfl:i=n:=by omega
   exact hx
theorem Jh {P:Program}{t:TypeId}{fs:Array Field}{parts:List (DataW H)}(hu:P.underlying t=some (.struct fs))(h:Light P t (.agg parts)){j:Nat}{f:Field}{d:DataW H}(hf:fs[j]?=some f)(hd:parts[j]?=some d):Light P f.type d:=by
 unfold Light at h;simp only[DataW.weights,hu]at h;exact FV h (j:=j) (by simp[hf]) hd
theorem Bz {α : Type}(f : α -> List Value)(s:Nat)(hf:∀x,(f x).length=s)(l:List α):(l.flatMap f).length=l.length*s:=by
 induction l with
 | nil=>simp
 | cons x l ih=>rw[List.flatMap_cons,List.length_append,hf,ih,List.length_cons,Nat.add_mul,Nat.one_mul];omega
theorem JL {α β : Type}:∀l:List (α × β),(l.map Prod.fst).zip (l.map Prod.snd)=l
 | []=>rfl
 | x :: l=>by simp[JL l]
theorem TI:Tryz.prog.cellsOf 24=5:=by kernel_rfl
theorem qaS:Tryz.prog.bytesOf 24=64:=by kernel_rfl
theorem Eo:Tryz.prog.cellsOf 3=1:=by kernel_rfl
theorem TJ:Tryz.prog.cellsOf 9=1:=by kernel_rfl
theorem X4:Tryz.prog.cellsOf 22=1:=by kernel_rfl
theorem DI {n:Nat}{cs:List Value}{y:DataW H×List MemPlace}(h:DataW.trod enc Tryz.prog w base (fun _=>true) held n 24 cs=some y)(hcl:cs.length=5) :
  ∃(o:Int) (s:ByteArray) (v b:Int) (a:Value) (k:Nat) (y4:DataW H×List MemPlace) (d0 d1 d2 d3:DataW H),cs = [.int .i64 o,.string s,.int .i64 v,.int .i64 b,a]/\y.1 = .agg [d0,d1,d2,d3,y4.1]/\DataW.trod enc Tryz.prog w base (fun _=>true) held k 22 [a]=some y4:=by
 obtain⟨xs,k',_,hxy,_,hyl,hf⟩:=DataW.trod_struct Tryz.underlying24 h
 match xs,hyl,cs,hcl with
 | [y0,y1,y2,y3,y4],_,[v0,v1,v2,v3,v4],_ =>
  have g0:DataW.trod enc Tryz.prog w base (fun _=>true) held k' 3 [v0]=some y0:=by
   have:=hf 0 _ rfl
   change DataW.trod enc Tryz.prog w base (fun _=>true) held k' 3 (([v0,v1,v2,v3,v4].drop 0).take (Tryz.prog.cellsOf 3))=some y0 at this
   rw[Eo]at this;simpa using this
  have g1:DataW.trod enc Tryz.prog w base (fun _=>true) held k' 9 [v1]=some y1:=by
   have:=hf 1 _ rfl
   change DataW.trod enc Tryz.prog w base (fun _=>true) held k' 9 (([v0,v1,v2,v3,v4].drop 1).take (Tryz.prog.cellsOf 9))=some y1 at this
   rw[TJ]at this;simpa using this
  have g2:DataW.trod enc Tryz.prog w base (fun _=>true) held k' 3 [v2]=some y2:=by
   have:=hf 2 _ rfl
   change DataW.trod enc Tryz.prog w base (fun _=>true) held k' 3 (([v0,v1,v2,v3,v4].drop 2).take (Tryz.prog.cellsOf 3))=some y2 at this
   rw[Eo]at this;simpa using this
  have g3:DataW.trod enc Tryz.prog w base (fun _=>true) held k' 3 [v3]=some y3:=by
   have:=hf 3 _ rfl
   change DataW.trod enc Tryz.prog w base (fun _=>true) held k' 3 (([v0,v1,v2,v3,v4].drop 3).take (Tryz.prog.cellsOf 3))=some y3 at this
   rw[Eo]at this;simpa using this
  have g4:DataW.trod enc Tryz.prog w base (fun _=>true) held k' 22 [v4]=some y4:=by
   have:=hf 4 _ rfl
   change DataW.trod enc Tryz.prog w base (fun _=>true) held k' 22 (([v0,v1,v2,v3,v4].drop 4).take (Tryz.prog.cellsOf 22))=some y4 at this
   rw[X4]at this;simpa using this
  obtain⟨z0,hz0,_⟩:=DataW.trod_int Tryz.underlying3 g0;obtain⟨z1,hz1,_⟩:=DataW.trod_string Tryz.underlying9 g1;obtain⟨z2,hz2,_⟩:=DataW.trod_int Tryz.underlying3 g2;obtain⟨z3,hz3,_⟩:=DataW.trod_int Tryz.underlying3 g3;have e0:v0 = .int .i64 z0:=by simpa using hz0
  have e1:v1 = .string z1:=by simpa using hz1
  have e2:v2 = .int .i64 z2:=by simpa using hz2
  have e3:v3 = .int .i64 z3:=by simpa using hz3
  refine⟨z0,z1,z2,z3,v4,k',y4,y0.1,y1.1,y2.1,y3.1,by rw[e0,e1,e2,e3],?_,g4⟩;rw[hxy];rfl
theorem qbB:∀(N:Nat) {n:Nat} {v:Value} {y:DataW H×List MemPlace},SizeOf.sizeOf y.1<=N->DataW.trod enc Tryz.prog w base (fun _=>true) held n 22 [v]=some y->Light Tryz.prog 22 y.1 ->
  ∃(A:Option Addr) (c:Nat) (l:List Fm),v = .slice A l.length c/\bM w (· < w.heap.size) l A c:=by
 intro N
 induction N with
 | zero =>
  intro n v y hN h hl
  exfalso
  have:0<SizeOf.sizeOf y.1:=by cases y.1 <;> simp <;> omega
  omega
 | succ N ih =>
  intro n v y hN h hl
  rcases open_slice Tryz.underlying22 h with⟨hv,rfl⟩|⟨a,len,cap,m,k,D,Pl,hv,hb,hlc,hcm,hmm,rfl,hx⟩
  ·obtain rfl:v = .slice none 0 0:=by simpa using hv
   exact⟨none,0,[],rfl,bM.nil _ _ _ (by omega)⟩
  ·obtain rfl:v = .slice (some a) len cap:=by simpa using hv
   simp only[if_true]at hmm;obtain rfl:cap=m:=hmm.symm;obtain⟨h8,hin⟩:=Dx Tryz.underlying22 hl;rw[qaS]at h8;simp only[List.length_map,List.length_range,reachBytes]at h8;rw[TI]at hx
   have each:∀i,i<len->∃q:Fm×(Option Addr×Nat),w.cell? (a.add (i*5))=some (.int .i64 q.1.op)/\w.cell? (a.add (i*5+1))=some (.string q.1.name)/\w.cell? (a.add (i*5+2))=some (.int .i64 q.1.val)/\w.cell? (a.add (i*5+3))=some (.int .i64 q.1.bound)/\w.cell? (a.add (i*5+4))=some (.slice q.2.1 q.1.args.length q.2.2)/\bM w (· < w.heap.size) q.1.args q.2.1 q.2.2:=by
    intro i hi;obtain⟨cs',hc,ht'⟩:=hx i (by omega);obtain⟨_,hcl,hat⟩:=World.cells?_some hc;obtain⟨o,s,vv,bb,av,k2,y4,d0,d1,d2,d3,rfl,hy,g4⟩:=DI ht' hcl;have hDm:D i∈(List.range len).map D:=List.mem_map.2 ⟨i,by simp[hi],rfl⟩;have sW:=hin (D i) hDm;have hy:D i = .agg [d0,d1,d2,d3,y4.1]:=hy;have hs1:SizeOf.sizeOf (D i)<SizeOf.sizeOf ((List.range len).map D):=List.sizeOf_lt_of_mem hDm
    have hs2:SizeOf.sizeOf y4.1<=N:=by
     rw[hy]at hs1;simp at hN hs1;omega
    rw[hy]at sW;obtain⟨A2,c2,l2,e4,r2⟩:=ih hs2 g4 (Jh Tryz.underlying24 sW (j:=4) rfl rfl);have c0:=hat 0 (by omega);have c1:=hat 1 (by omega);have c2':=hat 2 (by omega);have c3:=hat 3 (by omega);have c4:=hat 4 (by omega);rw[Go.Deep.add_add]at c0 c1 c2' c3 c4;exact⟨(.mk o s vv bb l2,(A2,c2)),by simpa[Fm.op]using c0,by simpa[Fm.name]using c1,by simpa[Fm.val]using c2',by simpa[Fm.bound]using c3,by simpa[e4,Fm.args]using c4,r2⟩
   obtain⟨qs,hgl,hg⟩:=Dn (default,(none,0)) each;have hz:(qs.map Prod.fst).zip (qs.map Prod.snd)=qs:=JL qs;have hlen:(qs.map Prod.snd).length=(qs.map Prod.fst).length:=by simp
   refine⟨some a,cap,qs.map Prod.fst,by rw[List.length_map,hgl],.mk _ _ _ (qs.map Prod.snd) hlen ?_ fun i hi=>?_⟩
   ·rw[List.length_map]
    have hfl:(bI (qs.map Prod.fst) (qs.map Prod.snd)).length=qs.length*5:=by
     unfold bI;rw[hz];exact Bz _ 5 (fun _=>rfl) qs
    refine⟨⟨hfl,by omega,by omega,hcm⟩,fun hn=>?_⟩;rw[hgl]at hn;obtain⟨ha,hlt⟩:=Gg (by simpa using(hg 0 hn).1);refine⟨a.block,a.off,by rw[<-ha],hlt,hlt,fun j u hu=>?_⟩
    have hjl:j<qs.length*5:=by
     rcases Nat.lt_or_ge j (qs.length*5)with h|h
     ·exact h
     ·rw[List.getElem?_eq_none (by rw[hfl];exact h)]at hu;cases hu
    obtain⟨q,r,rfl,hr⟩:∃q r,j=q*5+r/\r<5:=⟨j / 5,j % 5,by omega,by omega⟩;have hq:q<qs.length:=by omega
    rw[kF hlen (by simpa using hq) hr]at hu;have e1:(qs.map Prod.fst).getD q default=(qs.getD q (default,(none,0))).1:=by simp[List.getD,hq]
    have e2:(qs.map Prod.snd).getD q (none,0)=(qs.getD q (default,(none,0))).2:=by simp[List.getD,hq]
    rw[e1,e2]at hu;obtain⟨c0,c1,c2,c3,c4,_⟩:=hg q (by omega);rw[ha,XO]at c0 c1 c2 c3 c4
    match r,hr with
    | 0,_=>simp only[eH]at hu;have hu:=Option.some.inj hu;rw[<-hu];exact c0
    | 1,_=>simp only[eH]at hu;have hu:=Option.some.inj hu;rw[<-hu];exact c1
    | 2,_=>simp only[eH]at hu;have hu:=Option.some.inj hu;rw[<-hu];exact c2
    | 3,_=>simp only[eH]at hu;have hu:=Option.some.inj hu;rw[<-hu];exact c3
    | 4,_=>simp only[eH]at hu;have hu:=Option.some.inj hu;rw[<-hu];exact c4
   ·rw[List.length_map]at hi
    have:=(hg i (by omega)).2.2.2.2.2;simpa[List.getD,hi]using this
theorem qd8 {v:Value}{d:DataW H}{p:List MemPlace}{r:Reach}{b0:Nat}(hv:Value.okWide Tryz.prog w r b0 24 v)(h:DataW.Trod enc Tryz.prog w base (fun _=>true) held 24 v d p)(hl:Light Tryz.prog 24 d) :
  ∃f:Fm,bG w (· < w.heap.size) v f:=by
 obtain⟨cs,rfl,hsz⟩:=okWide_struct Tryz.underlying24 hv;obtain⟨l⟩:=cs;obtain⟨fuel,hf⟩:=h;have hl5:l.length=5:=hsz.trans TI;obtain⟨o,s,vv,bb,av,k2,y4,d0,d1,d2,d3,e,hy,g4⟩:=DI hf hl5;have e':l = [.int .i64 o,.string s,.int .i64 vv,.int .i64 bb,av]:=e;have hy:d = .agg [d0,d1,d2,d3,y4.1]:=hy;rw[hy]at hl;obtain⟨A2,c2,l2,e4,r2⟩:=qbB _ (Nat.le_refl _) g4 (Jh Tryz.underlying24 hl (j:=4) rfl rfl);subst e' e4;exact⟨.mk o s vv bb l2,A2,c2,rfl,r2⟩
end
theorem Zl:ownKnob Tryz.prog.godebug=none:=by kernel_rfl
theorem NU:laidOutB Tryz.prog=true:=by kernel_rfl
theorem DK {H:Type}{enc:TypeId×Value->H}{W W':World}{sp:Nat->Bool}{t:TypeId}{v:Value}{d:DataW H}{ps:List MemPlace}(hl:laidOutB Tryz.prog=true)(hr:Tryz.prog.readableRec t=true)(hrow:t<Tryz.prog.types.size)
  (h:DataW.Trod enc Tryz.prog W 0 (fun _=>true) true t v d ps) (hb:Below W.heap.size W W') (hlt:∀x∈ps,x.block<W.heap.size) (hsp:∀x∈ps,sp x.block=true):DataW.Trod enc Tryz.prog W' 0 sp true t v d ps :=
 WideElems.Trod_stays hl hr hrow h (fun x hx=>hb.same (hlt x hx)) hsp
theorem Ib {H:Type}{enc:TypeId×Value->H}{P:Program}{f:Func}{s:ChangeSpec}{apart fresh handsOn again:Bool}{W W':World}{args:Array Value}{v:Value}{ds gs:List (DataW H)}{before pa pv:List MemPlace}
  (hW:DataW.Whole enc P f.params.toList s.vars apart W args.toList ds gs before)
  (hres:∀(b:Nat) (sp:Nat->Bool) (hd:Bool),DataW.TrodAll enc P W' b sp hd f.resultTypes.toList (v.resultList f.resultTypes.size) (s.fn H (ds++gs)).results [])
  (hargs:∀sp:Nat->Bool,(∀p∈before,sp p.block=true)->DataW.TrodAll enc P W' 0 sp true f.params.toList args.toList (s.fn H (ds++gs)).args pa)
  (hvars:∀sp:Nat->Bool,(∀p∈before,sp p.block=true)->DataW.TrodVars enc P W' sp s.vars (s.fn H (ds++gs)).vars pv)
  (hps:before=pa++pv) (hb:Below W.heap.size W W')
  (hok:∀(j:Nat) (t:TypeId) (r:Value),f.resultTypes[j]?=some t->(v.resultList f.resultTypes.size)[j]?=some r->Value.okWide P W' .any 0 t r) :
  s.post enc P f apart fresh handsOn again W args v W':=by
 have hlt:∀p∈before,p.block<W.heap.size:=fun p hp=>hW.lt p hp;have hold:∀p∈before,(fun b=>decide (b<W.heap.size)) p.block=true:=fun p hp=>by simpa using hlt p hp
 refine⟨ds,gs,before,[],pa,pv,hW,hres _ _ _,hargs _ hold,hvars _ hold,World.keptBut_mono (fun p hp=>⟨hp,?_⟩) (hb.frame (· ∈ before)),fun _=>?_⟩
 ·rw[hps,List.mem_append]at hp
  exact Or.inr hp
 ·obtain⟨_,_,_,_,_,hz,hn⟩:=hW
  refine⟨hok,_,_,([]++pa)++pv,⟨[]++pa,pv,trodAll_append (hargs _ (fun _ _=>rfl)) (hres _ _ _),hvars _ (fun _ _=>rfl),rfl,?_,?_⟩,?_⟩
  ·intro b off hp
   have hin:MemPlace.cell b off∈before:=by rw[hps];simpa using hp
   rw[hb.frozen (hlt _ hin)];exact hz b off hin
  ·intro ha
   have:=hn ha;rw[hps]at this;simpa using this
  ·intro p hp _
   rw[hps];simpa using hp
theorem qaU:Tryz.prog.cellsOf 103=3:=by kernel_rfl
theorem qaT:Tryz.prog.bytesOf 103=32:=by kernel_rfl
theorem qaV:Tryz.prog.cellsOf 4=1:=by kernel_rfl
section
variable {H:Type}{enc:TypeId×Value->H}{w:World}{base:Nat}{held:Bool}
theorem KP {n:Nat}{cs:List Value}{y:DataW H×List MemPlace}(h:DataW.trod enc Tryz.prog w base (fun _=>true) held n 103 cs=some y)(hcl:cs.length=3) :
  ∃s:Sg,cs=nI s:=by
 obtain⟨xs,k',_,hxy,_,hyl,hf⟩:=DataW.trod_struct Tryz.underlying103 h
 match xs,hyl,cs,hcl with
 | [y0,y1,y2],_,[v0,v1,v2],_ =>
  have g0:DataW.trod enc Tryz.prog w base (fun _=>true) held k' 9 [v0]=some y0:=by
   have:=hf 0 _ rfl
   change DataW.trod enc Tryz.prog w base (fun _=>true) held k' 9 (([v0,v1,v2].drop 0).take (Tryz.prog.cellsOf 9))=some y0 at this
   rw[TJ]at this;simpa using this
  have g1:DataW.trod enc Tryz.prog w base (fun _=>true) held k' 4 [v1]=some y1:=by
   have:=hf 1 _ rfl
   change DataW.trod enc Tryz.prog w base (fun _=>true) held k' 4 (([v0,v1,v2].drop 1).take (Tryz.prog.cellsOf 4))=some y1 at this
   rw[qaV]at this;simpa using this
  have g2:DataW.trod enc Tryz.prog w base (fun _=>true) held k' 3 [v2]=some y2:=by
   have:=hf 2 _ rfl
   change DataW.trod enc Tryz.prog w base (fun _=>true) held k' 3 (([v0,v1,v2].drop 2).take (Tryz.prog.cellsOf 3))=some y2 at this
   rw[Eo]at this;simpa using this
  obtain⟨z0,hz0,_⟩:=DataW.trod_string Tryz.underlying9 g0;obtain⟨z1,hz1⟩:=DataW.trod_bool Tryz.underlying4 g1;obtain⟨z2,hz2,_⟩:=DataW.trod_int Tryz.underlying3 g2;have e0:v0 = .string z0:=by simpa using hz0
  have e1:v1 = .bool z1:=by simpa using hz1.1
  have e2:v2 = .int .i64 z2:=by simpa using hz2
  exact⟨⟨z0,z1,z2⟩,by rw[e0,e1,e2];rfl⟩
theorem qbC {n:Nat}{v:Value}{y:DataW H×List MemPlace}(h:DataW.trod enc Tryz.prog w base (fun _=>true) held n 34 [v]=some y)(hl:Light Tryz.prog 34 y.1) :
  ∃(A:Option Addr) (c:Nat) (l:List Sg),v = .slice A l.length c/\lV w (· < w.heap.size) A c l:=by
 rcases open_slice Tryz.underlying34 h with⟨hv,rfl⟩|⟨a,len,cap,m,k,D,Pl,hv,hb,hlc,hcm,hmm,rfl,hx⟩
 ·obtain rfl:v = .slice none 0 0:=by simpa using hv
  exact⟨none,0,[],rfl,lV.nil _ _ _ (by omega)⟩
 ·obtain rfl:v = .slice (some a) len cap:=by simpa using hv
  simp only[if_true]at hmm;obtain rfl:cap=m:=hmm.symm;obtain⟨h8,hin⟩:=Dx Tryz.underlying34 hl;rw[qaT]at h8;simp only[List.length_map,List.length_range,reachBytes]at h8;rw[qaU]at hx
  have each:∀i,i<len->∃q:Sg,w.cell? (a.add (i*3))=some (.string q.name)/\w.cell? (a.add (i*3+1))=some (.bool q.inp)/\w.cell? (a.add (i*3+2))=some (.int .i64 q.size):=by
   intro i hi;obtain⟨cs',hc,ht'⟩:=hx i (by omega);obtain⟨_,hcl,hat⟩:=World.cells?_some hc;obtain⟨s,rfl⟩:=KP ht' hcl;have c0:=hat 0 (by omega);have c1:=hat 1 (by omega);have c2:=hat 2 (by omega);rw[Go.Deep.add_add]at c0 c1 c2;exact⟨s,by simpa[nI]using c0,by simpa[nI]using c1,by simpa[nI]using c2⟩
  obtain⟨gs,hgl,hg⟩:=Dn default each;refine⟨some a,cap,gs,by rw[hgl],⟨⟨Bz nI 3 (fun _=>rfl) gs,by omega,by omega,hcm⟩,fun hn=>?_⟩⟩;rw[hgl]at hn;obtain⟨ha,hlt⟩:=Gg (by simpa using(hg 0 hn).1);refine⟨a.block,a.off,by rw[<-ha],hlt,hlt,fun j u hu=>?_⟩
  have hjl:j<gs.length*3:=by
   rcases Nat.lt_or_ge j (gs.length*3)with h|h
   ·exact h
   ·rw[List.getElem?_eq_none (by rw[Bz nI 3 (fun _=>rfl) gs];exact h)]at hu;cases hu
  obtain⟨q,r,rfl,hr⟩:∃q r,j=q*3+r/\r<3:=⟨j / 3,j % 3,by omega,by omega⟩;rw[wF nI default 3 (fun _=>rfl) gs q r (by omega) hr]at hu;obtain⟨c0,c1,c2⟩:=hg q (by omega);rw[ha,XO]at c0 c1 c2
  match r,hr with
  | 0,_=>simp only[nI]at hu;have hu:=Option.some.inj hu;rw[<-hu];exact c0
  | 1,_=>simp only[nI]at hu;have hu:=Option.some.inj hu;rw[<-hu];exact c1
  | 2,_=>simp only[nI]at hu;have hu:=Option.some.inj hu;rw[<-hu];exact c2
theorem qbD {v:Value}{d:DataW H}{p:List MemPlace}(hc:v.cells = #[v])(h:DataW.Trod enc Tryz.prog w base (fun _=>true) held 34 v d p)(hl:Light Tryz.prog 34 d) :
  ∃(A:Option Addr) (c:Nat) (l:List Sg),v = .slice A l.length c/\lV w (· < w.heap.size) A c l:=by
 obtain⟨n,hn⟩:=h;rw[hc]at hn;exact qbC hn hl
end
instance decFm:DecidableEq Fm:=fun _ _=>decidable_of_iff _ kS
def kK (o:Int):Bool:=decide (o=15) || decide (o=16) || decide (o=17)
theorem mO {o:Int}:kK o=true ↔ o=15\/o=16\/o=17:=by unfold kK;simp only[Bool.or_eq_true,decide_eq_true_eq,or_assoc]
mutual
def aW:Fm->List Fm
 | .mk o n v b l=>dD l++(if kK o then [.mk o n v b l]else [])
def dD:List Fm->List Fm
 | [] => []
 | f :: l=>aW f++dD l
end
theorem qK (f:Fm):aW f=dD f.args++(if kK f.op then [f]else []):=by cases f;simp only[aW,Fm.op,Fm.args];rfl
theorem DJ:∀(l:List Fm) (f:Fm),dD (l ++ [f])=dD l++aW f
 | [],f=>by simp[dD]
 | g :: l,f=>by simp only[List.cons_append,dD,DJ l f,List.append_assoc]
theorem yZ {x:Fm}:∀{l:List Fm},x∈dD l ↔ ∃g,g∈l/\x∈aW g
 | []=>by simp[dD]
 | f :: l=>by
  simp only[dD,List.mem_append,yZ (l:=l),List.mem_cons]
  constructor
  ·rintro(h|⟨g,hg,h⟩)
   ·exact⟨f,.inl rfl,h⟩
   ·exact⟨g,.inr hg,h⟩
  ·rintro⟨g,rfl|hg,h⟩
   ·exact .inl h
   ·exact .inr ⟨g,hg,h⟩
theorem nR {f x:Fm}:x∈aW f ↔ (∃g,g∈f.args/\x∈aW g)\/(kK f.op=true/\x=f):=by
 rw[qK,List.mem_append,yZ]
 by_cases h:kK f.op=true
 ·rw[if_pos h];simp[h]
 ·rw[if_neg h];simp[h]
theorem qL {f:Fm}(h:kK f.op=true):f∈aW f:=nR.2 (.inr ⟨h,rfl⟩)
theorem lJ {f g x:Fm}(hg:g∈f.args)(h:x∈aW g):x∈aW f:=nR.2 (.inl ⟨g,hg,h⟩)
theorem Fm.oZ {P:Fm->Prop}(h:∀f,(∀g,g∈f.args->P g)->P f)(f:Fm):P f :=
 Fm.induct (fun f ih=>h f fun g hg=>by
  obtain⟨i,hi,rfl⟩:=List.getElem_of_mem hg;have:=ih i hi
  rwa [List.getD_eq_getElem?_getD,List.getElem?_eq_getElem hi,Option.getD_some]at this) f
theorem Jp {f:Fm}:∀{x:Fm},x∈aW f->kK x.op=true:=by
 refine Fm.oZ (P:=fun f=>∀{x:Fm},x∈aW f->kK x.op=true) ?_ f;intro f ih x hx
 rcases nR.1 hx with⟨g,hg,h⟩|⟨h,rfl⟩
 ·exact ih g hg h
 ·exact h
theorem Gh {f:Fm}:∀{x:Fm},x∈aW f->x.size<=f.size:=by
 refine Fm.oZ (P:=fun f=>∀{x:Fm},x∈aW f->x.size<=f.size) ?_ f;intro f ih x hx
 rcases nR.1 hx with⟨g,hg,h⟩|⟨h,rfl⟩
 ·have h1:=ih g hg h
  have h2:=gJ hg;rw[Fm.size_eq f];omega
 ·exact Nat.le_refl _
theorem Ox {f:Fm}:∀{x y:Fm},x∈aW f->y∈aW x->y∈aW f:=by
 refine Fm.oZ (P:=fun f=>∀{x y:Fm},x∈aW f->y∈aW x->y∈aW f) ?_ f;intro f ih x y hx hy
 rcases nR.1 hx with⟨g,hg,h⟩|⟨h,rfl⟩
 ·exact lJ hg (ih g hg h hy)
 ·exact hy
theorem VI {Q:Fm->Prop}(hq:∀f g,Q f->g∈f.args->Q g){f:Fm}:Q f->∀{x:Fm},x∈aW f->Q x:=by
 refine Fm.oZ (P:=fun f=>Q f->∀{x:Fm},x∈aW f->Q x) ?_ f;intro f ih h x hx
 rcases nR.1 hx with⟨g,hg,h1⟩|⟨_,rfl⟩
 ·exact ih g hg (hq f g h hg) h1
 ·exact h
theorem BJ {f g:Fm}(hg:g∈f.args)(h:bf f=true):bf g=true:=by
 unfold bf at h⊢;rw[Bool.and_eq_true]at h⊢;exact⟨Ny hg h.1,zB Qs hg h.2⟩
theorem wM {f x:Fm}(h:bf f=true)(hx:x∈aW f):bf x=true:=VI (Q:=fun f=>bf f=true) (fun _ _ h hg=>BJ hg h) h hx
theorem Ju {o:Int}(h:kK o=true):(aI o).past=true/\(aI o).future=false:=by
 rcases mO.1 h with rfl|rfl|rfl <;> exact⟨rfl,rfl⟩
theorem UE (x:Fm×Bool)(h:bU x=true):pV x=true:=by
 unfold bU at h;unfold pV;simp only[Bool.and_eq_true]at h;exact h.1.2
theorem qbG {f:Fm}(h:allI bU true f):allB dL f=true:=by
 rw[<-Ov];exact(Y0 f).1 (ET UE h)
theorem Jo {f:Fm}(h:(aI f.op).future=false)(ha:∀g,g∈f.args->allB dL g=true):allB dL f=true:=by
 refine qB.2 (dK.2 ⟨by unfold dL;rw[h];rfl,fun g hg=>?_⟩);exact XQ Si (ha g hg)
theorem BX {f g:Fm}(h:allB dL f=true)(hg:g∈f.args):allB dL g=true:=zB (q:=dL) (fun _ h=>h) hg h
theorem VT {f:Fm}(h:bf f=true)(hr:kK f.op=true):allB dL f=true:=by
 have hb:=dK.1 (gY h).2.2;rw[(Ju hr).1,Bool.or_true]at hb;exact Jo (Ju hr).2 fun g hg=>qbG (hb.2 g hg)
def jr (g:Fm):List Fm->Nat
 | []=>0
 | x :: l=>if x=g then 0 else jr g l+1
theorem pR {g:Fm}:∀{l:List Fm},jr g l<l.length ↔ g∈l
 | []=>by simp[jr]
 | x :: l=>by
  rw[jr]
  by_cases h:x=g
  ·simp[h]
  ·rw[if_neg h,List.length_cons,Nat.add_lt_add_iff_right,pR,List.mem_cons]
   simp[show¬g=x from fun e=>h e.symm]
theorem oC {g:Fm}:∀{l:List Fm},jr g l<l.length->l.getD (jr g l) default=g
 | [],h=>by simp[jr]at h
 | x :: l,h=>by
  rw[jr]at h⊢
  by_cases e:x=g
  ·rw[if_pos e];exact e
  ·rw[if_neg e]at h⊢
   rw[List.getD_cons_succ];exact oC (by simpa using h)
theorem NM {g:Fm}:∀{l:List Fm} {k:Nat},k<jr g l->l.getD k default≠g
 | [],k,h=>by simp[jr]at h
 | x :: l,k,h=>by
  rw[jr]at h
  by_cases e:x=g
  ·rw[if_pos e]at h;omega
  ·rw[if_neg e]at h
   cases k with
   | zero=>exact e
   | succ k=>rw[List.getD_cons_succ];exact NM (by omega)
theorem xI {g:Fm}{l:List Fm}{k:Nat}(hk:k<l.length)(h:l.getD k default=g):jr g l<=k:=by
 by_cases hl:k<jr g l
 ·exact absurd h (NM hl)
 ·omega
theorem TY {g:Fm}{l:List Fm}{k:Nat}(hk:k<l.length)(h:l.getD k default=g)(hm:∀j,j<k->l.getD j default≠g):jr g l=k:=by
 have h1:=xI hk h;have h2:¬jr g l<k:=fun hl=>hm _ hl (oC (by omega));omega
theorem BR {l:List Fm}(h:l.Nodup){i:Nat}(hi:i<l.length):jr (l.getD i default) l=i:=by
 refine TY hi rfl fun j hj e=>?_;unfold List.Nodup at h;rw[List.pairwise_iff_getElem]at h;have:=h j i (by omega) hi hj;simp[List.getD,hi,show j<l.length by omega]at e;exact this e
theorem yS {l:List Fm}{i k:Nat}(h:i<k):(l.take k).getD i default=l.getD i default:=by
 simp only[List.getD_eq_getElem?_getD];rw[List.getElem?_take_of_lt h]
theorem Jf {g:Fm}{l:List Fm}{k:Nat}(hk:k<=l.length):jr g (l.take k)<(l.take k).length ↔ jr g l<k:=by
 have hlen:(l.take k).length=k:=by rw[List.length_take];omega
 constructor
 ·intro h
  have h1:=oC h;rw[hlen]at h;rw[yS h]at h1;have:=xI (by omega) h1;omega
 ·intro h
  have h1:=oC (g:=g) (l:=l) (by omega);rw[<-yS h]at h1;have:=xI (l:=l.take k) (g:=g) (by omega) h1;omega
def lX (out:List Fm)(g:Fm):List Fm:=if g∈out then out else out ++ [g]
def eP (out L:List Fm):List Fm:=L.foldl lX out
theorem kH (out L M:List Fm):eP out (L++M)=eP (eP out L) M:=List.foldl_append ..
theorem xE (out:List Fm):eP out []=out:=rfl
theorem nD (out:List Fm)(g:Fm)(L:List Fm):eP out (g :: L)=eP (lX out g) L:=rfl
theorem I9 (out:List Fm)(g:Fm):eP out [g]=lX out g:=rfl
theorem XM {out:List Fm}{g x:Fm}:x∈lX out g ↔ x∈out\/x=g:=by
 unfold lX
 by_cases h:g∈out
 ·rw[if_pos h]
  constructor
  ·exact .inl
  ·rintro(h1|rfl)
   ·exact h1
   ·exact h
 ·rw[if_neg h];simp
theorem sV {x:Fm}:∀{L out:List Fm},x∈eP out L ↔ x∈out\/x∈L
 | [],out=>by simp[xE]
 | g :: L,out=>by rw[nD,sV,XM,List.mem_cons,or_assoc]
theorem Qm {out:List Fm}{g:Fm}(h:out.Nodup):(lX out g).Nodup:=by
 unfold lX
 by_cases hg:g∈out
 ·rw[if_pos hg];exact h
 ·rw[if_neg hg]
  unfold List.Nodup at h⊢;rw[List.pairwise_append];refine⟨h,List.pairwise_singleton ..,fun a ha b hb e=>?_⟩;rw[List.mem_singleton]at hb;subst hb;subst e;exact hg ha
theorem Dt:∀{L out:List Fm},out.Nodup->(eP out L).Nodup
 | [],_,h=>h
 | g :: L,out,h=>by rw[nD];exact Dt (Qm h)
theorem MK (out:List Fm)(g:Fm):out.length<=(lX out g).length/\(lX out g).length<=out.length+1:=by
 unfold lX
 split
 ·omega
 ·simp
theorem nH:∀(L out:List Fm),out.length<=(eP out L).length/\(eP out L).length<=out.length+L.length
 | [],out=>⟨Nat.le_refl _,Nat.le_refl _⟩
 | g :: L,out=>by
  rw[nD];have h1:=nH L (lX out g);have h2:=MK out g;simp only[List.length_cons];omega
def ZO (l:List Fm):Prop:=∀i,i<l.length->∀g,g∈aW (l.getD i default)->jr g l<=i
theorem TK:ZO []:=fun i h=>absurd h (Nat.not_lt_zero _)
theorem XL {out:List Fm}{f:Fm}(h:ZO out)(hs:∀x,x∈aW f->x=f\/x∈out):ZO (lX out f):=by
 unfold lX
 by_cases hf:f∈out
 ·rw[if_pos hf];exact h
 ·rw[if_neg hf]
  intro i hi g hg
  by_cases hl:i<out.length
  ·have e:(out ++ [f]).getD i default=out.getD i default:=by simp[List.getD,List.getElem?_append_left hl]
   rw[e]at hg;have h1:=h i hl g hg;have h2:=oC (g:=g) (l:=out) (by omega);refine Nat.le_trans (xI (k:=jr g out) (by simp;omega) ?_) h1;have e2:(out ++ [f]).getD (jr g out) default=out.getD (jr g out) default:=by simp[List.getD,List.getElem?_append_left (show jr g out<out.length by omega)]
   rw[e2];exact h2
  ·have hi':i=out.length:=by rw[List.length_append]at hi;simp at hi;omega
   subst hi';have e:(out ++ [f]).getD out.length default=f:=by simp[List.getD]
   rw[e]at hg
   rcases hs g hg with rfl|hm
   ·exact xI (by simp) e
   ·have h1:=pR.2 hm
    have h2:=oC h1;refine Nat.le_trans (xI (k:=jr g out) (by simp;omega) ?_) (Nat.le_of_lt h1);have e2:(out ++ [f]).getD (jr g out) default=out.getD (jr g out) default:=by simp[List.getD,List.getElem?_append_left h1]
    rw[e2];exact h2
theorem U8 (f:Fm):∀{out:List Fm},ZO out->ZO (eP out (aW f)):=by
 refine Fm.oZ (P:=fun f=>∀{out:List Fm},ZO out->ZO (eP out (aW f))) ?_ f;intro f ih out h
 have key:∀l:List Fm,(∀g,g∈l->g∈f.args)->∀{out:List Fm},ZO out->ZO (eP out (dD l)):=by
  intro l
  induction l with
  | nil=>intro _ out h;exact h
  | cons g l ihl =>
   intro hl out h;simp only[dD];rw[kH];exact ihl (fun x hx=>hl x (by simp[hx])) (ih g (hl g (by simp)) h)
 rw[qK,kH];have h1:=key f.args (fun _ h=>h) h
 by_cases hr:kK f.op=true
 ·rw[if_pos hr,I9]
  refine XL h1 fun x hx=>?_
  rcases nR.1 hx with⟨g,hg,h2⟩|⟨_,h2⟩
  ·exact .inr (sV.2 (.inr (yZ.2 ⟨g,hg,h2⟩)))
  ·exact .inl h2
 ·rw[if_neg hr,xE];exact h1
def aV (f:Fm):List Fm:=if bf f then eP [] (aW f)else []
theorem mD {f:Fm}(h:bf f=true):aV f=eP [] (aW f):=by unfold aV;rw[if_pos h]
theorem kZ {f x:Fm}(h:bf f=true):x∈aV f ↔ x∈aW f:=by rw[mD h,sV];simp
theorem uJ (f:Fm):(aV f).Nodup:=by
 unfold aV
 split
 ·exact Dt List.nodup_nil
 ·exact List.nodup_nil
theorem RV (f:Fm):ZO (aV f):=by
 unfold aV
 split
 ·exact U8 f TK
 ·exact TK
theorem F5 {f x:Fm}(h:x∈aV f):bf f=true/\bf x=true/\kK x.op=true/\allB dL x=true:=by
 by_cases hl:bf f=true
 ·rw[kZ hl]at h
  have h1:=wM hl h;have h2:=Jp h;exact⟨hl,h1,h2,VT h1 h2⟩
 ·unfold aV at h
  rw[if_neg hl]at h;cases h
def jX (l:List Fm):Bool:=decide (l.length<=8)&&oJ l.length fun i=>kK (l.getD i default).op&&bf (l.getD i default)&&allB dL (l.getD i default)&&decide (i<=jr (l.getD i default) l)&&(aW (l.getD i default)).all fun g=>decide (jr g l<=i)
theorem DF {f:Fm}(h:(aV f).length<=8):jX (aV f)=true:=by
 unfold jX;rw[decide_eq_true h,Bool.true_and,iD];intro i hi;have hm:(aV f).getD i default∈aV f:=by simp[List.getD,hi]
 obtain⟨_,h1,h2,h3⟩:=F5 hm;rw[h1,h2,h3,BR (uJ f) hi,decide_eq_true (Nat.le_refl _),Bool.true_and,Bool.true_and,Bool.true_and,Bool.true_and,List.all_eq_true];intro g hg;exact decide_eq_true (RV f i hi g hg)
def jc:List Bool->Nat
 | []=>0
 | b :: l=>(if b then 1 else 0)+2*jc l
theorem zZ:∀l:List Bool,jc l<2 ^ l.length
 | []=>by simp[jc]
 | b :: l=>by
  have:=zZ l;rw[jc,List.length_cons,Nat.pow_succ]
  split <;> omega
theorem BL:∀(l:List Bool) (i:Nat),(jc l).testBit i=l.getD i false
 | [],i=>by simp[jc]
 | b :: l,0=>by
  rw[jc,Nat.testBit_zero]
  cases b <;> simp <;> omega
 | b :: l,i+1=>by
  rw[jc,Nat.testBit_succ,List.getD_cons_succ,<-BL l i]
  congr 1
  split <;> omega
theorem Zc {l:List Bool}{m:Nat}(hm:m<2 ^ l.length)(h:∀i,i<l.length->m.testBit i=l.getD i false):m=jc l:=by
 refine Nat.eq_of_testBit_eq fun i=>?_;rw[BL]
 by_cases hi:i<l.length
 ·exact h i hi
 ·rw[List.getD_eq_getElem?_getD,List.getElem?_eq_none (by omega),Option.getD_none]
  exact Nat.testBit_lt_two_pow (Nat.lt_of_lt_of_le hm (Nat.pow_le_pow_right (by omega) (by omega)))
theorem yU (b:Bool):∀l:List Bool,jc (l ++ [b])=jc l+(if b then 2 ^ l.length else 0)
 | []=>by cases b <;> simp[jc]
 | c :: l=>by
  rw[List.cons_append,jc,jc,yU b l,List.length_cons,Nat.pow_succ]
  cases b <;> simp <;> omega
theorem Zd (l:List Bool):jc (l ++ [true])=jc l ||| (1 <<< l.length):=by
 rw[yU,if_pos rfl,Nat.one_shiftLeft,Nat.or_comm];have:=Nat.two_pow_add_eq_or_of_lt (zZ l) 1;rw[Nat.mul_one]at this;omega
def Ui (o:Int)(a s:Bool)(bs:List Bool):Bool :=
 if o=1 then true else if o=3 then a else if o=4 then !bs.getD 0 false else if o=5 then bs.all id else if o=6 then bs.any id
 else if o=15 then s else if o=16 then bs.getD 1 false || (bs.getD 0 false&&s)else if o=17 then bs.getD 1 false&&(bs.getD 0 false || s)else false
mutual
def fH (sg:ByteArray->Int->Bool)(sy:Fm->Bool):Fm->Bool
 | .mk o n v b l=>Ui o (sg n v) (sy (.mk o n v b l)) (Ud sg sy l)
def Ud (sg:ByteArray->Int->Bool)(sy:Fm->Bool):List Fm->List Bool
 | [] => []
 | f :: l=>fH sg sy f :: Ud sg sy l
end
theorem Jl (sg:ByteArray->Int->Bool)(sy:Fm->Bool):∀l:List Fm,Ud sg sy l=l.map (fH sg sy)
 | []=>rfl
 | f :: l=>by simp only[Ud,List.map_cons,Jl sg sy l]
theorem KJ (sg:ByteArray->Int->Bool)(sy:Fm->Bool)(f:Fm):fH sg sy f=Ui f.op (sg f.name f.val) (sy f) (f.args.map (fH sg sy)):=by
 cases f;simp only[fH,Fm.op,Fm.name,Fm.val,Fm.args,Jl]
theorem mg {α β : Type}(φ : α -> β)(l:List α)(i:Nat)(d : α)(e : β)(h:i<l.length):(l.map φ).getD i e = φ (l.getD i d):=by
 simp[List.getD,h]
def bZ (nodes:List Fm)(mem:Nat)(f:Fm):Bool:=mem.testBit (jr f nodes)
def wU (nodes:List Fm):List Bool:=nodes.map fun n=>decide (n.val=1)
def rQ (nodes:List Fm):Nat:=jc (wU nodes)
def pF (n:Fm):Fm:=if n.op=15 then n.args.getD 0 default else n
def Uc (sg:ByteArray->Int->Bool)(nodes:List Fm)(mem:Nat):List Bool:=nodes.map fun n=>fH sg (bZ nodes mem) (pF n)
def tq (sg:ByteArray->Int->Bool)(nodes:List Fm)(mem:Nat):Nat:=jc (Uc sg nodes mem)
theorem Wx (nodes:List Fm):rQ nodes<2 ^ nodes.length:=by have:=zZ (wU nodes);unfold wU at this;rwa [List.length_map]at this
theorem qI {o:Int}(h:(aI o).loose=true):Aj o\/o=3\/o=4:=by
 unfold aI at h
 split at h
 ·rename_i h1
  unfold isOp at h1;rw[Bool.and_eq_true,decide_eq_true_eq,decide_eq_true_eq]at h1;have:o=1\/o=2\/o=3\/o=4\/o=5\/o=6\/o=7\/o=8\/o=9\/o=10\/o=11\/o=12\/o=13\/o=14\/o=15\/o=16\/o=17\/o=18\/o=19:=by omega
  unfold Aj
  rcases this with rfl|rfl|rfl|rfl|rfl|rfl|rfl|rfl|rfl|rfl|rfl|rfl|rfl|rfl|rfl|rfl|rfl|rfl|rfl <;> first|exact absurd h (by decide)|omega
 ·cases h
theorem oN {f:Fm}(h:bf f=true):Bare f:=⟨_,(gY h).2.2⟩
theorem Gi {φ : Fm->Fm}:∀{l:List Fm},(∀g,g∈l->aW (φ g)=(aW g).map φ)->dD (l.map φ)=(dD l).map φ
 | [],_=>rfl
 | f :: l,h=>by
  simp only[List.map_cons,dD,List.map_append];rw[h f (by simp),Gi fun g hg=>h g (by simp[hg])]
theorem JC {f:Fm}(h:Bare f)(h1:f.op=15):f.args.length=1:=by
 have hs:=iM h.node.2.1;rw[h1]at hs;have h2:(aI 15).least=1:=rfl;have h3:(aI 15).most=1:=rfl;omega
mutual
def bD (vb:Fm->Int):Fm->Fm
 | .mk o n v b l => .mk o n (if kK o then vb (.mk o n v b l)else v) b (JY vb l)
def JY (vb:Fm->Int):List Fm->List Fm
 | [] => []
 | f :: l=>bD vb f :: JY vb l
end
theorem ER (vb:Fm->Int):∀l:List Fm,JY vb l=l.map (bD vb)
 | []=>rfl
 | f :: l=>by simp only[JY,List.map_cons,ER vb l]
theorem oI (vb:Fm->Int)(f:Fm):bD vb f = .mk f.op f.name (if kK f.op then vb f else f.val) f.bound (f.args.map (bD vb)):=by
 cases f;simp only[bD,Fm.op,Fm.name,Fm.val,Fm.bound,Fm.args,ER];rfl
section
variable (vb:Fm->Int)(f:Fm)
theorem iw:(bD vb f).op=f.op:=by rw[oI];rfl
theorem sD:(bD vb f).name=f.name:=by rw[oI];rfl
theorem sF:(bD vb f).val=if kK f.op then vb f else f.val:=by rw[oI];rfl
theorem ug:(bD vb f).bound=f.bound:=by rw[oI];rfl
theorem gB:(bD vb f).args=f.args.map (bD vb):=by rw[oI];rfl
end
theorem Qn {a b:Fm->Int}(f:Fm):(∀x,x∈aW f->a x=b x)->bD a f=bD b f:=by
 refine Fm.oZ (P:=fun f=>(∀x,x∈aW f->a x=b x)->bD a f=bD b f) ?_ f;intro f ih h;rw[oI,oI,List.map_congr_left fun g hg=>ih g hg fun x hx=>h x (lJ hg hx)]
 by_cases hr:kK f.op=true
 ·rw[if_pos hr,if_pos hr,h f (qL hr)]
 ·rw[if_neg hr,if_neg hr]
theorem Iu (f:Fm):bD Fm.val f=f:=by
 refine Fm.oZ (P:=fun f=>bD Fm.val f=f) ?_ f;intro f ih
 have e:f.args.map (bD Fm.val)=f.args:=by
  have:f.args.map (bD Fm.val)=f.args.map id:=List.map_congr_left fun g hg=>ih g hg;rw[this,List.map_id]
 rw[oI,e,ite_self,f.eta]
theorem Uz {vb:Fm->Int}{f:Fm}(h:∀x,x∈aW f->vb x=x.val):bD vb f=f:=(Qn f h).trans (Iu f)
theorem Sj (vb:Fm->Int)(f:Fm):aW (bD vb f)=(aW f).map (bD vb):=by
 refine Fm.oZ (P:=fun f=>aW (bD vb f)=(aW f).map (bD vb)) ?_ f;intro f ih;rw[qK,gB,iw,Gi fun g hg=>ih g hg,qK f,List.map_append]
 by_cases hr:kK f.op=true
 ·rw[if_pos hr,if_pos hr];rfl
 ·rw[if_neg hr,if_neg hr];rfl
theorem Iw (vb:Fm->Int)(f:Fm):(bD vb f).size=f.size:=by
 refine Fm.oZ (P:=fun f=>(bD vb f).size=f.size) ?_ f;intro f ih;rw[Fm.size_eq,Fm.size_eq f,gB]
 have:∀l:List Fm,(∀g,g∈l->g∈f.args)->sizes (l.map (bD vb))=sizes l:=by
  intro l
  induction l with
  | nil=>intro _;rfl
  | cons g l ihl=>intro h;simp only[List.map_cons,sizes];rw[ih g (h g (by simp)),ihl fun x hx=>h x (by simp[hx])]
 rw[this f.args fun _ h=>h]
theorem Qo (vb:Fm->Int)(f:Fm):(bD vb f).depth=f.depth:=by
 refine Fm.oZ (P:=fun f=>(bD vb f).depth=f.depth) ?_ f;intro f ih;rw[Fm.je,Fm.je f,gB]
 have:∀l:List Fm,(∀g,g∈l->g∈f.args)->depths (l.map (bD vb))=depths l:=by
  intro l
  induction l with
  | nil=>intro _;rfl
  | cons g l ihl=>intro h;simp only[List.map_cons,depths];rw[ih g (h g (by simp)),ihl fun x hx=>h x (by simp[hx])]
 rw[this f.args fun _ h=>h]
theorem ML {vb:Fm->Int}{f:Fm}(h:bQ f=true)(hv:kK f.op=true->vb f=0\/vb f=1):bQ (bD vb f)=true:=by
 have hs:=iM h;refine Ll (by rw[iw];exact hs.1) (by rw[iw,gB,List.length_map];exact hs.2.1) (by rw[iw,gB,List.length_map];exact hs.2.2.1) ?_ ?_ (by rw[ug];exact hs.2.2.2.2.2.1) (by rw[iw,ug];exact hs.2.2.2.2.2.2.1) (by rw[iw,sD];exact hs.2.2.2.2.2.2.2)
 ·rw[sF]
  split
  ·rename_i hr;have:=hv hr;omega
  ·exact hs.2.2.2.1
 ·rw[sF,iw]
  split
  ·rename_i hr
   have h1:(aI f.op).val=1:=by rcases mO.1 hr with e|e|e <;> rw[e] <;> rfl
   rw[h1];have:=hv hr;omega
  ·exact hs.2.2.2.2.1
theorem Ux {vb:Fm->Int}(f:Fm):∀ins,allI bU ins f->(∀x,x∈aW f->vb x=0\/vb x=1)->allI bU ins (bD vb f):=by
 refine Fm.oZ (P:=fun f=>∀ins,allI bU ins f->(∀x,x∈aW f->vb x=0\/vb x=1)->allI bU ins (bD vb f)) ?_ f;intro f ih ins h hv;obtain⟨h1,h2⟩:=dK.1 h;obtain⟨p1,p2,p3,p4⟩:=jU h1;refine dK.2 ⟨xk (by rw[iw];exact p1) (ML p2 fun hr=>hv f (qL hr)) (by rw[iw];exact p3) (fun h4=>?_),fun g hg=>?_⟩
 ·rw[iw]at h4
  have h5:=p4 h4;obtain⟨y,hy⟩:=Et (f:=f) (by rw[h4];rfl) (by rw[h4];rfl) p2;rw[hy]at h5;rw[gB,hy];show(bD vb y).op=3;rw[iw];exact h5
 ·rw[gB]at hg
  obtain⟨y,hy,rfl⟩:=List.mem_map.1 hg;rw[iw];exact ih y hy _ (h2 y hy) fun x hx=>hv x (lJ hy hx)
theorem ES {vb:Fm->Int}{f:Fm}(h:bf f=true)(hv:∀x,x∈aW f->vb x=0\/vb x=1):bf (bD vb f)=true:=by
 obtain⟨h1,h2,h3⟩:=gY h;exact N7 (by rw[Iw];exact h1) (by rw[Qo];exact h2) (Ux f _ h3 hv)
theorem Uy {vb:Fm->Int}(f:Fm):allB dL (bD vb f)=allB dL f:=by
 have key:∀f,allB dL f=true ↔ dL (f,false)=true/\∀g,g∈f.args->allB dL g=true:=fun f =>
  ⟨fun h=>⟨UA h,fun g hg=>BX h hg⟩,fun h=>Jo (by have:=h.1;unfold dL at this;simpa using this) h.2⟩
 rw[Bool.eq_iff_iff];refine Fm.oZ (P:=fun f=>allB dL (bD vb f)=true ↔ allB dL f=true) ?_ f;intro f ih;rw[key,key,gB];have:dL (bD vb f,false)=dL (f,false):=by unfold dL;simp only[iw]
 rw[this];refine and_congr_right fun _=>⟨fun h g hg=>(ih g hg).1 (h _ (List.mem_map.2 ⟨g,hg,rfl⟩)),fun h g hg=>?_⟩;obtain⟨y,hy,rfl⟩:=List.mem_map.1 hg;exact(ih y hy).2 (h y hy)
theorem Qp (vb:Fm->Int)(f:Fm):∀ins,(dV ins (bD vb f)).map (fun x=>(x.1.op,x.1.name))=(dV ins f).map (fun x=>(x.1.op,x.1.name)):=by
 refine Fm.oZ (P:=fun f=>∀ins,(dV ins (bD vb f)).map (fun x=>(x.1.op,x.1.name))=(dV ins f).map (fun x=>(x.1.op,x.1.name))) ?_ f;intro f ih ins
 have key:∀(l:List Fm) b,(∀g,g∈l->g∈f.args)->(ji b (l.map (bD vb))).map (fun x=>(x.1.op,x.1.name))=(ji b l).map (fun x=>(x.1.op,x.1.name)):=by
  intro l b
  induction l with
  | nil=>intro _;rfl
  | cons g l ihl =>
   intro h;simp only[List.map_cons,ji,List.map_append];rw[ih g (h g (by simp)),ihl fun x hx=>h x (by simp[hx])]
 rw[mM,mM ins f,List.map_cons,List.map_cons,gB,iw,key f.args _ fun _ h=>h];simp only[iw,sD]
theorem Dz:∀{L M:List (Fm×Bool)},L.map (fun x=>(x.1.op,x.1.name))=M.map (fun x=>(x.1.op,x.1.name))->pW L=pW M
 | [],[],_=>rfl
 | [],_ :: _,h=>by cases h
 | _ :: _,[],h=>by cases h
 | x :: L,y :: M,h=>by
  simp only[List.map_cons,List.cons.injEq,Prod.mk.injEq]at h;have e:=Dz h.2;unfold pW at e⊢;simp only[List.filter_cons];rw[h.1.1]
  split
  ·rw[List.map_cons,List.map_cons,h.1.2,e]
  ·exact e
theorem QV {φ : Fm->Fm}(out:List Fm)(g:Fm):eP [] ((lX out g).map φ)=lX (eP [] (out.map φ)) (φ g):=by
 unfold lX
 by_cases hg:g∈out
 ·rw[if_pos hg,if_pos]
  exact sV.2 (.inr (List.mem_map.2 ⟨g,hg,rfl⟩))
 ·rw[if_neg hg,List.map_append,kH]
  rfl
theorem ND {φ : Fm->Fm}:∀(L out:List Fm),eP (eP [] (out.map φ)) (L.map φ)=eP [] ((eP out L).map φ)
 | [],out=>rfl
 | g :: L,out=>by rw[List.map_cons,nD,nD,<-QV,ND L]
theorem Fz:∀(L out:List Fm),(eP out L).length=out.length+L.length->eP out L=out++L
 | [],out,_=>by rw[xE,List.append_nil]
 | g :: L,out,h=>by
  rw[nD]at h⊢;have h1:=MK out g;have h2:=nH L (lX out g)
  have h3:lX out g=out ++ [g]:=by
   by_cases hg:g∈out
   ·have e:lX out g=out:=by unfold lX;rw[if_pos hg]
    rw[e]at h2 h;simp only[List.length_cons]at h;omega
   ·unfold lX;rw[if_neg hg]
  rw[h3]at h⊢;rw[Fz L (out ++ [g]) (by rw[h];simp;omega)];simp
theorem F6 {vb:Fm->Int}{f:Fm}(h:bf f=true)(hv:∀x,x∈aW f->vb x=0\/vb x=1) :
  (aV (bD vb f)).length<=(aV f).length/\((aV (bD vb f)).length=(aV f).length->aV (bD vb f)=(aV f).map (bD vb)):=by
 rw[mD h,mD (ES h hv),Sj];have e:=ND (φ := bD vb) (aW f) [];rw[List.map_nil,xE]at e;rw[e];have h1:=nH ((eP [] (aW f)).map (bD vb)) [];rw[List.length_map]at h1;refine⟨by simpa using h1.2,fun h2=>?_⟩;have:=Fz ((eP [] (aW f)).map (bD vb)) [] (by rw[h2,List.length_map];simp);rw[this,List.nil_append]
theorem Jy {vb:Fm->Int}{f:Fm}(hm:aV (bD vb f)=(aV f).map (bD vb))(h:bf f=true){x:Fm}(hx:x∈aW f)(a:Nat) :
  bZ (aV (bD vb f)) a (bD vb x)=bZ (aV f) a x:=by
 unfold bZ;have h1:=pR.2 ((kZ h).2 hx);have h2:=oC h1
 have h3:(aV (bD vb f)).getD (jr x (aV f)) default=bD vb x:=by
  rw[hm,mg _ _ _ default _ h1,h2]
 have h4:=BR (uJ (bD vb f)) (i:=jr x (aV f)) (by rw[hm,List.length_map];exact h1);rw[h3]at h4;rw[h4]
theorem Om {sg:ByteArray->Int->Bool}{vb:Fm->Int}{s t:Fm->Bool}(f:Fm):(∀x,x∈aW f->t (bD vb x)=s x)->fH sg t (bD vb f)=fH sg s f:=by
 refine Fm.oZ (P:=fun f=>(∀x,x∈aW f->t (bD vb x)=s x)->fH sg t (bD vb f)=fH sg s f) ?_ f;intro f ih h;rw[KJ,KJ sg s f,iw,gB,List.map_map,sD,sF];have e:f.args.map (fH sg t ∘ bD vb)=f.args.map (fH sg s):=List.map_congr_left fun g hg=>ih g hg fun x hx=>h x (lJ hg hx);rw[e]
 by_cases hr:kK f.op=true
 ·have h1:f.op≠3:=by rcases mO.1 hr with e|e|e <;> omega
  rw[h f (qL hr)];unfold Ui;rw[if_neg h1,if_neg h1]
 ·rw[if_neg hr]
  have h1:f.op≠15/\f.op≠16/\f.op≠17:=⟨fun e=>hr (mO.2 (.inl e)),fun e=>hr (mO.2 (.inr (.inl e))),fun e=>hr (mO.2 (.inr (.inr e)))⟩;unfold Ui;rw[if_neg h1.1,if_neg h1.2.1,if_neg h1.2.2,if_neg h1.1,if_neg h1.2.1,if_neg h1.2.2]
def vZ (nodes:List Fm)(mem:Nat)(f:Fm):Int:=if bZ nodes mem f then 1 else 0
theorem J3 (nodes:List Fm)(mem:Nat)(f:Fm):vZ nodes mem f=0\/vZ nodes mem f=1:=by unfold vZ;split <;> simp
def qc (nodes:List Fm)(mem:Nat)(f:Fm):Fm:=bD (vZ nodes mem) f
theorem Zg {f x:Fm}(h:bf f=true)(hx:x∈aW f):x.val=0\/x.val=1:=by
 have hl:=oN (wM h hx);have hs:=iM hl.node.2.1
 have h1:(aI x.op).val=1:=by rcases mO.1 (Jp hx)with e|e|e <;> rw[e] <;> rfl
 rw[h1]at hs;omega
theorem VN {f:Fm}(h:bf f=true):qc (aV f) (rQ (aV f)) f=f:=by
 refine Uz fun x hx=>?_;have h1:=pR.2 ((kZ h).2 hx);have h2:=oC h1;have h3:=Zg h hx;unfold vZ bZ rQ wU;rw[BL,mg _ _ _ default _ h1,h2]
 rcases h3 with e|e <;> rw[e] <;> rfl
theorem Wy {f:Fm}{a:Nat}(h:bf f=true)(ha:a<2 ^ (aV f).length)(hm:aV (qc (aV f) a f)=(aV f).map (bD (vZ (aV f) a))):rQ (aV (qc (aV f) a f))=a:=by
 refine(Zc ?_ fun i hi=>?_).symm
 ·unfold wU;rw[List.length_map,hm,List.length_map];exact ha
 ·unfold wU at hi⊢
  rw[hm,List.length_map,List.length_map]at hi;have hmem:(aV f).getD i default∈aV f:=by simp[List.getD,hi]
  have hr:=(F5 hmem).2.2.1;rw[hm,List.map_map,mg _ _ _ default _ hi];simp only[Function.comp];rw[sF,if_pos hr];unfold vZ bZ;rw[BR (uJ f) hi]
  cases a.testBit i <;> rfl
theorem Vz {vb:Fm->Int}{n:Fm}(h:n.op=15->0<n.args.length):pF (bD vb n)=bD vb (pF n):=by
 unfold pF;rw[iw]
 by_cases e:n.op=15
 ·rw[if_pos e,if_pos e,gB,mg _ _ _ default _ (h e)]
 ·rw[if_neg e,if_neg e]
theorem VB {f n x:Fm}(hn:n∈aW f)(hb:Bare n)(hx:x∈aW (pF n)):x∈aW f:=by
 refine Ox hn ?_;unfold pF at hx
 split at hx
 ·rename_i h
  have hl:=JC hb h;exact lJ (g:=n.args.getD 0 default) (by simp[List.getD,hl]) hx
 ·exact hx
theorem Zf {sg:ByteArray->Int->Bool}{f:Fm}{a:Nat}(h:bf f=true)(hm:aV (qc (aV f) a f)=(aV f).map (bD (vZ (aV f) a))) :
  tq sg (aV (qc (aV f) a f)) a=tq sg (aV f) a:=by
 unfold tq Uc
 congr 1
 conv=>lhs;rw[hm]
 rw[List.map_map];refine List.map_congr_left fun n hn=>?_;have hp:=(kZ h).1 hn;have hb:=oN (wM h hp);simp only[Function.comp];rw[Vz fun e=>by rw[JC hb e];exact Nat.one_pos];refine Om _ fun x hx=>?_;rw[<-hm];exact Jy hm h (VB hp hb hx) a
theorem qbA {sg:ByteArray->Int->Bool}{f:Fm}{a:Nat}(h:bf f=true)(hm:aV (qc (aV f) a f)=(aV f).map (bD (vZ (aV f) a))) :
  fH sg (bZ (aV (qc (aV f) a f)) a) (qc (aV f) a f)=fH sg (bZ (aV f) a) f :=
 Om f fun x hx=>Jy hm h hx a
def Per {α : Type}(u:Nat -> α)(b L:Nat):Prop:=∀t,b<=t->u (t+L)=u t
theorem Per.mono {α : Type}{u:Nat -> α}{b c L:Nat}(h:Per u b L)(hc:b<=c):Per u c L:=fun t ht=>h t (Nat.le_trans hc ht)
theorem Per.mul {α : Type}{u:Nat -> α}{b L:Nat}(h:Per u b L):∀(k t:Nat),b<=t->u (t+k*L)=u t
 | 0,t,_=>by rw[Nat.zero_mul,Nat.add_zero]
 | k+1,t,ht=>by
  rw[Nat.succ_mul,<-Nat.add_assoc,h (t+k*L) (by omega)];exact h.mul k t ht
def gG (b L t:Nat):Nat:=if t<b+L then t else b+(t-b) % L
theorem qx {b L t:Nat}(hL:0<L):gG b L t<b+L:=by
 unfold gG
 split
 ·assumption
 ·have:=Nat.mod_lt (t-b) hL;omega
theorem Per.place {α : Type}{u:Nat -> α}{b L:Nat}(h:Per u b L)(hL:0<L)(t:Nat):u (gG b L t)=u t:=by
 unfold gG
 split
 ·rfl
 ·have h1:=h.mul ((t-b) / L) (b+(t-b) % L) (by omega)
  have h2:b+(t-b) % L+(t-b) / L*L=t:=by
   have:=Nat.mod_add_div (t-b) L;rw[Nat.mul_comm]at this;omega
  rw[h2]at h1;exact h1.symm
open Classical in
noncomputable def ZG (a b:Nat->Bool)(t:Nat):Bool:=decide (∃k,t<=k/\b k=true/\∀j,t<=j->j<k->a j=true)
def GX (b L:Nat)(u v:List Bool)(i:Nat)(out:List Bool):List Bool :=
 out.set (b+L-1-i % (b+L)) (v.getD (b+L-1-i % (b+L)) false || (u.getD (b+L-1-i % (b+L)) false&&out.getD (gG b L (b+L-1-i % (b+L)+1)) false))
def o7 (b L:Nat)(u v:List Bool):Nat->List Bool
 | 0=>List.replicate (b+L) false
 | k+1=>GX b L u v k (o7 b L u v k)
def CG (b L:Nat)(u v:List Bool):List Bool:=o7 b L u v (2*(b+L))
theorem uS (b L:Nat)(u v:List Bool):∀k,(o7 b L u v k).length=b+L
 | 0=>List.length_replicate ..
 | k+1=>by rw[o7,GX,List.length_set,uS]
section
variable {b L:Nat}{ru rv:List Bool}{u v:Nat->Bool}
end
noncomputable def Zr (a b:Nat->Bool)(t:Nat):Bool := !ZG (fun k => !a k) (fun k => !b k) t
def y9 (b L:Nat)(u v:List Bool)(i:Nat)(out:List Bool):List Bool :=
 out.set (b+L-1-i % (b+L)) (v.getD (b+L-1-i % (b+L)) false&&(u.getD (b+L-1-i % (b+L)) false || out.getD (gG b L (b+L-1-i % (b+L)+1)) false))
def jJ (b L:Nat)(u v:List Bool):Nat->List Bool
 | 0=>List.replicate (b+L) true
 | k+1=>y9 b L u v k (jJ b L u v k)
def tu (b L:Nat)(u v:List Bool):List Bool:=jJ b L u v (2*(b+L))
theorem qg (b L:Nat)(u v:List Bool):∀k,(jJ b L u v k).length=b+L
 | 0=>List.length_replicate ..
 | k+1=>by rw[jJ,y9,List.length_set,qg]
def nX (a b:Nat->Bool)(c:Bool):Nat->Bool
 | 0=>b 0 || (a 0&&c)
 | t+1=>b (t+1) || (a (t+1)&&nX a b c t)
def jm (a b:Nat->Bool)(c:Bool):Nat->Bool
 | 0=>b 0&&(a 0 || c)
 | t+1=>b (t+1)&&(a (t+1) || jm a b c t)
def kM (n:Nat)(u:Nat->Bool):List Bool:=(List.range n).map u
def dN (r:List Bool)(t:Nat):Bool:=r.getD t false
def OQ (b L:Nat)(a:Nat->Bool)(o v:Int)(rs:List (List Bool)):List Bool :=
 if o=1 then kM (b+L) fun _=>true
 else if o=2 then kM (b+L) fun _=>false
 else if o=3 then kM (b+L) a
 else if o=4 then kM (b+L) fun t => !dN (rs.getD 0 []) t
 else if o=5 then kM (b+L) fun t=>rs.all fun r=>dN r t
 else if o=6 then kM (b+L) fun t=>rs.any fun r=>dN r t
 else if o=8 then kM (b+L) fun t=>dN (rs.getD 0 []) (gG b L (t+1))
 else if o=9 then CG b L (rs.getD 0 []) (rs.getD 1 [])
 else if o=10 then tu b L (rs.getD 0 []) (rs.getD 1 [])
 else if o=15 then kM (b+L) fun t=>(decide (t=0)&&decide (v=1)) || (decide (0<t)&&dN (rs.getD 0 []) (t-1))
 else if o=16 then kM (b+L) (nX (dN (rs.getD 0 [])) (dN (rs.getD 1 [])) (decide (v=1)))
 else if o=17 then kM (b+L) (jm (dN (rs.getD 0 [])) (dN (rs.getD 1 [])) (decide (v=1)))
 else []
mutual
def wP (b L:Nat)(sg:Nat->ByteArray->Int->Bool):Fm->List Bool
 | .mk o n v bd l=>OQ b L (fun t=>sg t n v) o v (Uf b L sg l)
def Uf (b L:Nat)(sg:Nat->ByteArray->Int->Bool):List Fm->List (List Bool)
 | [] => []
 | f :: l=>wP b L sg f :: Uf b L sg l
end
theorem Jv (b L:Nat)(sg:Nat->ByteArray->Int->Bool):∀l:List Fm,Uf b L sg l=l.map (wP b L sg)
 | []=>rfl
 | f :: l=>by simp only[Uf,List.map_cons,Jv b L sg l]
theorem Ue (b L:Nat)(sg:Nat->ByteArray->Int->Bool)(f:Fm):wP b L sg f=OQ b L (fun t=>sg t f.name f.val) f.op f.val (f.args.map (wP b L sg)):=by
 cases f;simp only[wP,Fm.op,Fm.name,Fm.val,Fm.args,Jv]
noncomputable def stepS (a:Nat->Bool)(o v:Int)(us:List (Nat->Bool))(t:Nat):Bool :=
 if o=1 then true
 else if o=2 then false
 else if o=3 then a t
 else if o=4 then !us.getD 0 (fun _=>false) t
 else if o=5 then us.all fun u=>u t
 else if o=6 then us.any fun u=>u t
 else if o=8 then us.getD 0 (fun _=>false) (t+1)
 else if o=9 then ZG (us.getD 0 fun _=>false) (us.getD 1 fun _=>false) t
 else if o=10 then Zr (us.getD 0 fun _=>false) (us.getD 1 fun _=>false) t
 else if o=15 then(decide (t=0)&&decide (v=1)) || (decide (0<t)&&us.getD 0 (fun _=>false) (t-1))
 else if o=16 then nX (us.getD 0 fun _=>false) (us.getD 1 fun _=>false) (decide (v=1)) t
 else if o=17 then jm (us.getD 0 fun _=>false) (us.getD 1 fun _=>false) (decide (v=1)) t
 else false
mutual
noncomputable def qgz (sg:Nat->ByteArray->Int->Bool):Fm->Nat->Bool
 | .mk o n v bd l=>stepS (fun t=>sg t n v) o v (qcu sg l)
noncomputable def qcu (sg:Nat->ByteArray->Int->Bool):List Fm->List (Nat->Bool)
 | [] => []
 | f :: l=>qgz sg f :: qcu sg l
end
mutual
def jh:Fm->Nat
 | .mk o n v b l=>jD l+(if 15<=o/\o<=19 then 1 else 0)
def jD:List Fm->Nat
 | []=>0
 | f :: l=>max (jh f) (jD l)
end
theorem Oa (f:Fm):jh f=jD f.args+(if 15<=f.op/\f.op<=19 then 1 else 0):=by cases f;simp only[jh,Fm.op,Fm.args];rfl
theorem FC {α : Type}(φ : Fm -> α)(l:List Fm)(i:Nat)(d : α)(h:i<l.length):(l.map φ).getD i d = φ (l.getD i default):=by simp[List.getD,h]
theorem dO {l:List Fm}{i:Nat}(h:i<l.length):l.getD i default∈l:=by simp[List.getD,h]
theorem yN {f:Fm}(h:Bare f):(f.op=4\/f.op=8\/f.op=15->f.args.length=1)/\(f.op=9\/f.op=10\/f.op=16\/f.op=17->f.args.length=2):=by
 have hs:=iM h.node.2.1
 constructor
 ·intro h1
  have:(aI f.op).least=1/\(aI f.op).most=1:=by rcases h1 with e|e|e <;> rw[e] <;> exact⟨rfl,rfl⟩
  omega
 ·intro h1
  have:(aI f.op).least=2/\(aI f.op).most=2:=by rcases h1 with e|e|e|e <;> rw[e] <;> exact⟨rfl,rfl⟩
  omega
end Go.Proofs.YtdpbgcmfeajigaaGreatDoor
namespace Go.Proofs.YtdpbgcmfeajigaaGreatDoor
open Go.RowKit Go.Shelf
attribute [local go_sem] ak
theorem pJ.any {w w':World}{D:Dom}{A:Option Addr}{c:Nat}{zs:List Int}(h:pJ w D A c zs)(hb:Below w.heap.size w w'):pJ w' aZ A c zs:=(h.old.keep (Keeps.of_below hb fun _ h=>h)).mono fun _ _ _=>trivial
theorem ay {w w' w'':World}(h:Below w.heap.size w w')(hb:Below w'.heap.size w' w''):Below w.heap.size w w'':=h.trans (hb.mono h.size)
def Ky (m x:Int):Bool:=decide (0<=x)&&decide (x<m)
def gZ (l:List Int)(m:Int):Bool:=l.all (Ky m)
theorem IC {l:List Int}{m:Int}{i:Nat}(hi:i<l.length)(h:Ky m (l.getD i 0)=false):gZ l m=false:=by
 unfold gZ;rw[List.all_eq_false];exact⟨l.getD i 0,by simp[List.getD,hi],by rw[h];simp⟩
theorem Qu {l:List Int}{m:Int}(h:∀i,i<l.length->Ky m (l.getD i 0)=true):gZ l m=true:=by
 unfold gZ;rw[List.all_eq_true];intro x hx;obtain⟨i,hi,rfl⟩:=List.getElem_of_mem hx;have:=h i hi;simpa[List.getD,hi]using this
theorem UF {D:Dom}(l:List Int)(m:Int)(A:Option Addr)(c n:Nat)(w:World)(hn:n=l.length)(h:pJ w D A c l) :
  Calls Tryz.prog 87 #[.slice A n c,.int .i64 m] w fun e w'=>e = .returned (.bool (gZ l m))/\Below w.heap.size w w':=by
 subst hn;have hlen:=h.len.1;have HH:=hid h;clear h
 go_enter Tryz.func87,Tryz.ntmps87
 go_wp2_with fail
 go_loopw [9] (fun q wr=>∃i:Nat,i<=l.length/\q = .int .i64 (i:Int)/\su w wr/\Hid (∀k,k<i->Ky m (l.getD k 0)=true)) (fun q _=>l.length-(intOf q).toNat)
 case atStart=>exact⟨0,Nat.zero_le _,rfl,rfl,fun j h=>absurd h (Nat.not_lt_zero _)⟩
 case round =>
  obtain⟨i,hi,rfl,hw,fU⟩:=hrel;obtain rfl:w=wr:=hw.symm
  by_cases hlt:i<l.length
  ·have hii:(i:Int)<l.length:=by omega
   have fQ:=hid hlt;obtain⟨b,o,x,rfl,_,hlb,HX,x0⟩:=HH.out.get hlt;have oh:=hid HX.out;clear HX hi hlt
   by_cases h0:x<0
   ·have d0:decide (x<0)=true:=decide_eq_true h0
    have HR:=hid (show gZ l m=false from IC fQ.out (by rw[oh.out];unfold Ky;rw[decide_eq_false (by omega)];rfl));go_wp2_with fail
    go_ret
    exact⟨aC HR.out.symm,Below.refl _ _⟩
   have d0:decide (x<0)=false:=decide_eq_false h0
   by_cases h1:m<=x
   ·have d1:decide (m<=x)=true:=decide_eq_true h1
    have HR:=hid (show gZ l m=false from IC fQ.out (by rw[oh.out];unfold Ky;rw[decide_eq_false (show¬x<m by omega)];simp));go_wp2_with fail
    go_ret
    exact⟨aC HR.out.symm,Below.refl _ _⟩
   ·have d1:decide (m<=x)=false:=decide_eq_false h1
    have kR:=hid (show Ky m (l.getD i 0)=true by rw[oh.out];unfold Ky;rw[decide_eq_true (show 0<=x by omega),decide_eq_true (show x<m by omega)];rfl);clear h0 h1;go_wp2_with fail
    go_roundw
    case rel =>
     refine⟨i+1,by have:=fQ.out;omega,by go_num,rfl,fun j hj=>?_⟩
     by_cases e:j=i
     ·rw[e];exact kR.out
     ·exact fU.out j (by omega)
    case measure=>have:=fQ.out;simp[intOf];omega
  ·have hii:¬(i:Int)<l.length:=by omega
   have HR:=hid (show gZ l m=true from Qu fun j hj=>fU.out j (by omega));go_wp2_with fail
   go_ret
   exact⟨aC HR.out.symm,Below.refl _ _⟩
theorem xq {D:Dom}{l:List Int}{m:Int}{A:Option Addr}{c n:Nat}{w:World}(r:Bool)(hr:gZ l m=r)(hn:n=l.length)(h:pJ w D A c l) :
  Calls Tryz.prog 87 #[.slice A n c,.int .i64 m] w fun e w'=>e = .returned (.bool r)/\Below w.heap.size w w':=by
 subst hr;exact UF l m A c n w hn h
structure lS where
 stem:List Int
 loop:List Int
def iL (W:lS):Bool:=decide (W.stem.length<=60)&&decide (1<=W.loop.length)&&decide (W.loop.length<=40)&&gZ W.stem 64&&gZ W.loop 64
def rG (m:Int)(W:lS):Bool:=iL W&&gZ W.stem m&&gZ W.loop m
def dQ (W:lS)(i:Nat):Int:=if i<W.stem.length then W.stem.getD i 0 else W.loop.getD ((i-W.stem.length) % W.loop.length) 0
def O9 (w:World)(D:Dom)(v:Value)(W:lS):Prop:=∃As cs Al cl,v = .agg #[.slice As W.stem.length cs,.slice Al W.loop.length cl]/\pJ w D As cs W.stem/\pJ w D Al cl W.loop
theorem O9.any {w w':World}{D:Dom}{v:Value}{W:lS}(h:O9 w D v W)(hb:Below w.heap.size w w'):O9 w' aZ v W:=let ⟨As,cs,Al,cl,e,h1,h2⟩:=h;⟨As,cs,Al,cl,e,h1.any hb,h2.any hb⟩
def qA (w:World)(b:Nat)(W:lS)(As:Option Addr)(cs:Nat)(Al:Option Addr)(cl:Nat):Prop:=w.heap[b]?=some (.cells #[.slice As W.stem.length cs,.slice Al W.loop.length cl] 37 (0,0))
section
variable {w w':World}{b:Nat}{W:lS}{As Al:Option Addr}{cs cl:Nat}
theorem qA.below (h:qA w b W As cs Al cl)(hb:Below w.heap.size w w'):qA w' b W As cs Al cl:=(hb.block _ (lt_of_block h)).trans h
theorem qA.cells (h:qA w b W As cs Al cl):w.cell? ⟨b,0,none⟩=some (.slice As W.stem.length cs)/\w.cell? ⟨b,1,none⟩=some (.slice Al W.loop.length cl)/\b<w.heap.size:=⟨aj h (i:=0) rfl,aj h (i:=1) rfl,lt_of_block h⟩
end
theorem QT {D:Dom}(W:lS)(v:Value)(w:World)(h:O9 w D v W) :
  Calls Tryz.prog 62 #[v] w fun e w'=>e = .returned (.bool (iL W))/\Below w.heap.size w w':=by
 obtain⟨As,cs,Al,cl,rfl,hs,hl⟩:=h;have hsl:=hs.len.1;have hll:=hl.len.1;have HS:=hid hs.old;have HL:=hid hl.old;clear hs hl
 go_enter Tryz.func62,Tryz.ntmps62
 go_upto_region 1 with(fail)
 refine aH fun U hU=>?_;have HB:=hid (show Below w.heap.size w U by rw[hU];go_grown);have HO:=hid (show qA U w.heap.size W As cs Al cl by show U.heap[_]?=_;rw[hU];exact at_new _ _ _ rfl);clear hU;obtain⟨s0,s1,s2⟩:=HO.out.cells
 by_cases h1:60<W.stem.length
 ·have hi:60<(W.stem.length:Int):=by omega
  have di:=decide_eq_true hi;have HR:=hid (show iL W=false by unfold iL;rw[decide_eq_false (show¬W.stem.length<=60 by omega)];simp);clear h1;go_wp2_with fail
  go_ret
  exact⟨aC HR.out.symm,HB.out⟩
 have YB:¬60<(W.stem.length:Int):=by omega
 have qfJ:=decide_eq_false YB
 by_cases h1:W.loop.length<1
 ·have hi:(W.loop.length:Int)<1:=by omega
  have di:=decide_eq_true hi;have HR:=hid (show iL W=false by unfold iL;rw[decide_eq_false (show¬1<=W.loop.length by omega)];simp);clear h1;go_wp2_with fail
  go_ret
  exact⟨aC HR.out.symm,HB.out⟩
 have qf8:¬(W.loop.length:Int)<1:=by omega
 have di_17:=decide_eq_false qf8
 by_cases h1:40<W.loop.length
 ·have hi:40<(W.loop.length:Int):=by omega
  have di:=decide_eq_true hi;have HR:=hid (show iL W=false by unfold iL;rw[decide_eq_false (show¬W.loop.length<=40 by omega)];simp);clear h1;go_wp2_with fail
  go_ret
  exact⟨aC HR.out.symm,HB.out⟩
 have YB:¬40<(W.loop.length:Int):=by omega
 have qfJ:=decide_eq_false YB
 have HF:=hid (show iL W=(gZ W.stem 64&&gZ W.loop 64)by
  unfold iL
  rw[decide_eq_true (show W.stem.length<=60 by omega),decide_eq_true (show 1<=W.loop.length by omega),decide_eq_true (show W.loop.length<=40 by omega),Bool.true_and,Bool.true_and,Bool.true_and])
 cases hb1:gZ W.stem 64
 ·have HQ:=hid hb1
  have HR:=hid (show iL W=false by rw[HF.out,hb1];rfl);clear hb1;go_wp2_with (go_at_call 87;(with_reducible refine(xq (l:=W.stem) false HQ.out rfl (HS.out.any HB.out)).mono ?_);rintro e V ⟨rfl,hbv⟩;have iK:=hid hbv;clear hbv)
  go_ret
  exact⟨aC HR.out.symm,ay HB.out iK.out⟩
 have HQ:=hid hb1;have HR:=hid (show iL W=gZ W.loop 64 by rw[HF.out,hb1];rfl);clear hb1;obtain⟨r,hr⟩:∃r,gZ W.loop 64=r:=⟨_,rfl⟩;have HRR:=hid hr;clear hr;go_wp2_with (first|(go_at_call 87;(with_reducible refine(xq (l:=W.stem) true HQ.out rfl (HS.out.any HB.out)).mono ?_);rintro e V ⟨rfl,hbv⟩;have iK:=hid hbv;clear hbv HQ s0 s1 s2;obtain⟨s0,s1,s2⟩:=(HO.out.below iK.out).cells)|(go_at_call 87;(with_reducible refine(xq (l:=W.loop) r HRR.out rfl (HL.out.any (ay HB.out iK.out))).mono ?_);rintro e V2 ⟨rfl,hbv⟩;have HB2:=hid (ay iK.out hbv);clear hbv))
 go_ret
 exact⟨aC (HR.out.trans HRR.out).symm,ay HB.out HB2.out⟩
theorem zM {D:Dom}{W:lS}{v:Value}{w:World}(r:Bool)(hr:iL W=r)(h:O9 w D v W) :
  Calls Tryz.prog 62 #[v] w fun e w'=>e = .returned (.bool r)/\Below w.heap.size w w':=by
 subst hr;exact QT W v w h
theorem G5 {D:Dom}(m:Int)(W:lS)(v:Value)(w:World)(h:O9 w D v W) :
  Calls Tryz.prog 40 #[.int .i64 m,v] w fun e w'=>e = .returned (.bool (rG m W))/\Below w.heap.size w w':=by
 obtain⟨As,cs,Al,cl,rfl,hs,hl⟩:=h;have hsl:=hs.len.1;have hll:=hl.len.1;have HS:=hid hs.old;have HL:=hid hl.old;clear hs hl
 go_enter Tryz.func40,Tryz.ntmps40
 go_upto_region 1 with(fail)
 refine aH fun U hU=>?_;have HB:=hid (show Below w.heap.size w U by rw[hU];go_grown);have HO:=hid (show qA U w.heap.size W As cs Al cl by show U.heap[_]?=_;rw[hU];exact at_new _ _ _ rfl);clear hU;obtain⟨s0,s1,s2⟩:=HO.out.cells;have mY:=hid (show O9 U aZ (.agg #[.slice As W.stem.length cs,.slice Al W.loop.length cl]) W from⟨As,cs,Al,cl,rfl,HS.out.any HB.out,HL.out.any HB.out⟩);cases hf:iL W
 ·have HQ:=hid hf
  have HR:=hid (show rG m W=false by unfold rG;rw[hf];rfl);clear hf;go_wp2_with (go_at_call 62;(with_reducible refine(zM (W:=W) false HQ.out mY.out).mono ?_);rintro e V ⟨rfl,hbv⟩;have iK:=hid hbv;clear hbv s0 s1 s2;obtain⟨s0,s1,s2⟩:=(HO.out.below iK.out).cells)
  go_ret
  exact⟨aC HR.out.symm,ay HB.out iK.out⟩
 have HQ:=hid hf;have HF:=hid (show rG m W=(gZ W.stem m&&gZ W.loop m)by unfold rG;rw[hf,Bool.true_and]);clear hf;cases hb1:gZ W.stem m
 ·have HQ1:=hid hb1
  have HR:=hid (show rG m W=false by rw[HF.out,hb1];rfl);clear hb1;go_wp2_with (first|(go_at_call 62;(with_reducible refine(zM (W:=W) true HQ.out mY.out).mono ?_);rintro e V ⟨rfl,hbv⟩;have iK:=hid hbv;clear hbv s0 s1 s2;obtain⟨s0,s1,s2⟩:=(HO.out.below iK.out).cells)|(go_at_call 87;(with_reducible refine(xq (l:=W.stem) false HQ1.out rfl (HS.out.any (ay HB.out iK.out))).mono ?_);rintro e V1 ⟨rfl,hbv⟩;have HB1:=hid (ay iK.out hbv);clear hbv HQ1 s0 s1 s2;obtain⟨s0,s1,s2⟩:=(HO.out.below HB1.out).cells))
  go_ret
  exact⟨aC HR.out.symm,ay HB.out HB1.out⟩
 have HQ1:=hid hb1;have HR:=hid (show rG m W=gZ W.loop m by rw[HF.out,hb1];rfl);clear hb1;obtain⟨r,hr⟩:∃r,gZ W.loop m=r:=⟨_,rfl⟩;have HRR:=hid hr;clear hr
 go_wp2_with (first|(go_at_call 62;(with_reducible refine(zM (W:=W) true HQ.out mY.out).mono ?_);rintro e V ⟨rfl,hbv⟩;have iK:=hid hbv;clear hbv s0 s1 s2;obtain⟨s0,s1,s2⟩:=(HO.out.below iK.out).cells)|(go_at_call 87;(with_reducible refine(xq (l:=W.stem) true HQ1.out rfl (HS.out.any (ay HB.out iK.out))).mono ?_);rintro e V1 ⟨rfl,hbv⟩;have HB1:=hid (ay iK.out hbv);clear hbv HQ1 s0 s1 s2;obtain⟨s0,s1,s2⟩:=(HO.out.below HB1.out).cells)|(go_at_call 87;(with_reducible refine(xq (l:=W.loop) r HRR.out rfl (HL.out.any (ay HB.out HB1.out))).mono ?_);rintro e V2 ⟨rfl,hbv⟩;have HB2:=hid (ay HB1.out hbv);clear hbv))
 go_ret
 exact⟨aC (HR.out.trans HRR.out).symm,ay HB.out HB2.out⟩
theorem ZJ {D:Dom}{m:Int}{W:lS}{v:Value}{w:World}(r:Bool)(hr:rG m W=r)(h:O9 w D v W) :
  Calls Tryz.prog 40 #[.int .i64 m,v] w fun e w'=>e = .returned (.bool r)/\Below w.heap.size w w':=by
 subst hr;exact G5 m W v w h
theorem pick_any {D:Dom}(W:lS)(i:Nat)(v:Value)(w:World)(h:O9 w D v W)(hi:i<=1000000)(hne:0<W.loop.length) :
  Calls Tryz.prog 63 #[v,.int .i64 (i:Int)] w fun e w'=>e = .returned (.int .i64 (dQ W i))/\Below w.heap.size w w':=by
 obtain⟨As,cs,Al,cl,rfl,hs,hl⟩:=h;have hsl:=hs.len.1;have hll:=hl.len.1;have HS:=hid hs.old;have HL:=hid hl.old;clear hs hl
 go_enter Tryz.func63,Tryz.ntmps63
 go_upto_region 1 with(fail)
 refine aH fun U hU=>?_;have HB:=hid (show Below w.heap.size w U by rw[hU];go_grown);have HO:=hid (show qA U w.heap.size W As cs Al cl by show U.heap[_]?=_;rw[hU];exact at_new _ _ _ rfl);clear hU;obtain⟨s0,s1,s2⟩:=HO.out.cells
 by_cases h1:i<W.stem.length
 ·have hii:(i:Int)<W.stem.length:=by omega
  obtain⟨b,o,x,rfl,_,hlb,HX,x0⟩:=(HS.out.any HB.out).get h1;have HR:=hid (show dQ W i=x by unfold dQ;rw[if_pos h1];exact HX.out);clear HX h1;go_wp2_with fail
  go_ret
  exact⟨bn HR.out.symm,HB.out⟩
 ·have hii:¬(i:Int)<W.stem.length:=by omega
  obtain⟨r,hr⟩:∃r,(i-W.stem.length) % W.loop.length=r:=⟨_,rfl⟩;have hrl:r<W.loop.length:=by rw[<-hr];exact Nat.mod_lt _ hne
  obtain⟨b,o,x,rfl,_,hlb,HX,x0⟩:=(HL.out.any HB.out).get hrl;have HR:=hid (show dQ W i=x by unfold dQ;rw[if_neg h1,hr];exact HX.out)
  have hsub:IntKind.i64.wrap ((i:Int)-(W.stem.length:Int))=((i-W.stem.length:Nat):Int):=by
   rw[IntWalk.i64_in _ (by omega)];omega
  have htm:((i-W.stem.length:Nat):Int).tmod (W.loop.length:Int)=(r:Int):=by
   rw[Int.tmod_eq_emod_of_nonneg (by omega),<-hr];rfl
  have hne1:¬(W.loop.length:Int)=0:=by omega
  have hne2:((W.loop.length:Int)==0)=false:=au hne1;have hne3:¬W.loop.length=0:=by omega
  have hwr:IntKind.i64.wrap (r:Int)=(r:Int):=IntWalk.i64_in _ (by omega);have hr0:(0:Int)<=(r:Int):=by omega
  have hri:(r:Int)<W.loop.length:=by omega
  obtain⟨d,hd⟩:∃d,i-W.stem.length=d:=⟨_,rfl⟩;rw[hd]at hsub htm;clear HX h1 hr hd hrl;go_upto_region 3 with(fail)
  go_quiet (fail)
  go_wp2_with fail
  go_ret
  exact⟨bn HR.out.symm,below_drewN HB.out _⟩
end Go.Proofs.YtdpbgcmfeajigaaGreatDoor
namespace Go.Proofs.YtdpbgcmfeajigaaGreatDoor
open Go.RowKit Go.Shelf
attribute [local go_sem] ak run_store_func
structure qaP (l N:Nat) (item:Nat->World->Array Value->Prop) (Z M:Dom) (B1 own:Nat) (J:Nat->World->Prop) (X:World->Prop):Prop where
 z:∀b,Z b->¬M b/\(b<B1\/B1+own<=b)
 keep:∀k W W',J k W->aF (fun b=>B1<=b/\b<B1+own) W W'->J k W'
 qcq:∀W W',X W->aF (fun b=>B1<=b/\b<B1+own) W W'->X W'
 step:∀k W vs,B1+own<=W.heap.size->J k W->k<N->item k W vs->YieldAt Fence.wide 0 Tryz.prog l vs W fun e W'=>aF Z W W'/\((e = .returned (.bool true)/\J (k+1) W')\/(e = .returned (.bool false)/\X W'))
def vV (inf:Bool)(gf:Nat)(caps:Array Value)(N:Nat)(item:Nat->World->Array Value->Prop)(M:Dom)(own:Nat)(w:World):Prop :=
 ∀(l:Nat) (Z:Dom) (J:Nat->World->Prop) (X:World->Prop) (W1:World) (B1:Nat),W1.heap.size=B1->Below w.heap.size w W1->qaP l N item Z M B1 own J X->J 0 W1->(inf=true->∀W,¬J N W) ->
  Calls Tryz.prog gf (#[.func (.yield l) #[] #[]]++caps) W1 fun e w'=>(∃v,e = .returned v)/\aF Z W1 w'/\(J N w'\/X w')
theorem Js {inf:Bool}{g:Operand}{ps:Array Tmp}{assign body:Code}{Q:Exit->Act->World->Prop}{a:Act}{w:World}(gf:Nat)(caps:Array Value)(N own:Nat)(M:Dom)(item:Nat->World->Array Value->Prop)(Z:Dom)(I:Nat->World->Prop)(Ix:Code->World->Prop)
  (eg:∀args w,(callFunc gf args).run Tryz.prog w = .ok (.enter gf args) w) (hg:a.eval g = .func (.func gf) #[] caps) (hit:vV inf gf caps N item M own w) (hps:∀k W vs,item k W vs->vs.size=ps.size) (hMw:∀b,M b->b<w.heap.size)
  (NI:∀k W W' vs,item k W vs->aF (fun b=>b=w.heap.size+1) W W'->item k W' vs)
  (hZ:∀b,Z b->¬M b/\(b<w.heap.size\/w.heap.size+2+own<=b))
  (hI:∀k W W',I k W->aF (fun b=>w.heap.size<=b/\b<w.heap.size+2+own) W W'->I k W')
  (hIx:∀c W W',Ix c W->aF (fun b=>w.heap.size<=b/\b<w.heap.size+2+own) W W'->Ix c W') (h0:I 0 w)
  (a₁ : Array Value->Act)
  (hassign:∀(l k:Nat) (vs:Array Value) (W:World) (K:Act->World->Prop),item k W vs->K (a₁ vs) W ->
   assign.wpIn (Fence.wide.inRound l) 0 Tryz.prog (Exit.then K (fun _ _ _=>False)) { tmps:=(ps.zip vs).foldl (fun t (p,v)=>t.setIfInBounds p v) a.tmps,defers := [] } W)
  (dP:∀(l k:Nat) (W:World) (vs:Array Value),w.heap.size+2+own<=W.heap.size->aF Z w W->I k W->k<N->item k W vs ->
   body.wpIn (Fence.wide.inRound l) 0 Tryz.prog (xg Z I Ix k W) (a₁ vs) W)
  (hdone:∀W,aF Z w W->I N W->W.heap[w.heap.size]?=some (.deferred (some []))->Q .normal { a with defers := { target := .collected w.heap.size,args := #[] } :: a.defers } W)
  (hstop:∀c W,aF Z w W->Ix c W->W.heap[w.heap.size]?=some (.deferred (some []))->c.wp Tryz.prog Q { a with defers := { target := .collected w.heap.size,args := #[] } :: a.defers } W)
  (YC:inf=true->∀W,¬I N W) :
  (Code.rangeFunc g ps assign body).wp Tryz.prog Q a w:=by
 refine(wpIn_wide (n:=3)).1 (wpIn_rangeFunc fun fn _=>?_);obtain⟨rec,hrec⟩:∃rec:LoopState->Option Code->Loop,rec=fun st pe => { state:=st,pending:=pe,fn,tmps:=a.tmps,params:=ps,assign,body,defers:=w.heap.size }:=⟨_,rfl⟩;obtain⟨W1,hW1⟩:∃W1,(w.alloc (.deferred (some []))).alloc (.loop (rec .ready none))=W1:=⟨_,rfl⟩;have hL1:W1.heap[w.heap.size+1]?=some (.loop (rec .ready none)):=by rw[<-hW1];exact at_new _ _ _ (by simp)
 have hK1:W1.heap[w.heap.size]?=some (.deferred (some [])):=by rw[<-hW1,aQ _ _ _ (by simp)];exact at_new _ _ _ rfl
 have hs1:W1.heap.size=w.heap.size+2:=by rw[<-hW1];simp
 have hb1:Below w.heap.size w W1:=by rw[<-hW1];exact((Below.refl _ w).alloc (Nat.le_refl _) _).alloc (by simp) _
 refine⟨w.heap.size+1,[{ target := .collected w.heap.size,args := #[] }],W1,{ target := .fn (.func gf) caps,args := #[.func (.yield (w.heap.size+1)) #[] #[]] },W1,gf,
  #[.func (.yield (w.heap.size+1)) #[] #[]]++caps,W1,?_,?_,?_,?_,?_,?_⟩
 ·rw[<-hW1,hrec];exact run_enterLoop_outer _ _ _ _ _
 ·simp only[resolve,hg]
  simp[go_sem]
 ·exact fun f' _=>trivial
 ·simp[invoke,go_sem,eg]
 ·intro hd;simp[Fence.wide]at hd
 ·have qgy:∀W W':World,aF (fun b=>w.heap.size+2<=b/\b<w.heap.size+2+own) W W'->aF (fun b=>w.heap.size<=b/\b<w.heap.size+2+own) W W':=fun W W' h=>h.mono fun b _ hb=>⟨by omega,hb.2⟩
  have nP:∀W W':World,aF (fun b=>b=w.heap.size+1) W W'->aF (fun b=>w.heap.size<=b/\b<w.heap.size+2+own) W W':=fun W W' h=>h.mono fun b _ hb=>by omega
  refine callsIn_wide.2 ((hit (w.heap.size+1) (fun b=>Z b\/b=w.heap.size+1)
   (fun k W=>I k W/\aF Z w W/\W.heap[w.heap.size+1]?=some (.loop (rec .ready none))/\W.heap[w.heap.size]?=some (.deferred (some [])))
   (fun W=>∃c,Ix c W/\aF Z w W/\W.heap[w.heap.size+1]?=some (.loop (rec .done (some c)))/\W.heap[w.heap.size]?=some (.deferred (some [])))
   W1 (w.heap.size+2) hs1 hb1 ⟨?_,?_,?_,?_⟩ ⟨hI 0 w W1 h0 (aF.aS hb1),aF.aS hb1,hL1,hK1⟩ (fun h W hj=>YC h W hj.1)).mono ?_)
  ·rintro b (hb|hb)
   ·have:=hZ b hb;exact⟨this.1,by omega⟩
   ·exact⟨fun hm=>by have:=hMw b hm;omega,by omega⟩
  ·rintro k W W' ⟨hi,hc,hl,hk⟩ hw
   exact⟨hI k W W' hi (qgy _ _ hw),hc.trans' hw fun b _ hb=>by omega,hw.box hl (by omega),hw.box hk (by omega)⟩
  ·rintro W W' ⟨c,hi,hc,hl,hk⟩ hw
   exact⟨c,hIx c W W' hi (qgy _ _ hw),hc.trans' hw fun b _ hb=>by omega,hw.box hl (by omega),hw.box hk (by omega)⟩
  ·rintro k W vs hsz ⟨hi,hc,hl,hk⟩ hlen hfw
   have hlt:w.heap.size+1<W.heap.size:=lt_of_block hl;have hy:=run_yield (P:=Tryz.prog) (args:=vs) hl (by rw[hrec];exact hps _ _ _ hfw);rw[hrec]at hy;refine⟨fn,_,assign,body,hy,roundIn_of_wpIn trivial (hassign _ _ _ W _ hfw ⟨_,run_beginRound hl (by rw[hrec]),?_⟩)⟩;obtain⟨Wb,QZ⟩:∃Wb,Wb=W.putObj (w.heap.size+1) (.loop { rec .ready none with state := .busy }):=⟨_,rfl⟩;rw[<-QZ];have hcb:aF (fun b=>b=w.heap.size+1) W Wb:=by rw[QZ];exact aF.putObj _ _ _
   have hl2:Wb.heap[w.heap.size+1]?=some (.loop { rec .ready none with state := .busy }):=by rw[QZ];exact World.putObj_heap_same hlt
   have hk2:Wb.heap[w.heap.size]?=some (.deferred (some [])):=hcb.box hk (by omega);have hsb:W.heap.size<=Wb.heap.size:=hcb.size;refine wpIn_mono (dP _ k Wb vs (by omega) (hc.trans' hcb fun b _ hb=>by omega) (hI _ _ _ hi (nP _ _ hcb)) hlen (NI _ _ _ _ hfw hcb)) ?_
   have fin:∀(jump:Option Code) (W3:World),aF Z Wb W3 ->
     (Instr.endRound (w.heap.size+1) jump).run Tryz.prog W3 = .ok (.bool jump.isNone) (W3.putObj (w.heap.size+1) (.loop (rec (if jump.isNone then .ready else .done) jump))) /\
     aF (fun b=>b=w.heap.size+1) W3 (W3.putObj (w.heap.size+1) (.loop (rec (if jump.isNone then .ready else .done) jump))) /\
     aF (fun b=>Z b\/b=w.heap.size+1) W (W3.putObj (w.heap.size+1) (.loop (rec (if jump.isNone then .ready else .done) jump))) /\
     aF Z w (W3.putObj (w.heap.size+1) (.loop (rec (if jump.isNone then .ready else .done) jump))) /\
     (W3.putObj (w.heap.size+1) (.loop (rec (if jump.isNone then .ready else .done) jump))).heap[w.heap.size+1]?=some (.loop (rec (if jump.isNone then .ready else .done) jump)) /\
     (W3.putObj (w.heap.size+1) (.loop (rec (if jump.isNone then .ready else .done) jump))).heap[w.heap.size]?=some (.deferred (some [])):=fun jump W3 hc3=>by
    have hl3:=hc3.box hl2 (fun h=>by have:=hZ _ h;omega);have hk3:=hc3.box hk2 (fun h=>by have:=hZ _ h;omega);have hcp:=aF.putObj W3 (w.heap.size+1) (.loop (rec (if jump.isNone then .ready else .done) jump));have hr:=run_endRound (P:=Tryz.prog) jump hl3;rw[hrec]at hr hcp⊢;refine⟨hr,hcp,?_,?_,World.putObj_heap_same (lt_of_block hl3),hcp.box hk3 (by omega)⟩
    ·exact((hcb.mono fun b _ hb => .inr hb).trans (hc3.mono fun b _ hb => .inl hb)).trans (hcp.mono fun b _ hb => .inr hb)
    ·exact((hc.trans' hcb fun b _ hb=>by omega).trans hc3).trans' hcp fun b _ hb=>by omega
   rintro e a3 W3 hp
   cases e with
   | normal =>
    obtain⟨hc3,hi3⟩:=hp;obtain⟨hr,hcp,hcW,hcw,hl4,hk4⟩:=fin none W3 hc3;exact⟨_,_,hr,hcW,.inl ⟨rfl,hI _ _ _ hi3 (nP _ _ hcp),hcw,hl4,hk4⟩⟩
   | ret =>
    obtain⟨hc3,hi3⟩:=hp;obtain⟨hr,hcp,hcW,hcw,hl4,hk4⟩:=fin (some .ret) W3 hc3;exact⟨_,_,hr,hcW,.inr ⟨rfl,_,hIx _ _ _ hi3 (nP _ _ hcp),hcw,hl4,hk4⟩⟩
   | exit id =>
    obtain⟨hc3,hi3⟩:=hp;obtain⟨hr,hcp,hcW,hcw,hl4,hk4⟩:=fin (some (.exit id)) W3 hc3;exact⟨_,_,hr,hcW,.inr ⟨rfl,_,hIx _ _ _ hi3 (nP _ _ hcp),hcw,hl4,hk4⟩⟩
   | goto t =>
    obtain⟨hc3,hi3⟩:=hp;obtain⟨hr,hcp,hcW,hcw,hl4,hk4⟩:=fin (some (.goto t)) W3 hc3;exact⟨_,_,hr,hcW,.inr ⟨rfl,_,hIx _ _ _ hi3 (nP _ _ hcp),hcw,hl4,hk4⟩⟩
   | panic ch=>exact hp.elim
   | outgrown=>exact hp.elim
  ·rintro e W2 ⟨⟨v,rfl⟩,hc2,(⟨hi,hc,hl,hk⟩|⟨c,hi,hc,hl,hk⟩)⟩
   ·refine⟨none,_,by have:=run_endLoop (P:=Tryz.prog) hl (by rw[hrec];simp);rw[hrec]at this;exact this,?_⟩
    have hcp:=aF.putObj W2 (w.heap.size+1) (.loop { rec .ready none with state := .exhausted });rw[hrec]at hcp;exact hdone _ (hc.trans' hcp fun b _ hb=>by omega) (hI _ _ _ hi (nP _ _ hcp)) (hcp.box hk (by omega))
   ·refine⟨some c,_,by have:=run_endLoop (P:=Tryz.prog) hl (by rw[hrec];simp);rw[hrec]at this;exact this,?_⟩
    have hcp:=aF.putObj W2 (w.heap.size+1) (.loop { rec .done (some c)with state := .exhausted });rw[hrec]at hcp;exact wpIn_wide.2 (hstop c _ (hc.trans' hcp fun b _ hb=>by omega) (hIx _ _ _ hi (nP _ _ hcp)) (hcp.box hk (by omega)))
def YJ (it:Nat->World->Value->Prop)(k:Nat)(W:World)(vs:Array Value):Prop:=∃u,vs = #[u]/\it k W u
def YK (it:Nat->World->Value->Value->Prop)(k:Nat)(W:World)(vs:Array Value):Prop:=∃u v,vs = #[u,v]/\it k W u v
theorem range_one {inf:Bool}{g:Operand}{ps:Array Tmp}{assign body:Code}{Q:Exit->Act->World->Prop}{a:Act}{w:World}(gf:Nat)(caps:Array Value)(N own:Nat)(M:Dom)(it:Nat->World->Value->Prop)(Z:Dom)(I:Nat->World->Prop)(Ix:Code->World->Prop)
  (eg:∀args w,(callFunc gf args).run Tryz.prog w = .ok (.enter gf args) w) (hg:a.eval g = .func (.func gf) #[] caps) (hps:ps.size=1) (hit:vV inf gf caps N (YJ it) M own w) (hMw:∀b,M b->b<w.heap.size)
  (NI:∀k W W' u,it k W u->aF (fun b=>b=w.heap.size+1) W W'->it k W' u)
  (hZ:∀b,Z b->¬M b/\(b<w.heap.size\/w.heap.size+2+own<=b))
  (hI:∀k W W',I k W->aF (fun b=>w.heap.size<=b/\b<w.heap.size+2+own) W W'->I k W')
  (hIx:∀c W W',Ix c W->aF (fun b=>w.heap.size<=b/\b<w.heap.size+2+own) W W'->Ix c W') (h0:I 0 w)
  (a₁ : Value->Act)
  (hassign:∀(l:Nat) (u:Value) (W:World) (K:Act->World->Prop),K (a₁ u) W ->
   assign.wpIn (Fence.wide.inRound l) 0 Tryz.prog (Exit.then K (fun _ _ _=>False)) { tmps:=(ps.zip #[u]).foldl (fun t (p,v)=>t.setIfInBounds p v) a.tmps,defers := [] } W)
  (dP:∀(l k:Nat) (W:World) (u:Value),w.heap.size+2+own<=W.heap.size->aF Z w W->I k W->k<N->it k W u ->
   body.wpIn (Fence.wide.inRound l) 0 Tryz.prog (xg Z I Ix k W) (a₁ u) W)
  (hdone:∀W,aF Z w W->I N W->W.heap[w.heap.size]?=some (.deferred (some []))->Q .normal { a with defers := { target := .collected w.heap.size,args := #[] } :: a.defers } W)
  (hstop:∀c W,aF Z w W->Ix c W->W.heap[w.heap.size]?=some (.deferred (some []))->c.wp Tryz.prog Q { a with defers := { target := .collected w.heap.size,args := #[] } :: a.defers } W)
  (YC:inf=true->∀W,¬I N W) :
  (Code.rangeFunc g ps assign body).wp Tryz.prog Q a w :=
 Js gf caps N own M (YJ it) Z I Ix eg hg hit (fun k W vs h=>by obtain⟨u,rfl,_⟩:=h;exact hps.symm) hMw (fun k W W' vs h hc=>by obtain⟨u,rfl,h⟩:=h;exact⟨u,rfl,NI _ _ _ _ h hc⟩) hZ hI hIx h0
  (fun vs=>a₁ (vs.getD 0 undef)) (fun l k vs W K h hK=>by obtain⟨u,rfl,h⟩:=h;exact hassign l u W K hK) (fun l k W vs h1 h2 h3 h4 h=>by obtain⟨u,rfl,h⟩:=h;exact dP l k W u h1 h2 h3 h4 h) hdone hstop YC
theorem Cb {inf:Bool}{g:Operand}{ps:Array Tmp}{assign body:Code}{Q:Exit->Act->World->Prop}{a:Act}{w:World}(gf:Nat)(caps:Array Value)(N own:Nat)(M:Dom)(it:Nat->World->Value->Value->Prop)(Z:Dom)(I:Nat->World->Prop)(Ix:Code->World->Prop)
  (eg:∀args w,(callFunc gf args).run Tryz.prog w = .ok (.enter gf args) w) (hg:a.eval g = .func (.func gf) #[] caps) (hps:ps.size=2) (hit:vV inf gf caps N (YK it) M own w) (hMw:∀b,M b->b<w.heap.size)
  (NI:∀k W W' u v,it k W u v->aF (fun b=>b=w.heap.size+1) W W'->it k W' u v)
  (hZ:∀b,Z b->¬M b/\(b<w.heap.size\/w.heap.size+2+own<=b))
  (hI:∀k W W',I k W->aF (fun b=>w.heap.size<=b/\b<w.heap.size+2+own) W W'->I k W')
  (hIx:∀c W W',Ix c W->aF (fun b=>w.heap.size<=b/\b<w.heap.size+2+own) W W'->Ix c W') (h0:I 0 w)
  (a₁ : Value->Value->Act)
  (hassign:∀(l:Nat) (u v:Value) (W:World) (K:Act->World->Prop),K (a₁ u v) W ->
   assign.wpIn (Fence.wide.inRound l) 0 Tryz.prog (Exit.then K (fun _ _ _=>False)) { tmps:=(ps.zip #[u,v]).foldl (fun t (p,v)=>t.setIfInBounds p v) a.tmps,defers := [] } W)
  (dP:∀(l k:Nat) (W:World) (u v:Value),w.heap.size+2+own<=W.heap.size->aF Z w W->I k W->k<N->it k W u v ->
   body.wpIn (Fence.wide.inRound l) 0 Tryz.prog (xg Z I Ix k W) (a₁ u v) W)
  (hdone:∀W,aF Z w W->I N W->W.heap[w.heap.size]?=some (.deferred (some []))->Q .normal { a with defers := { target := .collected w.heap.size,args := #[] } :: a.defers } W)
  (hstop:∀c W,aF Z w W->Ix c W->W.heap[w.heap.size]?=some (.deferred (some []))->c.wp Tryz.prog Q { a with defers := { target := .collected w.heap.size,args := #[] } :: a.defers } W)
  (YC:inf=true->∀W,¬I N W) :
  (Code.rangeFunc g ps assign body).wp Tryz.prog Q a w :=
 Js gf caps N own M (YK it) Z I Ix eg hg hit (fun k W vs h=>by obtain⟨u,v,rfl,_⟩:=h;exact hps.symm) hMw (fun k W W' vs h hc=>by obtain⟨u,v,rfl,h⟩:=h;exact⟨u,v,rfl,NI _ _ _ _ _ h hc⟩) hZ hI hIx h0
  (fun vs=>a₁ (vs.getD 0 undef) (vs.getD 1 undef)) (fun l k vs W K h hK=>by obtain⟨u,v,rfl,h⟩:=h;exact hassign l u v W K hK) (fun l k W vs h1 h2 h3 h4 h=>by obtain⟨u,v,rfl,h⟩:=h;exact dP l k W u v h1 h2 h3 h4 h) hdone hstop YC
end Go.Proofs.YtdpbgcmfeajigaaGreatDoor
namespace Go.Proofs.YtdpbgcmfeajigaaGreatDoor
open Go.RowKit Go.Shelf
attribute [local go_sem] ak run_store_func
theorem fO {l:List Sg}(h:dM l=true):1<=l.length/\l.length<=6/\lK l<=64/\∀i,i<l.length->Cj l i=true:=by
 unfold dM at h;simp only[Bool.and_eq_true,decide_eq_true_eq]at h;exact⟨h.1.1.1,h.1.1.2,h.2,fun i hi=>iD.1 h.1.2 i hi⟩
theorem oU {l:List Sg}{i:Nat}(h:Cj l i=true):nameB (l.getD i default).name=true/\2<=(l.getD i default).size/\(l.getD i default).size<=4:=by
 unfold Cj at h;simp only[Bool.and_eq_true,decide_eq_true_eq]at h;exact⟨h.1.1.1,h.1.1.2,h.1.2⟩
theorem nT {l:List Sg}(h:dM l=true):∀i,i<=l.length->Bd l i (lK (l.take i))
 | 0,_=>Bd.zero l
 | i+1,hi=>by
  have hv:=fO h;have ho:=oU (hv.2.2.2 i (by omega));have:=(nT h i (by omega)).succ (s:=(l.getD i default).size) (by omega) (by omega) rfl ho.2.1 ho.2.2;rw[this.is]at this;exact this
def eX (l:List Sg)(i:Nat):Int:=lK (l.take i)
theorem DU {l:List Sg}{i:Nat}(hi:i<l.length):eX l (i+1)=eX l i*(l.getD i default).size:=by
 unfold eX;rw[aT l default hi,pY];show _*((l.getD i default).size*1)=_;rw[Int.mul_one]
def Uj (l:List Sg)(k:Nat)(_:World)(u v:Value):Prop:=u = .int .i64 (k:Int)/\v = .int .i64 (eX l k)
theorem rV {l:List Sg}(A:Option Addr)(c pb:Nat)(M:Dom)(w:World)(hv:dM l=true)(hl:lV w M A c l)(hp:w.cell? ⟨pb,0,none⟩=some (.slice A l.length c))(hpb:M pb)(hM:∀b,M b->b<w.heap.size) :
  vV false 123 #[.pointer (some ⟨pb,0,none⟩)] l.length (YK (Uj l)) M 0 w:=by
 intro ln Z J X W1 B1 hW1 hb1 hR hj _;subst hW1;have HR:=hid hR;have HJ:=hid hj;have HV:=hid hv;have Ti:=hid (hl.keep (Keeps.of_below hb1 hM));have HPW:=hid ((hb1.cell (p:=⟨pb,0,none⟩) (World.block_lt_of_cell? w _ hp)).trans hp);have HPB:=hid hpb;have hlen:=hl.len.1;have Io:Hid (∀b,M b->¬Z b):=hid fun b h hz=>(hR.z _ hz).1 h;clear hR hj hl hp hb1 hpb;have p0:=HPW.out;have p1:pb<W1.heap.size:=World.block_lt_of_cell? W1 _ p0;simp only[List.append_toArray,List.cons_append,List.nil_append]
 go_enter Tryz.func123,Tryz.ntmps123
 go_wp2_with fail
 clear p0 p1
 go_loopw [3,7] (fun p q wr=>∃i:Nat,i<=l.length/\q = .int .i64 (i:Int)/\p = .int .i64 (eX l i)/\Hid (aF Z W1 wr)/\Hid (J i wr)) (fun _ q _=>l.length-(intOf q).toNat)
 case atStart=>exact⟨0,Nat.zero_le _,rfl,rfl,aF.refl _ _,HJ.out⟩
 case round =>
  obtain⟨i,hi,rfl,rfl,HC,HJI⟩:=hrel
  by_cases hlt:i<l.length
  ·have hii:(i:Int)<l.length:=by omega
   have fQ:=hid hlt;have hst:=HR.out.step i wr #[.int .i64 (i:Int),.int .i64 (eX l i)] (by have:=HC.out.size;omega) HJI.out hlt ⟨_,_,rfl,rfl,rfl⟩;obtain⟨yf,yt,ya,yb',Q9,TT⟩:=hst;have HR4:=hid TT;clear TT hlt;obtain⟨z,hz⟩:∃z,eX l i=z:=⟨_,rfl⟩;have HZ:=hid hz;rw[hz]at Q9⊢;clear hz;go_upto_region 4 with(fail)
   refine(wpIn_wide (n:=1)).1 ?_
   gi_wp2
   refine HR4.out.mono ?_;rintro e w4 ⟨hc4,(⟨rfl,TS⟩|⟨rfl,Yr⟩)⟩
   ·have zh:=hid hc4
    have HJ4:=hid TS;have rY:=hid (HC.out.trans hc4);obtain⟨b,o,s,rfl,hlb,HX,x0,x1,x2⟩:=(Ti.out.keep (rY.out.keeps fun b _ h=>Io.out b h)).get fQ.out
    have q0:=World.cell?_of_block (w:=W1) (a:=⟨pb,0,none⟩) (rY.out.block pb (World.block_lt_of_cell? W1 _ HPW.out) (Io.out pb HPB.out)) |>.trans HPW.out
    have q1:=World.block_lt_of_cell? w4 _ q0;have jQ:=hid (show(l.getD i default).size=s.size by rw[HX.out]);have kR:=hid (oU ((fO HV.out).2.2.2 i fQ.out));rw[jQ.out]at kR;have HWN:=hid (show eX l (i+1)=z*s.size by rw[DU fQ.out,jQ.out,HZ.out])
    have hwr:IntKind.i64.wrap (z*s.size)=z*s.size:=by
     have h1:=nT HV.out i (Nat.le_of_lt fQ.out);have h2:=h1.wrap (s:=s.size) (by have:=(fO HV.out).2.1;have:=fQ.out;omega) kR.out.2.1 kR.out.2.2;have:lK (l.take i)=z:=HZ.out;rw[this]at h2;exact h2
    clear hc4 TS Q9 HX
    gi_wp2
    go_wp2_with fail
    go_roundw
    case rel=>exact⟨i+1,by have:=fQ.out;omega,by go_num,by rw[HWN.out];(try rw[hwr]),rY.out,HJ4.out⟩
    case measure=>have:=fQ.out;simp[intOf];omega
   ·have zh:=hid (HC.out.trans hc4)
    have HX4:=hid Yr;clear hc4 Yr Q9
    gi_wp2
    go_wp2_with fail
    refine bodyPost_ret (results_none rfl _ _ _) rfl ?_;exact⟨⟨_,rfl⟩,zh.out,.inr HX4.out⟩
  ·have hii:¬(i:Int)<l.length:=by omega
   obtain rfl:i=l.length:=by omega
   have WO:=hid HJI.out;go_wp2_with fail
   go_end0
   exact⟨⟨_,rfl⟩,HC.out,.inl WO.out⟩
theorem wV (A:Option Addr)(n c:Nat)(w:World) :
  Calls Tryz.prog 85 #[.slice A n c] w fun e w'=>e = .returned (.func (.func 123) #[] #[.pointer (some ⟨w.heap.size,0,none⟩)])/\w'=w.alloc (.cells #[.slice A n c] 34):=by
 have hmf:∀(fn:Fn) (first cap:Array Value) (w:World),(Instr.makeFunc fn first cap).run Tryz.prog w = .ok (.func fn first cap) w:=fun _ _ _ _=>rfl
 go_enter Tryz.func85,Tryz.ntmps85
 go_wp2_with fail
 go_ret
 exact⟨rfl,rfl⟩
end Go.Proofs.YtdpbgcmfeajigaaGreatDoor
namespace Go.Proofs.YtdpbgcmfeajigaaGreatDoor
open Go.RowKit Go.Shelf
attribute [local go_sem] ak run_store_func Oper.semAt_some
theorem CQ {P:Program}{id l n:Nat}{Q:Exit->Act->World->Prop}{a:Act}{w:World}{L:List Oper}(hm:P.follows .mixedOrders=true)(hd:qZ L.toArray=true)(hQ:¬LetsOut Q)(hB:Region.lexB .any L.toArray=true)
  (h:wpQuiet P L.toArray (fun w'=>∃n,w'=w.drewN n) (fun a'=>∀w',(∃n,w'=w.drewN n)->Q .normal a' w') L a):(Code.region id L.toArray true).wpIn (Fence.wide.inRound l) n P Q a w:=by
 have hB':=hB;simp only[Region.lexB,Bool.and_eq_true]at hB';refine mV hm hd hQ (wpAny_of_quiet (C:=fun w'=>∃n,w'=w.drewN n) (Q:=fun a'=>∀w',(∃n,w'=w.drewN n)->Q .normal a' w') (fun _ w' hw' h=>h w' hw') _ _ _ _ ⟨1,rfl⟩ ?_);have:=wpAnyQ_lex (C:=fun w'=>∃n,w'=w.drewN n) (md := .any) hB'.1 L.toArray.toList 0 (Array.replicate L.toArray.size false) a (by simp) (by simpa using hB'.2) (by simpa using h);simpa using this
theorem Ed {P:Program}{id l n:Nat}{Q:Exit->Act->World->Prop}{a:Act}{w:World}{ops:Array Oper}(S:World->Prop)(hm:P.follows .mixedOrders=true)(hd:qZ ops=true)(hQ:¬LetsOut Q)(hS:S w.drew)
  (h:S w.drew->wpAnyH P .any ops Q S ops.size (Array.replicate ops.size false) a w.drew):(Code.region id ops true).wpIn (Fence.wide.inRound l) n P Q a w :=
 mV hm hd hQ (wpAny_of_held _ _ _ _ (h hS))
def cO (l:List Sg):Int:=if dM l then lK l else 0
theorem KC (v:Value)(a:ByteArray)(b:Bool)(c:Int)(w:World) :
  Calls Tryz.prog 132 #[.agg #[.string a,.bool b,.int .i64 c]] w fun e w'=>e = .returned (.bool true)/\Below w.heap.size w w':=by
 go_enter Tryz.func132,Tryz.ntmps132
 go_wp2_with fail
 go_ret
 exact⟨rfl,by go_grown⟩
theorem UR {D:Dom}(l:List Sg)(A:Option Addr)(n c:Nat)(w:World)(hn:n=l.length)(h:lV w D A c l)(hk:GK w) :
  Calls Tryz.prog 131 #[.slice A n c,.func (.func 132) #[] #[]] w fun e w'=>e = .returned (.int .i64 (cO l))/\Below w.heap.size w w':=by
 subst hn;have HL:=hid h.old;have HK:=hid hk;have hlen:=h.len.1;clear h hk;refine(callsIn_wide (n:=3)).1 (callsIn_of_wp_marks Tryz.func131 rfl trivial ?_ rfl);simp only[Tryz.ntmps131,List.size_toArray,List.length_cons,List.length_nil,Nat.reduceAdd,Nat.reduceSub,Array.replicate_succ,Array.replicate_zero,List.push_toArray,List.append_toArray,List.nil_append,List.cons_append];refine wpIn_wide.2 ?_;go_upto_region 1 with(fail)
 refine aH fun W hW=>?_;have HB:=hid (show Below w.heap.size w W by rw[hW];go_grown);have mW:=hid (show W.heap[w.heap.size]?=some (.cells #[.slice A l.length c] 34 (0,0))by rw[hW,aQ _ _ _ (by simp)];exact at_new _ _ _ rfl);have kP:=hid (show W.heap[w.heap.size+1]?=some (.cells #[.func (.func 132) #[] #[]] 154 (0,0))by rw[hW];exact at_new _ _ _ (by simp));have HS:=hid (show W.heap.size=w.heap.size+2 by rw[hW];simp);clear hW;have s0:=aj mW.out (i:=0) rfl;have s1:=lt_of_block mW.out;have Ba:=hid (uQ l A c l.length W rfl (HL.out.any HB.out) (HK.out.below HB.out HK.out.pos));cases hv:dM l
 ·have HR:=hid (show cO l=0 by unfold cO;rw[hv];rfl)
  rw[hv]at Ba;clear hv;go_wp2_with (first|(go_at_call 84;refine Ba.out.mono ?_;rintro e V ⟨rfl,jO⟩;have iK:=hid (ay HB.out jO)))
  refine uI rfl (v := .int .i64 0) ?_ ⟨by rw[HR.out],iK.out⟩;simp[results,Tryz.results131,go_sem]
 rw[hv]at Ba;have HV:=hid hv;have HR:=hid (show cO l=lK l by unfold cO;rw[hv];rfl);clear hv;go_upto_region 4 with(go_at_call 84;refine Ba.out.mono ?_;rintro e V ⟨rfl,jO⟩;have iK:=hid jO;clear s0 s1 jO)
 refine aH fun V2 hV2=>?_;have hb2:Below V.heap.size V V2:=by rw[hV2];go_grown
 have HB2:=hid (ay iK.out hb2);have HE2:=hid (show V2.heap[V.heap.size]?=some (.cells #[.int .i64 1] 3 (0,0))by rw[hV2];first|exact at_new _ _ _ rfl|(rw[aB (at_new _ _ _ rfl)];rfl));have yJ:=hid (show w.heap.size+2<=V.heap.size by have:=iK.out.size;have:=HS.out;omega);obtain⟨nb,hnb⟩:∃nb,nb=V.heap.size:=⟨_,rfl⟩;rw[<-hnb]at HE2 yJ⊢;clear hV2 hb2 hnb iK Ba;have LX:=hid ((HB2.out.block _ (lt_of_block mW.out)).trans mW.out);have tX:=hid ((HB2.out.block _ (lt_of_block kP.out)).trans kP.out);have s0:=aj LX.out (i:=0) rfl;have s1:=lt_of_block LX.out;go_wp2_with (go_at_call 85;refine(wV A l.length c V2).mono ?_;rintro e w2 ⟨rfl,rfl⟩)
 refine aH fun W2 hW2=>?_;have hb2:Below V2.heap.size V2 W2:=by rw[hW2];go_grown
 have HP:=hid (show W2.cell? ⟨V2.heap.size,0,none⟩=some (.slice A l.length c)by rw[hW2];exact aj (at_new _ _ _ rfl) (i:=0) rfl);have HS2:=hid (show W2.heap.size=V2.heap.size+1 by rw[hW2];simp);have aY:=hid (ay HB.out (ay HB2.out hb2));have ZP:=hid ((hb2.block _ (lt_of_block LX.out)).trans LX.out);have LY:=hid ((hb2.block _ (lt_of_block tX.out)).trans tX.out);have HF2:=hid ((hb2.block _ (lt_of_block HE2.out)).trans HE2.out);have pI:=hid (show w.heap.size+2<=nb/\nb<V2.heap.size from⟨yJ.out,lt_of_block HE2.out⟩);have Ti:=hid ((HL.out.keep (Keeps.of_below aY.out fun _ h=>h)).mono (E:=fun x=>x<w.heap.size\/x=V2.heap.size) fun k hk hl => .inl hk);clear hW2 hb2 s0 s1 mW kP HE2 LX tX
 have Hw:=hid (rV A c V2.heap.size (fun x=>x<w.heap.size\/x=V2.heap.size) W2 HV.out Ti.out HP.out (.inr rfl) (fun x hx=>by have:=HS2.out;have:=pI.out;omega));have HMP:=hid (fun i (hi:i<=l.length)=>nT HV.out i hi)
 refine Cb 123 #[.pointer (some ⟨V2.heap.size,0,none⟩)] l.length 0 (fun x=>x<w.heap.size\/x=V2.heap.size) (Uj l) (fun x=>x=nb)
  (fun k W'=>W'.heap[nb]?=some (.cells #[.int .i64 (eX l k)] 3 (0,0)))
  (fun _ _=>False)
  (enters_of Tryz.func123 (by kernel_rfl) rfl) rfl rfl Hw.out (fun x hx=>by have:=HS2.out;have:=pI.out;omega) (fun _ _ _ _ _ h _=>h) ?hZ ?hI (fun _ _ _ h _=>h) HF2.out ?a1 ?hassign ?dP ?hdone (fun _ _ _ h _=>h.elim) (fun h=>by cases h)
 case hassign =>
  intro l u v W K hK
  gi_wp2
  exact hK
 case hZ=>intro x hx;have:=HS2.out;have:=pI.out;exact⟨by omega,by omega⟩
 case hI=>intro k W3 W4 h hc;exact hc.box h (by have:=HS2.out;have:=pI.out;omega)
 case dP =>
  rintro ln k W3 u v hs3 hc3 WV hkl ⟨rfl,rfl⟩;have HKL:=hid hkl;have HI3:=hid WV;have AX:=hid hc3;have hkk:(k:Int)<(l.length:Int):=by omega
  have hk0:(0:Int)<=(k:Int):=by omega
  have uT:=hid (show w.heap.size≠nb/\w.heap.size+1≠nb by have:=pI.out;omega);have t0:=aj (hc3.box ZP.out uT.out.1) (i:=0) rfl;have t1:=aj (hc3.box LY.out uT.out.2) (i:=0) rfl;have tl0:=lt_of_block (hc3.box ZP.out uT.out.1);obtain⟨b,o,s,rfl,hlb,HX,x0,x1,x2⟩:=(Ti.out.keep (hc3.keeps fun x _ h e=>by have:=pI.out;omega)).get hkl;have jQ:=hid (show(l.getD k default).size=s.size by rw[HX.out]);have kR:=hid (oU ((fO HV.out).2.2.2 k hkl));rw[jQ.out]at kR;clear HX hc3 WV hkl
  gi_upto_region 6 with(fail)
  refine Ed (fun W'=>W'.cell? ⟨w.heap.size+1,0,none⟩=some (.func (.func 132) #[] #[])/\W'.cell? ⟨w.heap.size,0,none⟩=some (.slice (some ⟨b,o,none⟩) l.length c)/\W'.cell? ⟨b,o+k*3,none⟩=some (.string s.name)/\W'.cell? ⟨b,o+k*3+1,none⟩=some (.bool s.inp)/\W'.cell? ⟨b,o+k*3+2,none⟩=some (.int .i64 s.size)) (by kernel_rfl) (by kernel_rfl) (fun h=>by obtain⟨_,_,h⟩:=h;exact h) ⟨t1,t0,x0,x1,x2⟩ (fun hHeld=>?_);clear t0 t1 x0 x1 x2;refine gK 0 ?_ rfl (by kernel_rfl) (fun _ _ _ h=>h) ?_ (by assumption) ?_
  rotate_left
  ·intro w hSw;(try dsimp only at hSw);go_simp;(try(with_reducible rfl))
  try simp only[Act.put,cZ,dh,dw]
  refine gK 1 ?_ rfl (by kernel_rfl) (fun _ _ _ h=>h) ?_ (by assumption) ?_
  rotate_left
  ·intro w hSw;(try dsimp only at hSw);go_simp;(try(with_reducible rfl))
  try simp only[Act.put,cZ,dh,dw]
  refine gK 2 ?_ rfl (by kernel_rfl) (fun _ _ _ h=>h) ?_ (by assumption) ?_
  rotate_left
  ·intro w hSw;(try dsimp only at hSw);go_simp;(try(with_reducible rfl))
  try simp only[Act.put,cZ,dh,dw]
  refine gK 3 ?_ rfl (by kernel_rfl) (fun _ _ _ h=>h) ?_ (by assumption) ?_
  rotate_left
  ·intro w hSw;(try dsimp only at hSw);go_simp;(try(with_reducible rfl))
  try simp only[Act.put,cZ,dh,dw]
  refine gK 4 ?_ rfl (by kernel_rfl) (fun _ _ _ h=>h) ?_ (by assumption) ?_
  rotate_left
  ·intro w hSw;(try dsimp only at hSw);go_simp;(try(with_reducible rfl))
  try simp only[Act.put,cZ,dh,dw]
  refine qR 5 (by kernel_rfl) rfl fun K hK=>?_
  go_simp
  refine(KC (.int .i64 0) s.name s.inp s.size _).mono ?_;rintro e V3 ⟨rfl,hb3⟩;have vT:=hid (show Below W3.heap.size W3 V3 from((Below.refl _ _).drew).trans (hb3.mono (by simp)));have kQ:=hid tl0;have Ip:=hid hlb
  have hq:V3.cell? ⟨w.heap.size+1,0,none⟩=some (.func (.func 132) #[] #[])/\V3.cell? ⟨w.heap.size,0,none⟩=some (.slice (some ⟨b,o,none⟩) l.length c)/\V3.cell? ⟨b,o+k*3,none⟩=some (.string s.name)/\V3.cell? ⟨b,o+k*3+1,none⟩=some (.bool s.inp)/\V3.cell? ⟨b,o+k*3+2,none⟩=some (.int .i64 s.size):=by
   obtain⟨h1,h2,h3,h4,h5⟩:=hHeld;exact⟨(hb3.cell (World.block_lt_of_cell? _ _ h1)).trans h1,(hb3.cell (World.block_lt_of_cell? _ _ h2)).trans h2,(hb3.cell (World.block_lt_of_cell? _ _ h3)).trans h3,(hb3.cell (World.block_lt_of_cell? _ _ h4)).trans h4,(hb3.cell (World.block_lt_of_cell? _ _ h5)).trans h5⟩
  refine hK.out _ _ hq (fun hHeld=>?_);clear hK K hb3 tl0 hlb
  try simp only[Act.put,cZ,dh,dw]
  refine wpAnyH_done (by kernel_rfl) ?_ _;clear hHeld;obtain⟨-,q1, -, -,q4⟩:=hq;have HN3:=hid ((vT.out.block _ (lt_of_block HI3.out)).trans HI3.out);have r0:=aj HN3.out (i:=0) rfl;have r1:=aA HN3.out (i:=0);have r2:=lt_of_block HN3.out;have q5:w.heap.size<V3.heap.size:=Nat.lt_of_lt_of_le kQ.out vT.out.size;have q6:b<V3.heap.size:=Nat.lt_of_lt_of_le Ip.out vT.out.size;have HWN:=hid (show eX l (k+1)=eX l k*s.size by rw[DU HKL.out,jQ.out])
  have hwr:IntKind.i64.wrap (eX l k*s.size)=eX l k*s.size :=
   (nT HV.out k (Nat.le_of_lt HKL.out)).wrap (s:=s.size) (by have:=(fO HV.out).2.1;have:=HKL.out;omega) kR.out.2.1 kR.out.2.2
  obtain⟨z,hz⟩:∃z,eX l k=z:=⟨_,rfl⟩;rw[hz]at r0 hwr HWN;clear hz
  gi_upto_region 7 with(fail)
  refine kX (fun W'=>W'.cell? ⟨nb,0,none⟩=some (.int .i64 z)/\W'.cell? ⟨w.heap.size,0,none⟩=some (.slice (some ⟨b,o,none⟩) l.length c)/\W'.cell? ⟨b,o+k*3+2,none⟩=some (.int .i64 s.size)) (by kernel_rfl) (by kernel_rfl) (fun h=>by obtain⟨_,_,h⟩:=h;exact h) (by kernel_rfl) (by kernel_rfl) ⟨r0,q1,q4⟩ (fun hHeld=>?_);simp only[List.dropLast_cons_cons,List.dropLast_singleton,List.getLast_cons_cons,List.getLast_singleton];refine gK 0 ?_ rfl (by kernel_rfl) (fun _ _ _ h=>h) ?_ (by assumption) ?_
  rotate_left
  ·intro w hSw;(try dsimp only at hSw);go_simp;(try(with_reducible rfl))
  try simp only[Act.put,cZ,dh,dw]
  refine gK 1 ?_ rfl (by kernel_rfl) (fun _ _ _ h=>h) ?_ (by assumption) ?_
  rotate_left
  ·intro w hSw;(try dsimp only at hSw);go_simp;(try(with_reducible rfl))
  try simp only[Act.put,cZ,dh,dw]
  refine gK 2 ?_ rfl (by kernel_rfl) (fun _ _ _ h=>h) ?_ (by assumption) ?_
  rotate_left
  ·intro w hSw;(try dsimp only at hSw);go_simp;(try(with_reducible rfl))
  try simp only[Act.put,cZ,dh,dw]
  refine gK 3 ?_ rfl (by kernel_rfl) (fun _ _ _ h=>h) ?_ (by assumption) ?_
  rotate_left
  ·intro w hSw;(try dsimp only at hSw);go_simp;(try(with_reducible rfl))
  try simp only[Act.put,cZ,dh,dw]
  refine gK 4 ?_ rfl (by kernel_rfl) (fun _ _ _ h=>h) ?_ (by assumption) ?_
  rotate_left
  ·intro w hSw;(try dsimp only at hSw);go_simp;(try(with_reducible rfl))
  try simp only[Act.put,cZ,dh,dw]
  refine gK 5 ?_ rfl (by kernel_rfl) (fun _ _ _ h=>h) ?_ (by assumption) ?_
  rotate_left
  ·intro w hSw;(try dsimp only at hSw);go_simp;(try(with_reducible rfl))
  try simp only[Act.put,cZ,dh,dw]
  refine gK 6 ?_ rfl (by kernel_rfl) (fun _ _ _ h=>h) ?_ (by assumption) ?_
  rotate_left
  ·intro w hSw;(try dsimp only at hSw);go_simp;(try(with_reducible rfl))
  try simp only[Act.put,cZ,dh,dw]
  refine wpAnyH_done (by kernel_rfl) ?_ _;unfold jK
  go_simp
  gi_wp2_with fail
  refine⟨((aF.aS (V:=fun x=>x=nb) vT.out).set ⟨nb,0,none⟩ _ fun _=>rfl).drew,?_⟩;show(V3.setCell ⟨nb,0,none⟩ (.int .i64 (z*s.size))).heap[nb]?=some (Obj.cells #[.int .i64 (eX l (k+1))] 3 (0,0));rw[aB HN3.out,HWN.out];rfl
 case hdone =>
  rintro W3 hc h1 hD3;have r0:=aj h1 (i:=0) rfl
  dsimp only
  go_wp2_with fail
  have hbf:=aY.out.trans (hc.below (B:=w.heap.size) (fun x hx=>by have:=pI.out;omega) aY.out.size);have hpl:eX l l.length=lK l:=by unfold eX;rw[List.take_length]
  refine fG rfl hD3 (v := .int .i64 (eX l l.length)) (fun w' hc'=>?_) (fun w' hc'=>⟨by rw[HR.out,hpl],hbf.trans (hc'.below (fun x hx=>by have:=HS2.out;have:=pI.out;omega) hbf.size)⟩);simp[results,Tryz.results131,go_sem]
theorem Dv {D:Dom}(l:List Sg)(A:Option Addr)(n c:Nat)(w:World)(hn:n=l.length)(h:lV w D A c l)(hk:GK w) :
  Calls Tryz.prog 101 #[.slice A n c] w fun e w'=>e = .returned (.int .i64 (cO l))/\Below w.heap.size w w':=by
 subst hn;have HC:=hid (UR l A l.length c w rfl h hk);clear h hk
 go_enter Tryz.func101,Tryz.ntmps101
 go_wp2_with (go_at_call 131;(with_reducible refine HC.out.mono ?_);rintro e V ⟨rfl,hb⟩)
 go_ret
 exact⟨bn rfl,hb⟩
theorem Jg {D:Dom}{l:List Sg}{A:Option Addr}{n c:Nat}{w:World}(r:Int)(hr:cO l=r)(hn:n=l.length)(h:lV w D A c l)(hk:GK w) :
  Calls Tryz.prog 101 #[.slice A n c] w fun e w'=>e = .returned (.int .i64 r)/\Below w.heap.size w w':=by
 subst hr;exact Dv l A n c w hn h hk
end Go.Proofs.YtdpbgcmfeajigaaGreatDoor
namespace Go.Proofs.YtdpbgcmfeajigaaGreatDoor
open Go.RowKit Go.Shelf
attribute [local go_sem] ak run_store_func Oper.semAt_some
def fZ (l:List Sg)(x:Int)(i:Nat):Int:=x / eX l i % (l.getD i default).size
theorem rU {l:List Sg}(hv:dM l=true){i:Nat}(hi:i<=l.length):1<=eX l i/\eX l i<=4096:=by
 have h:=nT hv i hi;refine⟨h.lo,Int.le_trans h.hi ?_⟩;have h6:=(fO hv).2.1;have:i=0\/i=1\/i=2\/i=3\/i=4\/i=5\/i=6:=by omega
 rcases this with rfl|rfl|rfl|rfl|rfl|rfl|rfl <;> decide
theorem lZ {l:List Sg}{x:Int}(h0:0<=x)(h:x<cO l):dM l=true/\cO l=lK l/\x<64:=by
 unfold cO at h⊢;cases hv:dM l
 ·rw[hv]at h
  have h:x<0:=h;omega
 ·rw[hv]at h
  have h:x<lK l:=h;have:=(fO hv).2.2.1;exact⟨rfl,rfl,by omega⟩
theorem JI {D:Dom}(l:List Sg)(A:Option Addr)(n c:Nat)(x:Int)(i:Nat)(w:World)(hn:n=l.length)(h:lV w D A c l)(hk:GK w)(h0:0<=x)(hx:x<cO l)(hi:i<l.length) :
  Calls Tryz.prog 102 #[.slice A n c,.int .i64 x,.int .i64 (i:Int)] w fun e w'=>e = .returned (.int .i64 (fZ l x i))/\Below w.heap.size w w':=by
 subst hn;obtain⟨hv,hlz,h64⟩:=lZ h0 hx;have HL:=hid h.old;have HK:=hid hk;have HV:=hid hv;have HI:=hid hi;have HX:=hid (show 0<=x/\x<64 from⟨h0,h64⟩);have hlen:=h.len.1;obtain⟨lz,hlz'⟩:∃lz,cO l=lz:=⟨_,rfl⟩;have Xp:=hid hlz';rw[hlz']at hx;have d1:¬x<0:=by omega
 have e1:decide (x<0)=false:=decide_eq_false d1;have d2:¬lz<=x:=by omega
 have e2:decide (lz<=x)=false:=decide_eq_false d2;have d3:¬(i:Int)<0:=by omega
 have e3:decide ((i:Int)<0)=false:=decide_eq_false d3;have d4:¬(l.length:Int)<=(i:Int):=by omega
 have e4:decide ((l.length:Int)<=(i:Int))=false:=decide_eq_false d4;clear h hk hv hlz h64 hlz' h0 hx hi;refine(callsIn_wide (n:=3)).1 (callsIn_of_wp_marks Tryz.func102 rfl trivial ?_ rfl);simp only[Tryz.ntmps102,List.size_toArray,List.length_cons,List.length_nil,Nat.reduceAdd,Nat.reduceSub,Array.replicate_succ,Array.replicate_zero,List.push_toArray,List.append_toArray,List.nil_append,List.cons_append];refine wpIn_wide.2 ?_;go_upto_region 1 with(fail)
 refine aH fun W hW=>?_;have HB:=hid (show Below w.heap.size w W by rw[hW];go_grown);have mW:=hid (show W.heap[w.heap.size]?=some (.cells #[.slice A l.length c] 34 (0,0))by rw[hW,aQ _ _ _ (by first|(simp;done)|(simp;omega)),aQ _ _ _ (by first|(simp;done)|(simp;omega)),aQ _ _ _ (by simp)];exact at_new _ _ _ rfl);have kP:=hid (show W.heap[w.heap.size+1]?=some (.cells #[.int .i64 x] 3 (0,0))by rw[hW,aQ _ _ _ (by first|(simp;done)|(simp;omega)),aQ _ _ _ (by simp)];exact at_new _ _ _ (by simp));have HE2:=hid (show W.heap[w.heap.size+2]?=some (.cells #[.int .i64 (i:Int)] 3 (0,0))by rw[hW,aQ _ _ _ (by simp)];exact at_new _ _ _ (by simp))
 have G8:=hid (show W.heap[w.heap.size+3]?=some (.cells #[.int .i64 0] 3 (0,0))by rw[hW];exact at_new _ _ _ (by simp));have HS:=hid (show W.heap.size=w.heap.size+4 by rw[hW];simp);clear hW
 have aK:Hid (∀W':World,Below W.heap.size W W'->W'.cell? ⟨w.heap.size,0,none⟩=some (.slice A l.length c)/\W'.cell? ⟨w.heap.size+1,0,none⟩=some (.int .i64 x)/\W'.cell? ⟨w.heap.size+2,0,none⟩=some (.int .i64 (i:Int))):=hid fun W' hb =>
  ⟨aj ((hb.block _ (lt_of_block mW.out)).trans mW.out) (i:=0) rfl,aj ((hb.block _ (lt_of_block kP.out)).trans kP.out) (i:=0) rfl,aj ((hb.block _ (lt_of_block HE2.out)).trans HE2.out) (i:=0) rfl⟩
 have HC:Hid (∀W':World,Below W.heap.size W W'->Calls Tryz.prog 101 #[.slice A l.length c] W' fun e w'=>e = .returned (.int .i64 lz)/\Below W.heap.size W w'):=hid fun W' hb=>by
  refine(Jg (l:=l) (w:=W') (n:=l.length) lz Xp.out rfl (HL.out.any (ay HB.out hb)) (HK.out.below (ay HB.out hb) HK.out.pos)).mono ?_;rintro e w' ⟨rfl,hb'⟩;exact⟨rfl,ay hb hb'⟩
 have HI1:=hid (show Below W.heap.size W W.drew from(Below.refl _ _).drew);have HI2:=hid (show∀i,Below W.heap.size W (W.drewN i)from fun i=>(aU.n W i).below _);obtain⟨s0,s1,s2⟩:=aK.out W (Below.refl _ _)
 go_region_held3 (fun W':World=>W'.cell? ⟨w.heap.size,0,none⟩=some (.slice A l.length c)/\W'.cell? ⟨w.heap.size+1,0,none⟩=some (.int .i64 x)/\W'.cell? ⟨w.heap.size+2,0,none⟩=some (.int .i64 (i:Int)))
  (first|(with_reducible exact aK.out _ hI)|(go_keep;done))
  ((go_at_call 101;(with_reducible refine(HC.out _ (by first|exact HI1.out|exact HI2.out _)).mono ?_);rintro e V ⟨rfl,hI⟩))
 all_goals
  have iK:=hid hI;clear hI s0 s1 s2 HI1 HI2;obtain⟨s0,s1,s2⟩:=aK.out _ iK.out;have s3:=lt_of_block ((iK.out.block _ (lt_of_block mW.out)).trans mW.out);clear s1 s2;go_wp2_with (go_at_call 85;refine(wV A l.length c _).mono ?_;rintro e w2 ⟨rfl,rfl⟩)
  refine aH fun W2 hW2=>?_;have hb2:Below V.heap.size V W2:=by rw[hW2];go_grown
  have HP:=hid (show W2.cell? ⟨V.heap.size,0,none⟩=some (.slice A l.length c)by rw[hW2];exact aj (at_new _ _ _ rfl) (i:=0) rfl);have HS2:=hid (show W2.heap.size=V.heap.size+1 by rw[hW2];simp);have tV:=hid (ay iK.out hb2);have aY:=hid (ay HB.out tV.out);have yJ:=hid (show w.heap.size+4<=V.heap.size by have:=iK.out.size;have:=HS.out;omega);have HF3:=hid ((tV.out.block _ (lt_of_block G8.out)).trans G8.out);have Ti:=hid ((HL.out.keep (Keeps.of_below aY.out fun _ h=>h)).mono (E:=fun x=>x<w.heap.size\/x=V.heap.size) fun k hk hl => .inl hk);have HCW:=hid (aK.out _ tV.out);clear hW2 hb2 s0 s3
  have Hw:=hid (rV A c V.heap.size (fun x=>x<w.heap.size\/x=V.heap.size) W2 HV.out Ti.out HP.out (.inr rfl) (fun x hx=>by have:=HS2.out;have:=yJ.out;omega))
  refine Cb 123 #[.pointer (some ⟨V.heap.size,0,none⟩)] l.length 0 (fun x=>x<w.heap.size\/x=V.heap.size) (Uj l) (fun x=>x=w.heap.size+3)
   (fun k W'=>k<=i/\W'.heap[w.heap.size+3]?=some (.cells #[.int .i64 0] 3 (0,0)))
   (fun c W'=>c = .ret/\W'.heap[w.heap.size+3]?=some (.cells #[.int .i64 (fZ l x i)] 3 (0,0)))
   (enters_of Tryz.func123 (by kernel_rfl) rfl) rfl rfl Hw.out (fun x hx=>by have:=HS2.out;have:=yJ.out;omega) (fun _ _ _ _ _ h _=>h) ?hZ ?hI ?hIx ⟨Nat.zero_le _,HF3.out⟩ ?a1 ?hassign ?dP ?hdone ?hstop (fun h=>by cases h)
  case hassign =>
   intro l u v W K hK
   gi_wp2
   exact hK
  case hZ=>intro x hx;have:=HS2.out;have:=yJ.out;exact⟨by omega,by omega⟩
  case hI=>rintro k W3 W4 ⟨h1,h2⟩ hc;exact⟨h1,hc.box h2 (by have:=HS2.out;have:=yJ.out;omega)⟩
  case hIx=>rintro c W3 W4 ⟨h1,h2⟩ hc;exact⟨h1,hc.box h2 (by have:=HS2.out;have:=yJ.out;omega)⟩
  case dP =>
   rintro ln k W3 u v hs3 hc3 ⟨hki,WV⟩ hkl ⟨rfl,rfl⟩;have HKL:=hid hkl;have HKI:=hid hki;have HI3:=hid WV;obtain⟨t0,t1,t2⟩:=HCW.out;have zU:∀(b:Nat) (v:Value),b≠w.heap.size+3->W2.cell? ⟨b,0,none⟩=some v->W3.cell? ⟨b,0,none⟩=some v:=fun b v hb hv=>(World.cell?_of_block (w:=W2) (a:=⟨b,0,none⟩) (hc3.block b (World.block_lt_of_cell? _ _ hv) hb)).trans hv;have q0:=zU _ _ (by omega) t0;have q1:=zU _ _ (by omega) t1;have q2:=zU _ _ (by omega) t2;have ql:=World.block_lt_of_cell? _ _ q0
   by_cases qdT:k=i
   ·have dk:((k:Int)==(i:Int))=true:=by rw[qdT];exact beq_self_eq_true _
    have hk0:(0:Int)<=(i:Int):=by omega
    have hkk:(i:Int)<(l.length:Int):=by have:=HI.out;omega
    obtain⟨b,o,s,rfl,hlb,HSX,x0,x1,x2⟩:=(Ti.out.keep (hc3.keeps fun x _ h e=>by have:=yJ.out;omega)).get HI.out;have kR:=hid (oU ((fO HV.out).2.2.2 i HI.out));have hwb:=rU HV.out (Nat.le_of_lt HI.out);have HVZ:=hid (show fZ l x i=x / eX l i % s.size by unfold fZ;rw[HSX.out]);rw[HSX.out]at kR;obtain⟨z,hz⟩:∃z,eX l i=z:=⟨_,rfl⟩;rw[hz]at hwb HVZ;have hxx:=HX.out;obtain⟨d,hd⟩:∃d,x / z=d:=⟨_,rfl⟩;have hq:x.tdiv z=d:=by rw[Int.tdiv_eq_ediv_of_nonneg hxx.1];exact hd
    have hdb:0<=d/\d<64:=by rw[<-hd];exact⟨Int.ediv_nonneg hxx.1 (by omega),Int.lt_of_le_of_lt (Int.ediv_le_self z hxx.1) hxx.2⟩
    obtain⟨r,hr⟩:∃r,d % s.size=r:=⟨_,rfl⟩;have hm:d.tmod s.size=r:=by rw[Int.tmod_eq_emod_of_nonneg hdb.1];exact hr
    rw[hd,hr]at HVZ
    have hrb:0<=r/\r<4:=by
     rw[<-hr];have:=kR.out.2;exact⟨Int.emod_nonneg _ (by omega),Int.lt_of_lt_of_le (Int.emod_lt_of_pos _ (by omega)) (by omega)⟩
    have w1:IntKind.i64.wrap d=d:=IntWalk.i64_in _ (by omega);have w2:IntKind.i64.wrap r=r:=IntWalk.i64_in _ (by omega);have n1:¬z=0:=by omega
    have n2:(z==0)=false:=au n1;have n3:¬s.size=0:=by have:=kR.out.2;omega
    have n4:(s.size==0)=false:=au n3;have r0:=aj HI3.out (i:=0) rfl;have r1:=aA HI3.out (i:=0);have r2:=lt_of_block HI3.out;have HHC:=hid hc3;rw[qdT,hz];clear WV hkl hki qdT t0 t1 t2 zU hd hr HSX x0 x1 hc3 hz dk;have dk:((i:Int)==(i:Int))=true:=beq_self_eq_true _
    gi_upto_region 7 with(fail)
    refine kX (fun W'=>W'.cell? ⟨w.heap.size+1,0,none⟩=some (.int .i64 x)/\W'.cell? ⟨w.heap.size,0,none⟩=some (.slice (some ⟨b,o,none⟩) l.length c)/\W'.cell? ⟨w.heap.size+2,0,none⟩=some (.int .i64 (i:Int))/\W'.cell? ⟨b,o+i*3+2,none⟩=some (.int .i64 s.size)) (by kernel_rfl) (by kernel_rfl) (fun h=>by obtain⟨_,_,h⟩:=h;exact h) (by kernel_rfl) (by kernel_rfl) ⟨q1,q0,q2,x2⟩ (fun hHeld=>?_);simp only[List.dropLast_cons_cons,List.dropLast_singleton,List.getLast_cons_cons,List.getLast_singleton];refine gK 0 ?_ rfl (by kernel_rfl) (fun _ _ _ h=>h) ?_ (by assumption) ?_
    rotate_left
    ·intro w hSw;(try dsimp only at hSw);go_simp;(try(with_reducible rfl))
    try simp only[Act.put,cZ,dh,dw]
    refine gK 1 ?_ rfl (by kernel_rfl) (fun _ _ _ h=>h) ?_ (by assumption) ?_
    rotate_left
    ·intro w hSw;(try dsimp only at hSw);go_simp;(try(with_reducible rfl))
    try simp only[Act.put,cZ,dh,dw]
    refine gK 2 ?_ rfl (by kernel_rfl) (fun _ _ _ h=>h) ?_ (by assumption) ?_
    rotate_left
    ·intro w hSw;(try dsimp only at hSw);go_simp;(try(with_reducible rfl))
    try simp only[Act.put,cZ,dh,dw]
    refine gK 3 ?_ rfl (by kernel_rfl) (fun _ _ _ h=>h) ?_ (by assumption) ?_
    rotate_left
    ·intro w hSw;(try dsimp only at hSw);go_simp;(try(with_reducible rfl))
    try simp only[Act.put,cZ,dh,dw]
    refine gK 4 ?_ rfl (by kernel_rfl) (fun _ _ _ h=>h) ?_ (by assumption) ?_
    rotate_left
    ·intro w hSw;(try dsimp only at hSw);go_simp;(try(with_reducible rfl))
    try simp only[Act.put,cZ,dh,dw]
    refine gK 5 ?_ rfl (by kernel_rfl) (fun _ _ _ h=>h) ?_ (by assumption) ?_
    rotate_left
    ·intro w hSw;(try dsimp only at hSw);go_simp;(try(with_reducible rfl))
    try simp only[Act.put,cZ,dh,dw]
    refine gK 6 ?_ rfl (by kernel_rfl) (fun _ _ _ h=>h) ?_ (by assumption) ?_
    rotate_left
    ·intro w hSw;(try dsimp only at hSw);go_simp;(try(with_reducible rfl))
    try simp only[Act.put,cZ,dh,dw]
    refine gK 7 ?_ rfl (by kernel_rfl) (fun _ _ _ h=>h) ?_ (by assumption) ?_
    rotate_left
    ·intro w hSw;(try dsimp only at hSw);go_simp;(try(with_reducible rfl))
    try simp only[Act.put,cZ,dh,dw]
    refine gK 8 ?_ rfl (by kernel_rfl) (fun _ _ _ h=>h) ?_ (by assumption) ?_
    rotate_left
    ·intro w hSw;(try dsimp only at hSw);go_simp;(try(with_reducible rfl))
    try simp only[Act.put,cZ,dh,dw]
    refine wpAnyH_done (by kernel_rfl) ?_ _;unfold jK
    go_simp
    gi_wp2_with fail
    refine⟨((aF.refl (fun x=>x=w.heap.size+3) W3).set ⟨w.heap.size+3,0,none⟩ _ fun _=>rfl).drew,rfl,?_⟩;show(W3.setCell ⟨w.heap.size+3,0,none⟩ (.int .i64 r)).heap[w.heap.size+3]?=some (Obj.cells #[.int .i64 (fZ l x i)] 3 (0,0));rw[aB HI3.out,HVZ.out];rfl
   ·have dk:((k:Int)==(i:Int))=false:=au (by omega)
    clear WV hkl hki t0 t1 t2 zU q0 q1
    gi_wp2_with fail
    exact⟨aF.refl _ _,by have:=HKI.out;omega,HI3.out⟩
  case hdone =>
   rintro W3 hc ⟨h1,h2⟩ hD3;exact absurd h1 (by have:=HI.out;omega)
  case hstop =>
   rintro c W3 hc ⟨rfl,h2⟩ hD3
   dsimp only
   go_wp2_with fail
   have hbf:=aY.out.trans (hc.below (B:=w.heap.size) (fun x hx=>by omega) aY.out.size);refine fG rfl hD3 (v := .int .i64 (fZ l x i)) (fun w' hc'=>?_) (fun w' hc'=>⟨rfl,hbf.trans (hc'.below (fun x hx=>by have:=HS2.out;have:=yJ.out;omega) hbf.size)⟩);have:=aj (hc'.box h2 (by have:=HS2.out;have:=yJ.out;omega)) (i:=0) rfl;simp[results,Tryz.results102,go_sem,this]
end Go.Proofs.YtdpbgcmfeajigaaGreatDoor
