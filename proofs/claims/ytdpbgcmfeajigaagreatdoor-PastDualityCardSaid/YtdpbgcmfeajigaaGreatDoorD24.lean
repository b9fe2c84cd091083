/-
  Parts of a proof: LP XO PA PB PC PD PE PF PG PH PI PJ.
-/
import Derived.ProofKit
import Derived.SizedLaws
import Derived.Deep.Slices
import Derived.Deep.SlicePairs
import Derived.Deep.Fields
import Derived.Lib.SmallJoins
import Derived.Test.YtdpbgcmfeajigaaGreatDoorD23
import Derived.Test.YtdpbgcmfeajigaaGreatDoorD00
import Derived.Test.YtdpbgcmfeajigaaGreatDoorD22
import Derived.Test.YtdpbgcmfeajigaaGreatDoorD21
import Derived.Test.YtdpbgcmfeajigaaGreatDoorD20
set_option linter.unusedSimpArgs false
set_option linter.unusedVariables false
set_option maxHeartbeats 8000000
set_option maxRecDepth 100000
namespace Go.Proofs.YtdpbgcmfeajigaaGreatDoor
open Go.ChangeShapes Go.WideShapes Go.RowKit Go.Deep Go.Joins
def Light {H:Type}(P:Program)(t:TypeId)(d:DataW H):Prop:=(d.weights P t).all (· <= reachBytes)=true
theorem FP {H:Type}{P:Program}{ts:List TypeId}{ds:List (DataW H)}(h:(DataW.weightsEach P ts ds).all (· <= reachBytes)=true){j:Nat}{t:TypeId}{d:DataW H}(ht:ts[j]?=some t)(hd:ds[j]?=some d):Light P t d:=by
 unfold Light;rw[List.all_eq_true]at h⊢;exact fun n hn=>h n (DataW.weights_mem_each ht hd n hn)
theorem Dw {H:Type}{P:Program}{t e:TypeId}{elems spare:List (DataW H)}(hu:P.underlying t=some (.slice e))(h:Light P t (.slice elems spare)) :
  (elems.length+spare.length)*P.bytesOf e<=reachBytes/\∀d∈elems,Light P e d:=by
 unfold Light at h;simp only[DataW.weights,hu,List.all_cons,Bool.and_eq_true,decide_eq_true_eq,List.all_append]at h;refine⟨h.1,fun d hd=>?_⟩
 have key:∀(l:List (DataW H)),(DataW.weightsAll P e l).all (· <= reachBytes)=true->∀d∈l,Light P e d:=by
  intro l
  induction l with
  | nil=>intro _ d hd;cases hd
  | cons x l ih =>
   intro hl d hd;simp only[DataW.weightsAll,List.all_append,Bool.and_eq_true]at hl
   rcases List.mem_cons.1 hd with rfl|hd
   ·exact hl.1
   ·exact ih hl.2 d hd
 exact key elems h.2.1 d hd
section
variable {H:Type}{enc:TypeId×Value->H}{w:World}{base:Nat}{held:Bool}
theorem F5 {a:Addr}{u:Value}(h:w.cell? (a.add 0)=some u):a=⟨a.block,a.off,none⟩/\a.block<w.heap.size:=by
 have h0:a.add 0=a:=by unfold Addr.add;simp
 rw[h0]at h;refine⟨?_,World.block_lt_of_cell? w a h⟩;obtain⟨b,o,s⟩:=a
 cases s with
 | none=>rfl
 | some s =>
  unfold World.cell? at h
  split at h <;> simp at h
theorem Xi (b o k:Nat):(⟨b,o,none⟩:Addr).add k=⟨b,o+k,none⟩:=by
 unfold Addr.add
 by_cases h:k=0 <;> simp[h]
theorem MZ {α : Type}(l:List α)(x d : α)(j:Nat):(l ++ [x]).getD j d=if j<l.length then l.getD j d else if j=l.length then x else d:=by
 simp only[List.getD,List.getElem?_append]
 split
 ·rfl
 ·split
  ·rename_i h h2;subst h2;simp
  ·rename_i h h2
   rw[List.getElem?_eq_none (by simp;omega)];rfl
theorem Dk {α : Type}(d : α){n:Nat}{P:Nat -> α -> Prop}(h:∀i,i<n->∃x,P i x):∃l:List α,l.length=n/\∀i,i<n->P i (l.getD i d):=by
 induction n with
 | zero=>exact⟨[],rfl,fun i hi=>absurd hi (Nat.not_lt_zero _)⟩
 | succ n ih =>
  obtain⟨l,hl,hp⟩:=ih (fun i hi=>h i (by omega));obtain⟨x,hx⟩:=h n (by omega);refine⟨l ++ [x],by simp[hl],fun i hi=>?_⟩;rw[MZ,hl]
  split
  ·exact hp i ‹_›
  ·rw[if_pos (by omega)]
   obtain rfl:i=n:=by omega
   exact hx
theorem Jb {P:Program}{t:TypeId}{fs:Array Field}{parts:List (DataW H)}(hu:P.underlying t=some (.struct fs))(h:Light P t (.agg parts)){j:Nat}{f:Field}{d:DataW H}(hf:fs[j]?=some f)(hd:parts[j]?=some d):Light P f.type d:=by
 unfold Light at h;simp only[DataW.weights,hu]at h;exact FP h (j:=j) (by simp[hf]) hd
theorem BD {α : Type}(f : α -> List Value)(s:Nat)(hf:∀x,(f x).length=s)(l:List α):(l.flatMap f).length=l.length*s:=by
 induction l with
 | nil=>simp
 | cons x l ih=>rw[List.flatMap_cons,List.length_append,hf,ih,List.length_cons,Nat.add_mul,Nat.one_mul];omega
theorem JF {α β : Type}:∀l:List (α × β),(l.map Prod.fst).zip (l.map Prod.snd)=l
 | []=>rfl
 | x :: l=>by simp[JF l]
theorem SL:Tryz.prog.cellsOf 24=5:=by kernel_rfl
theorem qan:Tryz.prog.bytesOf 24=64:=by kernel_rfl
theorem En:Tryz.prog.cellsOf 3=1:=by kernel_rfl
theorem SN:Tryz.prog.cellsOf 9=1:=by kernel_rfl
theorem Xu:Tryz.prog.cellsOf 22=1:=by kernel_rfl
theorem DF {n:Nat}{cs:List Value}{y:DataW H×List MemPlace}(h:DataW.trod enc Tryz.prog w base (fun _=>true) held n 24 cs=some y)(hcl:cs.length=5) :
  ∃(o:Int) (s:ByteArray) (v b:Int) (a:Value) (k:Nat) (y4:DataW H×List MemPlace) (d0 d1 d2 d3:DataW H),cs = [.int .i64 o,.string s,.int .i64 v,.int .i64 b,a]/\y.1 = .agg [d0,d1,d2,d3,y4.1]/\DataW.trod enc Tryz.prog w base (fun _=>true) held k 22 [a]=some y4:=by
 obtain⟨xs,k',_,hxy,_,hyl,hf⟩:=DataW.trod_struct Tryz.underlying24 h
 match xs,hyl,cs,hcl with
 | [y0,y1,y2,y3,y4],_,[v0,v1,v2,v3,v4],_ =>
  have g0:DataW.trod enc Tryz.prog w base (fun _=>true) held k' 3 [v0]=some y0:=by
   have:=hf 0 _ rfl
   change DataW.trod enc Tryz.prog w base (fun _=>true) held k' 3 (([v0,v1,v2,v3,v4].drop 0).take (Tryz.prog.cellsOf 3))=some y0 at this
   rw[En]at this;simpa using this
  have g1:DataW.trod enc Tryz.prog w base (fun _=>true) held k' 9 [v1]=some y1:=by
   have:=hf 1 _ rfl
   change DataW.trod enc Tryz.prog w base (fun _=>true) held k' 9 (([v0,v1,v2,v3,v4].drop 1).take (Tryz.prog.cellsOf 9))=some y1 at this
   rw[SN]at this;simpa using this
  have g2:DataW.trod enc Tryz.prog w base (fun _=>true) held k' 3 [v2]=some y2:=by
   have:=hf 2 _ rfl
   change DataW.trod enc Tryz.prog w base (fun _=>true) held k' 3 (([v0,v1,v2,v3,v4].drop 2).take (Tryz.prog.cellsOf 3))=some y2 at this
   rw[En]at this;simpa using this
  have g3:DataW.trod enc Tryz.prog w base (fun _=>true) held k' 3 [v3]=some y3:=by
   have:=hf 3 _ rfl
   change DataW.trod enc Tryz.prog w base (fun _=>true) held k' 3 (([v0,v1,v2,v3,v4].drop 3).take (Tryz.prog.cellsOf 3))=some y3 at this
   rw[En]at this;simpa using this
  have g4:DataW.trod enc Tryz.prog w base (fun _=>true) held k' 22 [v4]=some y4:=by
   have:=hf 4 _ rfl
   change DataW.trod enc Tryz.prog w base (fun _=>true) held k' 22 (([v0,v1,v2,v3,v4].drop 4).take (Tryz.prog.cellsOf 22))=some y4 at this
   rw[Xu]at this;simpa using this
  obtain⟨z0,hz0,_⟩:=DataW.trod_int Tryz.underlying3 g0;obtain⟨z1,hz1,_⟩:=DataW.trod_string Tryz.underlying9 g1;obtain⟨z2,hz2,_⟩:=DataW.trod_int Tryz.underlying3 g2;obtain⟨z3,hz3,_⟩:=DataW.trod_int Tryz.underlying3 g3;have e0:v0 = .int .i64 z0:=by simpa using hz0
  have e1:v1 = .string z1:=by simpa using hz1
  have e2:v2 = .int .i64 z2:=by simpa using hz2
  have e3:v3 = .int .i64 z3:=by simpa using hz3
  refine⟨z0,z1,z2,z3,v4,k',y4,y0.1,y1.1,y2.1,y3.1,by rw[e0,e1,e2,e3],?_,g4⟩;rw[hxy];rfl
theorem qa5:∀(N:Nat) {n:Nat} {v:Value} {y:DataW H×List MemPlace},SizeOf.sizeOf y.1<=N->DataW.trod enc Tryz.prog w base (fun _=>true) held n 22 [v]=some y->Light Tryz.prog 22 y.1 ->
  ∃(A:Option Addr) (c:Nat) (l:List Fm),v = .slice A l.length c/\bP w (· < w.heap.size) l A c:=by
 intro N
 induction N with
 | zero =>
  intro n v y hN h hl
  exfalso
  have:0<SizeOf.sizeOf y.1:=by cases y.1 <;> simp <;> omega
  omega
 | succ N ih =>
  intro n v y hN h hl
  rcases open_slice Tryz.underlying22 h with⟨hv,rfl⟩|⟨a,len,cap,m,k,D,Pl,hv,hb,hlc,hcm,hmm,rfl,hx⟩
  ·obtain rfl:v = .slice none 0 0:=by simpa using hv
   exact⟨none,0,[],rfl,bP.nil _ _ _ (by omega)⟩
  ·obtain rfl:v = .slice (some a) len cap:=by simpa using hv
   simp only[if_true]at hmm;obtain rfl:cap=m:=hmm.symm;obtain⟨h8,hin⟩:=Dw Tryz.underlying22 hl;rw[qan]at h8;simp only[List.length_map,List.length_range,reachBytes]at h8;rw[SL]at hx
   have each:∀i,i<len->∃q:Fm×(Option Addr×Nat),w.cell? (a.add (i*5))=some (.int .i64 q.1.op)/\w.cell? (a.add (i*5+1))=some (.string q.1.name)/\w.cell? (a.add (i*5+2))=some (.int .i64 q.1.val)/\w.cell? (a.add (i*5+3))=some (.int .i64 q.1.bound)/\w.cell? (a.add (i*5+4))=some (.slice q.2.1 q.1.args.length q.2.2)/\bP w (· < w.heap.size) q.1.args q.2.1 q.2.2:=by
    intro i hi;obtain⟨cs',hc,ht'⟩:=hx i (by omega);obtain⟨_,hcl,hat⟩:=World.cells?_some hc;obtain⟨o,s,vv,bb,av,k2,y4,d0,d1,d2,d3,rfl,hy,g4⟩:=DF ht' hcl;have hDm:D i∈(List.range len).map D:=List.mem_map.2 ⟨i,by simp[hi],rfl⟩;have sU:=hin (D i) hDm;have hy:D i = .agg [d0,d1,d2,d3,y4.1]:=hy;have hs1:SizeOf.sizeOf (D i)<SizeOf.sizeOf ((List.range len).map D):=List.sizeOf_lt_of_mem hDm
    have hs2:SizeOf.sizeOf y4.1<=N:=by
     rw[hy]at hs1;simp at hN hs1;omega
    rw[hy]at sU;obtain⟨A2,c2,l2,e4,r2⟩:=ih hs2 g4 (Jb Tryz.underlying24 sU (j:=4) rfl rfl);have c0:=hat 0 (by omega);have c1:=hat 1 (by omega);have c2':=hat 2 (by omega);have c3:=hat 3 (by omega);have c4:=hat 4 (by omega);rw[Go.Deep.add_add]at c0 c1 c2' c3 c4;exact⟨(.mk o s vv bb l2,(A2,c2)),by simpa[Fm.op]using c0,by simpa[Fm.name]using c1,by simpa[Fm.val]using c2',by simpa[Fm.bound]using c3,by simpa[e4,Fm.args]using c4,r2⟩
   obtain⟨qs,hgl,hg⟩:=Dk (default,(none,0)) each;have hz:(qs.map Prod.fst).zip (qs.map Prod.snd)=qs:=JF qs;have hlen:(qs.map Prod.snd).length=(qs.map Prod.fst).length:=by simp
   refine⟨some a,cap,qs.map Prod.fst,by rw[List.length_map,hgl],.mk _ _ _ (qs.map Prod.snd) hlen ?_ fun i hi=>?_⟩
   ·rw[List.length_map]
    have hfl:(bJ (qs.map Prod.fst) (qs.map Prod.snd)).length=qs.length*5:=by
     unfold bJ;rw[hz];exact BD _ 5 (fun _=>rfl) qs
    refine⟨⟨hfl,by omega,by omega,hcm⟩,fun hn=>?_⟩;rw[hgl]at hn;obtain⟨ha,hlt⟩:=F5 (by simpa using(hg 0 hn).1);refine⟨a.block,a.off,by rw[<-ha],hlt,hlt,fun j u hu=>?_⟩
    have hjl:j<qs.length*5:=by
     rcases Nat.lt_or_ge j (qs.length*5)with h|h
     ·exact h
     ·rw[List.getElem?_eq_none (by rw[hfl];exact h)]at hu;cases hu
    obtain⟨q,r,rfl,hr⟩:∃q r,j=q*5+r/\r<5:=⟨j / 5,j % 5,by omega,by omega⟩;have hq:q<qs.length:=by omega
    rw[kK hlen (by simpa using hq) hr]at hu;have e1:(qs.map Prod.fst).getD q default=(qs.getD q (default,(none,0))).1:=by simp[List.getD,hq]
    have e2:(qs.map Prod.snd).getD q (none,0)=(qs.getD q (default,(none,0))).2:=by simp[List.getD,hq]
    rw[e1,e2]at hu;obtain⟨c0,c1,c2,c3,c4,_⟩:=hg q (by omega);rw[ha,Xi]at c0 c1 c2 c3 c4
    match r,hr with
    | 0,_=>simp only[eH]at hu;have hu:=Option.some.inj hu;rw[<-hu];exact c0
    | 1,_=>simp only[eH]at hu;have hu:=Option.some.inj hu;rw[<-hu];exact c1
    | 2,_=>simp only[eH]at hu;have hu:=Option.some.inj hu;rw[<-hu];exact c2
    | 3,_=>simp only[eH]at hu;have hu:=Option.some.inj hu;rw[<-hu];exact c3
    | 4,_=>simp only[eH]at hu;have hu:=Option.some.inj hu;rw[<-hu];exact c4
   ·rw[List.length_map]at hi
    have:=(hg i (by omega)).2.2.2.2.2;simpa[List.getD,hi]using this
theorem qdx {v:Value}{d:DataW H}{p:List MemPlace}{r:Reach}{b0:Nat}(hv:Value.okWide Tryz.prog w r b0 24 v)(h:DataW.Trod enc Tryz.prog w base (fun _=>true) held 24 v d p)(hl:Light Tryz.prog 24 d) :
  ∃f:Fm,bI w (· < w.heap.size) v f:=by
 obtain⟨cs,rfl,hsz⟩:=okWide_struct Tryz.underlying24 hv;obtain⟨l⟩:=cs;obtain⟨fuel,hf⟩:=h;have hl5:l.length=5:=hsz.trans SL;obtain⟨o,s,vv,bb,av,k2,y4,d0,d1,d2,d3,e,hy,g4⟩:=DF hf hl5;have e':l = [.int .i64 o,.string s,.int .i64 vv,.int .i64 bb,av]:=e;have hy:d = .agg [d0,d1,d2,d3,y4.1]:=hy;rw[hy]at hl;obtain⟨A2,c2,l2,e4,r2⟩:=qa5 _ (Nat.le_refl _) g4 (Jb Tryz.underlying24 hl (j:=4) rfl rfl);subst e' e4;exact⟨.mk o s vv bb l2,A2,c2,rfl,r2⟩
end
theorem YH:ownKnob Tryz.prog.godebug=none:=by kernel_rfl
theorem Nr:laidOutB Tryz.prog=true:=by kernel_rfl
theorem DJ {H:Type}{enc:TypeId×Value->H}{W W':World}{sp:Nat->Bool}{t:TypeId}{v:Value}{d:DataW H}{ps:List MemPlace}(hl:laidOutB Tryz.prog=true)(hr:Tryz.prog.readableRec t=true)(hrow:t<Tryz.prog.types.size)
  (h:DataW.Trod enc Tryz.prog W 0 (fun _=>true) true t v d ps) (hb:Below W.heap.size W W') (hlt:∀x∈ps,x.block<W.heap.size) (hsp:∀x∈ps,sp x.block=true):DataW.Trod enc Tryz.prog W' 0 sp true t v d ps :=
 WideElems.Trod_stays hl hr hrow h (fun x hx=>hb.same (hlt x hx)) hsp
theorem Hy {H:Type}{enc:TypeId×Value->H}{P:Program}{f:Func}{s:ChangeSpec}{apart fresh handsOn again:Bool}{W W':World}{args:Array Value}{v:Value}{ds gs:List (DataW H)}{before pa pv:List MemPlace}
  (hW:DataW.Whole enc P f.params.toList s.vars apart W args.toList ds gs before)
  (hres:∀(b:Nat) (sp:Nat->Bool) (hd:Bool),DataW.TrodAll enc P W' b sp hd f.resultTypes.toList (v.resultList f.resultTypes.size) (s.fn H (ds++gs)).results [])
  (hargs:∀sp:Nat->Bool,(∀p∈before,sp p.block=true)->DataW.TrodAll enc P W' 0 sp true f.params.toList args.toList (s.fn H (ds++gs)).args pa)
  (hvars:∀sp:Nat->Bool,(∀p∈before,sp p.block=true)->DataW.TrodVars enc P W' sp s.vars (s.fn H (ds++gs)).vars pv)
  (hps:before=pa++pv) (hb:Below W.heap.size W W')
  (hok:∀(j:Nat) (t:TypeId) (r:Value),f.resultTypes[j]?=some t->(v.resultList f.resultTypes.size)[j]?=some r->Value.okWide P W' .any 0 t r) :
  s.post enc P f apart fresh handsOn again W args v W':=by
 have hlt:∀p∈before,p.block<W.heap.size:=fun p hp=>hW.lt p hp;have hold:∀p∈before,(fun b=>decide (b<W.heap.size)) p.block=true:=fun p hp=>by simpa using hlt p hp
 refine⟨ds,gs,before,[],pa,pv,hW,hres _ _ _,hargs _ hold,hvars _ hold,World.keptBut_mono (fun p hp=>⟨hp,?_⟩) (hb.frame (· ∈ before)),fun _=>?_⟩
 ·rw[hps,List.mem_append]at hp
  exact Or.inr hp
 ·obtain⟨_,_,_,_,_,hz,hn⟩:=hW
  refine⟨hok,_,_,([]++pa)++pv,⟨[]++pa,pv,trodAll_append (hargs _ (fun _ _=>rfl)) (hres _ _ _),hvars _ (fun _ _=>rfl),rfl,?_,?_⟩,?_⟩
  ·intro b off hp
   have hin:MemPlace.cell b off∈before:=by rw[hps];simpa using hp
   rw[hb.frozen (hlt _ hin)];exact hz b off hin
  ·intro ha
   have:=hn ha;rw[hps]at this;simpa using this
  ·intro p hp _
   rw[hps];simpa using hp
theorem qap:Tryz.prog.cellsOf 103=3:=by kernel_rfl
theorem qao:Tryz.prog.bytesOf 103=32:=by kernel_rfl
theorem qaq:Tryz.prog.cellsOf 4=1:=by kernel_rfl
section
variable {H:Type}{enc:TypeId×Value->H}{w:World}{base:Nat}{held:Bool}
theorem KF {n:Nat}{cs:List Value}{y:DataW H×List MemPlace}(h:DataW.trod enc Tryz.prog w base (fun _=>true) held n 103 cs=some y)(hcl:cs.length=3) :
  ∃s:Sg,cs=nC s:=by
 obtain⟨xs,k',_,hxy,_,hyl,hf⟩:=DataW.trod_struct Tryz.underlying103 h
 match xs,hyl,cs,hcl with
 | [y0,y1,y2],_,[v0,v1,v2],_ =>
  have g0:DataW.trod enc Tryz.prog w base (fun _=>true) held k' 9 [v0]=some y0:=by
   have:=hf 0 _ rfl
   change DataW.trod enc Tryz.prog w base (fun _=>true) held k' 9 (([v0,v1,v2].drop 0).take (Tryz.prog.cellsOf 9))=some y0 at this
   rw[SN]at this;simpa using this
  have g1:DataW.trod enc Tryz.prog w base (fun _=>true) held k' 4 [v1]=some y1:=by
   have:=hf 1 _ rfl
   change DataW.trod enc Tryz.prog w base (fun _=>true) held k' 4 (([v0,v1,v2].drop 1).take (Tryz.prog.cellsOf 4))=some y1 at this
   rw[qaq]at this;simpa using this
  have g2:DataW.trod enc Tryz.prog w base (fun _=>true) held k' 3 [v2]=some y2:=by
   have:=hf 2 _ rfl
   change DataW.trod enc Tryz.prog w base (fun _=>true) held k' 3 (([v0,v1,v2].drop 2).take (Tryz.prog.cellsOf 3))=some y2 at this
   rw[En]at this;simpa using this
  obtain⟨z0,hz0,_⟩:=DataW.trod_string Tryz.underlying9 g0;obtain⟨z1,hz1⟩:=DataW.trod_bool Tryz.underlying4 g1;obtain⟨z2,hz2,_⟩:=DataW.trod_int Tryz.underlying3 g2;have e0:v0 = .string z0:=by simpa using hz0
  have e1:v1 = .bool z1:=by simpa using hz1.1
  have e2:v2 = .int .i64 z2:=by simpa using hz2
  exact⟨⟨z0,z1,z2⟩,by rw[e0,e1,e2];rfl⟩
theorem qa6 {n:Nat}{v:Value}{y:DataW H×List MemPlace}(h:DataW.trod enc Tryz.prog w base (fun _=>true) held n 34 [v]=some y)(hl:Light Tryz.prog 34 y.1) :
  ∃(A:Option Addr) (c:Nat) (l:List Sg),v = .slice A l.length c/\lV w (· < w.heap.size) A c l:=by
 rcases open_slice Tryz.underlying34 h with⟨hv,rfl⟩|⟨a,len,cap,m,k,D,Pl,hv,hb,hlc,hcm,hmm,rfl,hx⟩
 ·obtain rfl:v = .slice none 0 0:=by simpa using hv
  exact⟨none,0,[],rfl,lV.nil _ _ _ (by omega)⟩
 ·obtain rfl:v = .slice (some a) len cap:=by simpa using hv
  simp only[if_true]at hmm;obtain rfl:cap=m:=hmm.symm;obtain⟨h8,hin⟩:=Dw Tryz.underlying34 hl;rw[qao]at h8;simp only[List.length_map,List.length_range,reachBytes]at h8;rw[qap]at hx
  have each:∀i,i<len->∃q:Sg,w.cell? (a.add (i*3))=some (.string q.name)/\w.cell? (a.add (i*3+1))=some (.bool q.inp)/\w.cell? (a.add (i*3+2))=some (.int .i64 q.size):=by
   intro i hi;obtain⟨cs',hc,ht'⟩:=hx i (by omega);obtain⟨_,hcl,hat⟩:=World.cells?_some hc;obtain⟨s,rfl⟩:=KF ht' hcl;have c0:=hat 0 (by omega);have c1:=hat 1 (by omega);have c2:=hat 2 (by omega);rw[Go.Deep.add_add]at c0 c1 c2;exact⟨s,by simpa[nC]using c0,by simpa[nC]using c1,by simpa[nC]using c2⟩
  obtain⟨gs,hgl,hg⟩:=Dk default each;refine⟨some a,cap,gs,by rw[hgl],⟨⟨BD nC 3 (fun _=>rfl) gs,by omega,by omega,hcm⟩,fun hn=>?_⟩⟩;rw[hgl]at hn;obtain⟨ha,hlt⟩:=F5 (by simpa using(hg 0 hn).1);refine⟨a.block,a.off,by rw[<-ha],hlt,hlt,fun j u hu=>?_⟩
  have hjl:j<gs.length*3:=by
   rcases Nat.lt_or_ge j (gs.length*3)with h|h
   ·exact h
   ·rw[List.getElem?_eq_none (by rw[BD nC 3 (fun _=>rfl) gs];exact h)]at hu;cases hu
  obtain⟨q,r,rfl,hr⟩:∃q r,j=q*3+r/\r<3:=⟨j / 3,j % 3,by omega,by omega⟩;rw[vY nC default 3 (fun _=>rfl) gs q r (by omega) hr]at hu;obtain⟨c0,c1,c2⟩:=hg q (by omega);rw[ha,Xi]at c0 c1 c2
  match r,hr with
  | 0,_=>simp only[nC]at hu;have hu:=Option.some.inj hu;rw[<-hu];exact c0
  | 1,_=>simp only[nC]at hu;have hu:=Option.some.inj hu;rw[<-hu];exact c1
  | 2,_=>simp only[nC]at hu;have hu:=Option.some.inj hu;rw[<-hu];exact c2
theorem qa7 {v:Value}{d:DataW H}{p:List MemPlace}(hc:v.cells = #[v])(h:DataW.Trod enc Tryz.prog w base (fun _=>true) held 34 v d p)(hl:Light Tryz.prog 34 d) :
  ∃(A:Option Addr) (c:Nat) (l:List Sg),v = .slice A l.length c/\lV w (· < w.heap.size) A c l:=by
 obtain⟨n,hn⟩:=h;rw[hc]at hn;exact qa6 hn hl
end
instance decFm:DecidableEq Fm:=fun _ _=>decidable_of_iff _ kV
def jV (o:Int):Bool:=decide (o=15) || decide (o=16) || decide (o=17)
theorem mO {o:Int}:jV o=true ↔ o=15\/o=16\/o=17:=by unfold jV;simp only[Bool.or_eq_true,decide_eq_true_eq,or_assoc]
mutual
def aZ:Fm->List Fm
 | .mk o n v b l=>dA l++(if jV o then [.mk o n v b l]else [])
def dA:List Fm->List Fm
 | [] => []
 | f :: l=>aZ f++dA l
end
theorem qC (f:Fm):aZ f=dA f.args++(if jV f.op then [f]else []):=by cases f;simp only[aZ,Fm.op,Fm.args];rfl
theorem DI:∀(l:List Fm) (f:Fm),dA (l ++ [f])=dA l++aZ f
 | [],f=>by simp[dA]
 | g :: l,f=>by simp only[List.cons_append,dA,DI l f,List.append_assoc]
theorem zf {x:Fm}:∀{l:List Fm},x∈dA l ↔ ∃g,g∈l/\x∈aZ g
 | []=>by simp[dA]
 | f :: l=>by
  simp only[dA,List.mem_append,zf (l:=l),List.mem_cons]
  constructor
  ·rintro(h|⟨g,hg,h⟩)
   ·exact⟨f,.inl rfl,h⟩
   ·exact⟨g,.inr hg,h⟩
  ·rintro⟨g,rfl|hg,h⟩
   ·exact .inl h
   ·exact .inr ⟨g,hg,h⟩
theorem nO {f x:Fm}:x∈aZ f ↔ (∃g,g∈f.args/\x∈aZ g)\/(jV f.op=true/\x=f):=by
 rw[qC,List.mem_append,zf]
 by_cases h:jV f.op=true
 ·rw[if_pos h];simp[h]
 ·rw[if_neg h];simp[h]
theorem qE {f:Fm}(h:jV f.op=true):f∈aZ f:=nO.2 (.inr ⟨h,rfl⟩)
theorem qc {f g x:Fm}(hg:g∈f.args)(h:x∈aZ g):x∈aZ f:=nO.2 (.inl ⟨g,hg,h⟩)
theorem Fm.sV {P:Fm->Prop}(h:∀f,(∀g,g∈f.args->P g)->P f)(f:Fm):P f :=
 Fm.induct (fun f ih=>h f fun g hg=>by
  obtain⟨i,hi,rfl⟩:=List.getElem_of_mem hg;have:=ih i hi
  rwa [List.getD_eq_getElem?_getD,List.getElem?_eq_getElem hi,Option.getD_some]at this) f
theorem BU {f:Fm}:∀{x:Fm},x∈aZ f->jV x.op=true:=by
 refine Fm.sV (P:=fun f=>∀{x:Fm},x∈aZ f->jV x.op=true) ?_ f;intro f ih x hx
 rcases nO.1 hx with⟨g,hg,h⟩|⟨h,rfl⟩
 ·exact ih g hg h
 ·exact h
theorem F6 {f:Fm}:∀{x:Fm},x∈aZ f->x.size<=f.size:=by
 refine Fm.sV (P:=fun f=>∀{x:Fm},x∈aZ f->x.size<=f.size) ?_ f;intro f ih x hx
 rcases nO.1 hx with⟨g,hg,h⟩|⟨h,rfl⟩
 ·have h1:=ih g hg h
  have h2:=gJ hg;rw[Fm.size_eq f];omega
 ·exact Nat.le_refl _
theorem NW {f:Fm}:∀{x y:Fm},x∈aZ f->y∈aZ x->y∈aZ f:=by
 refine Fm.sV (P:=fun f=>∀{x y:Fm},x∈aZ f->y∈aZ x->y∈aZ f) ?_ f;intro f ih x y hx hy
 rcases nO.1 hx with⟨g,hg,h⟩|⟨h,rfl⟩
 ·exact qc hg (ih g hg h hy)
 ·exact hy
theorem Vj {Q:Fm->Prop}(hq:∀f g,Q f->g∈f.args->Q g){f:Fm}:Q f->∀{x:Fm},x∈aZ f->Q x:=by
 refine Fm.sV (P:=fun f=>Q f->∀{x:Fm},x∈aZ f->Q x) ?_ f;intro f ih h x hx
 rcases nO.1 hx with⟨g,hg,h1⟩|⟨_,rfl⟩
 ·exact ih g hg (hq f g h hg) h1
 ·exact h
theorem xP {f g:Fm}(hg:g∈f.args)(h:aV f=true):aV g=true:=by
 unfold aV at h⊢;rw[Bool.and_eq_true]at h⊢;exact⟨MS hg h.1,zH PZ hg h.2⟩
theorem qY {f x:Fm}(h:aV f=true)(hx:x∈aZ f):aV x=true:=Vj (Q:=fun f=>aV f=true) (fun _ _ h hg=>xP hg h) h hx
theorem Jo {o:Int}(h:jV o=true):(aA o).past=true/\(aA o).future=false:=by
 rcases mO.1 h with rfl|rfl|rfl <;> exact⟨rfl,rfl⟩
theorem Ue (x:Fm×Bool)(h:bH x=true):mV x=true:=by
 unfold bH at h;unfold mV;simp only[Bool.and_eq_true]at h;exact h.1.2
theorem qba {f:Fm}(h:allI bH true f):allB dO f=true:=by
 rw[<-NV];exact(Yv f).1 (rZ Ue h)
theorem Ji {f:Fm}(h:(aA f.op).future=false)(ha:∀g,g∈f.args->allB dO g=true):allB dO f=true:=by
 refine qj.2 (bT.2 ⟨by unfold dO;rw[h];rfl,fun g hg=>?_⟩);exact Xk Rn (ha g hg)
theorem tq {f g:Fm}(h:allB dO f=true)(hg:g∈f.args):allB dO g=true:=zH (q:=dO) (fun _ h=>h) hg h
theorem Vq {f:Fm}(h:aV f=true)(hr:jV f.op=true):allB dO f=true:=by
 have hb:=bT.1 (iq h).2.2;rw[(Jo hr).1,Bool.or_true]at hb;exact Ji (Jo hr).2 fun g hg=>qba (hb.2 g hg)
def jy (g:Fm):List Fm->Nat
 | []=>0
 | x :: l=>if x=g then 0 else jy g l+1
theorem qQ {g:Fm}:∀{l:List Fm},jy g l<l.length ↔ g∈l
 | []=>by simp[jy]
 | x :: l=>by
  rw[jy]
  by_cases h:x=g
  ·simp[h]
  ·rw[if_neg h,List.length_cons,Nat.add_lt_add_iff_right,qQ,List.mem_cons]
   simp[show¬g=x from fun e=>h e.symm]
theorem pG {g:Fm}:∀{l:List Fm},jy g l<l.length->l.getD (jy g l) default=g
 | [],h=>by simp[jy]at h
 | x :: l,h=>by
  rw[jy]at h⊢
  by_cases e:x=g
  ·rw[if_pos e];exact e
  ·rw[if_neg e]at h⊢
   rw[List.getD_cons_succ];exact pG (by simpa using h)
theorem Nj {g:Fm}:∀{l:List Fm} {k:Nat},k<jy g l->l.getD k default≠g
 | [],k,h=>by simp[jy]at h
 | x :: l,k,h=>by
  rw[jy]at h
  by_cases e:x=g
  ·rw[if_pos e]at h;omega
  ·rw[if_neg e]at h
   cases k with
   | zero=>exact e
   | succ k=>rw[List.getD_cons_succ];exact Nj (by omega)
theorem xH {g:Fm}{l:List Fm}{k:Nat}(hk:k<l.length)(h:l.getD k default=g):jy g l<=k:=by
 by_cases hl:k<jy g l
 ·exact absurd h (Nj hl)
 ·omega
theorem Tn {g:Fm}{l:List Fm}{k:Nat}(hk:k<l.length)(h:l.getD k default=g)(hm:∀j,j<k->l.getD j default≠g):jy g l=k:=by
 have h1:=xH hk h;have h2:¬jy g l<k:=fun hl=>hm _ hl (pG (by omega));omega
theorem Jf {l:List Fm}(h:l.Nodup){i:Nat}(hi:i<l.length):jy (l.getD i default) l=i:=by
 refine Tn hi rfl fun j hj e=>?_;unfold List.Nodup at h;rw[List.pairwise_iff_getElem]at h;have:=h j i (by omega) hi hj;simp[List.getD,hi,show j<l.length by omega]at e;exact this e
theorem yR {l:List Fm}{i k:Nat}(h:i<k):(l.take k).getD i default=l.getD i default:=by
 simp only[List.getD_eq_getElem?_getD];rw[List.getElem?_take_of_lt h]
theorem I9 {g:Fm}{l:List Fm}{k:Nat}(hk:k<=l.length):jy g (l.take k)<(l.take k).length ↔ jy g l<k:=by
 have hlen:(l.take k).length=k:=by rw[List.length_take];omega
 constructor
 ·intro h
  have h1:=pG h;rw[hlen]at h;rw[yR h]at h1;have:=xH (by omega) h1;omega
 ·intro h
  have h1:=pG (g:=g) (l:=l) (by omega);rw[<-yR h]at h1;have:=xH (l:=l.take k) (g:=g) (by omega) h1;omega
def o8 (out:List Fm)(g:Fm):List Fm:=if g∈out then out else out ++ [g]
def gK (out L:List Fm):List Fm:=L.foldl o8 out
theorem lX (out L M:List Fm):gK out (L++M)=gK (gK out L) M:=List.foldl_append ..
theorem IY (out:List Fm):gK out []=out:=rfl
theorem qw (out:List Fm)(g:Fm)(L:List Fm):gK out (g :: L)=gK (o8 out g) L:=rfl
theorem IZ (out:List Fm)(g:Fm):gK out [g]=o8 out g:=rfl
theorem EN {out:List Fm}{g x:Fm}:x∈o8 out g ↔ x∈out\/x=g:=by
 unfold o8
 by_cases h:g∈out
 ·rw[if_pos h]
  constructor
  ·exact .inl
  ·rintro(h1|rfl)
   ·exact h1
   ·exact h
 ·rw[if_neg h];simp
theorem xB {x:Fm}:∀{L out:List Fm},x∈gK out L ↔ x∈out\/x∈L
 | [],out=>by simp[IY]
 | g :: L,out=>by rw[qw,xB,EN,List.mem_cons,or_assoc]
theorem PW {out:List Fm}{g:Fm}(h:out.Nodup):(o8 out g).Nodup:=by
 unfold o8
 by_cases hg:g∈out
 ·rw[if_pos hg];exact h
 ·rw[if_neg hg]
  unfold List.Nodup at h⊢;rw[List.pairwise_append];refine⟨h,List.pairwise_singleton ..,fun a ha b hb e=>?_⟩;rw[List.mem_singleton]at hb;subst hb;subst e;exact hg ha
theorem Dp:∀{L out:List Fm},out.Nodup->(gK out L).Nodup
 | [],_,h=>h
 | g :: L,out,h=>by rw[qw];exact Dp (PW h)
theorem Xg (out:List Fm)(g:Fm):out.length<=(o8 out g).length/\(o8 out g).length<=out.length+1:=by
 unfold o8
 split
 ·omega
 ·simp
theorem sS:∀(L out:List Fm),out.length<=(gK out L).length/\(gK out L).length<=out.length+L.length
 | [],out=>⟨Nat.le_refl _,Nat.le_refl _⟩
 | g :: L,out=>by
  rw[qw];have h1:=sS L (o8 out g);have h2:=Xg out g;simp only[List.length_cons];omega
def Zk (l:List Fm):Prop:=∀i,i<l.length->∀g,g∈aZ (l.getD i default)->jy g l<=i
theorem SQ:Zk []:=fun i h=>absurd h (Nat.not_lt_zero _)
theorem Xf {out:List Fm}{f:Fm}(h:Zk out)(hs:∀x,x∈aZ f->x=f\/x∈out):Zk (o8 out f):=by
 unfold o8
 by_cases hf:f∈out
 ·rw[if_pos hf];exact h
 ·rw[if_neg hf]
  intro i hi g hg
  by_cases hl:i<out.length
  ·have e:(out ++ [f]).getD i default=out.getD i default:=by simp[List.getD,List.getElem?_append_left hl]
   rw[e]at hg;have h1:=h i hl g hg;have h2:=pG (g:=g) (l:=out) (by omega);refine Nat.le_trans (xH (k:=jy g out) (by simp;omega) ?_) h1;have e2:(out ++ [f]).getD (jy g out) default=out.getD (jy g out) default:=by simp[List.getD,List.getElem?_append_left (show jy g out<out.length by omega)]
   rw[e2];exact h2
  ·have hi':i=out.length:=by rw[List.length_append]at hi;simp at hi;omega
   subst hi';have e:(out ++ [f]).getD out.length default=f:=by simp[List.getD]
   rw[e]at hg
   rcases hs g hg with rfl|hm
   ·exact xH (by simp) e
   ·have h1:=qQ.2 hm
    have h2:=pG h1;refine Nat.le_trans (xH (k:=jy g out) (by simp;omega) ?_) (Nat.le_of_lt h1);have e2:(out ++ [f]).getD (jy g out) default=out.getD (jy g out) default:=by simp[List.getD,List.getElem?_append_left h1]
    rw[e2];exact h2
theorem UG (f:Fm):∀{out:List Fm},Zk out->Zk (gK out (aZ f)):=by
 refine Fm.sV (P:=fun f=>∀{out:List Fm},Zk out->Zk (gK out (aZ f))) ?_ f;intro f ih out h
 have key:∀l:List Fm,(∀g,g∈l->g∈f.args)->∀{out:List Fm},Zk out->Zk (gK out (dA l)):=by
  intro l
  induction l with
  | nil=>intro _ out h;exact h
  | cons g l ihl =>
   intro hl out h;simp only[dA];rw[lX];exact ihl (fun x hx=>hl x (by simp[hx])) (ih g (hl g (by simp)) h)
 rw[qC,lX];have h1:=key f.args (fun _ h=>h) h
 by_cases hr:jV f.op=true
 ·rw[if_pos hr,IZ]
  refine Xf h1 fun x hx=>?_
  rcases nO.1 hx with⟨g,hg,h2⟩|⟨_,h2⟩
  ·exact .inr (xB.2 (.inr (zf.2 ⟨g,hg,h2⟩)))
  ·exact .inl h2
 ·rw[if_neg hr,IY];exact h1
def bD (f:Fm):List Fm:=if aV f then gK [] (aZ f)else []
theorem mD {f:Fm}(h:aV f=true):bD f=gK [] (aZ f):=by unfold bD;rw[if_pos h]
theorem nK {f x:Fm}(h:aV f=true):x∈bD f ↔ x∈aZ f:=by rw[mD h,xB];simp
theorem Ah (f:Fm):(bD f).Nodup:=by
 unfold bD
 split
 ·exact Dp List.nodup_nil
 ·exact List.nodup_nil
theorem Ri (f:Fm):Zk (bD f):=by
 unfold bD
 split
 ·exact UG f SQ
 ·exact SQ
theorem qA {f x:Fm}(h:x∈bD f):aV f=true/\aV x=true/\jV x.op=true/\allB dO x=true:=by
 by_cases hl:aV f=true
 ·rw[nK hl]at h
  have h1:=qY hl h;have h2:=BU h;exact⟨hl,h1,h2,Vq h1 h2⟩
 ·unfold bD at h
  rw[if_neg hl]at h;cases h
def kC (l:List Fm):Bool:=decide (l.length<=8)&&oM l.length fun i=>jV (l.getD i default).op&&aV (l.getD i default)&&allB dO (l.getD i default)&&decide (i<=jy (l.getD i default) l)&&(aZ (l.getD i default)).all fun g=>decide (jy g l<=i)
theorem DC {f:Fm}(h:(bD f).length<=8):kC (bD f)=true:=by
 unfold kC;rw[decide_eq_true h,Bool.true_and,iO];intro i hi;have hm:(bD f).getD i default∈bD f:=by simp[List.getD,hi]
 obtain⟨_,h1,h2,h3⟩:=qA hm;rw[h1,h2,h3,Jf (Ah f) hi,decide_eq_true (Nat.le_refl _),Bool.true_and,Bool.true_and,Bool.true_and,Bool.true_and,List.all_eq_true];intro g hg;exact decide_eq_true (Ri f i hi g hg)
def jl:List Bool->Nat
 | []=>0
 | b :: l=>(if b then 1 else 0)+2*jl l
theorem FT:∀l:List Bool,jl l<2 ^ l.length
 | []=>by simp[jl]
 | b :: l=>by
  have:=FT l;rw[jl,List.length_cons,Nat.pow_succ]
  split <;> omega
theorem yX (b:Bool):∀l:List Bool,jl (l ++ [b])=jl l+(if b then 2 ^ l.length else 0)
 | []=>by cases b <;> simp[jl]
 | c :: l=>by
  rw[List.cons_append,jl,jl,yX b l,List.length_cons,Nat.pow_succ]
  cases b <;> simp <;> omega
theorem YA (l:List Bool):jl (l ++ [true])=jl l ||| (1 <<< l.length):=by
 rw[yX,if_pos rfl,Nat.one_shiftLeft,Nat.or_comm];have:=Nat.two_pow_add_eq_or_of_lt (FT l) 1;rw[Nat.mul_one]at this;omega
theorem Jd (l:List Bool):jl (l.map (!·))+jl l=2 ^ l.length-1:=by
 induction l with
 | nil=>rfl
 | cons b l ih =>
  rw[List.map_cons,jl,jl,List.length_cons,Nat.pow_succ];have:=Nat.two_pow_pos l.length
  cases b <;> simp <;> omega
theorem Ug {n m i:Nat}(hm:m<2 ^ n)(hi:i<n):(2 ^ n-1-m).testBit i = !m.testBit i:=by
 have:=Nat.testBit_two_pow_sub_succ hm i;rw[show 2 ^ n-(m+1)=2 ^ n-1-m by omega]at this;rw[this,decide_eq_true hi,Bool.true_and]
def Za (o:Int)(a s:Bool)(bs:List Bool):Bool :=
 if o=1 then true else if o=3 then a else if o=4 then !bs.getD 0 false else if o=5 then bs.all id else if o=6 then bs.any id
 else if o=15 then s else if o=16 then bs.getD 1 false || (bs.getD 0 false&&s)else if o=17 then bs.getD 1 false&&(bs.getD 0 false || s)else false
mutual
def fA (sg:ByteArray->Int->Bool)(sy:Fm->Bool):Fm->Bool
 | .mk o n v b l=>Za o (sg n v) (sy (.mk o n v b l)) (TG sg sy l)
def TG (sg:ByteArray->Int->Bool)(sy:Fm->Bool):List Fm->List Bool
 | [] => []
 | f :: l=>fA sg sy f :: TG sg sy l
end
theorem Jg (sg:ByteArray->Int->Bool)(sy:Fm->Bool):∀l:List Fm,TG sg sy l=l.map (fA sg sy)
 | []=>rfl
 | f :: l=>by simp only[TG,List.map_cons,Jg sg sy l]
theorem pJ (sg:ByteArray->Int->Bool)(sy:Fm->Bool)(f:Fm):fA sg sy f=Za f.op (sg f.name f.val) (sy f) (f.args.map (fA sg sy)):=by
 cases f;simp only[fA,Fm.op,Fm.name,Fm.val,Fm.args,Jg]
theorem oH {α β : Type}(φ : α -> β)(l:List α)(i:Nat)(d : α)(e : β)(h:i<l.length):(l.map φ).getD i e = φ (l.getD i d):=by
 simp[List.getD,h]
def cu (nodes:List Fm)(mem:Nat)(f:Fm):Bool:=mem.testBit (jy f nodes)
def wQ (nodes:List Fm):List Bool:=nodes.map fun n=>decide (n.val=1)
def uK (nodes:List Fm):Nat:=jl (wQ nodes)
def kP (n:Fm):Fm:=if n.op=15 then n.args.getD 0 default else n
def Dz (sg:ByteArray->Int->Bool)(nodes:List Fm)(mem:Nat):List Bool:=nodes.map fun n=>fA sg (cu nodes mem) (kP n)
def sZ (sg:ByteArray->Int->Bool)(nodes:List Fm)(mem:Nat):Nat:=jl (Dz sg nodes mem)
theorem jk {o:Int}(h:(aA o).loose=true):nY o\/o=3\/o=4:=by
 unfold aA at h
 split at h
 ·rename_i h1
  unfold isOp at h1;rw[Bool.and_eq_true,decide_eq_true_eq,decide_eq_true_eq]at h1;have:o=1\/o=2\/o=3\/o=4\/o=5\/o=6\/o=7\/o=8\/o=9\/o=10\/o=11\/o=12\/o=13\/o=14\/o=15\/o=16\/o=17\/o=18\/o=19:=by omega
  unfold nY
  rcases this with rfl|rfl|rfl|rfl|rfl|rfl|rfl|rfl|rfl|rfl|rfl|rfl|rfl|rfl|rfl|rfl|rfl|rfl|rfl <;> first|exact absurd h (by decide)|omega
 ·cases h
theorem fG {f:Fm}(h:aV f=true):Bare f:=⟨_,(iq h).2.2⟩
theorem Vg {o:Int}(h:nY o):jV (aY true o)=jV o:=by
 rcases h with rfl|rfl|rfl|rfl|rfl|rfl|rfl|rfl|rfl|rfl <;> decide
theorem F7 {φ : Fm->Fm}:∀{l:List Fm},(∀g,g∈l->aZ (φ g)=(aZ g).map φ)->dA (l.map φ)=(dA l).map φ
 | [],_=>rfl
 | f :: l,h=>by
  simp only[List.map_cons,dA,List.map_append];rw[h f (by simp),F7 fun g hg=>h g (by simp[hg])]
theorem xJ {f:Fm}(h:nY f.op):kf true f = .mk (aY true f.op) f.name (fK true f.op f.val) 0 (f.args.map (kf true)):=by
 cases f;exact Yh h _ _ _ _
theorem YI (f:Fm):Bare f->aZ (kf true f)=(aZ f).map (kf true):=by
 refine Fm.sV (P:=fun f=>Bare f->aZ (kf true f)=(aZ f).map (kf true)) ?_ f;intro f ih h
 rcases jk h.node.1 with hp|h3|h4
 ·have hk:=xJ hp
  have ha:(kf true f).args=f.args.map (kf true):=by rw[hk];rfl
  have ho:(kf true f).op=aY true f.op:=by rw[hk];rfl
  rw[qC (kf true f),ha,ho,F7 fun g hg=>ih g hg (h.arg hg),Vg hp,qC f,List.map_append]
  by_cases hr:jV f.op=true
  ·rw[if_pos hr,if_pos hr,List.map_cons,List.map_nil]
  ·rw[if_neg hr,if_neg hr];rfl
 ·rw[xI h h3,lY];rfl
 ·obtain⟨g,hf,h3,ha⟩:=FX h h4
  have hg:Bare g:=h.arg (by rw[ha];simp);rw[hf,uy];rw[xI hg h3];rw[Bool.not_true,Dt];rfl
theorem Tq {f:Fm}(h:Bare f):kf true (kf true f)=f:=by
 obtain⟨ins,h⟩:=h;rw[qfR f ins (Xj h) true];exact qaT f ins h
theorem Xh {φ : Fm->Fm}{out:List Fm}{g:Fm}(h:∀x,x∈out -> φ x = φ g->x=g):o8 (out.map φ) (φ g)=(o8 out g).map φ := by
 unfold o8
 by_cases hg:g∈out
 ·rw[if_pos hg,if_pos (List.mem_map.2 ⟨g,hg,rfl⟩)]
 ·rw[if_neg hg,if_neg,List.map_append]
  ·rfl
  ·intro hm
   obtain⟨x,hx,e⟩:=List.mem_map.1 hm;exact hg (h x hx e ▸ hx)
theorem IX {φ : Fm->Fm}:∀{L out:List Fm},(∀x y,(x∈out\/x∈L)->(y∈out\/y∈L) -> φ x = φ y->x=y)->gK (out.map φ) (L.map φ)=(gK out L).map φ
 | [],out,_=>rfl
 | g :: L,out,h=>by
  rw[List.map_cons,qw,qw,Xh fun x hx e=>h x g (.inl hx) (.inr (by simp)) e];refine IX fun x y hx hy e=>h x y ?_ ?_ e
  ·rcases hx with hx|hx
   ·rcases EN.1 hx with hx|rfl
    ·exact .inl hx
    ·exact .inr (by simp)
   ·exact .inr (by simp[hx])
  ·rcases hy with hy|hy
   ·rcases EN.1 hy with hy|rfl
    ·exact .inl hy
    ·exact .inr (by simp)
   ·exact .inr (by simp[hy])
theorem wG {f:Fm}(h:aV f=true)(h2:aV (kf true f)=true):bD (kf true f)=(bD f).map (kf true):=by
 rw[mD h,mD h2,YI f (fG h)]
 exact IX (out := []) fun x y hx hy e=>by
  have hx':x∈aZ f:=by rcases hx with hx|hx;cases hx;exact hx
  have hy':y∈aZ f:=by rcases hy with hy|hy;cases hy;exact hy
  rw[<-Tq (fG (qY h hx')),<-Tq (fG (qY h hy')),e]
theorem Ju {f:Fm}(h:Bare f)(h1:f.op=15):f.args.length=1:=by
 have hs:=gq h.node.2.1;rw[h1]at hs;have h2:(aA 15).least=1:=rfl;have h3:(aA 15).most=1:=rfl;omega
theorem Jv {f:Fm}(h:Bare f)(h1:f.op=16\/f.op=17):f.args.length=2:=by
 have hs:=gq h.node.2.1
 rcases h1 with h1|h1 <;> rw[h1]at hs
 ·have h2:(aA 16).least=2:=rfl
  have h3:(aA 16).most=2:=rfl;omega
 ·have h2:(aA 17).least=2:=rfl
  have h3:(aA 17).most=2:=rfl;omega
theorem ER (l:List Bool):(l.map (!·)).any id = !l.all id:=by
 induction l with
 | nil=>rfl
 | cons b l ih=>simp only[List.map_cons,List.any_cons,List.all_cons,id,ih];cases b <;> simp
theorem ET (l:List Bool):(l.map (!·)).all id = !l.any id:=by
 induction l with
 | nil=>rfl
 | cons b l ih=>simp only[List.map_cons,List.any_cons,List.all_cons,id,ih];cases b <;> simp
theorem zU {l:List Bool}{i:Nat}(h:i<l.length):(l.map (!·)).getD i false = !l.getD i false:=by simp[List.getD,h]
theorem YD {sg:ByteArray->Int->Bool}{s t:Fm->Bool}(f:Fm):Bare f->allB dO f=true->(∀x,x∈aZ f->t (kf true x) = !s x)->fA sg t (kf true f) = !fA sg s f:=by
 refine Fm.sV (P:=fun f=>Bare f->allB dO f=true->(∀x,x∈aZ f->t (kf true x) = !s x)->fA sg t (kf true f) = !fA sg s f) ?_ f;intro f ih h hpa hs
 rcases jk h.node.1 with hp|h3|h4
 ·have e:(f.args.map (kf true)).map (fA sg t)=(f.args.map (fA sg s)).map (!·):=by
   rw[List.map_map,List.map_map];exact List.map_congr_left fun g hg=>ih g hg (h.arg hg) (tq hpa hg) fun x hx=>hs x (qc hg hx)
  have hk:=xJ hp;rw[pJ sg t (kf true f),pJ sg s f];have ha:(kf true f).args=f.args.map (kf true):=by rw[hk];rfl
  have ho:(kf true f).op=aY true f.op:=by rw[hk];rfl
  rw[ha,ho,e];have hpast:(aA f.op).future=false:=by have:=Il hpa;unfold dO at this;simpa using this
  have hl:(f.args.map (fA sg s)).length=f.args.length:=List.length_map ..
  generalize hbs:f.args.map (fA sg s)=bs at hl
  rcases hp with e|e|e|e|e|e|e|e|e|e
  ·rw[e];rfl
  ·rw[e];rfl
  ·rw[e];exact ER bs
  ·rw[e];exact ET bs
  ·rw[e]at hpast;cases hpast
  ·rw[e]at hpast;cases hpast
  ·rw[e]at hpast;cases hpast
  ·have:=hs f (qE (mO.2 (.inl e)))
   rw[e];show t (kf true f) = !s f;exact this
  ·have h2:=hs f (qE (mO.2 (.inr (.inl e))))
   have hn:=Jv h (.inl e);rw[e];show((bs.map (!·)).getD 1 false&&((bs.map (!·)).getD 0 false || t (kf true f))) = !(bs.getD 1 false || (bs.getD 0 false&&s f));rw[zU (by omega),zU (by omega),h2]
   cases bs.getD 1 false <;> cases bs.getD 0 false <;> cases s f <;> rfl
  ·have h2:=hs f (qE (mO.2 (.inr (.inr e))))
   have hn:=Jv h (.inr e);rw[e];show((bs.map (!·)).getD 1 false || ((bs.map (!·)).getD 0 false&&t (kf true f))) = !(bs.getD 1 false&&(bs.getD 0 false || s f));rw[zU (by omega),zU (by omega),h2]
   cases bs.getD 1 false <;> cases bs.getD 0 false <;> cases s f <;> rfl
 ·rw[xI h h3,lY]
  unfold iQ QN;rw[pJ,pJ];simp only[Fm.op,Fm.name,Fm.val,Fm.args,List.map_cons,List.map_nil,pJ];rfl
 ·obtain⟨g,hf,h3,ha⟩:=FX h h4
  have hg:Bare g:=h.arg (by rw[ha];simp);rw[hf,uy];rw[xI hg h3];rw[Bool.not_true,Dt,pJ,pJ];simp only[Fm.op,Fm.name,Fm.val,Fm.args,List.map_cons,List.map_nil,pJ];simp[Za]
mutual
def gX (vb:Fm->Int):Fm->Fm
 | .mk o n v b l => .mk o n (if jV o then vb (.mk o n v b l)else v) b (JU vb l)
def JU (vb:Fm->Int):List Fm->List Fm
 | [] => []
 | f :: l=>gX vb f :: JU vb l
end
theorem EO (vb:Fm->Int):∀l:List Fm,JU vb l=l.map (gX vb)
 | []=>rfl
 | f :: l=>by simp only[JU,List.map_cons,EO vb l]
theorem rX (vb:Fm->Int)(f:Fm):gX vb f = .mk f.op f.name (if jV f.op then vb f else f.val) f.bound (f.args.map (gX vb)):=by
 cases f;simp only[gX,Fm.op,Fm.name,Fm.val,Fm.bound,Fm.args,EO];rfl
section
variable (vb:Fm->Int)(f:Fm)
theorem SG:(gX vb f).op=f.op:=by rw[rX];rfl
theorem Ij:(gX vb f).name=f.name:=by rw[rX];rfl
theorem LQ:(gX vb f).val=if jV f.op then vb f else f.val:=by rw[rX];rfl
theorem EP:(gX vb f).bound=f.bound:=by rw[rX];rfl
theorem wY:(gX vb f).args=f.args.map (gX vb):=by rw[rX];rfl
end
theorem Ub (f:Fm):gX Fm.val f=f:=by
 refine Fm.sV (P:=fun f=>gX Fm.val f=f) ?_ f;intro f ih
 have e:f.args.map (gX Fm.val)=f.args:=by
  have:f.args.map (gX Fm.val)=f.args.map id:=List.map_congr_left fun g hg=>ih g hg;rw[this,List.map_id]
 rw[rX,e,ite_self,f.eta]
def P6 (nodes:List Fm)(mem:Nat)(f:Fm):Int:=if cu nodes mem f then 1 else 0
def qbe (nodes:List Fm)(mem:Nat)(f:Fm):Fm:=gX (P6 nodes mem) f
theorem YB {f x:Fm}(h:aV f=true)(hx:x∈aZ f):x.val=0\/x.val=1:=by
 have hl:=fG (qY h hx);have hs:=gq hl.node.2.1
 have h1:(aA x.op).val=1:=by rcases mO.1 (BU hx)with e|e|e <;> rw[e] <;> rfl
 rw[h1]at hs;omega
theorem Vb {f n x:Fm}(hn:n∈aZ f)(hb:Bare n)(hx:x∈aZ (kP n)):x∈aZ f:=by
 refine NW hn ?_;unfold kP at hx
 split at hx
 ·rename_i h
  have hl:=Ju hb h;exact qc (g:=n.args.getD 0 default) (by simp[List.getD,hl]) hx
 ·exact hx
def Per {α : Type}(u:Nat -> α)(b L:Nat):Prop:=∀t,b<=t->u (t+L)=u t
theorem Per.mono {α : Type}{u:Nat -> α}{b c L:Nat}(h:Per u b L)(hc:b<=c):Per u c L:=fun t ht=>h t (Nat.le_trans hc ht)
theorem Per.mul {α : Type}{u:Nat -> α}{b L:Nat}(h:Per u b L):∀(k t:Nat),b<=t->u (t+k*L)=u t
 | 0,t,_=>by rw[Nat.zero_mul,Nat.add_zero]
 | k+1,t,ht=>by
  rw[Nat.succ_mul,<-Nat.add_assoc,h (t+k*L) (by omega)];exact h.mul k t ht
def gG (b L t:Nat):Nat:=if t<b+L then t else b+(t-b) % L
theorem pY {b L t:Nat}(hL:0<L):gG b L t<b+L:=by
 unfold gG
 split
 ·assumption
 ·have:=Nat.mod_lt (t-b) hL;omega
theorem Per.place {α : Type}{u:Nat -> α}{b L:Nat}(h:Per u b L)(hL:0<L)(t:Nat):u (gG b L t)=u t:=by
 unfold gG
 split
 ·rfl
 ·have h1:=h.mul ((t-b) / L) (b+(t-b) % L) (by omega)
  have h2:b+(t-b) % L+(t-b) / L*L=t:=by
   have:=Nat.mod_add_div (t-b) L;rw[Nat.mul_comm]at this;omega
  rw[h2]at h1;exact h1.symm
open Classical in
noncomputable def Zc (a b:Nat->Bool)(t:Nat):Bool:=decide (∃k,t<=k/\b k=true/\∀j,t<=j->j<k->a j=true)
def GI (b L:Nat)(u v:List Bool)(i:Nat)(out:List Bool):List Bool :=
 out.set (b+L-1-i % (b+L)) (v.getD (b+L-1-i % (b+L)) false || (u.getD (b+L-1-i % (b+L)) false&&out.getD (gG b L (b+L-1-i % (b+L)+1)) false))
def oO (b L:Nat)(u v:List Bool):Nat->List Bool
 | 0=>List.replicate (b+L) false
 | k+1=>GI b L u v k (oO b L u v k)
def Cm (b L:Nat)(u v:List Bool):List Bool:=oO b L u v (2*(b+L))
theorem uN (b L:Nat)(u v:List Bool):∀k,(oO b L u v k).length=b+L
 | 0=>List.length_replicate ..
 | k+1=>by rw[oO,GI,List.length_set,uN]
section
variable {b L:Nat}{ru rv:List Bool}{u v:Nat->Bool}
end
noncomputable def YN (a b:Nat->Bool)(t:Nat):Bool := !Zc (fun k => !a k) (fun k => !b k) t
def zk (b L:Nat)(u v:List Bool)(i:Nat)(out:List Bool):List Bool :=
 out.set (b+L-1-i % (b+L)) (v.getD (b+L-1-i % (b+L)) false&&(u.getD (b+L-1-i % (b+L)) false || out.getD (gG b L (b+L-1-i % (b+L)+1)) false))
def jM (b L:Nat)(u v:List Bool):Nat->List Bool
 | 0=>List.replicate (b+L) true
 | k+1=>zk b L u v k (jM b L u v k)
def tu (b L:Nat)(u v:List Bool):List Bool:=jM b L u v (2*(b+L))
theorem pR (b L:Nat)(u v:List Bool):∀k,(jM b L u v k).length=b+L
 | 0=>List.length_replicate ..
 | k+1=>by rw[jM,zk,List.length_set,pR]
def nT (a b:Nat->Bool)(c:Bool):Nat->Bool
 | 0=>b 0 || (a 0&&c)
 | t+1=>b (t+1) || (a (t+1)&&nT a b c t)
def jr (a b:Nat->Bool)(c:Bool):Nat->Bool
 | 0=>b 0&&(a 0 || c)
 | t+1=>b (t+1)&&(a (t+1) || jr a b c t)
def kS (n:Nat)(u:Nat->Bool):List Bool:=(List.range n).map u
def dN (r:List Bool)(t:Nat):Bool:=r.getD t false
def Om (b L:Nat)(a:Nat->Bool)(o v:Int)(rs:List (List Bool)):List Bool :=
 if o=1 then kS (b+L) fun _=>true
 else if o=2 then kS (b+L) fun _=>false
 else if o=3 then kS (b+L) a
 else if o=4 then kS (b+L) fun t => !dN (rs.getD 0 []) t
 else if o=5 then kS (b+L) fun t=>rs.all fun r=>dN r t
 else if o=6 then kS (b+L) fun t=>rs.any fun r=>dN r t
 else if o=8 then kS (b+L) fun t=>dN (rs.getD 0 []) (gG b L (t+1))
 else if o=9 then Cm b L (rs.getD 0 []) (rs.getD 1 [])
 else if o=10 then tu b L (rs.getD 0 []) (rs.getD 1 [])
 else if o=15 then kS (b+L) fun t=>(decide (t=0)&&decide (v=1)) || (decide (0<t)&&dN (rs.getD 0 []) (t-1))
 else if o=16 then kS (b+L) (nT (dN (rs.getD 0 [])) (dN (rs.getD 1 [])) (decide (v=1)))
 else if o=17 then kS (b+L) (jr (dN (rs.getD 0 [])) (dN (rs.getD 1 [])) (decide (v=1)))
 else []
mutual
def wL (b L:Nat)(sg:Nat->ByteArray->Int->Bool):Fm->List Bool
 | .mk o n v bd l=>Om b L (fun t=>sg t n v) o v (TJ b L sg l)
def TJ (b L:Nat)(sg:Nat->ByteArray->Int->Bool):List Fm->List (List Bool)
 | [] => []
 | f :: l=>wL b L sg f :: TJ b L sg l
end
theorem Jp (b L:Nat)(sg:Nat->ByteArray->Int->Bool):∀l:List Fm,TJ b L sg l=l.map (wL b L sg)
 | []=>rfl
 | f :: l=>by simp only[TJ,List.map_cons,Jp b L sg l]
theorem TI (b L:Nat)(sg:Nat->ByteArray->Int->Bool)(f:Fm):wL b L sg f=Om b L (fun t=>sg t f.name f.val) f.op f.val (f.args.map (wL b L sg)):=by
 cases f;simp only[wL,Fm.op,Fm.name,Fm.val,Fm.args,Jp]
noncomputable def stepS (a:Nat->Bool)(o v:Int)(us:List (Nat->Bool))(t:Nat):Bool :=
 if o=1 then true
 else if o=2 then false
 else if o=3 then a t
 else if o=4 then !us.getD 0 (fun _=>false) t
 else if o=5 then us.all fun u=>u t
 else if o=6 then us.any fun u=>u t
 else if o=8 then us.getD 0 (fun _=>false) (t+1)
 else if o=9 then Zc (us.getD 0 fun _=>false) (us.getD 1 fun _=>false) t
 else if o=10 then YN (us.getD 0 fun _=>false) (us.getD 1 fun _=>false) t
 else if o=15 then(decide (t=0)&&decide (v=1)) || (decide (0<t)&&us.getD 0 (fun _=>false) (t-1))
 else if o=16 then nT (us.getD 0 fun _=>false) (us.getD 1 fun _=>false) (decide (v=1)) t
 else if o=17 then jr (us.getD 0 fun _=>false) (us.getD 1 fun _=>false) (decide (v=1)) t
 else false
mutual
noncomputable def qfU (sg:Nat->ByteArray->Int->Bool):Fm->Nat->Bool
 | .mk o n v bd l=>stepS (fun t=>sg t n v) o v (qbZ sg l)
noncomputable def qbZ (sg:Nat->ByteArray->Int->Bool):List Fm->List (Nat->Bool)
 | [] => []
 | f :: l=>qfU sg f :: qbZ sg l
end
mutual
def jm:Fm->Nat
 | .mk o n v b l=>jG l+(if 15<=o/\o<=19 then 1 else 0)
def jG:List Fm->Nat
 | []=>0
 | f :: l=>max (jm f) (jG l)
end
theorem ND (f:Fm):jm f=jG f.args+(if 15<=f.op/\f.op<=19 then 1 else 0):=by cases f;simp only[jm,Fm.op,Fm.args];rfl
theorem Fv {α : Type}(φ : Fm -> α)(l:List Fm)(i:Nat)(d : α)(h:i<l.length):(l.map φ).getD i d = φ (l.getD i default):=by simp[List.getD,h]
theorem cZ {l:List Fm}{i:Nat}(h:i<l.length):l.getD i default∈l:=by simp[List.getD,h]
theorem ug {f:Fm}(h:Bare f):(f.op=4\/f.op=8\/f.op=15->f.args.length=1)/\(f.op=9\/f.op=10\/f.op=16\/f.op=17->f.args.length=2):=by
 have hs:=gq h.node.2.1
 constructor
 ·intro h1
  have:(aA f.op).least=1/\(aA f.op).most=1:=by rcases h1 with e|e|e <;> rw[e] <;> exact⟨rfl,rfl⟩
  omega
 ·intro h1
  have:(aA f.op).least=2/\(aA f.op).most=2:=by rcases h1 with e|e|e|e <;> rw[e] <;> exact⟨rfl,rfl⟩
  omega
end Go.Proofs.YtdpbgcmfeajigaaGreatDoor
namespace Go.Proofs.YtdpbgcmfeajigaaGreatDoor
open Go.RowKit Go.Shelf
attribute [local go_sem] ak
theorem o7.any {w w':World}{D:Dom}{A:Option Addr}{c:Nat}{zs:List Int}(h:o7 w D A c zs)(hb:Below w.heap.size w w'):o7 w' bC A c zs:=(h.old.keep (Keeps.of_below hb fun _ h=>h)).mono fun _ _ _=>trivial
theorem au {w w' w'':World}(h:Below w.heap.size w w')(hb:Below w'.heap.size w' w''):Below w.heap.size w w'':=h.trans (hb.mono h.size)
def Ko (m x:Int):Bool:=decide (0<=x)&&decide (x<m)
def iw (l:List Int)(m:Int):Bool:=l.all (Ko m)
theorem Iq {l:List Int}{m:Int}{i:Nat}(hi:i<l.length)(h:Ko m (l.getD i 0)=false):iw l m=false:=by
 unfold iw;rw[List.all_eq_false];exact⟨l.getD i 0,by simp[List.getD,hi],by rw[h];simp⟩
theorem P5 {l:List Int}{m:Int}(h:∀i,i<l.length->Ko m (l.getD i 0)=true):iw l m=true:=by
 unfold iw;rw[List.all_eq_true];intro x hx;obtain⟨i,hi,rfl⟩:=List.getElem_of_mem hx;have:=h i hi;simpa[List.getD,hi]using this
theorem Uf {D:Dom}(l:List Int)(m:Int)(A:Option Addr)(c n:Nat)(w:World)(hn:n=l.length)(h:o7 w D A c l) :
  Calls Tryz.prog 87 #[.slice A n c,.int .i64 m] w fun e w'=>e = .returned (.bool (iw l m))/\Below w.heap.size w w':=by
 subst hn;have hlen:=h.len.1;have HH:=hid h;clear h
 go_enter Tryz.func87,Tryz.ntmps87
 go_wp2_with fail
 go_loopw [9] (fun q wr=>∃i:Nat,i<=l.length/\q = .int .i64 (i:Int)/\rW w wr/\Hid (∀k,k<i->Ko m (l.getD k 0)=true)) (fun q _=>l.length-(intOf q).toNat)
 case atStart=>exact⟨0,Nat.zero_le _,rfl,rfl,fun j h=>absurd h (Nat.not_lt_zero _)⟩
 case round =>
  obtain⟨i,hi,rfl,hw,gQ⟩:=hrel;obtain rfl:w=wr:=hw.symm
  by_cases hlt:i<l.length
  ·have hii:(i:Int)<l.length:=by omega
   have fQ:=hid hlt;obtain⟨b,o,x,rfl,_,hlb,HX,x0⟩:=HH.out.get hlt;have oq:=hid HX.out;clear HX hi hlt
   by_cases h0:x<0
   ·have d0:decide (x<0)=true:=decide_eq_true h0
    have HR:=hid (show iw l m=false from Iq fQ.out (by rw[oq.out];unfold Ko;rw[decide_eq_false (by omega)];rfl));go_wp2_with fail
    go_ret
    exact⟨aF HR.out.symm,Below.refl _ _⟩
   have d0:decide (x<0)=false:=decide_eq_false h0
   by_cases h1:m<=x
   ·have d1:decide (m<=x)=true:=decide_eq_true h1
    have HR:=hid (show iw l m=false from Iq fQ.out (by rw[oq.out];unfold Ko;rw[decide_eq_false (show¬x<m by omega)];simp));go_wp2_with fail
    go_ret
    exact⟨aF HR.out.symm,Below.refl _ _⟩
   ·have d1:decide (m<=x)=false:=decide_eq_false h1
    have kU:=hid (show Ko m (l.getD i 0)=true by rw[oq.out];unfold Ko;rw[decide_eq_true (show 0<=x by omega),decide_eq_true (show x<m by omega)];rfl);clear h0 h1;go_wp2_with fail
    go_roundw
    case rel =>
     refine⟨i+1,by have:=fQ.out;omega,by go_num,rfl,fun j hj=>?_⟩
     by_cases e:j=i
     ·rw[e];exact kU.out
     ·exact gQ.out j (by omega)
    case measure=>have:=fQ.out;simp[intOf];omega
  ·have hii:¬(i:Int)<l.length:=by omega
   have HR:=hid (show iw l m=true from P5 fun j hj=>gQ.out j (by omega));go_wp2_with fail
   go_ret
   exact⟨aF HR.out.symm,Below.refl _ _⟩
theorem wZ {D:Dom}{l:List Int}{m:Int}{A:Option Addr}{c n:Nat}{w:World}(r:Bool)(hr:iw l m=r)(hn:n=l.length)(h:o7 w D A c l) :
  Calls Tryz.prog 87 #[.slice A n c,.int .i64 m] w fun e w'=>e = .returned (.bool r)/\Below w.heap.size w w':=by
 subst hr;exact Uf l m A c n w hn h
structure lQ where
 stem:List Int
 loop:List Int
def iL (W:lQ):Bool:=decide (W.stem.length<=60)&&decide (1<=W.loop.length)&&decide (W.loop.length<=40)&&iw W.stem 64&&iw W.loop 64
def rE (m:Int)(W:lQ):Bool:=iL W&&iw W.stem m&&iw W.loop m
def dQ (W:lQ)(i:Nat):Int:=if i<W.stem.length then W.stem.getD i 0 else W.loop.getD ((i-W.stem.length) % W.loop.length) 0
def OD (w:World)(D:Dom)(v:Value)(W:lQ):Prop:=∃As cs Al cl,v = .agg #[.slice As W.stem.length cs,.slice Al W.loop.length cl]/\o7 w D As cs W.stem/\o7 w D Al cl W.loop
theorem OD.any {w w':World}{D:Dom}{v:Value}{W:lQ}(h:OD w D v W)(hb:Below w.heap.size w w'):OD w' bC v W:=let ⟨As,cs,Al,cl,e,h1,h2⟩:=h;⟨As,cs,Al,cl,e,h1.any hb,h2.any hb⟩
def qg (w:World)(b:Nat)(W:lQ)(As:Option Addr)(cs:Nat)(Al:Option Addr)(cl:Nat):Prop:=w.heap[b]?=some (.cells #[.slice As W.stem.length cs,.slice Al W.loop.length cl] 37 (0,0))
section
variable {w w':World}{b:Nat}{W:lQ}{As Al:Option Addr}{cs cl:Nat}
theorem qg.below (h:qg w b W As cs Al cl)(hb:Below w.heap.size w w'):qg w' b W As cs Al cl:=(hb.block _ (lt_of_block h)).trans h
theorem qg.cells (h:qg w b W As cs Al cl):w.cell? ⟨b,0,none⟩=some (.slice As W.stem.length cs)/\w.cell? ⟨b,1,none⟩=some (.slice Al W.loop.length cl)/\b<w.heap.size:=⟨aj h (i:=0) rfl,aj h (i:=1) rfl,lt_of_block h⟩
end
theorem Qv {D:Dom}(W:lQ)(v:Value)(w:World)(h:OD w D v W) :
  Calls Tryz.prog 62 #[v] w fun e w'=>e = .returned (.bool (iL W))/\Below w.heap.size w w':=by
 obtain⟨As,cs,Al,cl,rfl,hs,hl⟩:=h;have hsl:=hs.len.1;have hll:=hl.len.1;have HS:=hid hs.old;have HL:=hid hl.old;clear hs hl
 go_enter Tryz.func62,Tryz.ntmps62
 go_upto_region 1 with(fail)
 refine aI fun U hU=>?_;have HB:=hid (show Below w.heap.size w U by rw[hU];go_grown);have HO:=hid (show qg U w.heap.size W As cs Al cl by show U.heap[_]?=_;rw[hU];exact at_new _ _ _ rfl);clear hU;obtain⟨s0,s1,s2⟩:=HO.out.cells
 by_cases h1:60<W.stem.length
 ·have hi:60<(W.stem.length:Int):=by omega
  have di:=decide_eq_true hi;have HR:=hid (show iL W=false by unfold iL;rw[decide_eq_false (show¬W.stem.length<=60 by omega)];simp);clear h1;go_wp2_with fail
  go_ret
  exact⟨aF HR.out.symm,HB.out⟩
 have X7:¬60<(W.stem.length:Int):=by omega
 have qe7:=decide_eq_false X7
 by_cases h1:W.loop.length<1
 ·have hi:(W.loop.length:Int)<1:=by omega
  have di:=decide_eq_true hi;have HR:=hid (show iL W=false by unfold iL;rw[decide_eq_false (show¬1<=W.loop.length by omega)];simp);clear h1;go_wp2_with fail
  go_ret
  exact⟨aF HR.out.symm,HB.out⟩
 have qft:¬(W.loop.length:Int)<1:=by omega
 have di_17:=decide_eq_false qft
 by_cases h1:40<W.loop.length
 ·have hi:40<(W.loop.length:Int):=by omega
  have di:=decide_eq_true hi;have HR:=hid (show iL W=false by unfold iL;rw[decide_eq_false (show¬W.loop.length<=40 by omega)];simp);clear h1;go_wp2_with fail
  go_ret
  exact⟨aF HR.out.symm,HB.out⟩
 have X7:¬40<(W.loop.length:Int):=by omega
 have qe7:=decide_eq_false X7
 have HF:=hid (show iL W=(iw W.stem 64&&iw W.loop 64)by
  unfold iL
  rw[decide_eq_true (show W.stem.length<=60 by omega),decide_eq_true (show 1<=W.loop.length by omega),decide_eq_true (show W.loop.length<=40 by omega),Bool.true_and,Bool.true_and,Bool.true_and])
 cases hb1:iw W.stem 64
 ·have HQ:=hid hb1
  have HR:=hid (show iL W=false by rw[HF.out,hb1];rfl);clear hb1;go_wp2_with (go_at_call 87;(with_reducible refine(wZ (l:=W.stem) false HQ.out rfl (HS.out.any HB.out)).mono ?_);rintro e V ⟨rfl,hbv⟩;have iF:=hid hbv;clear hbv)
  go_ret
  exact⟨aF HR.out.symm,au HB.out iF.out⟩
 have HQ:=hid hb1;have HR:=hid (show iL W=iw W.loop 64 by rw[HF.out,hb1];rfl);clear hb1;obtain⟨r,hr⟩:∃r,iw W.loop 64=r:=⟨_,rfl⟩;have HRR:=hid hr;clear hr;go_wp2_with (first|(go_at_call 87;(with_reducible refine(wZ (l:=W.stem) true HQ.out rfl (HS.out.any HB.out)).mono ?_);rintro e V ⟨rfl,hbv⟩;have iF:=hid hbv;clear hbv HQ s0 s1 s2;obtain⟨s0,s1,s2⟩:=(HO.out.below iF.out).cells)|(go_at_call 87;(with_reducible refine(wZ (l:=W.loop) r HRR.out rfl (HL.out.any (au HB.out iF.out))).mono ?_);rintro e V2 ⟨rfl,hbv⟩;have HB2:=hid (au iF.out hbv);clear hbv))
 go_ret
 exact⟨aF (HR.out.trans HRR.out).symm,au HB.out HB2.out⟩
theorem zT {D:Dom}{W:lQ}{v:Value}{w:World}(r:Bool)(hr:iL W=r)(h:OD w D v W) :
  Calls Tryz.prog 62 #[v] w fun e w'=>e = .returned (.bool r)/\Below w.heap.size w w':=by
 subst hr;exact Qv W v w h
theorem GR {D:Dom}(m:Int)(W:lQ)(v:Value)(w:World)(h:OD w D v W) :
  Calls Tryz.prog 40 #[.int .i64 m,v] w fun e w'=>e = .returned (.bool (rE m W))/\Below w.heap.size w w':=by
 obtain⟨As,cs,Al,cl,rfl,hs,hl⟩:=h;have hsl:=hs.len.1;have hll:=hl.len.1;have HS:=hid hs.old;have HL:=hid hl.old;clear hs hl
 go_enter Tryz.func40,Tryz.ntmps40
 go_upto_region 1 with(fail)
 refine aI fun U hU=>?_;have HB:=hid (show Below w.heap.size w U by rw[hU];go_grown);have HO:=hid (show qg U w.heap.size W As cs Al cl by show U.heap[_]?=_;rw[hU];exact at_new _ _ _ rfl);clear hU;obtain⟨s0,s1,s2⟩:=HO.out.cells;have mX:=hid (show OD U bC (.agg #[.slice As W.stem.length cs,.slice Al W.loop.length cl]) W from⟨As,cs,Al,cl,rfl,HS.out.any HB.out,HL.out.any HB.out⟩);cases hf:iL W
 ·have HQ:=hid hf
  have HR:=hid (show rE m W=false by unfold rE;rw[hf];rfl);clear hf;go_wp2_with (go_at_call 62;(with_reducible refine(zT (W:=W) false HQ.out mX.out).mono ?_);rintro e V ⟨rfl,hbv⟩;have iF:=hid hbv;clear hbv s0 s1 s2;obtain⟨s0,s1,s2⟩:=(HO.out.below iF.out).cells)
  go_ret
  exact⟨aF HR.out.symm,au HB.out iF.out⟩
 have HQ:=hid hf;have HF:=hid (show rE m W=(iw W.stem m&&iw W.loop m)by unfold rE;rw[hf,Bool.true_and]);clear hf;cases hb1:iw W.stem m
 ·have HQ1:=hid hb1
  have HR:=hid (show rE m W=false by rw[HF.out,hb1];rfl);clear hb1;go_wp2_with (first|(go_at_call 62;(with_reducible refine(zT (W:=W) true HQ.out mX.out).mono ?_);rintro e V ⟨rfl,hbv⟩;have iF:=hid hbv;clear hbv s0 s1 s2;obtain⟨s0,s1,s2⟩:=(HO.out.below iF.out).cells)|(go_at_call 87;(with_reducible refine(wZ (l:=W.stem) false HQ1.out rfl (HS.out.any (au HB.out iF.out))).mono ?_);rintro e V1 ⟨rfl,hbv⟩;have HB1:=hid (au iF.out hbv);clear hbv HQ1 s0 s1 s2;obtain⟨s0,s1,s2⟩:=(HO.out.below HB1.out).cells))
  go_ret
  exact⟨aF HR.out.symm,au HB.out HB1.out⟩
 have HQ1:=hid hb1;have HR:=hid (show rE m W=iw W.loop m by rw[HF.out,hb1];rfl);clear hb1;obtain⟨r,hr⟩:∃r,iw W.loop m=r:=⟨_,rfl⟩;have HRR:=hid hr;clear hr
 go_wp2_with (first|(go_at_call 62;(with_reducible refine(zT (W:=W) true HQ.out mX.out).mono ?_);rintro e V ⟨rfl,hbv⟩;have iF:=hid hbv;clear hbv s0 s1 s2;obtain⟨s0,s1,s2⟩:=(HO.out.below iF.out).cells)|(go_at_call 87;(with_reducible refine(wZ (l:=W.stem) true HQ1.out rfl (HS.out.any (au HB.out iF.out))).mono ?_);rintro e V1 ⟨rfl,hbv⟩;have HB1:=hid (au iF.out hbv);clear hbv HQ1 s0 s1 s2;obtain⟨s0,s1,s2⟩:=(HO.out.below HB1.out).cells)|(go_at_call 87;(with_reducible refine(wZ (l:=W.loop) r HRR.out rfl (HL.out.any (au HB.out HB1.out))).mono ?_);rintro e V2 ⟨rfl,hbv⟩;have HB2:=hid (au HB1.out hbv);clear hbv))
 go_ret
 exact⟨aF (HR.out.trans HRR.out).symm,au HB.out HB2.out⟩
theorem Zf {D:Dom}{m:Int}{W:lQ}{v:Value}{w:World}(r:Bool)(hr:rE m W=r)(h:OD w D v W) :
  Calls Tryz.prog 40 #[.int .i64 m,v] w fun e w'=>e = .returned (.bool r)/\Below w.heap.size w w':=by
 subst hr;exact GR m W v w h
theorem pick_any {D:Dom}(W:lQ)(i:Nat)(v:Value)(w:World)(h:OD w D v W)(hi:i<=1000000)(hne:0<W.loop.length) :
  Calls Tryz.prog 63 #[v,.int .i64 (i:Int)] w fun e w'=>e = .returned (.int .i64 (dQ W i))/\Below w.heap.size w w':=by
 obtain⟨As,cs,Al,cl,rfl,hs,hl⟩:=h;have hsl:=hs.len.1;have hll:=hl.len.1;have HS:=hid hs.old;have HL:=hid hl.old;clear hs hl
 go_enter Tryz.func63,Tryz.ntmps63
 go_upto_region 1 with(fail)
 refine aI fun U hU=>?_;have HB:=hid (show Below w.heap.size w U by rw[hU];go_grown);have HO:=hid (show qg U w.heap.size W As cs Al cl by show U.heap[_]?=_;rw[hU];exact at_new _ _ _ rfl);clear hU;obtain⟨s0,s1,s2⟩:=HO.out.cells
 by_cases h1:i<W.stem.length
 ·have hii:(i:Int)<W.stem.length:=by omega
  obtain⟨b,o,x,rfl,_,hlb,HX,x0⟩:=(HS.out.any HB.out).get h1;have HR:=hid (show dQ W i=x by unfold dQ;rw[if_pos h1];exact HX.out);clear HX h1;go_wp2_with fail
  go_ret
  exact⟨bn HR.out.symm,HB.out⟩
 ·have hii:¬(i:Int)<W.stem.length:=by omega
  obtain⟨r,hr⟩:∃r,(i-W.stem.length) % W.loop.length=r:=⟨_,rfl⟩;have hrl:r<W.loop.length:=by rw[<-hr];exact Nat.mod_lt _ hne
  obtain⟨b,o,x,rfl,_,hlb,HX,x0⟩:=(HL.out.any HB.out).get hrl;have HR:=hid (show dQ W i=x by unfold dQ;rw[if_neg h1,hr];exact HX.out)
  have hsub:IntKind.i64.wrap ((i:Int)-(W.stem.length:Int))=((i-W.stem.length:Nat):Int):=by
   rw[IntWalk.i64_in _ (by omega)];omega
  have htm:((i-W.stem.length:Nat):Int).tmod (W.loop.length:Int)=(r:Int):=by
   rw[Int.tmod_eq_emod_of_nonneg (by omega),<-hr];rfl
  have hne1:¬(W.loop.length:Int)=0:=by omega
  have hne2:((W.loop.length:Int)==0)=false:=ay hne1;have hne3:¬W.loop.length=0:=by omega
  have hwr:IntKind.i64.wrap (r:Int)=(r:Int):=IntWalk.i64_in _ (by omega);have hr0:(0:Int)<=(r:Int):=by omega
  have hri:(r:Int)<W.loop.length:=by omega
  obtain⟨d,hd⟩:∃d,i-W.stem.length=d:=⟨_,rfl⟩;rw[hd]at hsub htm;clear HX h1 hr hd hrl;go_upto_region 3 with(fail)
  go_quiet (fail)
  go_wp2_with fail
  go_ret
  exact⟨bn HR.out.symm,below_drewN HB.out _⟩
end Go.Proofs.YtdpbgcmfeajigaaGreatDoor
namespace Go.Proofs.YtdpbgcmfeajigaaGreatDoor
open Go.RowKit Go.Shelf
attribute [local go_sem] ak run_store_func
structure qak (l N:Nat) (item:Nat->World->Array Value->Prop) (Z M:Dom) (B1 own:Nat) (J:Nat->World->Prop) (X:World->Prop):Prop where
 z:∀b,Z b->¬M b/\(b<B1\/B1+own<=b)
 keep:∀k W W',J k W->aH (fun b=>B1<=b/\b<B1+own) W W'->J k W'
 qbU:∀W W',X W->aH (fun b=>B1<=b/\b<B1+own) W W'->X W'
 step:∀k W vs,B1+own<=W.heap.size->J k W->k<N->item k W vs->YieldAt Fence.wide 0 Tryz.prog l vs W fun e W'=>aH Z W W'/\((e = .returned (.bool true)/\J (k+1) W')\/(e = .returned (.bool false)/\X W'))
def vO (inf:Bool)(gf:Nat)(caps:Array Value)(N:Nat)(item:Nat->World->Array Value->Prop)(M:Dom)(own:Nat)(w:World):Prop :=
 ∀(l:Nat) (Z:Dom) (J:Nat->World->Prop) (X:World->Prop) (W1:World) (B1:Nat),W1.heap.size=B1->Below w.heap.size w W1->qak l N item Z M B1 own J X->J 0 W1->(inf=true->∀W,¬J N W) ->
  Calls Tryz.prog gf (#[.func (.yield l) #[] #[]]++caps) W1 fun e w'=>(∃v,e = .returned v)/\aH Z W1 w'/\(J N w'\/X w')
theorem Jl {inf:Bool}{g:Operand}{ps:Array Tmp}{assign body:Code}{Q:Exit->Act->World->Prop}{a:Act}{w:World}(gf:Nat)(caps:Array Value)(N own:Nat)(M:Dom)(item:Nat->World->Array Value->Prop)(Z:Dom)(I:Nat->World->Prop)(Ix:Code->World->Prop)
  (eg:∀args w,(callFunc gf args).run Tryz.prog w = .ok (.enter gf args) w) (hg:a.eval g = .func (.func gf) #[] caps) (hit:vO inf gf caps N item M own w) (hps:∀k W vs,item k W vs->vs.size=ps.size) (hMw:∀b,M b->b<w.heap.size)
  (Nc:∀k W W' vs,item k W vs->aH (fun b=>b=w.heap.size+1) W W'->item k W' vs)
  (hZ:∀b,Z b->¬M b/\(b<w.heap.size\/w.heap.size+2+own<=b))
  (hI:∀k W W',I k W->aH (fun b=>w.heap.size<=b/\b<w.heap.size+2+own) W W'->I k W')
  (hIx:∀c W W',Ix c W->aH (fun b=>w.heap.size<=b/\b<w.heap.size+2+own) W W'->Ix c W') (h0:I 0 w)
  (a₁ : Array Value->Act)
  (hassign:∀(l k:Nat) (vs:Array Value) (W:World) (K:Act->World->Prop),item k W vs->K (a₁ vs) W ->
   assign.wpIn (Fence.wide.inRound l) 0 Tryz.prog (Exit.then K (fun _ _ _=>False)) { tmps:=(ps.zip vs).foldl (fun t (p,v)=>t.setIfInBounds p v) a.tmps,defers := [] } W)
  (dX:∀(l k:Nat) (W:World) (vs:Array Value),w.heap.size+2+own<=W.heap.size->aH Z w W->I k W->k<N->item k W vs ->
   body.wpIn (Fence.wide.inRound l) 0 Tryz.prog (wX Z I Ix k W) (a₁ vs) W)
  (hdone:∀W,aH Z w W->I N W->W.heap[w.heap.size]?=some (.deferred (some []))->Q .normal { a with defers := { target := .collected w.heap.size,args := #[] } :: a.defers } W)
  (hstop:∀c W,aH Z w W->Ix c W->W.heap[w.heap.size]?=some (.deferred (some []))->c.wp Tryz.prog Q { a with defers := { target := .collected w.heap.size,args := #[] } :: a.defers } W)
  (X8:inf=true->∀W,¬I N W) :
  (Code.rangeFunc g ps assign body).wp Tryz.prog Q a w:=by
 refine(wpIn_wide (n:=3)).1 (wpIn_rangeFunc fun fn _=>?_);obtain⟨rec,hrec⟩:∃rec:LoopState->Option Code->Loop,rec=fun st pe => { state:=st,pending:=pe,fn,tmps:=a.tmps,params:=ps,assign,body,defers:=w.heap.size }:=⟨_,rfl⟩;obtain⟨W1,hW1⟩:∃W1,(w.alloc (.deferred (some []))).alloc (.loop (rec .ready none))=W1:=⟨_,rfl⟩;have hL1:W1.heap[w.heap.size+1]?=some (.loop (rec .ready none)):=by rw[<-hW1];exact at_new _ _ _ (by simp)
 have hK1:W1.heap[w.heap.size]?=some (.deferred (some [])):=by rw[<-hW1,aQ _ _ _ (by simp)];exact at_new _ _ _ rfl
 have hs1:W1.heap.size=w.heap.size+2:=by rw[<-hW1];simp
 have hb1:Below w.heap.size w W1:=by rw[<-hW1];exact((Below.refl _ w).alloc (Nat.le_refl _) _).alloc (by simp) _
 refine⟨w.heap.size+1,[{ target := .collected w.heap.size,args := #[] }],W1,{ target := .fn (.func gf) caps,args := #[.func (.yield (w.heap.size+1)) #[] #[]] },W1,gf,
  #[.func (.yield (w.heap.size+1)) #[] #[]]++caps,W1,?_,?_,?_,?_,?_,?_⟩
 ·rw[<-hW1,hrec];exact run_enterLoop_outer _ _ _ _ _
 ·simp only[resolve,hg]
  simp[go_sem]
 ·exact fun f' _=>trivial
 ·simp[invoke,go_sem,eg]
 ·intro hd;simp[Fence.wide]at hd
 ·have qfT:∀W W':World,aH (fun b=>w.heap.size+2<=b/\b<w.heap.size+2+own) W W'->aH (fun b=>w.heap.size<=b/\b<w.heap.size+2+own) W W':=fun W W' h=>h.mono fun b _ hb=>⟨by omega,hb.2⟩
  have nN:∀W W':World,aH (fun b=>b=w.heap.size+1) W W'->aH (fun b=>w.heap.size<=b/\b<w.heap.size+2+own) W W':=fun W W' h=>h.mono fun b _ hb=>by omega
  refine callsIn_wide.2 ((hit (w.heap.size+1) (fun b=>Z b\/b=w.heap.size+1)
   (fun k W=>I k W/\aH Z w W/\W.heap[w.heap.size+1]?=some (.loop (rec .ready none))/\W.heap[w.heap.size]?=some (.deferred (some [])))
   (fun W=>∃c,Ix c W/\aH Z w W/\W.heap[w.heap.size+1]?=some (.loop (rec .done (some c)))/\W.heap[w.heap.size]?=some (.deferred (some [])))
   W1 (w.heap.size+2) hs1 hb1 ⟨?_,?_,?_,?_⟩ ⟨hI 0 w W1 h0 (aH.aS hb1),aH.aS hb1,hL1,hK1⟩ (fun h W hj=>X8 h W hj.1)).mono ?_)
  ·rintro b (hb|hb)
   ·have:=hZ b hb;exact⟨this.1,by omega⟩
   ·exact⟨fun hm=>by have:=hMw b hm;omega,by omega⟩
  ·rintro k W W' ⟨hi,hc,hl,hk⟩ hw
   exact⟨hI k W W' hi (qfT _ _ hw),hc.trans' hw fun b _ hb=>by omega,hw.box hl (by omega),hw.box hk (by omega)⟩
  ·rintro W W' ⟨c,hi,hc,hl,hk⟩ hw
   exact⟨c,hIx c W W' hi (qfT _ _ hw),hc.trans' hw fun b _ hb=>by omega,hw.box hl (by omega),hw.box hk (by omega)⟩
  ·rintro k W vs hsz ⟨hi,hc,hl,hk⟩ hlen hfw
   have hlt:w.heap.size+1<W.heap.size:=lt_of_block hl;have hy:=run_yield (P:=Tryz.prog) (args:=vs) hl (by rw[hrec];exact hps _ _ _ hfw);rw[hrec]at hy;refine⟨fn,_,assign,body,hy,roundIn_of_wpIn trivial (hassign _ _ _ W _ hfw ⟨_,run_beginRound hl (by rw[hrec]),?_⟩)⟩;obtain⟨Wb,QA⟩:∃Wb,Wb=W.putObj (w.heap.size+1) (.loop { rec .ready none with state := .busy }):=⟨_,rfl⟩;rw[<-QA];have hcb:aH (fun b=>b=w.heap.size+1) W Wb:=by rw[QA];exact aH.putObj _ _ _
   have hl2:Wb.heap[w.heap.size+1]?=some (.loop { rec .ready none with state := .busy }):=by rw[QA];exact World.putObj_heap_same hlt
   have hk2:Wb.heap[w.heap.size]?=some (.deferred (some [])):=hcb.box hk (by omega);have hsb:W.heap.size<=Wb.heap.size:=hcb.size;refine wpIn_mono (dX _ k Wb vs (by omega) (hc.trans' hcb fun b _ hb=>by omega) (hI _ _ _ hi (nN _ _ hcb)) hlen (Nc _ _ _ _ hfw hcb)) ?_
   have fin:∀(jump:Option Code) (W3:World),aH Z Wb W3 ->
     (Instr.endRound (w.heap.size+1) jump).run Tryz.prog W3 = .ok (.bool jump.isNone) (W3.putObj (w.heap.size+1) (.loop (rec (if jump.isNone then .ready else .done) jump))) /\
     aH (fun b=>b=w.heap.size+1) W3 (W3.putObj (w.heap.size+1) (.loop (rec (if jump.isNone then .ready else .done) jump))) /\
     aH (fun b=>Z b\/b=w.heap.size+1) W (W3.putObj (w.heap.size+1) (.loop (rec (if jump.isNone then .ready else .done) jump))) /\
     aH Z w (W3.putObj (w.heap.size+1) (.loop (rec (if jump.isNone then .ready else .done) jump))) /\
     (W3.putObj (w.heap.size+1) (.loop (rec (if jump.isNone then .ready else .done) jump))).heap[w.heap.size+1]?=some (.loop (rec (if jump.isNone then .ready else .done) jump)) /\
     (W3.putObj (w.heap.size+1) (.loop (rec (if jump.isNone then .ready else .done) jump))).heap[w.heap.size]?=some (.deferred (some [])):=fun jump W3 hc3=>by
    have hl3:=hc3.box hl2 (fun h=>by have:=hZ _ h;omega);have hk3:=hc3.box hk2 (fun h=>by have:=hZ _ h;omega);have hcp:=aH.putObj W3 (w.heap.size+1) (.loop (rec (if jump.isNone then .ready else .done) jump));have hr:=run_endRound (P:=Tryz.prog) jump hl3;rw[hrec]at hr hcp⊢;refine⟨hr,hcp,?_,?_,World.putObj_heap_same (lt_of_block hl3),hcp.box hk3 (by omega)⟩
    ·exact((hcb.mono fun b _ hb => .inr hb).trans (hc3.mono fun b _ hb => .inl hb)).trans (hcp.mono fun b _ hb => .inr hb)
    ·exact((hc.trans' hcb fun b _ hb=>by omega).trans hc3).trans' hcp fun b _ hb=>by omega
   rintro e a3 W3 hp
   cases e with
   | normal =>
    obtain⟨hc3,hi3⟩:=hp;obtain⟨hr,hcp,hcW,hcw,hl4,hk4⟩:=fin none W3 hc3;exact⟨_,_,hr,hcW,.inl ⟨rfl,hI _ _ _ hi3 (nN _ _ hcp),hcw,hl4,hk4⟩⟩
   | ret =>
    obtain⟨hc3,hi3⟩:=hp;obtain⟨hr,hcp,hcW,hcw,hl4,hk4⟩:=fin (some .ret) W3 hc3;exact⟨_,_,hr,hcW,.inr ⟨rfl,_,hIx _ _ _ hi3 (nN _ _ hcp),hcw,hl4,hk4⟩⟩
   | exit id =>
    obtain⟨hc3,hi3⟩:=hp;obtain⟨hr,hcp,hcW,hcw,hl4,hk4⟩:=fin (some (.exit id)) W3 hc3;exact⟨_,_,hr,hcW,.inr ⟨rfl,_,hIx _ _ _ hi3 (nN _ _ hcp),hcw,hl4,hk4⟩⟩
   | goto t =>
    obtain⟨hc3,hi3⟩:=hp;obtain⟨hr,hcp,hcW,hcw,hl4,hk4⟩:=fin (some (.goto t)) W3 hc3;exact⟨_,_,hr,hcW,.inr ⟨rfl,_,hIx _ _ _ hi3 (nN _ _ hcp),hcw,hl4,hk4⟩⟩
   | panic ch=>exact hp.elim
   | outgrown=>exact hp.elim
  ·rintro e W2 ⟨⟨v,rfl⟩,hc2,(⟨hi,hc,hl,hk⟩|⟨c,hi,hc,hl,hk⟩)⟩
   ·refine⟨none,_,by have:=run_endLoop (P:=Tryz.prog) hl (by rw[hrec];simp);rw[hrec]at this;exact this,?_⟩
    have hcp:=aH.putObj W2 (w.heap.size+1) (.loop { rec .ready none with state := .exhausted });rw[hrec]at hcp;exact hdone _ (hc.trans' hcp fun b _ hb=>by omega) (hI _ _ _ hi (nN _ _ hcp)) (hcp.box hk (by omega))
   ·refine⟨some c,_,by have:=run_endLoop (P:=Tryz.prog) hl (by rw[hrec];simp);rw[hrec]at this;exact this,?_⟩
    have hcp:=aH.putObj W2 (w.heap.size+1) (.loop { rec .done (some c)with state := .exhausted });rw[hrec]at hcp;exact wpIn_wide.2 (hstop c _ (hc.trans' hcp fun b _ hb=>by omega) (hIx _ _ _ hi (nN _ _ hcp)) (hcp.box hk (by omega)))
def Yd (it:Nat->World->Value->Prop)(k:Nat)(W:World)(vs:Array Value):Prop:=∃u,vs = #[u]/\it k W u
def Ye (it:Nat->World->Value->Value->Prop)(k:Nat)(W:World)(vs:Array Value):Prop:=∃u v,vs = #[u,v]/\it k W u v
theorem range_one {inf:Bool}{g:Operand}{ps:Array Tmp}{assign body:Code}{Q:Exit->Act->World->Prop}{a:Act}{w:World}(gf:Nat)(caps:Array Value)(N own:Nat)(M:Dom)(it:Nat->World->Value->Prop)(Z:Dom)(I:Nat->World->Prop)(Ix:Code->World->Prop)
  (eg:∀args w,(callFunc gf args).run Tryz.prog w = .ok (.enter gf args) w) (hg:a.eval g = .func (.func gf) #[] caps) (hps:ps.size=1) (hit:vO inf gf caps N (Yd it) M own w) (hMw:∀b,M b->b<w.heap.size)
  (Nc:∀k W W' u,it k W u->aH (fun b=>b=w.heap.size+1) W W'->it k W' u)
  (hZ:∀b,Z b->¬M b/\(b<w.heap.size\/w.heap.size+2+own<=b))
  (hI:∀k W W',I k W->aH (fun b=>w.heap.size<=b/\b<w.heap.size+2+own) W W'->I k W')
  (hIx:∀c W W',Ix c W->aH (fun b=>w.heap.size<=b/\b<w.heap.size+2+own) W W'->Ix c W') (h0:I 0 w)
  (a₁ : Value->Act)
  (hassign:∀(l:Nat) (u:Value) (W:World) (K:Act->World->Prop),K (a₁ u) W ->
   assign.wpIn (Fence.wide.inRound l) 0 Tryz.prog (Exit.then K (fun _ _ _=>False)) { tmps:=(ps.zip #[u]).foldl (fun t (p,v)=>t.setIfInBounds p v) a.tmps,defers := [] } W)
  (dX:∀(l k:Nat) (W:World) (u:Value),w.heap.size+2+own<=W.heap.size->aH Z w W->I k W->k<N->it k W u ->
   body.wpIn (Fence.wide.inRound l) 0 Tryz.prog (wX Z I Ix k W) (a₁ u) W)
  (hdone:∀W,aH Z w W->I N W->W.heap[w.heap.size]?=some (.deferred (some []))->Q .normal { a with defers := { target := .collected w.heap.size,args := #[] } :: a.defers } W)
  (hstop:∀c W,aH Z w W->Ix c W->W.heap[w.heap.size]?=some (.deferred (some []))->c.wp Tryz.prog Q { a with defers := { target := .collected w.heap.size,args := #[] } :: a.defers } W)
  (X8:inf=true->∀W,¬I N W) :
  (Code.rangeFunc g ps assign body).wp Tryz.prog Q a w :=
 Jl gf caps N own M (Yd it) Z I Ix eg hg hit (fun k W vs h=>by obtain⟨u,rfl,_⟩:=h;exact hps.symm) hMw (fun k W W' vs h hc=>by obtain⟨u,rfl,h⟩:=h;exact⟨u,rfl,Nc _ _ _ _ h hc⟩) hZ hI hIx h0
  (fun vs=>a₁ (vs.getD 0 undef)) (fun l k vs W K h hK=>by obtain⟨u,rfl,h⟩:=h;exact hassign l u W K hK) (fun l k W vs h1 h2 h3 h4 h=>by obtain⟨u,rfl,h⟩:=h;exact dX l k W u h1 h2 h3 h4 h) hdone hstop X8
theorem BZ {inf:Bool}{g:Operand}{ps:Array Tmp}{assign body:Code}{Q:Exit->Act->World->Prop}{a:Act}{w:World}(gf:Nat)(caps:Array Value)(N own:Nat)(M:Dom)(it:Nat->World->Value->Value->Prop)(Z:Dom)(I:Nat->World->Prop)(Ix:Code->World->Prop)
  (eg:∀args w,(callFunc gf args).run Tryz.prog w = .ok (.enter gf args) w) (hg:a.eval g = .func (.func gf) #[] caps) (hps:ps.size=2) (hit:vO inf gf caps N (Ye it) M own w) (hMw:∀b,M b->b<w.heap.size)
  (Nc:∀k W W' u v,it k W u v->aH (fun b=>b=w.heap.size+1) W W'->it k W' u v)
  (hZ:∀b,Z b->¬M b/\(b<w.heap.size\/w.heap.size+2+own<=b))
  (hI:∀k W W',I k W->aH (fun b=>w.heap.size<=b/\b<w.heap.size+2+own) W W'->I k W')
  (hIx:∀c W W',Ix c W->aH (fun b=>w.heap.size<=b/\b<w.heap.size+2+own) W W'->Ix c W') (h0:I 0 w)
  (a₁ : Value->Value->Act)
  (hassign:∀(l:Nat) (u v:Value) (W:World) (K:Act->World->Prop),K (a₁ u v) W ->
   assign.wpIn (Fence.wide.inRound l) 0 Tryz.prog (Exit.then K (fun _ _ _=>False)) { tmps:=(ps.zip #[u,v]).foldl (fun t (p,v)=>t.setIfInBounds p v) a.tmps,defers := [] } W)
  (dX:∀(l k:Nat) (W:World) (u v:Value),w.heap.size+2+own<=W.heap.size->aH Z w W->I k W->k<N->it k W u v ->
   body.wpIn (Fence.wide.inRound l) 0 Tryz.prog (wX Z I Ix k W) (a₁ u v) W)
  (hdone:∀W,aH Z w W->I N W->W.heap[w.heap.size]?=some (.deferred (some []))->Q .normal { a with defers := { target := .collected w.heap.size,args := #[] } :: a.defers } W)
  (hstop:∀c W,aH Z w W->Ix c W->W.heap[w.heap.size]?=some (.deferred (some []))->c.wp Tryz.prog Q { a with defers := { target := .collected w.heap.size,args := #[] } :: a.defers } W)
  (X8:inf=true->∀W,¬I N W) :
  (Code.rangeFunc g ps assign body).wp Tryz.prog Q a w :=
 Jl gf caps N own M (Ye it) Z I Ix eg hg hit (fun k W vs h=>by obtain⟨u,v,rfl,_⟩:=h;exact hps.symm) hMw (fun k W W' vs h hc=>by obtain⟨u,v,rfl,h⟩:=h;exact⟨u,v,rfl,Nc _ _ _ _ _ h hc⟩) hZ hI hIx h0
  (fun vs=>a₁ (vs.getD 0 undef) (vs.getD 1 undef)) (fun l k vs W K h hK=>by obtain⟨u,v,rfl,h⟩:=h;exact hassign l u v W K hK) (fun l k W vs h1 h2 h3 h4 h=>by obtain⟨u,v,rfl,h⟩:=h;exact dX l k W u v h1 h2 h3 h4 h) hdone hstop X8
end Go.Proofs.YtdpbgcmfeajigaaGreatDoor
namespace Go.Proofs.YtdpbgcmfeajigaaGreatDoor
open Go.RowKit Go.Shelf
attribute [local go_sem] ak run_store_func
theorem fM {l:List Sg}(h:dM l=true):1<=l.length/\l.length<=6/\lK l<=64/\∀i,i<l.length->Ci l i=true:=by
 unfold dM at h;simp only[Bool.and_eq_true,decide_eq_true_eq]at h;exact⟨h.1.1.1,h.1.1.2,h.2,fun i hi=>iO.1 h.1.2 i hi⟩
theorem oK {l:List Sg}{i:Nat}(h:Ci l i=true):nameB (l.getD i default).name=true/\2<=(l.getD i default).size/\(l.getD i default).size<=4:=by
 unfold Ci at h;simp only[Bool.and_eq_true,decide_eq_true_eq]at h;exact⟨h.1.1.1,h.1.1.2,h.1.2⟩
theorem nP {l:List Sg}(h:dM l=true):∀i,i<=l.length->Bh l i (lK (l.take i))
 | 0,_=>Bh.zero l
 | i+1,hi=>by
  have hv:=fM h;have ho:=oK (hv.2.2.2 i (by omega));have:=(nP h i (by omega)).succ (s:=(l.getD i default).size) (by omega) (by omega) rfl ho.2.1 ho.2.2;rw[this.is]at this;exact this
def eX (l:List Sg)(i:Nat):Int:=lK (l.take i)
theorem DT {l:List Sg}{i:Nat}(hi:i<l.length):eX l (i+1)=eX l i*(l.getD i default).size:=by
 unfold eX;rw[aT l default hi,pO];show _*((l.getD i default).size*1)=_;rw[Int.mul_one]
def TM (l:List Sg)(k:Nat)(_:World)(u v:Value):Prop:=u = .int .i64 (k:Int)/\v = .int .i64 (eX l k)
theorem rO {l:List Sg}(A:Option Addr)(c pb:Nat)(M:Dom)(w:World)(hv:dM l=true)(hl:lV w M A c l)(hp:w.cell? ⟨pb,0,none⟩=some (.slice A l.length c))(hpb:M pb)(hM:∀b,M b->b<w.heap.size) :
  vO false 123 #[.pointer (some ⟨pb,0,none⟩)] l.length (Ye (TM l)) M 0 w:=by
 intro ln Z J X W1 B1 hW1 hb1 hR hj _;subst hW1;have HR:=hid hR;have HJ:=hid hj;have HV:=hid hv;have Sj:=hid (hl.keep (Keeps.of_below hb1 hM));have ZY:=hid ((hb1.cell (p:=⟨pb,0,none⟩) (World.block_lt_of_cell? w _ hp)).trans hp);have Sz:=hid hpb;have hlen:=hl.len.1;have Ig:Hid (∀b,M b->¬Z b):=hid fun b h hz=>(hR.z _ hz).1 h;clear hR hj hl hp hb1 hpb;have p0:=ZY.out;have p1:pb<W1.heap.size:=World.block_lt_of_cell? W1 _ p0;simp only[List.append_toArray,List.cons_append,List.nil_append]
 go_enter Tryz.func123,Tryz.ntmps123
 go_wp2_with fail
 clear p0 p1
 go_loopw [3,7] (fun p q wr=>∃i:Nat,i<=l.length/\q = .int .i64 (i:Int)/\p = .int .i64 (eX l i)/\Hid (aH Z W1 wr)/\Hid (J i wr)) (fun _ q _=>l.length-(intOf q).toNat)
 case atStart=>exact⟨0,Nat.zero_le _,rfl,rfl,aH.refl _ _,HJ.out⟩
 case round =>
  obtain⟨i,hi,rfl,rfl,HC,HJI⟩:=hrel
  by_cases hlt:i<l.length
  ·have hii:(i:Int)<l.length:=by omega
   have fQ:=hid hlt;have hst:=HR.out.step i wr #[.int .i64 (i:Int),.int .i64 (eX l i)] (by have:=HC.out.size;omega) HJI.out hlt ⟨_,_,rfl,rfl,rfl⟩;obtain⟨yf,yt,ya,yb',QF,Td⟩:=hst;have HR4:=hid Td;clear Td hlt;obtain⟨z,hz⟩:∃z,eX l i=z:=⟨_,rfl⟩;have HZ:=hid hz;rw[hz]at QF⊢;clear hz;go_upto_region 4 with(fail)
   refine(wpIn_wide (n:=1)).1 ?_
   gi_wp2
   refine HR4.out.mono ?_;rintro e w4 ⟨hc4,(⟨rfl,Tc⟩|⟨rfl,XT⟩)⟩
   ·have zo:=hid hc4
    have HJ4:=hid Tc;have rU:=hid (HC.out.trans hc4);obtain⟨b,o,s,rfl,hlb,HX,x0,x1,x2⟩:=(Sj.out.keep (rU.out.keeps fun b _ h=>Ig.out b h)).get fQ.out
    have q0:=World.cell?_of_block (w:=W1) (a:=⟨pb,0,none⟩) (rU.out.block pb (World.block_lt_of_cell? W1 _ ZY.out) (Ig.out pb Sz.out)) |>.trans ZY.out
    have q1:=World.block_lt_of_cell? w4 _ q0;have jQ:=hid (show(l.getD i default).size=s.size by rw[HX.out]);have kU:=hid (oK ((fM HV.out).2.2.2 i fQ.out));rw[jQ.out]at kU;have HWN:=hid (show eX l (i+1)=z*s.size by rw[DT fQ.out,jQ.out,HZ.out])
    have hwr:IntKind.i64.wrap (z*s.size)=z*s.size:=by
     have h1:=nP HV.out i (Nat.le_of_lt fQ.out);have h2:=h1.wrap (s:=s.size) (by have:=(fM HV.out).2.1;have:=fQ.out;omega) kU.out.2.1 kU.out.2.2;have:lK (l.take i)=z:=HZ.out;rw[this]at h2;exact h2
    clear hc4 Tc QF HX
    gi_wp2
    go_wp2_with fail
    go_roundw
    case rel=>exact⟨i+1,by have:=fQ.out;omega,by go_num,by rw[HWN.out];(try rw[hwr]),rU.out,HJ4.out⟩
    case measure=>have:=fQ.out;simp[intOf];omega
   ·have zo:=hid (HC.out.trans hc4)
    have HX4:=hid XT;clear hc4 XT QF
    gi_wp2
    go_wp2_with fail
    refine bodyPost_ret (results_none rfl _ _ _) rfl ?_;exact⟨⟨_,rfl⟩,zo.out,.inr HX4.out⟩
  ·have hii:¬(i:Int)<l.length:=by omega
   obtain rfl:i=l.length:=by omega
   have VQ:=hid HJI.out;go_wp2_with fail
   go_end0
   exact⟨⟨_,rfl⟩,HC.out,.inl VQ.out⟩
theorem wR (A:Option Addr)(n c:Nat)(w:World) :
  Calls Tryz.prog 85 #[.slice A n c] w fun e w'=>e = .returned (.func (.func 123) #[] #[.pointer (some ⟨w.heap.size,0,none⟩)])/\w'=w.alloc (.cells #[.slice A n c] 34):=by
 have hmf:∀(fn:Fn) (first cap:Array Value) (w:World),(Instr.makeFunc fn first cap).run Tryz.prog w = .ok (.func fn first cap) w:=fun _ _ _ _=>rfl
 go_enter Tryz.func85,Tryz.ntmps85
 go_wp2_with fail
 go_ret
 exact⟨rfl,rfl⟩
end Go.Proofs.YtdpbgcmfeajigaaGreatDoor
namespace Go.Proofs.YtdpbgcmfeajigaaGreatDoor
open Go.RowKit Go.Shelf
attribute [local go_sem] ak run_store_func Oper.semAt_some
theorem CO {P:Program}{id l n:Nat}{Q:Exit->Act->World->Prop}{a:Act}{w:World}{L:List Oper}(hm:P.follows .mixedOrders=true)(hd:qU L.toArray=true)(hQ:¬LetsOut Q)(hB:Region.lexB .any L.toArray=true)
  (h:wpQuiet P L.toArray (fun w'=>∃n,w'=w.drewN n) (fun a'=>∀w',(∃n,w'=w.drewN n)->Q .normal a' w') L a):(Code.region id L.toArray true).wpIn (Fence.wide.inRound l) n P Q a w:=by
 have hB':=hB;simp only[Region.lexB,Bool.and_eq_true]at hB';refine mQ hm hd hQ (wpAny_of_quiet (C:=fun w'=>∃n,w'=w.drewN n) (Q:=fun a'=>∀w',(∃n,w'=w.drewN n)->Q .normal a' w') (fun _ w' hw' h=>h w' hw') _ _ _ _ ⟨1,rfl⟩ ?_);have:=wpAnyQ_lex (C:=fun w'=>∃n,w'=w.drewN n) (md := .any) hB'.1 L.toArray.toList 0 (Array.replicate L.toArray.size false) a (by simp) (by simpa using hB'.2) (by simpa using h);simpa using this
theorem Ec {P:Program}{id l n:Nat}{Q:Exit->Act->World->Prop}{a:Act}{w:World}{ops:Array Oper}(S:World->Prop)(hm:P.follows .mixedOrders=true)(hd:qU ops=true)(hQ:¬LetsOut Q)(hS:S w.drew)
  (h:S w.drew->wpAnyH P .any ops Q S ops.size (Array.replicate ops.size false) a w.drew):(Code.region id ops true).wpIn (Fence.wide.inRound l) n P Q a w :=
 mQ hm hd hQ (wpAny_of_held _ _ _ _ (h hS))
def bZ (l:List Sg):Int:=if dM l then lK l else 0
theorem Ku (v:Value)(a:ByteArray)(b:Bool)(c:Int)(w:World) :
  Calls Tryz.prog 132 #[.agg #[.string a,.bool b,.int .i64 c]] w fun e w'=>e = .returned (.bool true)/\Below w.heap.size w w':=by
 go_enter Tryz.func132,Tryz.ntmps132
 go_wp2_with fail
 go_ret
 exact⟨rfl,by go_grown⟩
theorem Ut {D:Dom}(l:List Sg)(A:Option Addr)(n c:Nat)(w:World)(hn:n=l.length)(h:lV w D A c l)(hk:GK w) :
  Calls Tryz.prog 131 #[.slice A n c,.func (.func 132) #[] #[]] w fun e w'=>e = .returned (.int .i64 (bZ l))/\Below w.heap.size w w':=by
 subst hn;have HL:=hid h.old;have HK:=hid hk;have hlen:=h.len.1;clear h hk;refine(callsIn_wide (n:=3)).1 (callsIn_of_wp_marks Tryz.func131 rfl trivial ?_ rfl);simp only[Tryz.ntmps131,List.size_toArray,List.length_cons,List.length_nil,Nat.reduceAdd,Nat.reduceSub,Array.replicate_succ,Array.replicate_zero,List.push_toArray,List.append_toArray,List.nil_append,List.cons_append];refine wpIn_wide.2 ?_;go_upto_region 1 with(fail)
 refine aI fun W hW=>?_;have HB:=hid (show Below w.heap.size w W by rw[hW];go_grown);have oh:=hid (show W.heap[w.heap.size]?=some (.cells #[.slice A l.length c] 34 (0,0))by rw[hW,aQ _ _ _ (by simp)];exact at_new _ _ _ rfl);have lg:=hid (show W.heap[w.heap.size+1]?=some (.cells #[.func (.func 132) #[] #[]] 154 (0,0))by rw[hW];exact at_new _ _ _ (by simp));have HS:=hid (show W.heap.size=w.heap.size+2 by rw[hW];simp);clear hW;have s0:=aj oh.out (i:=0) rfl;have s1:=lt_of_block oh.out;have zy:=hid (uM l A c l.length W rfl (HL.out.any HB.out) (HK.out.below HB.out HK.out.pos));cases hv:dM l
 ·have HR:=hid (show bZ l=0 by unfold bZ;rw[hv];rfl)
  rw[hv]at zy;clear hv;go_wp2_with (first|(go_at_call 84;refine zy.out.mono ?_;rintro e V ⟨rfl,je⟩;have iF:=hid (au HB.out je)))
  refine uD rfl (v := .int .i64 0) ?_ ⟨by rw[HR.out],iF.out⟩;simp[results,Tryz.results131,go_sem]
 rw[hv]at zy;have HV:=hid hv;have HR:=hid (show bZ l=lK l by unfold bZ;rw[hv];rfl);clear hv;go_upto_region 4 with(go_at_call 84;refine zy.out.mono ?_;rintro e V ⟨rfl,je⟩;have iF:=hid je;clear s0 s1 je)
 refine aI fun V2 hV2=>?_;have hb2:Below V.heap.size V V2:=by rw[hV2];go_grown
 have HB2:=hid (au iF.out hb2);have HE2:=hid (show V2.heap[V.heap.size]?=some (.cells #[.int .i64 1] 3 (0,0))by rw[hV2];first|exact at_new _ _ _ rfl|(rw[aC (at_new _ _ _ rfl)];rfl));have yK:=hid (show w.heap.size+2<=V.heap.size by have:=iF.out.size;have:=HS.out;omega);obtain⟨nb,hnb⟩:∃nb,nb=V.heap.size:=⟨_,rfl⟩;rw[<-hnb]at HE2 yK⊢;clear hV2 hb2 hnb iF zy;have Lm:=hid ((HB2.out.block _ (lt_of_block oh.out)).trans oh.out);have vM:=hid ((HB2.out.block _ (lt_of_block lg.out)).trans lg.out);have s0:=aj Lm.out (i:=0) rfl;have s1:=lt_of_block Lm.out;go_wp2_with (go_at_call 85;refine(wR A l.length c V2).mono ?_;rintro e w2 ⟨rfl,rfl⟩)
 refine aI fun W2 hW2=>?_;have hb2:Below V2.heap.size V2 W2:=by rw[hW2];go_grown
 have HP:=hid (show W2.cell? ⟨V2.heap.size,0,none⟩=some (.slice A l.length c)by rw[hW2];exact aj (at_new _ _ _ rfl) (i:=0) rfl);have HS2:=hid (show W2.heap.size=V2.heap.size+1 by rw[hW2];simp);have aX:=hid (au HB.out (au HB2.out hb2));have Zl:=hid ((hb2.block _ (lt_of_block Lm.out)).trans Lm.out);have Pz:=hid ((hb2.block _ (lt_of_block vM.out)).trans vM.out);have HF2:=hid ((hb2.block _ (lt_of_block HE2.out)).trans HE2.out);have oZ:=hid (show w.heap.size+2<=nb/\nb<V2.heap.size from⟨yK.out,lt_of_block HE2.out⟩);have Sj:=hid ((HL.out.keep (Keeps.of_below aX.out fun _ h=>h)).mono (E:=fun x=>x<w.heap.size\/x=V2.heap.size) fun k hk hl => .inl hk);clear hW2 hb2 s0 s1 oh lg HE2 Lm vM
 have Hl:=hid (rO A c V2.heap.size (fun x=>x<w.heap.size\/x=V2.heap.size) W2 HV.out Sj.out HP.out (.inr rfl) (fun x hx=>by have:=HS2.out;have:=oZ.out;omega));have HMP:=hid (fun i (hi:i<=l.length)=>nP HV.out i hi)
 refine BZ 123 #[.pointer (some ⟨V2.heap.size,0,none⟩)] l.length 0 (fun x=>x<w.heap.size\/x=V2.heap.size) (TM l) (fun x=>x=nb)
  (fun k W'=>W'.heap[nb]?=some (.cells #[.int .i64 (eX l k)] 3 (0,0)))
  (fun _ _=>False)
  (enters_of Tryz.func123 (by kernel_rfl) rfl) rfl rfl Hl.out (fun x hx=>by have:=HS2.out;have:=oZ.out;omega) (fun _ _ _ _ _ h _=>h) ?hZ ?hI (fun _ _ _ h _=>h) HF2.out ?a1 ?hassign ?dX ?hdone (fun _ _ _ h _=>h.elim) (fun h=>by cases h)
 case hassign =>
  intro l u v W K hK
  gi_wp2
  exact hK
 case hZ=>intro x hx;have:=HS2.out;have:=oZ.out;exact⟨by omega,by omega⟩
 case hI=>intro k W3 W4 h hc;exact hc.box h (by have:=HS2.out;have:=oZ.out;omega)
 case dX =>
  rintro ln k W3 u v hs3 hc3 VX hkl ⟨rfl,rfl⟩;have HKL:=hid hkl;have HI3:=hid VX;have Ba:=hid hc3;have hkk:(k:Int)<(l.length:Int):=by omega
  have hk0:(0:Int)<=(k:Int):=by omega
  have yu:=hid (show w.heap.size≠nb/\w.heap.size+1≠nb by have:=oZ.out;omega);have t0:=aj (hc3.box Zl.out yu.out.1) (i:=0) rfl;have t1:=aj (hc3.box Pz.out yu.out.2) (i:=0) rfl;have tl0:=lt_of_block (hc3.box Zl.out yu.out.1);obtain⟨b,o,s,rfl,hlb,HX,x0,x1,x2⟩:=(Sj.out.keep (hc3.keeps fun x _ h e=>by have:=oZ.out;omega)).get hkl;have jQ:=hid (show(l.getD k default).size=s.size by rw[HX.out]);have kU:=hid (oK ((fM HV.out).2.2.2 k hkl));rw[jQ.out]at kU;clear HX hc3 VX hkl
  gi_upto_region 6 with(fail)
  refine Ec (fun W'=>W'.cell? ⟨w.heap.size+1,0,none⟩=some (.func (.func 132) #[] #[])/\W'.cell? ⟨w.heap.size,0,none⟩=some (.slice (some ⟨b,o,none⟩) l.length c)/\W'.cell? ⟨b,o+k*3,none⟩=some (.string s.name)/\W'.cell? ⟨b,o+k*3+1,none⟩=some (.bool s.inp)/\W'.cell? ⟨b,o+k*3+2,none⟩=some (.int .i64 s.size)) (by kernel_rfl) (by kernel_rfl) (fun h=>by obtain⟨_,_,h⟩:=h;exact h) ⟨t1,t0,x0,x1,x2⟩ (fun hHeld=>?_);clear t0 t1 x0 x1 x2;refine iZ 0 ?_ rfl (by kernel_rfl) (fun _ _ _ h=>h) ?_ (by assumption) ?_
  rotate_left
  ·intro w hSw;(try dsimp only at hSw);go_simp;(try(with_reducible rfl))
  try simp only[Act.put,dI,dJ,dK]
  refine iZ 1 ?_ rfl (by kernel_rfl) (fun _ _ _ h=>h) ?_ (by assumption) ?_
  rotate_left
  ·intro w hSw;(try dsimp only at hSw);go_simp;(try(with_reducible rfl))
  try simp only[Act.put,dI,dJ,dK]
  refine iZ 2 ?_ rfl (by kernel_rfl) (fun _ _ _ h=>h) ?_ (by assumption) ?_
  rotate_left
  ·intro w hSw;(try dsimp only at hSw);go_simp;(try(with_reducible rfl))
  try simp only[Act.put,dI,dJ,dK]
  refine iZ 3 ?_ rfl (by kernel_rfl) (fun _ _ _ h=>h) ?_ (by assumption) ?_
  rotate_left
  ·intro w hSw;(try dsimp only at hSw);go_simp;(try(with_reducible rfl))
  try simp only[Act.put,dI,dJ,dK]
  refine iZ 4 ?_ rfl (by kernel_rfl) (fun _ _ _ h=>h) ?_ (by assumption) ?_
  rotate_left
  ·intro w hSw;(try dsimp only at hSw);go_simp;(try(with_reducible rfl))
  try simp only[Act.put,dI,dJ,dK]
  refine rQ 5 (by kernel_rfl) rfl fun K hK=>?_
  go_simp
  refine(Ku (.int .i64 0) s.name s.inp s.size _).mono ?_;rintro e V3 ⟨rfl,hb3⟩;have uO:=hid (show Below W3.heap.size W3 V3 from((Below.refl _ _).drew).trans (hb3.mono (by simp)));have lq:=hid tl0;have Lc:=hid hlb
  have hq:V3.cell? ⟨w.heap.size+1,0,none⟩=some (.func (.func 132) #[] #[])/\V3.cell? ⟨w.heap.size,0,none⟩=some (.slice (some ⟨b,o,none⟩) l.length c)/\V3.cell? ⟨b,o+k*3,none⟩=some (.string s.name)/\V3.cell? ⟨b,o+k*3+1,none⟩=some (.bool s.inp)/\V3.cell? ⟨b,o+k*3+2,none⟩=some (.int .i64 s.size):=by
   obtain⟨h1,h2,h3,h4,h5⟩:=hHeld;exact⟨(hb3.cell (World.block_lt_of_cell? _ _ h1)).trans h1,(hb3.cell (World.block_lt_of_cell? _ _ h2)).trans h2,(hb3.cell (World.block_lt_of_cell? _ _ h3)).trans h3,(hb3.cell (World.block_lt_of_cell? _ _ h4)).trans h4,(hb3.cell (World.block_lt_of_cell? _ _ h5)).trans h5⟩
  refine hK.out _ _ hq (fun hHeld=>?_);clear hK K hb3 tl0 hlb
  try simp only[Act.put,dI,dJ,dK]
  refine wpAnyH_done (by kernel_rfl) ?_ _;clear hHeld;obtain⟨-,q1, -, -,q4⟩:=hq;have HN3:=hid ((uO.out.block _ (lt_of_block HI3.out)).trans HI3.out);have r0:=aj HN3.out (i:=0) rfl;have r1:=aB HN3.out (i:=0);have r2:=lt_of_block HN3.out;have q5:w.heap.size<V3.heap.size:=Nat.lt_of_lt_of_le lq.out uO.out.size;have q6:b<V3.heap.size:=Nat.lt_of_lt_of_le Lc.out uO.out.size;have HWN:=hid (show eX l (k+1)=eX l k*s.size by rw[DT HKL.out,jQ.out])
  have hwr:IntKind.i64.wrap (eX l k*s.size)=eX l k*s.size :=
   (nP HV.out k (Nat.le_of_lt HKL.out)).wrap (s:=s.size) (by have:=(fM HV.out).2.1;have:=HKL.out;omega) kU.out.2.1 kU.out.2.2
  obtain⟨z,hz⟩:∃z,eX l k=z:=⟨_,rfl⟩;rw[hz]at r0 hwr HWN;clear hz
  gi_upto_region 7 with(fail)
  refine oP (fun W'=>W'.cell? ⟨nb,0,none⟩=some (.int .i64 z)/\W'.cell? ⟨w.heap.size,0,none⟩=some (.slice (some ⟨b,o,none⟩) l.length c)/\W'.cell? ⟨b,o+k*3+2,none⟩=some (.int .i64 s.size)) (by kernel_rfl) (by kernel_rfl) (fun h=>by obtain⟨_,_,h⟩:=h;exact h) (by kernel_rfl) (by kernel_rfl) ⟨r0,q1,q4⟩ (fun hHeld=>?_);simp only[List.dropLast_cons_cons,List.dropLast_singleton,List.getLast_cons_cons,List.getLast_singleton];refine iZ 0 ?_ rfl (by kernel_rfl) (fun _ _ _ h=>h) ?_ (by assumption) ?_
  rotate_left
  ·intro w hSw;(try dsimp only at hSw);go_simp;(try(with_reducible rfl))
  try simp only[Act.put,dI,dJ,dK]
  refine iZ 1 ?_ rfl (by kernel_rfl) (fun _ _ _ h=>h) ?_ (by assumption) ?_
  rotate_left
  ·intro w hSw;(try dsimp only at hSw);go_simp;(try(with_reducible rfl))
  try simp only[Act.put,dI,dJ,dK]
  refine iZ 2 ?_ rfl (by kernel_rfl) (fun _ _ _ h=>h) ?_ (by assumption) ?_
  rotate_left
  ·intro w hSw;(try dsimp only at hSw);go_simp;(try(with_reducible rfl))
  try simp only[Act.put,dI,dJ,dK]
  refine iZ 3 ?_ rfl (by kernel_rfl) (fun _ _ _ h=>h) ?_ (by assumption) ?_
  rotate_left
  ·intro w hSw;(try dsimp only at hSw);go_simp;(try(with_reducible rfl))
  try simp only[Act.put,dI,dJ,dK]
  refine iZ 4 ?_ rfl (by kernel_rfl) (fun _ _ _ h=>h) ?_ (by assumption) ?_
  rotate_left
  ·intro w hSw;(try dsimp only at hSw);go_simp;(try(with_reducible rfl))
  try simp only[Act.put,dI,dJ,dK]
  refine iZ 5 ?_ rfl (by kernel_rfl) (fun _ _ _ h=>h) ?_ (by assumption) ?_
  rotate_left
  ·intro w hSw;(try dsimp only at hSw);go_simp;(try(with_reducible rfl))
  try simp only[Act.put,dI,dJ,dK]
  refine iZ 6 ?_ rfl (by kernel_rfl) (fun _ _ _ h=>h) ?_ (by assumption) ?_
  rotate_left
  ·intro w hSw;(try dsimp only at hSw);go_simp;(try(with_reducible rfl))
  try simp only[Act.put,dI,dJ,dK]
  refine wpAnyH_done (by kernel_rfl) ?_ _;unfold jS
  go_simp
  gi_wp2_with fail
  refine⟨((aH.aS (V:=fun x=>x=nb) uO.out).set ⟨nb,0,none⟩ _ fun _=>rfl).drew,?_⟩;show(V3.setCell ⟨nb,0,none⟩ (.int .i64 (z*s.size))).heap[nb]?=some (Obj.cells #[.int .i64 (eX l (k+1))] 3 (0,0));rw[aC HN3.out,HWN.out];rfl
 case hdone =>
  rintro W3 hc h1 hD3;have r0:=aj h1 (i:=0) rfl
  dsimp only
  go_wp2_with fail
  have hbf:=aX.out.trans (hc.below (B:=w.heap.size) (fun x hx=>by have:=oZ.out;omega) aX.out.size);have hpl:eX l l.length=lK l:=by unfold eX;rw[List.take_length]
  refine fP rfl hD3 (v := .int .i64 (eX l l.length)) (fun w' hc'=>?_) (fun w' hc'=>⟨by rw[HR.out,hpl],hbf.trans (hc'.below (fun x hx=>by have:=HS2.out;have:=oZ.out;omega) hbf.size)⟩);simp[results,Tryz.results131,go_sem]
theorem Du {D:Dom}(l:List Sg)(A:Option Addr)(n c:Nat)(w:World)(hn:n=l.length)(h:lV w D A c l)(hk:GK w) :
  Calls Tryz.prog 101 #[.slice A n c] w fun e w'=>e = .returned (.int .i64 (bZ l))/\Below w.heap.size w w':=by
 subst hn;have HC:=hid (Ut l A l.length c w rfl h hk);clear h hk
 go_enter Tryz.func101,Tryz.ntmps101
 go_wp2_with (go_at_call 131;(with_reducible refine HC.out.mono ?_);rintro e V ⟨rfl,hb⟩)
 go_ret
 exact⟨bn rfl,hb⟩
theorem Ja {D:Dom}{l:List Sg}{A:Option Addr}{n c:Nat}{w:World}(r:Int)(hr:bZ l=r)(hn:n=l.length)(h:lV w D A c l)(hk:GK w) :
  Calls Tryz.prog 101 #[.slice A n c] w fun e w'=>e = .returned (.int .i64 r)/\Below w.heap.size w w':=by
 subst hr;exact Du l A n c w hn h hk
end Go.Proofs.YtdpbgcmfeajigaaGreatDoor
namespace Go.Proofs.YtdpbgcmfeajigaaGreatDoor
open Go.RowKit Go.Shelf
attribute [local go_sem] ak run_store_func Oper.semAt_some
def fZ (l:List Sg)(x:Int)(i:Nat):Int:=x / eX l i % (l.getD i default).size
theorem rM {l:List Sg}(hv:dM l=true){i:Nat}(hi:i<=l.length):1<=eX l i/\eX l i<=4096:=by
 have h:=nP hv i hi;refine⟨h.lo,Int.le_trans h.hi ?_⟩;have h6:=(fM hv).2.1;have:i=0\/i=1\/i=2\/i=3\/i=4\/i=5\/i=6:=by omega
 rcases this with rfl|rfl|rfl|rfl|rfl|rfl|rfl <;> decide
theorem mg {l:List Sg}{x:Int}(h0:0<=x)(h:x<bZ l):dM l=true/\bZ l=lK l/\x<64:=by
 unfold bZ at h⊢;cases hv:dM l
 ·rw[hv]at h
  have h:x<0:=h;omega
 ·rw[hv]at h
  have h:x<lK l:=h;have:=(fM hv).2.2.1;exact⟨rfl,rfl,by omega⟩
theorem JC {D:Dom}(l:List Sg)(A:Option Addr)(n c:Nat)(x:Int)(i:Nat)(w:World)(hn:n=l.length)(h:lV w D A c l)(hk:GK w)(h0:0<=x)(hx:x<bZ l)(hi:i<l.length) :
  Calls Tryz.prog 102 #[.slice A n c,.int .i64 x,.int .i64 (i:Int)] w fun e w'=>e = .returned (.int .i64 (fZ l x i))/\Below w.heap.size w w':=by
 subst hn;obtain⟨hv,hlz,h64⟩:=mg h0 hx;have HL:=hid h.old;have HK:=hid hk;have HV:=hid hv;have HI:=hid hi;have HX:=hid (show 0<=x/\x<64 from⟨h0,h64⟩);have hlen:=h.len.1;obtain⟨lz,hlz'⟩:∃lz,bZ l=lz:=⟨_,rfl⟩;have WH:=hid hlz';rw[hlz']at hx;have d1:¬x<0:=by omega
 have e1:decide (x<0)=false:=decide_eq_false d1;have d2:¬lz<=x:=by omega
 have e2:decide (lz<=x)=false:=decide_eq_false d2;have d3:¬(i:Int)<0:=by omega
 have e3:decide ((i:Int)<0)=false:=decide_eq_false d3;have d4:¬(l.length:Int)<=(i:Int):=by omega
 have e4:decide ((l.length:Int)<=(i:Int))=false:=decide_eq_false d4;clear h hk hv hlz h64 hlz' h0 hx hi;refine(callsIn_wide (n:=3)).1 (callsIn_of_wp_marks Tryz.func102 rfl trivial ?_ rfl);simp only[Tryz.ntmps102,List.size_toArray,List.length_cons,List.length_nil,Nat.reduceAdd,Nat.reduceSub,Array.replicate_succ,Array.replicate_zero,List.push_toArray,List.append_toArray,List.nil_append,List.cons_append];refine wpIn_wide.2 ?_;go_upto_region 1 with(fail)
 refine aI fun W hW=>?_;have HB:=hid (show Below w.heap.size w W by rw[hW];go_grown);have oh:=hid (show W.heap[w.heap.size]?=some (.cells #[.slice A l.length c] 34 (0,0))by rw[hW,aQ _ _ _ (by first|(simp;done)|(simp;omega)),aQ _ _ _ (by first|(simp;done)|(simp;omega)),aQ _ _ _ (by simp)];exact at_new _ _ _ rfl);have lg:=hid (show W.heap[w.heap.size+1]?=some (.cells #[.int .i64 x] 3 (0,0))by rw[hW,aQ _ _ _ (by first|(simp;done)|(simp;omega)),aQ _ _ _ (by simp)];exact at_new _ _ _ (by simp));have HE2:=hid (show W.heap[w.heap.size+2]?=some (.cells #[.int .i64 (i:Int)] 3 (0,0))by rw[hW,aQ _ _ _ (by simp)];exact at_new _ _ _ (by simp))
 have GX:=hid (show W.heap[w.heap.size+3]?=some (.cells #[.int .i64 0] 3 (0,0))by rw[hW];exact at_new _ _ _ (by simp));have HS:=hid (show W.heap.size=w.heap.size+4 by rw[hW];simp);clear hW
 have aK:Hid (∀W':World,Below W.heap.size W W'->W'.cell? ⟨w.heap.size,0,none⟩=some (.slice A l.length c)/\W'.cell? ⟨w.heap.size+1,0,none⟩=some (.int .i64 x)/\W'.cell? ⟨w.heap.size+2,0,none⟩=some (.int .i64 (i:Int))):=hid fun W' hb =>
  ⟨aj ((hb.block _ (lt_of_block oh.out)).trans oh.out) (i:=0) rfl,aj ((hb.block _ (lt_of_block lg.out)).trans lg.out) (i:=0) rfl,aj ((hb.block _ (lt_of_block HE2.out)).trans HE2.out) (i:=0) rfl⟩
 have HC:Hid (∀W':World,Below W.heap.size W W'->Calls Tryz.prog 101 #[.slice A l.length c] W' fun e w'=>e = .returned (.int .i64 lz)/\Below W.heap.size W w'):=hid fun W' hb=>by
  refine(Ja (l:=l) (w:=W') (n:=l.length) lz WH.out rfl (HL.out.any (au HB.out hb)) (HK.out.below (au HB.out hb) HK.out.pos)).mono ?_;rintro e w' ⟨rfl,hb'⟩;exact⟨rfl,au hb hb'⟩
 have HI1:=hid (show Below W.heap.size W W.drew from(Below.refl _ _).drew);have HI2:=hid (show∀i,Below W.heap.size W (W.drewN i)from fun i=>(aU.n W i).below _);obtain⟨s0,s1,s2⟩:=aK.out W (Below.refl _ _)
 go_region_held3 (fun W':World=>W'.cell? ⟨w.heap.size,0,none⟩=some (.slice A l.length c)/\W'.cell? ⟨w.heap.size+1,0,none⟩=some (.int .i64 x)/\W'.cell? ⟨w.heap.size+2,0,none⟩=some (.int .i64 (i:Int)))
  (first|(with_reducible exact aK.out _ hI)|(go_keep;done))
  ((go_at_call 101;(with_reducible refine(HC.out _ (by first|exact HI1.out|exact HI2.out _)).mono ?_);rintro e V ⟨rfl,hI⟩))
 all_goals
  have iF:=hid hI;clear hI s0 s1 s2 HI1 HI2;obtain⟨s0,s1,s2⟩:=aK.out _ iF.out;have s3:=lt_of_block ((iF.out.block _ (lt_of_block oh.out)).trans oh.out);clear s1 s2;go_wp2_with (go_at_call 85;refine(wR A l.length c _).mono ?_;rintro e w2 ⟨rfl,rfl⟩)
  refine aI fun W2 hW2=>?_;have hb2:Below V.heap.size V W2:=by rw[hW2];go_grown
  have HP:=hid (show W2.cell? ⟨V.heap.size,0,none⟩=some (.slice A l.length c)by rw[hW2];exact aj (at_new _ _ _ rfl) (i:=0) rfl);have HS2:=hid (show W2.heap.size=V.heap.size+1 by rw[hW2];simp);have tV:=hid (au iF.out hb2);have aX:=hid (au HB.out tV.out);have yK:=hid (show w.heap.size+4<=V.heap.size by have:=iF.out.size;have:=HS.out;omega);have HF3:=hid ((tV.out.block _ (lt_of_block GX.out)).trans GX.out);have Sj:=hid ((HL.out.keep (Keeps.of_below aX.out fun _ h=>h)).mono (E:=fun x=>x<w.heap.size\/x=V.heap.size) fun k hk hl => .inl hk);have ZB:=hid (aK.out _ tV.out);clear hW2 hb2 s0 s3
  have Hl:=hid (rO A c V.heap.size (fun x=>x<w.heap.size\/x=V.heap.size) W2 HV.out Sj.out HP.out (.inr rfl) (fun x hx=>by have:=HS2.out;have:=yK.out;omega))
  refine BZ 123 #[.pointer (some ⟨V.heap.size,0,none⟩)] l.length 0 (fun x=>x<w.heap.size\/x=V.heap.size) (TM l) (fun x=>x=w.heap.size+3)
   (fun k W'=>k<=i/\W'.heap[w.heap.size+3]?=some (.cells #[.int .i64 0] 3 (0,0)))
   (fun c W'=>c = .ret/\W'.heap[w.heap.size+3]?=some (.cells #[.int .i64 (fZ l x i)] 3 (0,0)))
   (enters_of Tryz.func123 (by kernel_rfl) rfl) rfl rfl Hl.out (fun x hx=>by have:=HS2.out;have:=yK.out;omega) (fun _ _ _ _ _ h _=>h) ?hZ ?hI ?hIx ⟨Nat.zero_le _,HF3.out⟩ ?a1 ?hassign ?dX ?hdone ?hstop (fun h=>by cases h)
  case hassign =>
   intro l u v W K hK
   gi_wp2
   exact hK
  case hZ=>intro x hx;have:=HS2.out;have:=yK.out;exact⟨by omega,by omega⟩
  case hI=>rintro k W3 W4 ⟨h1,h2⟩ hc;exact⟨h1,hc.box h2 (by have:=HS2.out;have:=yK.out;omega)⟩
  case hIx=>rintro c W3 W4 ⟨h1,h2⟩ hc;exact⟨h1,hc.box h2 (by have:=HS2.out;have:=yK.out;omega)⟩
  case dX =>
   rintro ln k W3 u v hs3 hc3 ⟨hki,VX⟩ hkl ⟨rfl,rfl⟩;have HKL:=hid hkl;have HKI:=hid hki;have HI3:=hid VX;obtain⟨t0,t1,t2⟩:=ZB.out;have zZ:∀(b:Nat) (v:Value),b≠w.heap.size+3->W2.cell? ⟨b,0,none⟩=some v->W3.cell? ⟨b,0,none⟩=some v:=fun b v hb hv=>(World.cell?_of_block (w:=W2) (a:=⟨b,0,none⟩) (hc3.block b (World.block_lt_of_cell? _ _ hv) hb)).trans hv;have q0:=zZ _ _ (by omega) t0;have q1:=zZ _ _ (by omega) t1;have q2:=zZ _ _ (by omega) t2;have ql:=World.block_lt_of_cell? _ _ q0
   by_cases qdm:k=i
   ·have dk:((k:Int)==(i:Int))=true:=by rw[qdm];exact beq_self_eq_true _
    have hk0:(0:Int)<=(i:Int):=by omega
    have hkk:(i:Int)<(l.length:Int):=by have:=HI.out;omega
    obtain⟨b,o,s,rfl,hlb,HSX,x0,x1,x2⟩:=(Sj.out.keep (hc3.keeps fun x _ h e=>by have:=yK.out;omega)).get HI.out;have kU:=hid (oK ((fM HV.out).2.2.2 i HI.out));have hwb:=rM HV.out (Nat.le_of_lt HI.out);have HVZ:=hid (show fZ l x i=x / eX l i % s.size by unfold fZ;rw[HSX.out]);rw[HSX.out]at kU;obtain⟨z,hz⟩:∃z,eX l i=z:=⟨_,rfl⟩;rw[hz]at hwb HVZ;have hxx:=HX.out;obtain⟨d,hd⟩:∃d,x / z=d:=⟨_,rfl⟩;have hq:x.tdiv z=d:=by rw[Int.tdiv_eq_ediv_of_nonneg hxx.1];exact hd
    have hdb:0<=d/\d<64:=by rw[<-hd];exact⟨Int.ediv_nonneg hxx.1 (by omega),Int.lt_of_le_of_lt (Int.ediv_le_self z hxx.1) hxx.2⟩
    obtain⟨r,hr⟩:∃r,d % s.size=r:=⟨_,rfl⟩;have hm:d.tmod s.size=r:=by rw[Int.tmod_eq_emod_of_nonneg hdb.1];exact hr
    rw[hd,hr]at HVZ
    have hrb:0<=r/\r<4:=by
     rw[<-hr];have:=kU.out.2;exact⟨Int.emod_nonneg _ (by omega),Int.lt_of_lt_of_le (Int.emod_lt_of_pos _ (by omega)) (by omega)⟩
    have w1:IntKind.i64.wrap d=d:=IntWalk.i64_in _ (by omega);have w2:IntKind.i64.wrap r=r:=IntWalk.i64_in _ (by omega);have n1:¬z=0:=by omega
    have n2:(z==0)=false:=ay n1;have n3:¬s.size=0:=by have:=kU.out.2;omega
    have n4:(s.size==0)=false:=ay n3;have r0:=aj HI3.out (i:=0) rfl;have r1:=aB HI3.out (i:=0);have r2:=lt_of_block HI3.out;have HHC:=hid hc3;rw[qdm,hz];clear VX hkl hki qdm t0 t1 t2 zZ hd hr HSX x0 x1 hc3 hz dk;have dk:((i:Int)==(i:Int))=true:=beq_self_eq_true _
    gi_upto_region 7 with(fail)
    refine oP (fun W'=>W'.cell? ⟨w.heap.size+1,0,none⟩=some (.int .i64 x)/\W'.cell? ⟨w.heap.size,0,none⟩=some (.slice (some ⟨b,o,none⟩) l.length c)/\W'.cell? ⟨w.heap.size+2,0,none⟩=some (.int .i64 (i:Int))/\W'.cell? ⟨b,o+i*3+2,none⟩=some (.int .i64 s.size)) (by kernel_rfl) (by kernel_rfl) (fun h=>by obtain⟨_,_,h⟩:=h;exact h) (by kernel_rfl) (by kernel_rfl) ⟨q1,q0,q2,x2⟩ (fun hHeld=>?_);simp only[List.dropLast_cons_cons,List.dropLast_singleton,List.getLast_cons_cons,List.getLast_singleton];refine iZ 0 ?_ rfl (by kernel_rfl) (fun _ _ _ h=>h) ?_ (by assumption) ?_
    rotate_left
    ·intro w hSw;(try dsimp only at hSw);go_simp;(try(with_reducible rfl))
    try simp only[Act.put,dI,dJ,dK]
    refine iZ 1 ?_ rfl (by kernel_rfl) (fun _ _ _ h=>h) ?_ (by assumption) ?_
    rotate_left
    ·intro w hSw;(try dsimp only at hSw);go_simp;(try(with_reducible rfl))
    try simp only[Act.put,dI,dJ,dK]
    refine iZ 2 ?_ rfl (by kernel_rfl) (fun _ _ _ h=>h) ?_ (by assumption) ?_
    rotate_left
    ·intro w hSw;(try dsimp only at hSw);go_simp;(try(with_reducible rfl))
    try simp only[Act.put,dI,dJ,dK]
    refine iZ 3 ?_ rfl (by kernel_rfl) (fun _ _ _ h=>h) ?_ (by assumption) ?_
    rotate_left
    ·intro w hSw;(try dsimp only at hSw);go_simp;(try(with_reducible rfl))
    try simp only[Act.put,dI,dJ,dK]
    refine iZ 4 ?_ rfl (by kernel_rfl) (fun _ _ _ h=>h) ?_ (by assumption) ?_
    rotate_left
    ·intro w hSw;(try dsimp only at hSw);go_simp;(try(with_reducible rfl))
    try simp only[Act.put,dI,dJ,dK]
    refine iZ 5 ?_ rfl (by kernel_rfl) (fun _ _ _ h=>h) ?_ (by assumption) ?_
    rotate_left
    ·intro w hSw;(try dsimp only at hSw);go_simp;(try(with_reducible rfl))
    try simp only[Act.put,dI,dJ,dK]
    refine iZ 6 ?_ rfl (by kernel_rfl) (fun _ _ _ h=>h) ?_ (by assumption) ?_
    rotate_left
    ·intro w hSw;(try dsimp only at hSw);go_simp;(try(with_reducible rfl))
    try simp only[Act.put,dI,dJ,dK]
    refine iZ 7 ?_ rfl (by kernel_rfl) (fun _ _ _ h=>h) ?_ (by assumption) ?_
    rotate_left
    ·intro w hSw;(try dsimp only at hSw);go_simp;(try(with_reducible rfl))
    try simp only[Act.put,dI,dJ,dK]
    refine iZ 8 ?_ rfl (by kernel_rfl) (fun _ _ _ h=>h) ?_ (by assumption) ?_
    rotate_left
    ·intro w hSw;(try dsimp only at hSw);go_simp;(try(with_reducible rfl))
    try simp only[Act.put,dI,dJ,dK]
    refine wpAnyH_done (by kernel_rfl) ?_ _;unfold jS
    go_simp
    gi_wp2_with fail
    refine⟨((aH.refl (fun x=>x=w.heap.size+3) W3).set ⟨w.heap.size+3,0,none⟩ _ fun _=>rfl).drew,rfl,?_⟩;show(W3.setCell ⟨w.heap.size+3,0,none⟩ (.int .i64 r)).heap[w.heap.size+3]?=some (Obj.cells #[.int .i64 (fZ l x i)] 3 (0,0));rw[aC HI3.out,HVZ.out];rfl
   ·have dk:((k:Int)==(i:Int))=false:=ay (by omega)
    clear VX hkl hki t0 t1 t2 zZ q0 q1
    gi_wp2_with fail
    exact⟨aH.refl _ _,by have:=HKI.out;omega,HI3.out⟩
  case hdone =>
   rintro W3 hc ⟨h1,h2⟩ hD3;exact absurd h1 (by have:=HI.out;omega)
  case hstop =>
   rintro c W3 hc ⟨rfl,h2⟩ hD3
   dsimp only
   go_wp2_with fail
   have hbf:=aX.out.trans (hc.below (B:=w.heap.size) (fun x hx=>by omega) aX.out.size);refine fP rfl hD3 (v := .int .i64 (fZ l x i)) (fun w' hc'=>?_) (fun w' hc'=>⟨rfl,hbf.trans (hc'.below (fun x hx=>by have:=HS2.out;have:=yK.out;omega) hbf.size)⟩);have:=aj (hc'.box h2 (by have:=HS2.out;have:=yK.out;omega)) (i:=0) rfl;simp[results,Tryz.results102,go_sem,this]
end Go.Proofs.YtdpbgcmfeajigaaGreatDoor
