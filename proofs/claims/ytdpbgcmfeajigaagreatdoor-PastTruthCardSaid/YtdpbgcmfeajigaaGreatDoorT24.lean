/-
  Parts of a proof: LP XO PA PB PC PD PE PF PG PH PI PJ.
-/
import Derived.ProofKit
import Derived.SizedLaws
import Derived.Deep.Slices
import Derived.Deep.SlicePairs
import Derived.Deep.Fields
import Derived.Lib.SmallJoins
import Derived.Test.YtdpbgcmfeajigaaGreatDoorT23
import Derived.Test.YtdpbgcmfeajigaaGreatDoorT00
import Derived.Test.YtdpbgcmfeajigaaGreatDoorT22
import Derived.Test.YtdpbgcmfeajigaaGreatDoorT21
import Derived.Test.YtdpbgcmfeajigaaGreatDoorT20
set_option linter.unusedSimpArgs false
set_option linter.unusedVariables false
set_option maxHeartbeats 8000000
set_option maxRecDepth 100000
namespace Go.Proofs.YtdpbgcmfeajigaaGreatDoor
theorem mG.nil (w:World)(D:Dom)(A:Option Addr){c:Nat}(hc:c<=9223372036854775807):mG w D A c []:=Rd.nil w D 3 A hc
open Go.ChangeShapes Go.WideShapes Go.RowKit Go.Deep Go.Joins
def Light {H:Type}(P:Program)(t:TypeId)(d:DataW H):Prop:=(d.weights P t).all (· <= reachBytes)=true
theorem Aw {H:Type}{P:Program}{ts:List TypeId}{ds:List (DataW H)}(h:(DataW.weightsEach P ts ds).all (· <= reachBytes)=true){j:Nat}{t:TypeId}{d:DataW H}(ht:ts[j]?=some t)(hd:ds[j]?=some d):Light P t d:=by
 unfold Light;rw[List.all_eq_true]at h⊢;exact fun n hn=>h n (DataW.weights_mem_each ht hd n hn)
theorem wP {H:Type}{P:Program}{t e:TypeId}{elems spare:List (DataW H)}(hu:P.underlying t=some (.slice e))(h:Light P t (.slice elems spare)) :
  (elems.length+spare.length)*P.bytesOf e<=reachBytes/\∀d∈elems,Light P e d:=by
 unfold Light at h;simp only[DataW.weights,hu,List.all_cons,Bool.and_eq_true,decide_eq_true_eq,List.all_append]at h;refine⟨h.1,fun d hd=>?_⟩
 have key:∀(l:List (DataW H)),(DataW.weightsAll P e l).all (· <= reachBytes)=true->∀d∈l,Light P e d:=by
  intro l
  induction l with
  | nil=>intro _ d hd;cases hd
  | cons x l ih =>
   intro hl d hd;simp only[DataW.weightsAll,List.all_append,Bool.and_eq_true]at hl
   rcases List.mem_cons.1 hd with rfl|hd
   ·exact hl.1
   ·exact ih hl.2 d hd
 exact key elems h.2.1 d hd
section
variable {H:Type}{enc:TypeId×Value->H}{w:World}{base:Nat}{held:Bool}
theorem zx {a:Addr}{u:Value}(h:w.cell? (a.add 0)=some u):a=⟨a.block,a.off,none⟩/\a.block<w.heap.size:=by
 have h0:a.add 0=a:=by unfold Addr.add;simp
 rw[h0]at h;refine⟨?_,World.block_lt_of_cell? w a h⟩;obtain⟨b,o,s⟩:=a
 cases s with
 | none=>rfl
 | some s =>
  unfold World.cell? at h
  split at h <;> simp at h
theorem P6 (b o k:Nat):(⟨b,o,none⟩:Addr).add k=⟨b,o+k,none⟩:=by
 unfold Addr.add
 by_cases h:k=0 <;> simp[h]
theorem Nh {α : Type}(l:List α)(x d : α)(j:Nat):(l ++ [x]).getD j d=if j<l.length then l.getD j d else if j=l.length then x else d:=by
 simp only[List.getD,List.getElem?_append]
 split
 ·rfl
 ·split
  ·rename_i h h2;subst h2;simp
  ·rename_i h h2
   rw[List.getElem?_eq_none (by simp;omega)];rfl
theorem wK {α : Type}(d : α){n:Nat}{P:Nat -> α -> Prop}(h:∀i,i<n->∃x,P i x):∃l:List α,l.length=n/\∀i,i<n->P i (l.getD i d):=by
 induction n with
 | zero=>exact⟨[],rfl,fun i hi=>absurd hi (Nat.not_lt_zero _)⟩
 | succ n ih =>
  obtain⟨l,hl,hp⟩:=ih (fun i hi=>h i (by omega));obtain⟨x,hx⟩:=h n (by omega);refine⟨l ++ [x],by simp[hl],fun i hi=>?_⟩;rw[Nh,hl]
  split
  ·exact hp i ‹_›
  ·rw[if_pos (by omega)]
   obtain rfl:i=n:=by omega
   exact hx
theorem xY {P:Program}{t:TypeId}{fs:Array Field}{parts:List (DataW H)}(hu:P.underlying t=some (.struct fs))(h:Light P t (.agg parts)){j:Nat}{f:Field}{d:DataW H}(hf:fs[j]?=some f)(hd:parts[j]?=some d):Light P f.type d:=by
 unfold Light at h;simp only[DataW.weights,hu]at h;exact Aw h (j:=j) (by simp[hf]) hd
theorem BQ {α : Type}(f : α -> List Value)(s:Nat)(hf:∀x,(f x).length=s)(l:List α):(l.flatMap f).length=l.length*s:=by
 induction l with
 | nil=>simp
 | cons x l ih=>rw[List.flatMap_cons,List.length_append,hf,ih,List.length_cons,Nat.add_mul,Nat.one_mul];omega
theorem JL {α β : Type}:∀l:List (α × β),(l.map Prod.fst).zip (l.map Prod.snd)=l
 | []=>rfl
 | x :: l=>by simp[JL l]
theorem SX:Tryz.prog.cellsOf 24=5:=by kernel_rfl
theorem qab:Tryz.prog.bytesOf 24=64:=by kernel_rfl
theorem ED:Tryz.prog.cellsOf 3=1:=by kernel_rfl
theorem SY:Tryz.prog.cellsOf 9=1:=by kernel_rfl
theorem Xv:Tryz.prog.cellsOf 22=1:=by kernel_rfl
theorem DU {n:Nat}{cs:List Value}{y:DataW H×List MemPlace}(h:DataW.trod enc Tryz.prog w base (fun _=>true) held n 24 cs=some y)(hcl:cs.length=5) :
  ∃(o:Int) (s:ByteArray) (v b:Int) (a:Value) (k:Nat) (y4:DataW H×List MemPlace) (d0 d1 d2 d3:DataW H),cs = [.int .i64 o,.string s,.int .i64 v,.int .i64 b,a]/\y.1 = .agg [d0,d1,d2,d3,y4.1]/\DataW.trod enc Tryz.prog w base (fun _=>true) held k 22 [a]=some y4:=by
 obtain⟨xs,k',_,hxy,_,hyl,hf⟩:=DataW.trod_struct Tryz.underlying24 h
 match xs,hyl,cs,hcl with
 | [y0,y1,y2,y3,y4],_,[v0,v1,v2,v3,v4],_ =>
  have g0:DataW.trod enc Tryz.prog w base (fun _=>true) held k' 3 [v0]=some y0:=by
   have:=hf 0 _ rfl
   change DataW.trod enc Tryz.prog w base (fun _=>true) held k' 3 (([v0,v1,v2,v3,v4].drop 0).take (Tryz.prog.cellsOf 3))=some y0 at this
   rw[ED]at this;simpa using this
  have g1:DataW.trod enc Tryz.prog w base (fun _=>true) held k' 9 [v1]=some y1:=by
   have:=hf 1 _ rfl
   change DataW.trod enc Tryz.prog w base (fun _=>true) held k' 9 (([v0,v1,v2,v3,v4].drop 1).take (Tryz.prog.cellsOf 9))=some y1 at this
   rw[SY]at this;simpa using this
  have g2:DataW.trod enc Tryz.prog w base (fun _=>true) held k' 3 [v2]=some y2:=by
   have:=hf 2 _ rfl
   change DataW.trod enc Tryz.prog w base (fun _=>true) held k' 3 (([v0,v1,v2,v3,v4].drop 2).take (Tryz.prog.cellsOf 3))=some y2 at this
   rw[ED]at this;simpa using this
  have g3:DataW.trod enc Tryz.prog w base (fun _=>true) held k' 3 [v3]=some y3:=by
   have:=hf 3 _ rfl
   change DataW.trod enc Tryz.prog w base (fun _=>true) held k' 3 (([v0,v1,v2,v3,v4].drop 3).take (Tryz.prog.cellsOf 3))=some y3 at this
   rw[ED]at this;simpa using this
  have g4:DataW.trod enc Tryz.prog w base (fun _=>true) held k' 22 [v4]=some y4:=by
   have:=hf 4 _ rfl
   change DataW.trod enc Tryz.prog w base (fun _=>true) held k' 22 (([v0,v1,v2,v3,v4].drop 4).take (Tryz.prog.cellsOf 22))=some y4 at this
   rw[Xv]at this;simpa using this
  obtain⟨z0,hz0,_⟩:=DataW.trod_int Tryz.underlying3 g0;obtain⟨z1,hz1,_⟩:=DataW.trod_string Tryz.underlying9 g1;obtain⟨z2,hz2,_⟩:=DataW.trod_int Tryz.underlying3 g2;obtain⟨z3,hz3,_⟩:=DataW.trod_int Tryz.underlying3 g3;have e0:v0 = .int .i64 z0:=by simpa using hz0
  have e1:v1 = .string z1:=by simpa using hz1
  have e2:v2 = .int .i64 z2:=by simpa using hz2
  have e3:v3 = .int .i64 z3:=by simpa using hz3
  refine⟨z0,z1,z2,z3,v4,k',y4,y0.1,y1.1,y2.1,y3.1,by rw[e0,e1,e2,e3],?_,g4⟩;rw[hxy];rfl
theorem qaO:∀(N:Nat) {n:Nat} {v:Value} {y:DataW H×List MemPlace},SizeOf.sizeOf y.1<=N->DataW.trod enc Tryz.prog w base (fun _=>true) held n 22 [v]=some y->Light Tryz.prog 22 y.1 ->
  ∃(A:Option Addr) (c:Nat) (l:List Fm),v = .slice A l.length c/\bV w (· < w.heap.size) l A c:=by
 intro N
 induction N with
 | zero =>
  intro n v y hN h hl
  exfalso
  have:0<SizeOf.sizeOf y.1:=by cases y.1 <;> simp <;> omega
  omega
 | succ N ih =>
  intro n v y hN h hl
  rcases open_slice Tryz.underlying22 h with⟨hv,rfl⟩|⟨a,len,cap,m,k,D,Pl,hv,hb,hlc,hcm,hmm,rfl,hx⟩
  ·obtain rfl:v = .slice none 0 0:=by simpa using hv
   exact⟨none,0,[],rfl,bV.nil _ _ _ (by omega)⟩
  ·obtain rfl:v = .slice (some a) len cap:=by simpa using hv
   simp only[if_true]at hmm;obtain rfl:cap=m:=hmm.symm;obtain⟨h8,hin⟩:=wP Tryz.underlying22 hl;rw[qab]at h8;simp only[List.length_map,List.length_range,reachBytes]at h8;rw[SX]at hx
   have each:∀i,i<len->∃q:Fm×(Option Addr×Nat),w.cell? (a.add (i*5))=some (.int .i64 q.1.op)/\w.cell? (a.add (i*5+1))=some (.string q.1.name)/\w.cell? (a.add (i*5+2))=some (.int .i64 q.1.val)/\w.cell? (a.add (i*5+3))=some (.int .i64 q.1.bound)/\w.cell? (a.add (i*5+4))=some (.slice q.2.1 q.1.args.length q.2.2)/\bV w (· < w.heap.size) q.1.args q.2.1 q.2.2:=by
    intro i hi;obtain⟨cs',hc,ht'⟩:=hx i (by omega);obtain⟨_,hcl,hat⟩:=World.cells?_some hc;obtain⟨o,s,vv,bb,av,k2,y4,d0,d1,d2,d3,rfl,hy,g4⟩:=DU ht' hcl;have hDm:D i∈(List.range len).map D:=List.mem_map.2 ⟨i,by simp[hi],rfl⟩;have tN:=hin (D i) hDm;have hy:D i = .agg [d0,d1,d2,d3,y4.1]:=hy;have hs1:SizeOf.sizeOf (D i)<SizeOf.sizeOf ((List.range len).map D):=List.sizeOf_lt_of_mem hDm
    have hs2:SizeOf.sizeOf y4.1<=N:=by
     rw[hy]at hs1;simp at hN hs1;omega
    rw[hy]at tN;obtain⟨A2,c2,l2,e4,r2⟩:=ih hs2 g4 (xY Tryz.underlying24 tN (j:=4) rfl rfl);have c0:=hat 0 (by omega);have c1:=hat 1 (by omega);have c2':=hat 2 (by omega);have c3:=hat 3 (by omega);have c4:=hat 4 (by omega);rw[Go.Deep.add_add]at c0 c1 c2' c3 c4;exact⟨(.mk o s vv bb l2,(A2,c2)),by simpa[Fm.op]using c0,by simpa[Fm.name]using c1,by simpa[Fm.val]using c2',by simpa[Fm.bound]using c3,by simpa[e4,Fm.args]using c4,r2⟩
   obtain⟨qs,hgl,hg⟩:=wK (default,(none,0)) each;have hz:(qs.map Prod.fst).zip (qs.map Prod.snd)=qs:=JL qs;have hlen:(qs.map Prod.snd).length=(qs.map Prod.fst).length:=by simp
   refine⟨some a,cap,qs.map Prod.fst,by rw[List.length_map,hgl],.mk _ _ _ (qs.map Prod.snd) hlen ?_ fun i hi=>?_⟩
   ·rw[List.length_map]
    have hfl:(bP (qs.map Prod.fst) (qs.map Prod.snd)).length=qs.length*5:=by
     unfold bP;rw[hz];exact BQ _ 5 (fun _=>rfl) qs
    refine⟨⟨hfl,by omega,by omega,hcm⟩,fun hn=>?_⟩;rw[hgl]at hn;obtain⟨ha,hlt⟩:=zx (by simpa using(hg 0 hn).1);refine⟨a.block,a.off,by rw[<-ha],hlt,hlt,fun j u hu=>?_⟩
    have hjl:j<qs.length*5:=by
     rcases Nat.lt_or_ge j (qs.length*5)with h|h
     ·exact h
     ·rw[List.getElem?_eq_none (by rw[hfl];exact h)]at hu;cases hu
    obtain⟨q,r,rfl,hr⟩:∃q r,j=q*5+r/\r<5:=⟨j / 5,j % 5,by omega,by omega⟩;have hq:q<qs.length:=by omega
    rw[kT hlen (by simpa using hq) hr]at hu;have e1:(qs.map Prod.fst).getD q default=(qs.getD q (default,(none,0))).1:=by simp[List.getD,hq]
    have e2:(qs.map Prod.snd).getD q (none,0)=(qs.getD q (default,(none,0))).2:=by simp[List.getD,hq]
    rw[e1,e2]at hu;obtain⟨c0,c1,c2,c3,c4,_⟩:=hg q (by omega);rw[ha,P6]at c0 c1 c2 c3 c4
    match r,hr with
    | 0,_=>simp only[eU]at hu;have hu:=Option.some.inj hu;rw[<-hu];exact c0
    | 1,_=>simp only[eU]at hu;have hu:=Option.some.inj hu;rw[<-hu];exact c1
    | 2,_=>simp only[eU]at hu;have hu:=Option.some.inj hu;rw[<-hu];exact c2
    | 3,_=>simp only[eU]at hu;have hu:=Option.some.inj hu;rw[<-hu];exact c3
    | 4,_=>simp only[eU]at hu;have hu:=Option.some.inj hu;rw[<-hu];exact c4
   ·rw[List.length_map]at hi
    have:=(hg i (by omega)).2.2.2.2.2;simpa[List.getD,hi]using this
theorem qdr {v:Value}{d:DataW H}{p:List MemPlace}{r:Reach}{b0:Nat}(hv:Value.okWide Tryz.prog w r b0 24 v)(h:DataW.Trod enc Tryz.prog w base (fun _=>true) held 24 v d p)(hl:Light Tryz.prog 24 d) :
  ∃f:Fm,bI w (· < w.heap.size) v f:=by
 obtain⟨cs,rfl,hsz⟩:=okWide_struct Tryz.underlying24 hv;obtain⟨l⟩:=cs;obtain⟨fuel,hf⟩:=h;have hl5:l.length=5:=hsz.trans SX;obtain⟨o,s,vv,bb,av,k2,y4,d0,d1,d2,d3,e,hy,g4⟩:=DU hf hl5;have e':l = [.int .i64 o,.string s,.int .i64 vv,.int .i64 bb,av]:=e;have hy:d = .agg [d0,d1,d2,d3,y4.1]:=hy;rw[hy]at hl;obtain⟨A2,c2,l2,e4,r2⟩:=qaO _ (Nat.le_refl _) g4 (xY Tryz.underlying24 hl (j:=4) rfl rfl);subst e' e4;exact⟨.mk o s vv bb l2,A2,c2,rfl,r2⟩
end
theorem YJ:ownKnob Tryz.prog.godebug=none:=by kernel_rfl
theorem F7:laidOutB Tryz.prog=true:=by kernel_rfl
theorem wY {H:Type}{enc:TypeId×Value->H}{W W':World}{sp:Nat->Bool}{t:TypeId}{v:Value}{d:DataW H}{ps:List MemPlace}(hl:laidOutB Tryz.prog=true)(hr:Tryz.prog.readableRec t=true)(hrow:t<Tryz.prog.types.size)
  (h:DataW.Trod enc Tryz.prog W 0 (fun _=>true) true t v d ps) (hb:Below W.heap.size W W') (hlt:∀x∈ps,x.block<W.heap.size) (hsp:∀x∈ps,sp x.block=true):DataW.Trod enc Tryz.prog W' 0 sp true t v d ps :=
 WideElems.Trod_stays hl hr hrow h (fun x hx=>hb.same (hlt x hx)) hsp
theorem Ia {H:Type}{enc:TypeId×Value->H}{P:Program}{f:Func}{s:ChangeSpec}{apart fresh handsOn again:Bool}{W W':World}{args:Array Value}{v:Value}{ds gs:List (DataW H)}{before pa pv:List MemPlace}
  (hW:DataW.Whole enc P f.params.toList s.vars apart W args.toList ds gs before)
  (hres:∀(b:Nat) (sp:Nat->Bool) (hd:Bool),DataW.TrodAll enc P W' b sp hd f.resultTypes.toList (v.resultList f.resultTypes.size) (s.fn H (ds++gs)).results [])
  (hargs:∀sp:Nat->Bool,(∀p∈before,sp p.block=true)->DataW.TrodAll enc P W' 0 sp true f.params.toList args.toList (s.fn H (ds++gs)).args pa)
  (hvars:∀sp:Nat->Bool,(∀p∈before,sp p.block=true)->DataW.TrodVars enc P W' sp s.vars (s.fn H (ds++gs)).vars pv)
  (hps:before=pa++pv) (hb:Below W.heap.size W W')
  (hok:∀(j:Nat) (t:TypeId) (r:Value),f.resultTypes[j]?=some t->(v.resultList f.resultTypes.size)[j]?=some r->Value.okWide P W' .any 0 t r) :
  s.post enc P f apart fresh handsOn again W args v W':=by
 have hlt:∀p∈before,p.block<W.heap.size:=fun p hp=>hW.lt p hp;have hold:∀p∈before,(fun b=>decide (b<W.heap.size)) p.block=true:=fun p hp=>by simpa using hlt p hp
 refine⟨ds,gs,before,[],pa,pv,hW,hres _ _ _,hargs _ hold,hvars _ hold,World.keptBut_mono (fun p hp=>⟨hp,?_⟩) (hb.frame (· ∈ before)),fun _=>?_⟩
 ·rw[hps,List.mem_append]at hp
  exact Or.inr hp
 ·obtain⟨_,_,_,_,_,hz,hn⟩:=hW
  refine⟨hok,_,_,([]++pa)++pv,⟨[]++pa,pv,trodAll_append (hargs _ (fun _ _=>rfl)) (hres _ _ _),hvars _ (fun _ _=>rfl),rfl,?_,?_⟩,?_⟩
  ·intro b off hp
   have hin:MemPlace.cell b off∈before:=by rw[hps];simpa using hp
   rw[hb.frozen (hlt _ hin)];exact hz b off hin
  ·intro ha
   have:=hn ha;rw[hps]at this;simpa using this
  ·intro p hp _
   rw[hps];simpa using hp
theorem qad:Tryz.prog.cellsOf 103=3:=by kernel_rfl
theorem qac:Tryz.prog.bytesOf 103=32:=by kernel_rfl
theorem qaf:Tryz.prog.cellsOf 4=1:=by kernel_rfl
section
variable {H:Type}{enc:TypeId×Value->H}{w:World}{base:Nat}{held:Bool}
theorem KP {n:Nat}{cs:List Value}{y:DataW H×List MemPlace}(h:DataW.trod enc Tryz.prog w base (fun _=>true) held n 103 cs=some y)(hcl:cs.length=3) :
  ∃s:Sg,cs=nP s:=by
 obtain⟨xs,k',_,hxy,_,hyl,hf⟩:=DataW.trod_struct Tryz.underlying103 h
 match xs,hyl,cs,hcl with
 | [y0,y1,y2],_,[v0,v1,v2],_ =>
  have g0:DataW.trod enc Tryz.prog w base (fun _=>true) held k' 9 [v0]=some y0:=by
   have:=hf 0 _ rfl
   change DataW.trod enc Tryz.prog w base (fun _=>true) held k' 9 (([v0,v1,v2].drop 0).take (Tryz.prog.cellsOf 9))=some y0 at this
   rw[SY]at this;simpa using this
  have g1:DataW.trod enc Tryz.prog w base (fun _=>true) held k' 4 [v1]=some y1:=by
   have:=hf 1 _ rfl
   change DataW.trod enc Tryz.prog w base (fun _=>true) held k' 4 (([v0,v1,v2].drop 1).take (Tryz.prog.cellsOf 4))=some y1 at this
   rw[qaf]at this;simpa using this
  have g2:DataW.trod enc Tryz.prog w base (fun _=>true) held k' 3 [v2]=some y2:=by
   have:=hf 2 _ rfl
   change DataW.trod enc Tryz.prog w base (fun _=>true) held k' 3 (([v0,v1,v2].drop 2).take (Tryz.prog.cellsOf 3))=some y2 at this
   rw[ED]at this;simpa using this
  obtain⟨z0,hz0,_⟩:=DataW.trod_string Tryz.underlying9 g0;obtain⟨z1,hz1⟩:=DataW.trod_bool Tryz.underlying4 g1;obtain⟨z2,hz2,_⟩:=DataW.trod_int Tryz.underlying3 g2;have e0:v0 = .string z0:=by simpa using hz0
  have e1:v1 = .bool z1:=by simpa using hz1.1
  have e2:v2 = .int .i64 z2:=by simpa using hz2
  exact⟨⟨z0,z1,z2⟩,by rw[e0,e1,e2];rfl⟩
theorem qaP {n:Nat}{v:Value}{y:DataW H×List MemPlace}(h:DataW.trod enc Tryz.prog w base (fun _=>true) held n 34 [v]=some y)(hl:Light Tryz.prog 34 y.1) :
  ∃(A:Option Addr) (c:Nat) (l:List Sg),v = .slice A l.length c/\mG w (· < w.heap.size) A c l:=by
 rcases open_slice Tryz.underlying34 h with⟨hv,rfl⟩|⟨a,len,cap,m,k,D,Pl,hv,hb,hlc,hcm,hmm,rfl,hx⟩
 ·obtain rfl:v = .slice none 0 0:=by simpa using hv
  exact⟨none,0,[],rfl,mG.nil _ _ _ (by omega)⟩
 ·obtain rfl:v = .slice (some a) len cap:=by simpa using hv
  simp only[if_true]at hmm;obtain rfl:cap=m:=hmm.symm;obtain⟨h8,hin⟩:=wP Tryz.underlying34 hl;rw[qac]at h8;simp only[List.length_map,List.length_range,reachBytes]at h8;rw[qad]at hx
  have each:∀i,i<len->∃q:Sg,w.cell? (a.add (i*3))=some (.string q.name)/\w.cell? (a.add (i*3+1))=some (.bool q.inp)/\w.cell? (a.add (i*3+2))=some (.int .i64 q.size):=by
   intro i hi;obtain⟨cs',hc,ht'⟩:=hx i (by omega);obtain⟨_,hcl,hat⟩:=World.cells?_some hc;obtain⟨s,rfl⟩:=KP ht' hcl;have c0:=hat 0 (by omega);have c1:=hat 1 (by omega);have c2:=hat 2 (by omega);rw[Go.Deep.add_add]at c0 c1 c2;exact⟨s,by simpa[nP]using c0,by simpa[nP]using c1,by simpa[nP]using c2⟩
  obtain⟨gs,hgl,hg⟩:=wK default each;refine⟨some a,cap,gs,by rw[hgl],⟨⟨BQ nP 3 (fun _=>rfl) gs,by omega,by omega,hcm⟩,fun hn=>?_⟩⟩;rw[hgl]at hn;obtain⟨ha,hlt⟩:=zx (by simpa using(hg 0 hn).1);refine⟨a.block,a.off,by rw[<-ha],hlt,hlt,fun j u hu=>?_⟩
  have hjl:j<gs.length*3:=by
   rcases Nat.lt_or_ge j (gs.length*3)with h|h
   ·exact h
   ·rw[List.getElem?_eq_none (by rw[BQ nP 3 (fun _=>rfl) gs];exact h)]at hu;cases hu
  obtain⟨q,r,rfl,hr⟩:∃q r,j=q*3+r/\r<3:=⟨j / 3,j % 3,by omega,by omega⟩;rw[Af nP default 3 (fun _=>rfl) gs q r (by omega) hr]at hu;obtain⟨c0,c1,c2⟩:=hg q (by omega);rw[ha,P6]at c0 c1 c2
  match r,hr with
  | 0,_=>simp only[nP]at hu;have hu:=Option.some.inj hu;rw[<-hu];exact c0
  | 1,_=>simp only[nP]at hu;have hu:=Option.some.inj hu;rw[<-hu];exact c1
  | 2,_=>simp only[nP]at hu;have hu:=Option.some.inj hu;rw[<-hu];exact c2
theorem qaQ {v:Value}{d:DataW H}{p:List MemPlace}(hc:v.cells = #[v])(h:DataW.Trod enc Tryz.prog w base (fun _=>true) held 34 v d p)(hl:Light Tryz.prog 34 d) :
  ∃(A:Option Addr) (c:Nat) (l:List Sg),v = .slice A l.length c/\mG w (· < w.heap.size) A c l:=by
 obtain⟨n,hn⟩:=h;rw[hc]at hn;exact qaP hn hl
end
instance decFm:DecidableEq Fm:=fun _ _=>decidable_of_iff _ mJ
def kX (o:Int):Bool:=decide (o=15) || decide (o=16) || decide (o=17)
theorem qQ {o:Int}:kX o=true ↔ o=15\/o=16\/o=17:=by unfold kX;simp only[Bool.or_eq_true,decide_eq_true_eq,or_assoc]
mutual
def aX:Fm->List Fm
 | .mk o n v b l=>dK l++(if kX o then [.mk o n v b l]else [])
def dK:List Fm->List Fm
 | [] => []
 | f :: l=>aX f++dK l
end
theorem wW (f:Fm):aX f=dK f.args++(if kX f.op then [f]else []):=by cases f;simp only[aX,Fm.op,Fm.args];rfl
theorem DW:∀(l:List Fm) (f:Fm),dK (l ++ [f])=dK l++aX f
 | [],f=>by simp[dK]
 | g :: l,f=>by simp only[List.cons_append,dK,DW l f,List.append_assoc]
theorem zD {x:Fm}:∀{l:List Fm},x∈dK l ↔ ∃g,g∈l/\x∈aX g
 | []=>by simp[dK]
 | f :: l=>by
  simp only[dK,List.mem_append,zD (l:=l),List.mem_cons]
  constructor
  ·rintro(h|⟨g,hg,h⟩)
   ·exact⟨f,.inl rfl,h⟩
   ·exact⟨g,.inr hg,h⟩
  ·rintro⟨g,rfl|hg,h⟩
   ·exact .inl h
   ·exact .inr ⟨g,hg,h⟩
theorem oh {f x:Fm}:x∈aX f ↔ (∃g,g∈f.args/\x∈aX g)\/(kX f.op=true/\x=f):=by
 rw[wW,List.mem_append,zD]
 by_cases h:kX f.op=true
 ·rw[if_pos h];simp[h]
 ·rw[if_neg h];simp[h]
theorem zA {f:Fm}(h:kX f.op=true):f∈aX f:=oh.2 (.inr ⟨h,rfl⟩)
theorem qE {f g x:Fm}(hg:g∈f.args)(h:x∈aX g):x∈aX f:=oh.2 (.inl ⟨g,hg,h⟩)
theorem Fm.tV {P:Fm->Prop}(h:∀f,(∀g,g∈f.args->P g)->P f)(f:Fm):P f :=
 Fm.induct (fun f ih=>h f fun g hg=>by
  obtain⟨i,hi,rfl⟩:=List.getElem_of_mem hg;have:=ih i hi
  rwa [List.getD_eq_getElem?_getD,List.getElem?_eq_getElem hi,Option.getD_some]at this) f
theorem Vm {f:Fm}:∀{x:Fm},x∈aX f->kX x.op=true:=by
 refine Fm.tV (P:=fun f=>∀{x:Fm},x∈aX f->kX x.op=true) ?_ f;intro f ih x hx
 rcases oh.1 hx with⟨g,hg,h⟩|⟨h,rfl⟩
 ·exact ih g hg h
 ·exact h
theorem zB {f:Fm}:∀{x:Fm},x∈aX f->x.size<=f.size:=by
 refine Fm.tV (P:=fun f=>∀{x:Fm},x∈aX f->x.size<=f.size) ?_ f;intro f ih x hx
 rcases oh.1 hx with⟨g,hg,h⟩|⟨h,rfl⟩
 ·have h1:=ih g hg h
  have h2:=gB hg;rw[Fm.size_eq f];omega
 ·exact Nat.le_refl _
theorem DV {f:Fm}:∀{x y:Fm},x∈aX f->y∈aX x->y∈aX f:=by
 refine Fm.tV (P:=fun f=>∀{x y:Fm},x∈aX f->y∈aX x->y∈aX f) ?_ f;intro f ih x y hx hy
 rcases oh.1 hx with⟨g,hg,h⟩|⟨h,rfl⟩
 ·exact qE hg (ih g hg h hy)
 ·exact hy
theorem Jo {Q:Fm->Prop}(hq:∀f g,Q f->g∈f.args->Q g){f:Fm}:Q f->∀{x:Fm},x∈aX f->Q x:=by
 refine Fm.tV (P:=fun f=>Q f->∀{x:Fm},x∈aX f->Q x) ?_ f;intro f ih h x hx
 rcases oh.1 hx with⟨g,hg,h1⟩|⟨_,rfl⟩
 ·exact ih g hg (hq f g h hg) h1
 ·exact h
theorem tY {f g:Fm}(hg:g∈f.args)(h:bG f=true):bG g=true:=by
 unfold bG at h⊢;rw[Bool.and_eq_true]at h⊢;exact⟨XL hg h.1,L6 P9 hg h.2⟩
theorem NZ {f x:Fm}(h:bG f=true)(hx:x∈aX f):bG x=true:=Jo (Q:=fun f=>bG f=true) (fun _ _ h hg=>tY hg h) h hx
theorem Jt {o:Int}(h:kX o=true):(aJ o).past=true/\(aJ o).future=false:=by
 rcases qQ.1 h with rfl|rfl|rfl <;> exact⟨rfl,rfl⟩
theorem Ul (x:Fm×Bool)(h:bY x=true):nU x=true:=by
 unfold bY at h;unfold nU;simp only[Bool.and_eq_true]at h;exact h.1.2
theorem qaT {f:Fm}(h:allI bY true f):allB fC f=true:=by
 rw[<-NY];exact(Yx f).1 (Fa Ul h)
theorem Vl {f:Fm}(h:(aJ f.op).future=false)(ha:∀g,g∈f.args->allB fC g=true):allB fC f=true:=by
 refine qG.2 (dS.2 ⟨by unfold fC;rw[h];rfl,fun g hg=>?_⟩);exact Xo Ro (ha g hg)
theorem yw {f g:Fm}(h:allB fC f=true)(hg:g∈f.args):allB fC g=true:=L6 (q:=fC) (fun _ h=>h) hg h
theorem Vt {f:Fm}(h:bG f=true)(hr:kX f.op=true):allB fC f=true:=by
 have hb:=dS.1 (iY h).2.2;rw[(Jt hr).1,Bool.or_true]at hb;exact Vl (Jt hr).2 fun g hg=>qaT (hb.2 g hg)
def jQ (g:Fm):List Fm->Nat
 | []=>0
 | x :: l=>if x=g then 0 else jQ g l+1
theorem qm {g:Fm}:∀{l:List Fm},jQ g l<l.length ↔ g∈l
 | []=>by simp[jQ]
 | x :: l=>by
  rw[jQ]
  by_cases h:x=g
  ·simp[h]
  ·rw[if_neg h,List.length_cons,Nat.add_lt_add_iff_right,qm,List.mem_cons]
   simp[show¬g=x from fun e=>h e.symm]
theorem oI {g:Fm}:∀{l:List Fm},jQ g l<l.length->l.getD (jQ g l) default=g
 | [],h=>by simp[jQ]at h
 | x :: l,h=>by
  rw[jQ]at h⊢
  by_cases e:x=g
  ·rw[if_pos e];exact e
  ·rw[if_neg e]at h⊢
   rw[List.getD_cons_succ];exact oI (by simpa using h)
theorem Nl {g:Fm}:∀{l:List Fm} {k:Nat},k<jQ g l->l.getD k default≠g
 | [],k,h=>by simp[jQ]at h
 | x :: l,k,h=>by
  rw[jQ]at h
  by_cases e:x=g
  ·rw[if_pos e]at h;omega
  ·rw[if_neg e]at h
   cases k with
   | zero=>exact e
   | succ k=>rw[List.getD_cons_succ];exact Nl (by omega)
theorem xW {g:Fm}{l:List Fm}{k:Nat}(hk:k<l.length)(h:l.getD k default=g):jQ g l<=k:=by
 by_cases hl:k<jQ g l
 ·exact absurd h (Nl hl)
 ·omega
theorem TB {g:Fm}{l:List Fm}{k:Nat}(hk:k<l.length)(h:l.getD k default=g)(hm:∀j,j<k->l.getD j default≠g):jQ g l=k:=by
 have h1:=xW hk h;have h2:¬jQ g l<k:=fun hl=>hm _ hl (oI (by omega));omega
theorem Vj {l:List Fm}(h:l.Nodup){i:Nat}(hi:i<l.length):jQ (l.getD i default) l=i:=by
 refine TB hi rfl fun j hj e=>?_;unfold List.Nodup at h;rw[List.pairwise_iff_getElem]at h;have:=h j i (by omega) hi hj;simp[List.getD,hi,show j<l.length by omega]at e;exact this e
theorem zk {l:List Fm}{i k:Nat}(h:i<k):(l.take k).getD i default=l.getD i default:=by
 simp only[List.getD_eq_getElem?_getD];rw[List.getElem?_take_of_lt h]
theorem Jg {g:Fm}{l:List Fm}{k:Nat}(hk:k<=l.length):jQ g (l.take k)<(l.take k).length ↔ jQ g l<k:=by
 have hlen:(l.take k).length=k:=by rw[List.length_take];omega
 constructor
 ·intro h
  have h1:=oI h;rw[hlen]at h;rw[zk h]at h1;have:=xW (by omega) h1;omega
 ·intro h
  have h1:=oI (g:=g) (l:=l) (by omega);rw[<-zk h]at h1;have:=xW (l:=l.take k) (g:=g) (by omega) h1;omega
def rV (out:List Fm)(g:Fm):List Fm:=if g∈out then out else out ++ [g]
def iy (out L:List Fm):List Fm:=L.foldl rV out
theorem mM (out L M:List Fm):iy out (L++M)=iy (iy out L) M:=List.foldl_append ..
theorem I9 (out:List Fm):iy out []=out:=rfl
theorem zh (out:List Fm)(g:Fm)(L:List Fm):iy out (g :: L)=iy (rV out g) L:=rfl
theorem Ja (out:List Fm)(g:Fm):iy out [g]=rV out g:=rfl
theorem Xn {out:List Fm}{g x:Fm}:x∈rV out g ↔ x∈out\/x=g:=by
 unfold rV
 by_cases h:g∈out
 ·rw[if_pos h]
  constructor
  ·exact .inl
  ·rintro(h1|rfl)
   ·exact h1
   ·exact h
 ·rw[if_neg h];simp
theorem xQ {x:Fm}:∀{L out:List Fm},x∈iy out L ↔ x∈out\/x∈L
 | [],out=>by simp[I9]
 | g :: L,out=>by rw[zh,xQ,Xn,List.mem_cons,or_assoc]
theorem P5 {out:List Fm}{g:Fm}(h:out.Nodup):(rV out g).Nodup:=by
 unfold rV
 by_cases hg:g∈out
 ·rw[if_pos hg];exact h
 ·rw[if_neg hg]
  unfold List.Nodup at h⊢;rw[List.pairwise_append];refine⟨h,List.pairwise_singleton ..,fun a ha b hb e=>?_⟩;rw[List.mem_singleton]at hb;subst hb;subst e;exact hg ha
theorem DF:∀{L out:List Fm},out.Nodup->(iy out L).Nodup
 | [],_,h=>h
 | g :: L,out,h=>by rw[zh];exact DF (P5 h)
theorem Xm (out:List Fm)(g:Fm):out.length<=(rV out g).length/\(rV out g).length<=out.length+1:=by
 unfold rV
 split
 ·omega
 ·simp
theorem tK:∀(L out:List Fm),out.length<=(iy out L).length/\(iy out L).length<=out.length+L.length
 | [],out=>⟨Nat.le_refl _,Nat.le_refl _⟩
 | g :: L,out=>by
  rw[zh];have h1:=tK L (rV out g);have h2:=Xm out g;simp only[List.length_cons];omega
def Zg (l:List Fm):Prop:=∀i,i<l.length->∀g,g∈aX (l.getD i default)->jQ g l<=i
theorem S9:Zg []:=fun i h=>absurd h (Nat.not_lt_zero _)
theorem Xl {out:List Fm}{f:Fm}(h:Zg out)(hs:∀x,x∈aX f->x=f\/x∈out):Zg (rV out f):=by
 unfold rV
 by_cases hf:f∈out
 ·rw[if_pos hf];exact h
 ·rw[if_neg hf]
  intro i hi g hg
  by_cases hl:i<out.length
  ·have e:(out ++ [f]).getD i default=out.getD i default:=by simp[List.getD,List.getElem?_append_left hl]
   rw[e]at hg;have h1:=h i hl g hg;have h2:=oI (g:=g) (l:=out) (by omega);refine Nat.le_trans (xW (k:=jQ g out) (by simp;omega) ?_) h1;have e2:(out ++ [f]).getD (jQ g out) default=out.getD (jQ g out) default:=by simp[List.getD,List.getElem?_append_left (show jQ g out<out.length by omega)]
   rw[e2];exact h2
  ·have hi':i=out.length:=by rw[List.length_append]at hi;simp at hi;omega
   subst hi';have e:(out ++ [f]).getD out.length default=f:=by simp[List.getD]
   rw[e]at hg
   rcases hs g hg with rfl|hm
   ·exact xW (by simp) e
   ·have h1:=qm.2 hm
    have h2:=oI h1;refine Nat.le_trans (xW (k:=jQ g out) (by simp;omega) ?_) (Nat.le_of_lt h1);have e2:(out ++ [f]).getD (jQ g out) default=out.getD (jQ g out) default:=by simp[List.getD,List.getElem?_append_left h1]
    rw[e2];exact h2
theorem UG (f:Fm):∀{out:List Fm},Zg out->Zg (iy out (aX f)):=by
 refine Fm.tV (P:=fun f=>∀{out:List Fm},Zg out->Zg (iy out (aX f))) ?_ f;intro f ih out h
 have key:∀l:List Fm,(∀g,g∈l->g∈f.args)->∀{out:List Fm},Zg out->Zg (iy out (dK l)):=by
  intro l
  induction l with
  | nil=>intro _ out h;exact h
  | cons g l ihl =>
   intro hl out h;simp only[dK];rw[mM];exact ihl (fun x hx=>hl x (by simp[hx])) (ih g (hl g (by simp)) h)
 rw[wW,mM];have h1:=key f.args (fun _ h=>h) h
 by_cases hr:kX f.op=true
 ·rw[if_pos hr,Ja]
  refine Xl h1 fun x hx=>?_
  rcases oh.1 hx with⟨g,hg,h2⟩|⟨_,h2⟩
  ·exact .inr (xQ.2 (.inr (zD.2 ⟨g,hg,h2⟩)))
  ·exact .inl h2
 ·rw[if_neg hr,I9];exact h1
def dH (f:Fm):List Fm:=if bG f then iy [] (aX f)else []
theorem uU {f:Fm}(h:bG f=true):dH f=iy [] (aX f):=by unfold dH;rw[if_pos h]
theorem nX {f x:Fm}(h:bG f=true):x∈dH f ↔ x∈aX f:=by rw[uU h,xQ];simp
theorem KH (f:Fm):(dH f).Nodup:=by
 unfold dH
 split
 ·exact DF List.nodup_nil
 ·exact List.nodup_nil
theorem Rj (f:Fm):Zg (dH f):=by
 unfold dH
 split
 ·exact UG f S9
 ·exact S9
theorem zu {f x:Fm}(h:x∈dH f):bG f=true/\bG x=true/\kX x.op=true/\allB fC x=true:=by
 by_cases hl:bG f=true
 ·rw[nX hl]at h
  have h1:=NZ hl h;have h2:=Vm h;exact⟨hl,h1,h2,Vt h1 h2⟩
 ·unfold dH at h
  rw[if_neg hl]at h;cases h
def kY (l:List Fm):Bool:=decide (l.length<=8)&&pG l.length fun i=>kX (l.getD i default).op&&bG (l.getD i default)&&allB fC (l.getD i default)&&decide (i<=jQ (l.getD i default) l)&&(aX (l.getD i default)).all fun g=>decide (jQ g l<=i)
theorem NR {f:Fm}(h:(dH f).length<=8):kY (dH f)=true:=by
 unfold kY;rw[decide_eq_true h,Bool.true_and,iW];intro i hi;have hm:(dH f).getD i default∈dH f:=by simp[List.getD,hi]
 obtain⟨_,h1,h2,h3⟩:=zu hm;rw[h1,h2,h3,Vj (KH f) hi,decide_eq_true (Nat.le_refl _),Bool.true_and,Bool.true_and,Bool.true_and,Bool.true_and,List.all_eq_true];intro g hg;exact decide_eq_true (Rj f i hi g hg)
def jo:List Bool->Nat
 | []=>0
 | b :: l=>(if b then 1 else 0)+2*jo l
theorem wS:∀l:List Bool,jo l<2 ^ l.length
 | []=>by simp[jo]
 | b :: l=>by
  have:=wS l;rw[jo,List.length_cons,Nat.pow_succ]
  split <;> omega
theorem Cj:∀(l:List Bool) (i:Nat),(jo l).testBit i=l.getD i false
 | [],i=>by simp[jo]
 | b :: l,0=>by
  rw[jo,Nat.testBit_zero]
  cases b <;> simp <;> omega
 | b :: l,i+1=>by
  rw[jo,Nat.testBit_succ,List.getD_cons_succ,<-Cj l i]
  congr 1
  split <;> omega
theorem zo (b:Bool):∀l:List Bool,jo (l ++ [b])=jo l+(if b then 2 ^ l.length else 0)
 | []=>by cases b <;> simp[jo]
 | c :: l=>by
  rw[List.cons_append,jo,jo,zo b l,List.length_cons,Nat.pow_succ]
  cases b <;> simp <;> omega
theorem YC (l:List Bool):jo (l ++ [true])=jo l ||| (1 <<< l.length):=by
 rw[zo,if_pos rfl,Nat.one_shiftLeft,Nat.or_comm];have:=Nat.two_pow_add_eq_or_of_lt (wS l) 1;rw[Nat.mul_one]at this;omega
def qbO (o:Int)(a s:Bool)(bs:List Bool):Bool :=
 if o=1 then true else if o=3 then a else if o=4 then !bs.getD 0 false else if o=5 then bs.all id else if o=6 then bs.any id
 else if o=15 then s else if o=16 then bs.getD 1 false || (bs.getD 0 false&&s)else if o=17 then bs.getD 1 false&&(bs.getD 0 false || s)else false
mutual
def fD (sg:ByteArray->Int->Bool)(sy:Fm->Bool):Fm->Bool
 | .mk o n v b l=>qbO o (sg n v) (sy (.mk o n v b l)) (TJ sg sy l)
def TJ (sg:ByteArray->Int->Bool)(sy:Fm->Bool):List Fm->List Bool
 | [] => []
 | f :: l=>fD sg sy f :: TJ sg sy l
end
theorem Jl (sg:ByteArray->Int->Bool)(sy:Fm->Bool):∀l:List Fm,TJ sg sy l=l.map (fD sg sy)
 | []=>rfl
 | f :: l=>by simp only[TJ,List.map_cons,Jl sg sy l]
theorem TI (sg:ByteArray->Int->Bool)(sy:Fm->Bool)(f:Fm):fD sg sy f=qbO f.op (sg f.name f.val) (sy f) (f.args.map (fD sg sy)):=by
 cases f;simp only[fD,Fm.op,Fm.name,Fm.val,Fm.args,Jl]
theorem oW {α β : Type}(φ : α -> β)(l:List α)(i:Nat)(d : α)(e : β)(h:i<l.length):(l.map φ).getD i e = φ (l.getD i d):=by
 simp[List.getD,h]
def bH (nodes:List Fm)(mem:Nat)(f:Fm):Bool:=mem.testBit (jQ f nodes)
def CY (nodes:List Fm):List Bool:=nodes.map fun n=>decide (n.val=1)
def sD (nodes:List Fm):Nat:=jo (CY nodes)
def jR (n:Fm):Fm:=if n.op=15 then n.args.getD 0 default else n
def Jj (sg:ByteArray->Int->Bool)(nodes:List Fm)(mem:Nat):List Bool:=nodes.map fun n=>fD sg (bH nodes mem) (jR n)
def rG (sg:ByteArray->Int->Bool)(nodes:List Fm)(mem:Nat):Nat:=jo (Jj sg nodes mem)
theorem VK (nodes:List Fm):sD nodes<2 ^ nodes.length:=by have:=wS (CY nodes);unfold CY at this;rwa [List.length_map]at this
theorem YD (sg:ByteArray->Int->Bool)(nodes:List Fm)(mem:Nat):rG sg nodes mem<2 ^ nodes.length:=by have:=wS (Jj sg nodes mem);unfold Jj at this;rwa [List.length_map]at this
theorem mQ {o:Int}(h:(aJ o).loose=true):yB o\/o=3\/o=4:=by
 unfold aJ at h
 split at h
 ·rename_i h1
  unfold isOp at h1;rw[Bool.and_eq_true,decide_eq_true_eq,decide_eq_true_eq]at h1;have:o=1\/o=2\/o=3\/o=4\/o=5\/o=6\/o=7\/o=8\/o=9\/o=10\/o=11\/o=12\/o=13\/o=14\/o=15\/o=16\/o=17\/o=18\/o=19:=by omega
  unfold yB
  rcases this with rfl|rfl|rfl|rfl|rfl|rfl|rfl|rfl|rfl|rfl|rfl|rfl|rfl|rfl|rfl|rfl|rfl|rfl|rfl <;> first|exact absurd h (by decide)|omega
 ·cases h
theorem jA {f:Fm}(h:bG f=true):Bare f:=⟨_,(iY h).2.2⟩
mutual
def iq (vb:Fm->Int):Fm->Fm
 | .mk o n v b l => .mk o n (if kX o then vb (.mk o n v b l)else v) b (J5 vb l)
def J5 (vb:Fm->Int):List Fm->List Fm
 | [] => []
 | f :: l=>iq vb f :: J5 vb l
end
theorem EZ (vb:Fm->Int):∀l:List Fm,J5 vb l=l.map (iq vb)
 | []=>rfl
 | f :: l=>by simp only[J5,List.map_cons,EZ vb l]
theorem sS (vb:Fm->Int)(f:Fm):iq vb f = .mk f.op f.name (if kX f.op then vb f else f.val) f.bound (f.args.map (iq vb)):=by
 cases f;simp only[iq,Fm.op,Fm.name,Fm.val,Fm.bound,Fm.args,EZ];rfl
section
variable (vb:Fm->Int)(f:Fm)
theorem SN:(iq vb f).op=f.op:=by rw[sS];rfl
theorem Iy:(iq vb f).name=f.name:=by rw[sS];rfl
theorem LZ:(iq vb f).val=if kX f.op then vb f else f.val:=by rw[sS];rfl
theorem E5:(iq vb f).bound=f.bound:=by rw[sS];rfl
theorem xH:(iq vb f).args=f.args.map (iq vb):=by rw[sS];rfl
end
theorem Ui (f:Fm):iq Fm.val f=f:=by
 refine Fm.tV (P:=fun f=>iq Fm.val f=f) ?_ f;intro f ih
 have e:f.args.map (iq Fm.val)=f.args:=by
  have:f.args.map (iq Fm.val)=f.args.map id:=List.map_congr_left fun g hg=>ih g hg;rw[this,List.map_id]
 rw[sS,e,ite_self,f.eta]
def Qb (nodes:List Fm)(mem:Nat)(f:Fm):Int:=if bH nodes mem f then 1 else 0
def qaW (nodes:List Fm)(mem:Nat)(f:Fm):Fm:=iq (Qb nodes mem) f
def Per {α : Type}(u:Nat -> α)(b L:Nat):Prop:=∀t,b<=t->u (t+L)=u t
theorem Per.mono {α : Type}{u:Nat -> α}{b c L:Nat}(h:Per u b L)(hc:b<=c):Per u c L:=fun t ht=>h t (Nat.le_trans hc ht)
theorem Per.mul {α : Type}{u:Nat -> α}{b L:Nat}(h:Per u b L):∀(k t:Nat),b<=t->u (t+k*L)=u t
 | 0,t,_=>by rw[Nat.zero_mul,Nat.add_zero]
 | k+1,t,ht=>by
  rw[Nat.succ_mul,<-Nat.add_assoc,h (t+k*L) (by omega)];exact h.mul k t ht
def fO (b L t:Nat):Nat:=if t<b+L then t else b+(t-b) % L
theorem kW {b L t:Nat}(hL:0<L):fO b L t<b+L:=by
 unfold fO
 split
 ·assumption
 ·have:=Nat.mod_lt (t-b) hL;omega
theorem Per.place {α : Type}{u:Nat -> α}{b L:Nat}(h:Per u b L)(hL:0<L)(t:Nat):u (fO b L t)=u t:=by
 unfold fO
 split
 ·rfl
 ·have h1:=h.mul ((t-b) / L) (b+(t-b) % L) (by omega)
  have h2:b+(t-b) % L+(t-b) / L*L=t:=by
   have:=Nat.mod_add_div (t-b) L;rw[Nat.mul_comm]at this;omega
  rw[h2]at h1;exact h1.symm
theorem Gl {b L t:Nat}(ht:t<b+L):fO b L (t+1)=if t+1=b+L then b else t+1:=by
 unfold fO
 by_cases h:t+1=b+L
 ·rw[if_neg (by omega),if_pos h,h]
  have:b+L-b=L:=by omega
  rw[this,Nat.mod_self];rfl
 ·rw[if_pos (by omega),if_neg h]
open Classical in
noncomputable def mZ (a b:Nat->Bool)(t:Nat):Bool:=decide (∃k,t<=k/\b k=true/\∀j,t<=j->j<k->a j=true)
theorem lJ {a b:Nat->Bool}{t:Nat}:mZ a b t=true ↔ ∃k,t<=k/\b k=true/\∀j,t<=j->j<k->a j=true:=by
 unfold mZ;simp only[decide_eq_true_eq]
theorem Oz (a b:Nat->Bool)(t:Nat):mZ a b t=(b t || (a t&&mZ a b (t+1))):=by
 rw[Bool.eq_iff_iff,Bool.or_eq_true,Bool.and_eq_true,lJ,lJ]
 constructor
 ·rintro⟨k,hk,hb,ha⟩
  by_cases e:k=t
  ·subst e;exact .inl hb
  ·exact .inr ⟨ha t (Nat.le_refl _) (by omega),k,by omega,hb,fun j h1 h2=>ha j (by omega) h2⟩
 ·rintro(hb|⟨ha,k,hk,hb,h⟩)
  ·exact⟨t,Nat.le_refl _,hb,fun j h1 h2=>by omega⟩
  ·refine⟨k,by omega,hb,fun j h1 h2=>?_⟩
   by_cases e:j=t
   ·rw[e];exact ha
   ·exact h j (by omega) h2
theorem zH {a b:Nat->Bool}{c L:Nat}(ha:Per a c L)(hb:Per b c L):Per (mZ a b) c L:=by
 intro t ht;rw[Bool.eq_iff_iff,lJ,lJ]
 constructor
 ·rintro⟨k,hk,h1,h2⟩
  refine⟨k-L,by omega,?_,fun j h3 h4=>?_⟩
  ·have:=hb (k-L) (by omega);rw[show k-L+L=k by omega]at this;rw[<-this];exact h1
  ·rw[<-ha j (by omega)];exact h2 (j+L) (by omega) (by omega)
 ·rintro⟨k,hk,h1,h2⟩
  refine⟨k+L,by omega,by rw[hb k (by omega)];exact h1,fun j h3 h4=>?_⟩;have:=ha (j-L) (by omega);rw[show j-L+L=j by omega]at this;rw[this];exact h2 (j-L) (by omega) (by omega)
def TQ (a b:Nat->Bool)(n t:Nat):Prop:=∃k,t<=k/\k<n/\b k=true/\∀j,t<=j->j<k->a j=true
def uq (b L:Nat)(u v:List Bool)(i:Nat)(out:List Bool):List Bool :=
 out.set (b+L-1-i % (b+L)) (v.getD (b+L-1-i % (b+L)) false || (u.getD (b+L-1-i % (b+L)) false&&out.getD (fO b L (b+L-1-i % (b+L)+1)) false))
def iJ (b L:Nat)(u v:List Bool):Nat->List Bool
 | 0=>List.replicate (b+L) false
 | k+1=>uq b L u v k (iJ b L u v k)
def vF (b L:Nat)(u v:List Bool):List Bool:=iJ b L u v (2*(b+L))
theorem jJ (b L:Nat)(u v:List Bool):∀k,(iJ b L u v k).length=b+L
 | 0=>List.length_replicate ..
 | k+1=>by rw[iJ,uq,List.length_set,jJ]
theorem Jd {l:List Bool}{i j:Nat}{x:Bool}(hi:i<l.length):(l.set i x).getD j false=if j=i then x else l.getD j false:=by
 rw[List.getD_eq_getElem?_getD,List.getElem?_set]
 by_cases e:i=j
 ·subst e;simp[hi]
 ·rw[if_neg e,if_neg (fun h=>e h.symm),List.getD_eq_getElem?_getD]
def oO (n:Nat)(r:List Bool)(u:Nat->Bool):Prop:=r.length=n/\∀t,t<n->r.getD t false=u t
section
variable {b L:Nat}{ru rv:List Bool}{u v:Nat->Bool}
theorem VO (hL:0<L)(hu:oO (b+L) ru u)(hv:oO (b+L) rv v):∀k,k<=b+L->∀t,t<b+L ->
  ((iJ b L ru rv k).getD t false=true ↔ (b+L-k<=t/\TQ u v (b+L) t)):=by
 intro k
 induction k with
 | zero =>
  intro _ t ht;rw[iJ,List.getD_eq_getElem?_getD,List.getElem?_replicate,if_pos ht];simp;omega
 | succ k ih =>
  intro hk t ht;have ih:=ih (by omega);rw[iJ,uq,Nat.mod_eq_of_lt (show k<b+L by omega)];obtain⟨p,hp⟩:∃p,p=b+L-1-k:=⟨_,rfl⟩;rw[<-hp];have hpl:p<b+L:=by omega
  rw[Jd (by rw[jJ];exact hpl)]
  by_cases e:t=p
  ·rw[if_pos e,hu.2 p hpl,hv.2 p hpl,Gl hpl,e]
   have hge:b+L-(k+1)<=p:=by omega
   rw[Bool.or_eq_true,Bool.and_eq_true]
   constructor
   ·rintro(h|⟨h1,h2⟩)
    ·exact⟨hge,p,Nat.le_refl _,hpl,h,fun j h1 h2=>by omega⟩
    ·by_cases e2:p+1=b+L
     ·rw[if_pos e2]at h2
      have:=((ih b (by omega)).1 h2).1;omega
     ·rw[if_neg e2]at h2
      obtain⟨_,m,hm1,hm2,hm3,hm4⟩:=(ih (p+1) (by omega)).1 h2;refine⟨hge,m,by omega,hm2,hm3,fun j h3 h4=>?_⟩
      by_cases e3:j=p
      ·rw[e3];exact h1
      ·exact hm4 j (by omega) h4
   ·rintro⟨_,m,hm1,hm2,hm3,hm4⟩
    by_cases e2:m=p
    ·subst e2;exact .inl hm3
    ·refine .inr ⟨hm4 p (Nat.le_refl _) (by omega),?_⟩
     rw[if_neg (by omega)];exact(ih (p+1) (by omega)).2 ⟨by omega,m,by omega,hm2,hm3,fun j h3 h4=>hm4 j (by omega) h4⟩
  ·rw[if_neg e,ih t ht]
   constructor
   ·rintro⟨h1,h2⟩;exact⟨by omega,h2⟩
   ·rintro⟨h1,h2⟩;exact⟨by omega,h2⟩
theorem Ik (hL:0<L)(hu:Per u b L)(hv:Per v b L){t:Nat}(ht:b<=t)(htl:t<=b+L)(h:mZ u v t=true):∃k,t<=k/\k<t+L/\v k=true/\∀j,t<=j->j<k->u j=true:=by
 obtain⟨k,hk⟩:=lJ.1 h
 have key:∀n k,k<=n->(t<=k/\v k=true/\∀j,t<=j->j<k->u j=true)->∃k,t<=k/\k<t+L/\v k=true/\∀j,t<=j->j<k->u j=true:=by
  intro n
  induction n with
  | zero=>intro k hkn h;exact⟨k,h.1,by omega,h.2⟩
  | succ n ih =>
   intro k hkn h
   by_cases hl:k<t+L
   ·exact⟨k,h.1,hl,h.2⟩
   ·refine ih (k-L) (by omega) ⟨by omega,?_,fun j h1 h2=>h.2.2 j h1 (by omega)⟩
    have:=hv (k-L) (by omega);rw[show k-L+L=k by omega]at this;rw[<-this];exact h.2.1
 exact key k k (Nat.le_refl _) hk
theorem VP (hL:0<L)(hu:oO (b+L) ru u)(hv:oO (b+L) rv v)(pu:Per u b L)(pv:Per v b L):∀k,k<=b+L->∀t,t<b+L ->
  (((iJ b L ru rv (b+L+k)).getD t false=true->mZ u v t=true)/\(b+L-k<=t->mZ u v t=true->(iJ b L ru rv (b+L+k)).getD t false=true)/\(TQ u v (b+L) t->(iJ b L ru rv (b+L+k)).getD t false=true)):=by
 have hP:=zH pu pv;intro k
 induction k with
 | zero =>
  intro _ t ht;rw[Nat.add_zero];have h1:=VO hL hu hv (b+L) (Nat.le_refl _) t ht;refine⟨fun h=>?_,fun h=>by omega,fun h=>h1.2 ⟨by omega,h⟩⟩;obtain⟨_,m,a1,a2,a3,a4⟩:=h1.1 h;exact lJ.2 ⟨m,a1,a3,a4⟩
 | succ k ih =>
  intro hk t ht;have ih:=ih (by omega);rw[<-Nat.add_assoc,iJ,uq,Nat.add_mod_left,Nat.mod_eq_of_lt (show k<b+L by omega)];obtain⟨p,hp⟩:∃p,p=b+L-1-k:=⟨_,rfl⟩;rw[<-hp];have hpl:p<b+L:=by omega
  rw[Jd (by rw[jJ];exact hpl)]
  by_cases e:t=p
  ·subst e
   rw[if_pos rfl,hu.2 t hpl,hv.2 t hpl,Gl hpl,Bool.or_eq_true,Bool.and_eq_true,Oz u v t,Bool.or_eq_true,Bool.and_eq_true]
   have hnext:∀q,(q=if t+1=b+L then b else t+1)->mZ u v q=mZ u v (t+1):=by
    intro q hq
    by_cases e2:t+1=b+L
    ·rw[if_pos e2]at hq
     rw[hq,e2];exact(hP b (Nat.le_refl _)).symm
    ·rw[if_neg e2]at hq;rw[hq]
   obtain⟨q,hq⟩:∃q,q=if t+1=b+L then b else t+1:=⟨_,rfl⟩;rw[<-hq]
   have UU:q<b+L:=by rw[hq];split <;> omega
   have hqe:=hnext q hq
   have back:mZ u v q=true->(iJ b L ru rv (b+L+k)).getD q false=true:=by
    intro h
    by_cases e2:t+1=b+L
    ·rw[if_pos e2]at hq
     subst hq;obtain⟨m,a1,a2,a3,a4⟩:=Ik hL pu pv (Nat.le_refl _) (by omega) h;exact(ih q UU).2.2 ⟨m,a1,a2,a3,a4⟩
    ·rw[if_neg e2]at hq
     exact(ih q UU).2.1 (by omega) h
   refine⟨?_,?_,?_⟩
   ·rintro(h|⟨h1,h2⟩)
    ·exact .inl h
    ·exact .inr ⟨h1,by rw[<-hqe];exact(ih q UU).1 h2⟩
   ·rintro _ (h|⟨h1,h2⟩)
    ·exact .inl h
    ·exact .inr ⟨h1,back (by rw[hqe];exact h2)⟩
   ·rintro⟨m,a1,a2,a3,a4⟩
    by_cases e3:m=t
    ·subst e3;exact .inl a3
    ·refine .inr ⟨a4 t (Nat.le_refl _) (by omega),back ?_⟩
     rw[hqe];exact lJ.2 ⟨m,by omega,a3,fun j h1 h2=>a4 j (by omega) h2⟩
  ·rw[if_neg e]
   obtain⟨h1,h2,h3⟩:=ih t ht;refine⟨h1,fun h4=>h2 (by omega),h3⟩
theorem JD (hL:0<L)(hu:oO (b+L) ru u)(hv:oO (b+L) rv v)(pu:Per u b L)(pv:Per v b L):oO (b+L) (vF b L ru rv) (mZ u v):=by
 refine⟨jJ ..,fun t ht=>?_⟩;unfold vF;have h:=VP hL hu hv pu pv (b+L) (Nat.le_refl _) t ht;rw[show 2*(b+L)=b+L+(b+L)by omega,Bool.eq_iff_iff];exact⟨h.1,h.2.1 (by omega)⟩
end
noncomputable def wZ (a b:Nat->Bool)(t:Nat):Bool := !mZ (fun k => !a k) (fun k => !b k) t
def uX (b L:Nat)(u v:List Bool)(i:Nat)(out:List Bool):List Bool :=
 out.set (b+L-1-i % (b+L)) (v.getD (b+L-1-i % (b+L)) false&&(u.getD (b+L-1-i % (b+L)) false || out.getD (fO b L (b+L-1-i % (b+L)+1)) false))
def iU (b L:Nat)(u v:List Bool):Nat->List Bool
 | 0=>List.replicate (b+L) true
 | k+1=>uX b L u v k (iU b L u v k)
def pq (b L:Nat)(u v:List Bool):List Bool:=iU b L u v (2*(b+L))
theorem mX (b L:Nat)(u v:List Bool):∀k,(iU b L u v k).length=b+L
 | 0=>List.length_replicate ..
 | k+1=>by rw[iU,uX,List.length_set,mX]
theorem qB {l:List Bool}{t:Nat}(h:t<l.length):(l.map (!·)).getD t false = !l.getD t false:=by simp[List.getD,h]
theorem AY {b L:Nat}{u v:List Bool}(hL:0<L)(hu:u.length=b+L)(hv:v.length=b+L):∀k,iU b L u v k=(iJ b L (u.map (!·)) (v.map (!·)) k).map (!·)
 | 0=>by rw[iU,iJ,List.map_replicate];rfl
 | k+1=>by
  rw[iU,iJ,uX,uq,AY hL hu hv k,List.map_set]
  congr 1
  have h1:b+L-1-k % (b+L)<b+L:=by omega
  have h2:fO b L (b+L-1-k % (b+L)+1)<b+L:=kW hL;rw[qB (l:=iJ b L (u.map (!·)) (v.map (!·)) k) (by rw[jJ];exact h2),qB (l:=v) (by rw[hv];exact h1),qB (l:=u) (by rw[hu];exact h1)]
  cases v.getD (b+L-1-k % (b+L)) false <;> cases u.getD (b+L-1-k % (b+L)) false <;> simp
theorem KW {a b:Nat->Bool}{c L:Nat}(ha:Per a c L)(hb:Per b c L):Per (wZ a b) c L:=by
 intro t ht;unfold wZ;rw[zH (a:=fun k => !a k) (b:=fun k => !b k) (fun t ht=>by simp only[ha t ht]) (fun t ht=>by simp only[hb t ht]) t ht]
theorem N9 {b L:Nat}{ru rv:List Bool}{u v:Nat->Bool}(hL:0<L)(hu:oO (b+L) ru u)(hv:oO (b+L) rv v)(pu:Per u b L)(pv:Per v b L):oO (b+L) (pq b L ru rv) (wZ u v):=by
 refine⟨mX ..,fun t ht=>?_⟩;unfold pq wZ;rw[AY hL hu.1 hv.1,qB (by rw[jJ];exact ht)];have:=(JD (ru:=ru.map (!·)) (rv:=rv.map (!·)) (u:=fun k => !u k) (v:=fun k => !v k) hL ⟨by rw[List.length_map];exact hu.1,fun t ht=>by rw[qB (by rw[hu.1];exact ht),hu.2 t ht]⟩ ⟨by rw[List.length_map];exact hv.1,fun t ht=>by rw[qB (by rw[hv.1];exact ht),hv.2 t ht]⟩ (fun t ht=>by simp only[pu t ht]) (fun t ht=>by simp only[pv t ht])).2 t ht;unfold vF at this;rw[this]
def fA (a b:Nat->Bool)(c:Bool):Nat->Bool
 | 0=>b 0 || (a 0&&c)
 | t+1=>b (t+1) || (a (t+1)&&fA a b c t)
def dU (a b:Nat->Bool)(c:Bool):Nat->Bool
 | 0=>b 0&&(a 0 || c)
 | t+1=>b (t+1)&&(a (t+1) || dU a b c t)
theorem vC (a b:Nat->Bool)(c:Bool):∀t,dU a b c t = !fA (fun k => !a k) (fun k => !b k) (!c) t
 | 0=>by simp only[dU,fA];cases b 0 <;> cases a 0 <;> cases c <;> rfl
 | t+1=>by simp only[dU,fA,vC a b c t];cases b (t+1) <;> cases a (t+1) <;> simp
theorem RV {a b:Nat->Bool}{c:Bool}{L p:Nat}(hp:(b p || !a p)=true)(h1:b (p+L)=b p)(h2:a (p+L)=a p) :
  ∀t,p<=t->(∀k,p<=k->k<=t->a (k+L)=a k/\b (k+L)=b k)->fA a b c (t+L)=fA a b c t:=by
 have base:∀q,(b q || !a q)=true->fA a b c q=b q:=by
  intro q hq
  cases q with
  | zero=>simp only[fA];revert hq;cases b 0 <;> cases a 0 <;> simp
  | succ q=>simp only[fA];revert hq;cases b (q+1) <;> cases a (q+1) <;> simp
 intro t
 induction t with
 | zero =>
  intro ht _;obtain rfl:p=0:=by omega
  rw[base _ (by rw[h1,h2];exact hp),base _ hp,h1]
 | succ t ih =>
  intro ht hk
  by_cases e:p=t+1
  ·subst e
   rw[base _ (by rw[h1,h2];exact hp),base _ hp,h1]
  ·have h3:=ih (by omega) fun k a1 a2=>hk k a1 (by omega)
   have h4:=hk (t+1) ht (Nat.le_refl _);have e1:t+1+L=(t+L)+1:=by omega
   rw[e1]at h4⊢;simp only[fA];rw[h4.1,h4.2,h3]
theorem D7 {a b:Nat->Bool}{c:Bool}{p:Nat}:∀n,(∀k,p<k->k<=p+n->a k=true/\b k=false)->fA a b c (p+n)=fA a b c p
 | 0,_=>rfl
 | n+1,h=>by
  have h1:=h (p+n+1) (by omega) (by omega);rw[<-Nat.add_assoc];simp only[fA];rw[h1.1,h1.2,D7 n fun k a1 a2=>h k a1 (by omega)];simp
theorem GN {a b:Nat->Bool}{c:Bool}{d L:Nat}(ha:Per a d L)(hb:Per b d L):Per (fA a b c) (d+L) L:=by
 intro t ht
 by_cases h:∃p,d<=p/\p<=t/\(b p || !a p)=true
 ·obtain⟨p,h1,h2,h3⟩:=h
  exact RV h3 (hb p h1) (ha p h1) t h2 fun k a1 a2=>⟨ha k (by omega),hb k (by omega)⟩
 ·have key:∀p,d<=p->p<=t->a p=true/\b p=false:=by
   intro p h1 h2;have:¬(b p || !a p)=true:=fun h3=>h ⟨p,h1,h2,h3⟩
   revert this
   cases a p <;> cases b p <;> simp
  have k2:∀k,t<k->k<=t+L->a k=true/\b k=false:=by
   intro k h1 h2;have:=key (k-L) (by omega) (by omega);have e1:=ha (k-L) (by omega);have e2:=hb (k-L) (by omega);rw[show k-L+L=k by omega]at e1 e2;rw[e1,e2];exact this
  exact D7 L k2
theorem Ll {a b:Nat->Bool}{c:Bool}{d L:Nat}(ha:Per a d L)(hb:Per b d L):Per (dU a b c) (d+L) L:=by
 intro t ht;rw[vC,vC,GN (a:=fun k => !a k) (b:=fun k => !b k) (fun t ht=>by simp only[ha t ht]) (fun t ht=>by simp only[hb t ht]) t ht]
def ku (n:Nat)(u:Nat->Bool):List Bool:=(List.range n).map u
theorem oK (n:Nat)(u:Nat->Bool):oO n (ku n u) u:=by
 refine⟨by unfold ku;simp,fun t ht=>?_⟩;unfold ku;simp[List.getD,ht]
theorem oO.congr {n:Nat}{r:List Bool}{u v:Nat->Bool}(h:oO n r u)(e:∀t,t<n->u t=v t):oO n r v:=⟨h.1,fun t ht=>(h.2 t ht).trans (e t ht)⟩
def dN (r:List Bool)(t:Nat):Bool:=r.getD t false
def Ot (b L:Nat)(a:Nat->Bool)(o v:Int)(rs:List (List Bool)):List Bool :=
 if o=1 then ku (b+L) fun _=>true
 else if o=2 then ku (b+L) fun _=>false
 else if o=3 then ku (b+L) a
 else if o=4 then ku (b+L) fun t => !dN (rs.getD 0 []) t
 else if o=5 then ku (b+L) fun t=>rs.all fun r=>dN r t
 else if o=6 then ku (b+L) fun t=>rs.any fun r=>dN r t
 else if o=8 then ku (b+L) fun t=>dN (rs.getD 0 []) (fO b L (t+1))
 else if o=9 then vF b L (rs.getD 0 []) (rs.getD 1 [])
 else if o=10 then pq b L (rs.getD 0 []) (rs.getD 1 [])
 else if o=15 then ku (b+L) fun t=>(decide (t=0)&&decide (v=1)) || (decide (0<t)&&dN (rs.getD 0 []) (t-1))
 else if o=16 then ku (b+L) (fA (dN (rs.getD 0 [])) (dN (rs.getD 1 [])) (decide (v=1)))
 else if o=17 then ku (b+L) (dU (dN (rs.getD 0 [])) (dN (rs.getD 1 [])) (decide (v=1)))
 else []
mutual
def qR (b L:Nat)(sg:Nat->ByteArray->Int->Bool):Fm->List Bool
 | .mk o n v bd l=>Ot b L (fun t=>sg t n v) o v (TL b L sg l)
def TL (b L:Nat)(sg:Nat->ByteArray->Int->Bool):List Fm->List (List Bool)
 | [] => []
 | f :: l=>qR b L sg f :: TL b L sg l
end
theorem Ju (b L:Nat)(sg:Nat->ByteArray->Int->Bool):∀l:List Fm,TL b L sg l=l.map (qR b L sg)
 | []=>rfl
 | f :: l=>by simp only[TL,List.map_cons,Ju b L sg l]
theorem KZ (b L:Nat)(sg:Nat->ByteArray->Int->Bool)(f:Fm):qR b L sg f=Ot b L (fun t=>sg t f.name f.val) f.op f.val (f.args.map (qR b L sg)):=by
 cases f;simp only[qR,Fm.op,Fm.name,Fm.val,Fm.args,Ju]
noncomputable def stepS (a:Nat->Bool)(o v:Int)(us:List (Nat->Bool))(t:Nat):Bool :=
 if o=1 then true
 else if o=2 then false
 else if o=3 then a t
 else if o=4 then !us.getD 0 (fun _=>false) t
 else if o=5 then us.all fun u=>u t
 else if o=6 then us.any fun u=>u t
 else if o=8 then us.getD 0 (fun _=>false) (t+1)
 else if o=9 then mZ (us.getD 0 fun _=>false) (us.getD 1 fun _=>false) t
 else if o=10 then wZ (us.getD 0 fun _=>false) (us.getD 1 fun _=>false) t
 else if o=15 then(decide (t=0)&&decide (v=1)) || (decide (0<t)&&us.getD 0 (fun _=>false) (t-1))
 else if o=16 then fA (us.getD 0 fun _=>false) (us.getD 1 fun _=>false) (decide (v=1)) t
 else if o=17 then dU (us.getD 0 fun _=>false) (us.getD 1 fun _=>false) (decide (v=1)) t
 else false
mutual
noncomputable def iF (sg:Nat->ByteArray->Int->Bool):Fm->Nat->Bool
 | .mk o n v bd l=>stepS (fun t=>sg t n v) o v (TM sg l)
noncomputable def TM (sg:Nat->ByteArray->Int->Bool):List Fm->List (Nat->Bool)
 | [] => []
 | f :: l=>iF sg f :: TM sg l
end
theorem Jw (sg:Nat->ByteArray->Int->Bool):∀l:List Fm,TM sg l=l.map (iF sg)
 | []=>rfl
 | f :: l=>by simp only[TM,List.map_cons,Jw sg l]
theorem EH (sg:Nat->ByteArray->Int->Bool)(f:Fm):iF sg f=stepS (fun t=>sg t f.name f.val) f.op f.val (f.args.map (iF sg)):=by
 cases f;simp only[iF,Fm.op,Fm.name,Fm.val,Fm.args,Jw]
mutual
def fB:Fm->Nat
 | .mk o n v b l=>iD l+(if 15<=o/\o<=19 then 1 else 0)
def iD:List Fm->Nat
 | []=>0
 | f :: l=>max (fB f) (iD l)
end
theorem tZ (f:Fm):fB f=iD f.args+(if 15<=f.op/\f.op<=19 then 1 else 0):=by cases f;simp only[fB,Fm.op,Fm.args];rfl
theorem qN:∀{l:List Fm} {f:Fm},f∈l->fB f<=iD l
 | [],_,h=>by cases h
 | g :: l,f,h=>by
  rw[iD]
  rcases List.mem_cons.1 h with e|e
  ·subst e;omega
  ·have:=qN e;omega
theorem Vg {f g:Fm}(h:g∈f.args):fB g<=fB f:=by rw[tZ f];have:=qN h;omega
theorem Q5 {f g:Fm}(h:g∈f.args)(hr:kX f.op=true):fB g+1<=fB f:=by
 rw[tZ f,if_pos]
 ·have:=qN h;omega
 ·rcases qQ.1 hr with e|e|e <;> omega
theorem zi {α : Type}(φ : Fm -> α)(l:List Fm)(i:Nat)(d : α)(h:i<l.length):(l.map φ).getD i d = φ (l.getD i default):=by simp[List.getD,h]
theorem cO {l:List Fm}{i:Nat}(h:i<l.length):l.getD i default∈l:=by simp[List.getD,h]
theorem uH {α β : Type}{p : α -> Bool}{q : β -> Bool}{φ : Fm -> α}{ψ : Fm -> β}:∀{l:List Fm},(∀g,g∈l->p (φ g)=q (ψ g))->(l.map φ).all p=(l.map ψ).all q
 | [],_=>rfl
 | f :: l,h=>by simp only[List.map_cons,List.all_cons];rw[h f (by simp),uH fun g hg=>h g (by simp[hg])]
theorem uI {α β : Type}{p : α -> Bool}{q : β -> Bool}{φ : Fm -> α}{ψ : Fm -> β}:∀{l:List Fm},(∀g,g∈l->p (φ g)=q (ψ g))->(l.map φ).any p=(l.map ψ).any q
 | [],_=>rfl
 | f :: l,h=>by simp only[List.map_cons,List.any_cons];rw[h f (by simp),uI fun g hg=>h g (by simp[hg])]
theorem Bd {a b a' b':Nat->Bool}{c:Bool}:∀t,(∀k,k<=t->a k=a' k/\b k=b' k)->fA a b c t=fA a' b' c t
 | 0,h=>by simp only[fA];rw[(h 0 (Nat.le_refl _)).1,(h 0 (Nat.le_refl _)).2]
 | t+1,h=>by simp only[fA];rw[(h (t+1) (Nat.le_refl _)).1,(h (t+1) (Nat.le_refl _)).2,Bd t fun k hk=>h k (by omega)]
theorem xu {a b a' b':Nat->Bool}{c:Bool}:∀t,(∀k,k<=t->a k=a' k/\b k=b' k)->dU a b c t=dU a' b' c t
 | 0,h=>by simp only[dU];rw[(h 0 (Nat.le_refl _)).1,(h 0 (Nat.le_refl _)).2]
 | t+1,h=>by simp only[dU];rw[(h (t+1) (Nat.le_refl _)).1,(h (t+1) (Nat.le_refl _)).2,xu t fun k hk=>h k (by omega)]
theorem nJ {f:Fm}(h:Bare f):(f.op=4\/f.op=8\/f.op=15->f.args.length=1)/\(f.op=9\/f.op=10\/f.op=16\/f.op=17->f.args.length=2):=by
 have hs:=jI h.node.2.1
 constructor
 ·intro h1
  have:(aJ f.op).least=1/\(aJ f.op).most=1:=by rcases h1 with e|e|e <;> rw[e] <;> exact⟨rfl,rfl⟩
  omega
 ·intro h1
  have:(aJ f.op).least=2/\(aJ f.op).most=2:=by rcases h1 with e|e|e|e <;> rw[e] <;> exact⟨rfl,rfl⟩
  omega
theorem qa4 {b L s:Nat}{sg:Nat->ByteArray->Int->Bool}(hL:0<L)(hsg:∀n v,Per (fun t=>sg t n v) s L)(f:Fm):Bare f->s+fB f*L<=b ->
  oO (b+L) (qR b L sg f) (iF sg f)/\Per (iF sg f) (s+fB f*L) L:=by
 refine Fm.tV (P:=fun f=>Bare f->s+fB f*L<=b->oO (b+L) (qR b L sg f) (iF sg f)/\Per (iF sg f) (s+fB f*L) L) ?_ f;intro f ih hb hn;have hle:∀g,g∈f.args->s+fB g*L<=s+fB f*L:=fun g hg=>Nat.add_le_add_left (Nat.mul_le_mul_right _ (Vg hg)) _
 have ih':∀g,g∈f.args->oO (b+L) (qR b L sg g) (iF sg g)/\Per (iF sg g) (s+fB f*L) L:=fun g hg =>
  ⟨(ih g hg (hb.arg hg) (Nat.le_trans (hle g hg) hn)).1,(ih g hg (hb.arg hg) (Nat.le_trans (hle g hg) hn)).2.mono (hle g hg)⟩
 have hlt:∀g,g∈f.args->kX f.op=true->s+fB g*L+L<=s+fB f*L:=fun g hg hr=>by
  have:=Nat.mul_le_mul_right L (Q5 hg hr);rw[Nat.add_mul,Nat.one_mul]at this;omega
 have ihp:∀g,g∈f.args->kX f.op=true->∃d,d+L<=s+fB f*L/\Per (iF sg g) d L:=fun g hg hr =>
  ⟨_,hlt g hg hr,(ih g hg (hb.arg hg) (Nat.le_trans (hle g hg) hn)).2⟩
 have har:=nJ hb;rw[KZ,EH]
 have hop:f.op=1\/f.op=2\/f.op=3\/f.op=4\/f.op=5\/f.op=6\/f.op=8\/f.op=9\/f.op=10\/f.op=15\/f.op=16\/f.op=17:=by
  rcases mQ hb.node.1 with h|h|h
  ·unfold yB at h;omega
  ·omega
  ·omega
 have one:f.args.length=1->∃g,f.args = [g]/\g∈f.args:=fun h=>by
  match hf:f.args,h with
  | [g],_=>exact⟨g,rfl,by simp⟩
 have two:f.args.length=2->∃g h,f.args = [g,h]/\g∈f.args/\h∈f.args:=fun h=>by
  match hf:f.args,h with
  | [g,k],_=>exact⟨g,k,rfl,by simp,by simp⟩
 rcases hop with e|e|e|e|e|e|e|e|e|e|e|e
 ·rw[e];exact⟨oK _ _,fun _ _=>rfl⟩
 ·rw[e];exact⟨oK _ _,fun _ _=>rfl⟩
 ·rw[e]
  exact⟨oK _ _,(hsg f.name f.val).mono (by omega)⟩
 ·obtain⟨g,hf,hg⟩:=one (har.1 (by omega))
  obtain⟨h1,h2⟩:=ih' g hg;rw[e,hf];refine⟨(oK _ _).congr fun t ht=>?_,fun t ht=>?_⟩
  ·show(!(qR b L sg g).getD t false) = !iF sg g t
   rw[h1.2 t ht]
  ·show(!iF sg g (t+L)) = !iF sg g t
   rw[h2 t ht]
 ·rw[e]
  refine⟨(oK _ _).congr fun t ht=>?_,fun t ht=>?_⟩
  ·exact uH fun g hg=>(ih' g hg).1.2 t ht
  ·exact uH (p:=fun u:Nat->Bool=>u (t+L)) (q:=fun u:Nat->Bool=>u t) fun g hg=>(ih' g hg).2 t ht
 ·rw[e]
  refine⟨(oK _ _).congr fun t ht=>?_,fun t ht=>?_⟩
  ·exact uI fun g hg=>(ih' g hg).1.2 t ht
  ·exact uI (p:=fun u:Nat->Bool=>u (t+L)) (q:=fun u:Nat->Bool=>u t) fun g hg=>(ih' g hg).2 t ht
 ·obtain⟨g,hf,hg⟩:=one (har.1 (by omega))
  obtain⟨h1,h2⟩:=ih' g hg;rw[e,hf];refine⟨(oK _ _).congr fun t ht=>?_,fun t ht=>?_⟩
  ·show(qR b L sg g).getD (fO b L (t+1)) false=iF sg g (t+1)
   rw[h1.2 _ (kW hL),(h2.mono hn).place hL]
  ·show iF sg g (t+L+1)=iF sg g (t+1)
   rw[show t+L+1=t+1+L by omega,h2 (t+1) (by omega)]
 ·obtain⟨g,k,hf,hg,hk⟩:=two (har.2 (by omega))
  obtain⟨h1,h2⟩:=ih' g hg;obtain⟨h3,h4⟩:=ih' k hk;rw[e,hf];exact⟨JD hL h1 h3 (h2.mono hn) (h4.mono hn),zH h2 h4⟩
 ·obtain⟨g,k,hf,hg,hk⟩:=two (har.2 (by omega))
  obtain⟨h1,h2⟩:=ih' g hg;obtain⟨h3,h4⟩:=ih' k hk;rw[e,hf];exact⟨N9 hL h1 h3 (h2.mono hn) (h4.mono hn),KW h2 h4⟩
 ·obtain⟨g,hf,hg⟩:=one (har.1 (by omega))
  obtain⟨h1,h2⟩:=ih' g hg;obtain⟨d,hd,h5⟩:=ihp g hg (qQ.2 (.inl e));rw[e,hf];refine⟨(oK _ _).congr fun t ht=>?_,fun t ht=>?_⟩
  ·show((decide (t=0)&&decide (f.val=1)) || (decide (0<t)&&(qR b L sg g).getD (t-1) false))=((decide (t=0)&&decide (f.val=1)) || (decide (0<t)&&iF sg g (t-1)))
   rw[h1.2 (t-1) (by omega)]
  ·show((decide (t+L=0)&&decide (f.val=1)) || (decide (0<t+L)&&iF sg g (t+L-1)))=((decide (t=0)&&decide (f.val=1)) || (decide (0<t)&&iF sg g (t-1)))
   have:=h5 (t-1) (by omega);rw[show t-1+L=t+L-1 by omega]at this;rw[decide_eq_false (show¬t+L=0 by omega),decide_eq_false (show¬t=0 by omega),decide_eq_true (show 0<t+L by omega),decide_eq_true (show 0<t by omega),this]
 ·obtain⟨g,k,hf,hg,hk⟩:=two (har.2 (by omega))
  obtain⟨h1,h2⟩:=ih' g hg;obtain⟨h3,h4⟩:=ih' k hk;have hr:=qQ.2 (.inr (.inl e));have hm:fB f*L=iD f.args*L+L:=by rw[tZ,if_pos (by omega),Nat.add_mul,Nat.one_mul]
  have hp:∀x,x∈f.args->Per (iF sg x) (s+iD f.args*L) L:=fun x hx =>
   (ih x hx (hb.arg hx) (Nat.le_trans (hle x hx) hn)).2.mono (Nat.add_le_add_left (Nat.mul_le_mul_right _ (qN hx)) _)
  rw[e];refine⟨?_,?_⟩
  ·rw[hf]
   exact(oK _ _).congr fun t ht=>Bd t fun j hj=>⟨h1.2 j (by omega),h3.2 j (by omega)⟩
  ·have:=GN (c:=decide (f.val=1)) (hp g hg) (hp k hk)
   rw[hm,<-Nat.add_assoc,hf];rw[hf]at this;exact this
 ·obtain⟨g,k,hf,hg,hk⟩:=two (har.2 (by omega))
  obtain⟨h1,h2⟩:=ih' g hg;obtain⟨h3,h4⟩:=ih' k hk;have hr:=qQ.2 (.inr (.inr e));have hm:fB f*L=iD f.args*L+L:=by rw[tZ,if_pos (by omega),Nat.add_mul,Nat.one_mul]
  have hp:∀x,x∈f.args->Per (iF sg x) (s+iD f.args*L) L:=fun x hx =>
   (ih x hx (hb.arg hx) (Nat.le_trans (hle x hx) hn)).2.mono (Nat.add_le_add_left (Nat.mul_le_mul_right _ (qN hx)) _)
  rw[e];refine⟨?_,?_⟩
  ·rw[hf]
   exact(oK _ _).congr fun t ht=>xu t fun j hj=>⟨h1.2 j (by omega),h3.2 j (by omega)⟩
  ·have:=Ll (c:=decide (f.val=1)) (hp g hg) (hp k hk)
   rw[hm,<-Nat.add_assoc,hf];rw[hf]at this;exact this
end Go.Proofs.YtdpbgcmfeajigaaGreatDoor
namespace Go.Proofs.YtdpbgcmfeajigaaGreatDoor
open Go.RowKit Go.Shelf
attribute [local go_sem] ak
theorem qY.any {w w':World}{D:Dom}{A:Option Addr}{c:Nat}{zs:List Int}(h:qY w D A c zs)(hb:Below w.heap.size w w'):qY w' aZ A c zs:=(h.old.keep (Keeps.of_below hb fun _ h=>h)).mono fun _ _ _=>trivial
theorem au {w w' w'':World}(h:Below w.heap.size w w')(hb:Below w'.heap.size w' w''):Below w.heap.size w w'':=h.trans (hb.mono h.size)
def qo (m x:Int):Bool:=decide (0<=x)&&decide (x<m)
def dW (l:List Int)(m:Int):Bool:=l.all (qo m)
theorem IE {l:List Int}{m:Int}{i:Nat}(hi:i<l.length)(h:qo m (l.getD i 0)=false):dW l m=false:=by
 unfold dW;rw[List.all_eq_false];exact⟨l.getD i 0,by simp[List.getD,hi],by rw[h];simp⟩
theorem Qa {l:List Int}{m:Int}(h:∀i,i<l.length->qo m (l.getD i 0)=true):dW l m=true:=by
 unfold dW;rw[List.all_eq_true];intro x hx;obtain⟨i,hi,rfl⟩:=List.getElem_of_mem hx;have:=h i hi;simpa[List.getD,hi]using this
theorem Um {D:Dom}(l:List Int)(m:Int)(A:Option Addr)(c n:Nat)(w:World)(hn:n=l.length)(h:qY w D A c l) :
  Calls Tryz.prog 87 #[.slice A n c,.int .i64 m] w fun e w'=>e = .returned (.bool (dW l m))/\Below w.heap.size w w':=by
 subst hn;have hlen:=h.len.1;have HH:=hid h;clear h
 go_enter Tryz.func87,Tryz.ntmps87
 go_wp2_with fail
 go_loopw [9] (fun q wr=>∃i:Nat,i<=l.length/\q = .int .i64 (i:Int)/\sQ w wr/\Hid (∀k,k<i->qo m (l.getD k 0)=true)) (fun q _=>l.length-(intOf q).toNat)
 case atStart=>exact⟨0,Nat.zero_le _,rfl,rfl,fun j h=>absurd h (Nat.not_lt_zero _)⟩
 case round =>
  obtain⟨i,hi,rfl,hw,gW⟩:=hrel;obtain rfl:w=wr:=hw.symm
  by_cases hlt:i<l.length
  ·have hii:(i:Int)<l.length:=by omega
   have dY:=hid hlt;obtain⟨b,o,x,rfl,_,hlb,HX,x0⟩:=HH.out.get hlt;have kQ:=hid HX.out;clear HX hi hlt
   by_cases h0:x<0
   ·have d0:decide (x<0)=true:=decide_eq_true h0
    have HR:=hid (show dW l m=false from IE dY.out (by rw[kQ.out];unfold qo;rw[decide_eq_false (by omega)];rfl));go_wp2_with fail
    go_ret
    exact⟨aC HR.out.symm,Below.refl _ _⟩
   have d0:decide (x<0)=false:=decide_eq_false h0
   by_cases h1:m<=x
   ·have d1:decide (m<=x)=true:=decide_eq_true h1
    have HR:=hid (show dW l m=false from IE dY.out (by rw[kQ.out];unfold qo;rw[decide_eq_false (show¬x<m by omega)];simp));go_wp2_with fail
    go_ret
    exact⟨aC HR.out.symm,Below.refl _ _⟩
   ·have d1:decide (m<=x)=false:=decide_eq_false h1
    have lu:=hid (show qo m (l.getD i 0)=true by rw[kQ.out];unfold qo;rw[decide_eq_true (show 0<=x by omega),decide_eq_true (show x<m by omega)];rfl);clear h0 h1;go_wp2_with fail
    go_roundw
    case rel =>
     refine⟨i+1,by have:=dY.out;omega,by go_num,rfl,fun j hj=>?_⟩
     by_cases e:j=i
     ·rw[e];exact lu.out
     ·exact gW.out j (by omega)
    case measure=>have:=dY.out;simp[intOf];omega
  ·have hii:¬(i:Int)<l.length:=by omega
   have HR:=hid (show dW l m=true from Qa fun j hj=>gW.out j (by omega));go_wp2_with fail
   go_ret
   exact⟨aC HR.out.symm,Below.refl _ _⟩
theorem xI {D:Dom}{l:List Int}{m:Int}{A:Option Addr}{c n:Nat}{w:World}(r:Bool)(hr:dW l m=r)(hn:n=l.length)(h:qY w D A c l) :
  Calls Tryz.prog 87 #[.slice A n c,.int .i64 m] w fun e w'=>e = .returned (.bool r)/\Below w.heap.size w w':=by
 subst hr;exact Um l m A c n w hn h
structure jy where
 stem:List Int
 loop:List Int
def eX (W:jy):Bool:=decide (W.stem.length<=60)&&decide (1<=W.loop.length)&&decide (W.loop.length<=40)&&dW W.stem 64&&dW W.loop 64
def jC (m:Int)(W:jy):Bool:=eX W&&dW W.stem m&&dW W.loop m
def aY (W:jy)(i:Nat):Int:=if i<W.stem.length then W.stem.getD i 0 else W.loop.getD ((i-W.stem.length) % W.loop.length) 0
def EY (w:World)(D:Dom)(v:Value)(W:jy):Prop:=∃As cs Al cl,v = .agg #[.slice As W.stem.length cs,.slice Al W.loop.length cl]/\qY w D As cs W.stem/\qY w D Al cl W.loop
def kD (w:World)(b:Nat)(W:jy)(As:Option Addr)(cs:Nat)(Al:Option Addr)(cl:Nat):Prop:=w.heap[b]?=some (.cells #[.slice As W.stem.length cs,.slice Al W.loop.length cl] 37 (0,0))
section
variable {w w':World}{b:Nat}{W:jy}{As Al:Option Addr}{cs cl:Nat}
theorem kD.below (h:kD w b W As cs Al cl)(hb:Below w.heap.size w w'):kD w' b W As cs Al cl:=(hb.block _ (lt_of_block h)).trans h
theorem kD.cells (h:kD w b W As cs Al cl):w.cell? ⟨b,0,none⟩=some (.slice As W.stem.length cs)/\w.cell? ⟨b,1,none⟩=some (.slice Al W.loop.length cl)/\b<w.heap.size:=⟨aj h (i:=0) rfl,aj h (i:=1) rfl,lt_of_block h⟩
end
theorem Qv {D:Dom}(W:jy)(v:Value)(w:World)(h:EY w D v W) :
  Calls Tryz.prog 62 #[v] w fun e w'=>e = .returned (.bool (eX W))/\Below w.heap.size w w':=by
 obtain⟨As,cs,Al,cl,rfl,hs,hl⟩:=h;have hsl:=hs.len.1;have hll:=hl.len.1;have HS:=hid hs.old;have HL:=hid hl.old;clear hs hl
 go_enter Tryz.func62,Tryz.ntmps62
 go_upto_region 1 with(fail)
 refine aF fun U hU=>?_;have HB:=hid (show Below w.heap.size w U by rw[hU];go_grown);have HO:=hid (show kD U w.heap.size W As cs Al cl by show U.heap[_]?=_;rw[hU];exact at_new _ _ _ rfl);clear hU;obtain⟨s0,s1,s2⟩:=HO.out.cells
 by_cases h1:60<W.stem.length
 ·have hi:60<(W.stem.length:Int):=by omega
  have di:=decide_eq_true hi;have HR:=hid (show eX W=false by unfold eX;rw[decide_eq_false (show¬W.stem.length<=60 by omega)];simp);clear h1;go_wp2_with fail
  go_ret
  exact⟨aC HR.out.symm,HB.out⟩
 have Ya:¬60<(W.stem.length:Int):=by omega
 have qeW:=decide_eq_false Ya
 by_cases h1:W.loop.length<1
 ·have hi:(W.loop.length:Int)<1:=by omega
  have di:=decide_eq_true hi;have HR:=hid (show eX W=false by unfold eX;rw[decide_eq_false (show¬1<=W.loop.length by omega)];simp);clear h1;go_wp2_with fail
  go_ret
  exact⟨aC HR.out.symm,HB.out⟩
 have qfj:¬(W.loop.length:Int)<1:=by omega
 have di_17:=decide_eq_false qfj
 by_cases h1:40<W.loop.length
 ·have hi:40<(W.loop.length:Int):=by omega
  have di:=decide_eq_true hi;have HR:=hid (show eX W=false by unfold eX;rw[decide_eq_false (show¬W.loop.length<=40 by omega)];simp);clear h1;go_wp2_with fail
  go_ret
  exact⟨aC HR.out.symm,HB.out⟩
 have Ya:¬40<(W.loop.length:Int):=by omega
 have qeW:=decide_eq_false Ya
 have HF:=hid (show eX W=(dW W.stem 64&&dW W.loop 64)by
  unfold eX
  rw[decide_eq_true (show W.stem.length<=60 by omega),decide_eq_true (show 1<=W.loop.length by omega),decide_eq_true (show W.loop.length<=40 by omega),Bool.true_and,Bool.true_and,Bool.true_and])
 cases hb1:dW W.stem 64
 ·have HQ:=hid hb1
  have HR:=hid (show eX W=false by rw[HF.out,hb1];rfl);clear hb1;go_wp2_with (go_at_call 87;(with_reducible refine(xI (l:=W.stem) false HQ.out rfl (HS.out.any HB.out)).mono ?_);rintro e V ⟨rfl,hbv⟩;have iG:=hid hbv;clear hbv)
  go_ret
  exact⟨aC HR.out.symm,au HB.out iG.out⟩
 have HQ:=hid hb1;have HR:=hid (show eX W=dW W.loop 64 by rw[HF.out,hb1];rfl);clear hb1;obtain⟨r,hr⟩:∃r,dW W.loop 64=r:=⟨_,rfl⟩;have HRR:=hid hr;clear hr;go_wp2_with (first|(go_at_call 87;(with_reducible refine(xI (l:=W.stem) true HQ.out rfl (HS.out.any HB.out)).mono ?_);rintro e V ⟨rfl,hbv⟩;have iG:=hid hbv;clear hbv HQ s0 s1 s2;obtain⟨s0,s1,s2⟩:=(HO.out.below iG.out).cells)|(go_at_call 87;(with_reducible refine(xI (l:=W.loop) r HRR.out rfl (HL.out.any (au HB.out iG.out))).mono ?_);rintro e V2 ⟨rfl,hbv⟩;have HB2:=hid (au iG.out hbv);clear hbv))
 go_ret
 exact⟨aC (HR.out.trans HRR.out).symm,au HB.out HB2.out⟩
theorem wL {D:Dom}{W:jy}{v:Value}{w:World}(r:Bool)(hr:eX W=r)(h:EY w D v W) :
  Calls Tryz.prog 62 #[v] w fun e w'=>e = .returned (.bool r)/\Below w.heap.size w w':=by
 subst hr;exact Qv W v w h
theorem G6 {D:Dom}(m:Int)(W:jy)(v:Value)(w:World)(h:EY w D v W) :
  Calls Tryz.prog 40 #[.int .i64 m,v] w fun e w'=>e = .returned (.bool (jC m W))/\Below w.heap.size w w':=by
 obtain⟨As,cs,Al,cl,rfl,hs,hl⟩:=h;have hsl:=hs.len.1;have hll:=hl.len.1;have HS:=hid hs.old;have HL:=hid hl.old;clear hs hl
 go_enter Tryz.func40,Tryz.ntmps40
 go_upto_region 1 with(fail)
 refine aF fun U hU=>?_;have HB:=hid (show Below w.heap.size w U by rw[hU];go_grown);have HO:=hid (show kD U w.heap.size W As cs Al cl by show U.heap[_]?=_;rw[hU];exact at_new _ _ _ rfl);clear hU;obtain⟨s0,s1,s2⟩:=HO.out.cells;have ny:=hid (show EY U aZ (.agg #[.slice As W.stem.length cs,.slice Al W.loop.length cl]) W from⟨As,cs,Al,cl,rfl,HS.out.any HB.out,HL.out.any HB.out⟩);cases hf:eX W
 ·have HQ:=hid hf
  have HR:=hid (show jC m W=false by unfold jC;rw[hf];rfl);clear hf;go_wp2_with (go_at_call 62;(with_reducible refine(wL (W:=W) false HQ.out ny.out).mono ?_);rintro e V ⟨rfl,hbv⟩;have iG:=hid hbv;clear hbv s0 s1 s2;obtain⟨s0,s1,s2⟩:=(HO.out.below iG.out).cells)
  go_ret
  exact⟨aC HR.out.symm,au HB.out iG.out⟩
 have HQ:=hid hf;have HF:=hid (show jC m W=(dW W.stem m&&dW W.loop m)by unfold jC;rw[hf,Bool.true_and]);clear hf;cases hb1:dW W.stem m
 ·have HQ1:=hid hb1
  have HR:=hid (show jC m W=false by rw[HF.out,hb1];rfl);clear hb1;go_wp2_with (first|(go_at_call 62;(with_reducible refine(wL (W:=W) true HQ.out ny.out).mono ?_);rintro e V ⟨rfl,hbv⟩;have iG:=hid hbv;clear hbv s0 s1 s2;obtain⟨s0,s1,s2⟩:=(HO.out.below iG.out).cells)|(go_at_call 87;(with_reducible refine(xI (l:=W.stem) false HQ1.out rfl (HS.out.any (au HB.out iG.out))).mono ?_);rintro e V1 ⟨rfl,hbv⟩;have HB1:=hid (au iG.out hbv);clear hbv HQ1 s0 s1 s2;obtain⟨s0,s1,s2⟩:=(HO.out.below HB1.out).cells))
  go_ret
  exact⟨aC HR.out.symm,au HB.out HB1.out⟩
 have HQ1:=hid hb1;have HR:=hid (show jC m W=dW W.loop m by rw[HF.out,hb1];rfl);clear hb1;obtain⟨r,hr⟩:∃r,dW W.loop m=r:=⟨_,rfl⟩;have HRR:=hid hr;clear hr
 go_wp2_with (first|(go_at_call 62;(with_reducible refine(wL (W:=W) true HQ.out ny.out).mono ?_);rintro e V ⟨rfl,hbv⟩;have iG:=hid hbv;clear hbv s0 s1 s2;obtain⟨s0,s1,s2⟩:=(HO.out.below iG.out).cells)|(go_at_call 87;(with_reducible refine(xI (l:=W.stem) true HQ1.out rfl (HS.out.any (au HB.out iG.out))).mono ?_);rintro e V1 ⟨rfl,hbv⟩;have HB1:=hid (au iG.out hbv);clear hbv HQ1 s0 s1 s2;obtain⟨s0,s1,s2⟩:=(HO.out.below HB1.out).cells)|(go_at_call 87;(with_reducible refine(xI (l:=W.loop) r HRR.out rfl (HL.out.any (au HB.out HB1.out))).mono ?_);rintro e V2 ⟨rfl,hbv⟩;have HB2:=hid (au HB1.out hbv);clear hbv))
 go_ret
 exact⟨aC (HR.out.trans HRR.out).symm,au HB.out HB2.out⟩
theorem Zc {D:Dom}{m:Int}{W:jy}{v:Value}{w:World}(r:Bool)(hr:jC m W=r)(h:EY w D v W) :
  Calls Tryz.prog 40 #[.int .i64 m,v] w fun e w'=>e = .returned (.bool r)/\Below w.heap.size w w':=by
 subst hr;exact G6 m W v w h
theorem pick_any {D:Dom}(W:jy)(i:Nat)(v:Value)(w:World)(h:EY w D v W)(hi:i<=1000000)(hne:0<W.loop.length) :
  Calls Tryz.prog 63 #[v,.int .i64 (i:Int)] w fun e w'=>e = .returned (.int .i64 (aY W i))/\Below w.heap.size w w':=by
 obtain⟨As,cs,Al,cl,rfl,hs,hl⟩:=h;have hsl:=hs.len.1;have hll:=hl.len.1;have HS:=hid hs.old;have HL:=hid hl.old;clear hs hl
 go_enter Tryz.func63,Tryz.ntmps63
 go_upto_region 1 with(fail)
 refine aF fun U hU=>?_;have HB:=hid (show Below w.heap.size w U by rw[hU];go_grown);have HO:=hid (show kD U w.heap.size W As cs Al cl by show U.heap[_]?=_;rw[hU];exact at_new _ _ _ rfl);clear hU;obtain⟨s0,s1,s2⟩:=HO.out.cells
 by_cases h1:i<W.stem.length
 ·have hii:(i:Int)<W.stem.length:=by omega
  obtain⟨b,o,x,rfl,_,hlb,HX,x0⟩:=(HS.out.any HB.out).get h1;have HR:=hid (show aY W i=x by unfold aY;rw[if_pos h1];exact HX.out);clear HX h1;go_wp2_with fail
  go_ret
  exact⟨bD HR.out.symm,HB.out⟩
 ·have hii:¬(i:Int)<W.stem.length:=by omega
  obtain⟨r,hr⟩:∃r,(i-W.stem.length) % W.loop.length=r:=⟨_,rfl⟩;have hrl:r<W.loop.length:=by rw[<-hr];exact Nat.mod_lt _ hne
  obtain⟨b,o,x,rfl,_,hlb,HX,x0⟩:=(HL.out.any HB.out).get hrl;have HR:=hid (show aY W i=x by unfold aY;rw[if_neg h1,hr];exact HX.out)
  have hsub:IntKind.i64.wrap ((i:Int)-(W.stem.length:Int))=((i-W.stem.length:Nat):Int):=by
   rw[IntWalk.i64_in _ (by omega)];omega
  have htm:((i-W.stem.length:Nat):Int).tmod (W.loop.length:Int)=(r:Int):=by
   rw[Int.tmod_eq_emod_of_nonneg (by omega),<-hr];rfl
  have hne1:¬(W.loop.length:Int)=0:=by omega
  have hne2:((W.loop.length:Int)==0)=false:=ay hne1;have hne3:¬W.loop.length=0:=by omega
  have hwr:IntKind.i64.wrap (r:Int)=(r:Int):=IntWalk.i64_in _ (by omega);have hr0:(0:Int)<=(r:Int):=by omega
  have hri:(r:Int)<W.loop.length:=by omega
  obtain⟨d,hd⟩:∃d,i-W.stem.length=d:=⟨_,rfl⟩;rw[hd]at hsub htm;clear HX h1 hr hd hrl;go_upto_region 3 with(fail)
  go_quiet (fail)
  go_wp2_with fail
  go_ret
  exact⟨bD HR.out.symm,below_drewN HB.out _⟩
theorem qa8 {D:Dom}(W:jy)(i:Nat)(v:Value)(w:World)(h:EY w D v W)(hi:i<=1000000)(hf:eX W=true) :
  Calls Tryz.prog 19 #[v,.int .i64 (i:Int)] w fun e w'=>e = .returned (.int .i64 (aY W i))/\Below w.heap.size w w':=by
 obtain⟨As,cs,Al,cl,rfl,hs,hl⟩:=h;have hsl:=hs.len.1;have hll:=hl.len.1;have HS:=hid hs.old;have HL:=hid hl.old;clear hs hl;have HQ:=hid hf;have wu:=hid (show 0<W.loop.length by unfold eX at hf;simp only[Bool.and_eq_true,decide_eq_true_eq]at hf;omega);have HI:=hid hi;have hi0:¬(i:Int)<0:=by omega
 have di0:=decide_eq_false hi0;clear hf hi
 go_enter Tryz.func19,Tryz.ntmps19
 go_upto_region 1 with(fail)
 refine aF fun U hU=>?_;have HB:=hid (show Below w.heap.size w U by rw[hU];go_grown);have HO:=hid (show kD U w.heap.size W As cs Al cl by show U.heap[_]?=_;rw[hU];exact at_new _ _ _ rfl);clear hU;obtain⟨s0,s1,s2⟩:=HO.out.cells;have ny:=hid (fun (V:World) (hb:Below U.heap.size U V)=>(show EY V aZ (.agg #[.slice As W.stem.length cs,.slice Al W.loop.length cl]) W from⟨As,cs,Al,cl,rfl,HS.out.any (au HB.out hb),HL.out.any (au HB.out hb)⟩));obtain⟨y,hy⟩:∃y,aY W i=y:=⟨_,rfl⟩;have HY:=hid hy;clear hy
 go_wp2_with (first|(go_at_call 62;(with_reducible refine(wL (W:=W) true HQ.out (ny.out _ (Below.refl _ _))).mono ?_);rintro e V ⟨rfl,hbv⟩;have iG:=hid hbv;clear hbv s0 s1 s2;obtain⟨s0,s1,s2⟩:=(HO.out.below iG.out).cells)|(go_at_call 63;(with_reducible refine(pick_any W i _ _ (ny.out _ iG.out) HI.out wu.out).mono ?_);rw[HY.out];rintro e V2 ⟨rfl,hbv⟩;have HB2:=hid (au iG.out hbv);clear hbv))
 go_ret
 exact⟨bD HY.out.symm,au HB.out HB2.out⟩
end Go.Proofs.YtdpbgcmfeajigaaGreatDoor
namespace Go.Proofs.YtdpbgcmfeajigaaGreatDoor
open Go.RowKit Go.Shelf
attribute [local go_sem] ak run_store_func
structure Z9 (l N:Nat) (item:Nat->World->Array Value->Prop) (Z M:Dom) (B1 own:Nat) (J:Nat->World->Prop) (X:World->Prop):Prop where
 z:∀b,Z b->¬M b/\(b<B1\/B1+own<=b)
 keep:∀k W W',J k W->aH (fun b=>B1<=b/\b<B1+own) W W'->J k W'
 qbK:∀W W',X W->aH (fun b=>B1<=b/\b<B1+own) W W'->X W'
 step:∀k W vs,B1+own<=W.heap.size->J k W->k<N->item k W vs->YieldAt Fence.wide 0 Tryz.prog l vs W fun e W'=>aH Z W W'/\((e = .returned (.bool true)/\J (k+1) W')\/(e = .returned (.bool false)/\X W'))
def wE (inf:Bool)(gf:Nat)(caps:Array Value)(N:Nat)(item:Nat->World->Array Value->Prop)(M:Dom)(own:Nat)(w:World):Prop :=
 ∀(l:Nat) (Z:Dom) (J:Nat->World->Prop) (X:World->Prop) (W1:World) (B1:Nat),W1.heap.size=B1->Below w.heap.size w W1->Z9 l N item Z M B1 own J X->J 0 W1->(inf=true->∀W,¬J N W) ->
  Calls Tryz.prog gf (#[.func (.yield l) #[] #[]]++caps) W1 fun e w'=>(∃v,e = .returned v)/\aH Z W1 w'/\(J N w'\/X w')
theorem Jr {inf:Bool}{g:Operand}{ps:Array Tmp}{assign body:Code}{Q:Exit->Act->World->Prop}{a:Act}{w:World}(gf:Nat)(caps:Array Value)(N own:Nat)(M:Dom)(item:Nat->World->Array Value->Prop)(Z:Dom)(I:Nat->World->Prop)(Ix:Code->World->Prop)
  (eg:∀args w,(callFunc gf args).run Tryz.prog w = .ok (.enter gf args) w) (hg:a.eval g = .func (.func gf) #[] caps) (hit:wE inf gf caps N item M own w) (hps:∀k W vs,item k W vs->vs.size=ps.size) (hMw:∀b,M b->b<w.heap.size)
  (Nk:∀k W W' vs,item k W vs->aH (fun b=>b=w.heap.size+1) W W'->item k W' vs)
  (hZ:∀b,Z b->¬M b/\(b<w.heap.size\/w.heap.size+2+own<=b))
  (hI:∀k W W',I k W->aH (fun b=>w.heap.size<=b/\b<w.heap.size+2+own) W W'->I k W')
  (hIx:∀c W W',Ix c W->aH (fun b=>w.heap.size<=b/\b<w.heap.size+2+own) W W'->Ix c W') (h0:I 0 w)
  (a₁ : Array Value->Act)
  (hassign:∀(l k:Nat) (vs:Array Value) (W:World) (K:Act->World->Prop),item k W vs->K (a₁ vs) W ->
   assign.wpIn (Fence.wide.inRound l) 0 Tryz.prog (Exit.then K (fun _ _ _=>False)) { tmps:=(ps.zip vs).foldl (fun t (p,v)=>t.setIfInBounds p v) a.tmps,defers := [] } W)
  (eu:∀(l k:Nat) (W:World) (vs:Array Value),w.heap.size+2+own<=W.heap.size->aH Z w W->I k W->k<N->item k W vs ->
   body.wpIn (Fence.wide.inRound l) 0 Tryz.prog (xG Z I Ix k W) (a₁ vs) W)
  (hdone:∀W,aH Z w W->I N W->W.heap[w.heap.size]?=some (.deferred (some []))->Q .normal { a with defers := { target := .collected w.heap.size,args := #[] } :: a.defers } W)
  (hstop:∀c W,aH Z w W->Ix c W->W.heap[w.heap.size]?=some (.deferred (some []))->c.wp Tryz.prog Q { a with defers := { target := .collected w.heap.size,args := #[] } :: a.defers } W)
  (Yb:inf=true->∀W,¬I N W) :
  (Code.rangeFunc g ps assign body).wp Tryz.prog Q a w:=by
 refine(wpIn_wide (n:=3)).1 (wpIn_rangeFunc fun fn _=>?_);obtain⟨rec,hrec⟩:∃rec:LoopState->Option Code->Loop,rec=fun st pe => { state:=st,pending:=pe,fn,tmps:=a.tmps,params:=ps,assign,body,defers:=w.heap.size }:=⟨_,rfl⟩;obtain⟨W1,hW1⟩:∃W1,(w.alloc (.deferred (some []))).alloc (.loop (rec .ready none))=W1:=⟨_,rfl⟩;have hL1:W1.heap[w.heap.size+1]?=some (.loop (rec .ready none)):=by rw[<-hW1];exact at_new _ _ _ (by simp)
 have hK1:W1.heap[w.heap.size]?=some (.deferred (some [])):=by rw[<-hW1,aQ _ _ _ (by simp)];exact at_new _ _ _ rfl
 have hs1:W1.heap.size=w.heap.size+2:=by rw[<-hW1];simp
 have hb1:Below w.heap.size w W1:=by rw[<-hW1];exact((Below.refl _ w).alloc (Nat.le_refl _) _).alloc (by simp) _
 refine⟨w.heap.size+1,[{ target := .collected w.heap.size,args := #[] }],W1,{ target := .fn (.func gf) caps,args := #[.func (.yield (w.heap.size+1)) #[] #[]] },W1,gf,
  #[.func (.yield (w.heap.size+1)) #[] #[]]++caps,W1,?_,?_,?_,?_,?_,?_⟩
 ·rw[<-hW1,hrec];exact run_enterLoop_outer _ _ _ _ _
 ·simp only[resolve,hg]
  simp[go_sem]
 ·exact fun f' _=>trivial
 ·simp[invoke,go_sem,eg]
 ·intro hd;simp[Fence.wide]at hd
 ·have qfG:∀W W':World,aH (fun b=>w.heap.size+2<=b/\b<w.heap.size+2+own) W W'->aH (fun b=>w.heap.size<=b/\b<w.heap.size+2+own) W W':=fun W W' h=>h.mono fun b _ hb=>⟨by omega,hb.2⟩
  have nZ:∀W W':World,aH (fun b=>b=w.heap.size+1) W W'->aH (fun b=>w.heap.size<=b/\b<w.heap.size+2+own) W W':=fun W W' h=>h.mono fun b _ hb=>by omega
  refine callsIn_wide.2 ((hit (w.heap.size+1) (fun b=>Z b\/b=w.heap.size+1)
   (fun k W=>I k W/\aH Z w W/\W.heap[w.heap.size+1]?=some (.loop (rec .ready none))/\W.heap[w.heap.size]?=some (.deferred (some [])))
   (fun W=>∃c,Ix c W/\aH Z w W/\W.heap[w.heap.size+1]?=some (.loop (rec .done (some c)))/\W.heap[w.heap.size]?=some (.deferred (some [])))
   W1 (w.heap.size+2) hs1 hb1 ⟨?_,?_,?_,?_⟩ ⟨hI 0 w W1 h0 (aH.aS hb1),aH.aS hb1,hL1,hK1⟩ (fun h W hj=>Yb h W hj.1)).mono ?_)
  ·rintro b (hb|hb)
   ·have:=hZ b hb;exact⟨this.1,by omega⟩
   ·exact⟨fun hm=>by have:=hMw b hm;omega,by omega⟩
  ·rintro k W W' ⟨hi,hc,hl,hk⟩ hw
   exact⟨hI k W W' hi (qfG _ _ hw),hc.trans' hw fun b _ hb=>by omega,hw.box hl (by omega),hw.box hk (by omega)⟩
  ·rintro W W' ⟨c,hi,hc,hl,hk⟩ hw
   exact⟨c,hIx c W W' hi (qfG _ _ hw),hc.trans' hw fun b _ hb=>by omega,hw.box hl (by omega),hw.box hk (by omega)⟩
  ·rintro k W vs hsz ⟨hi,hc,hl,hk⟩ hlen hfw
   have hlt:w.heap.size+1<W.heap.size:=lt_of_block hl;have hy:=run_yield (P:=Tryz.prog) (args:=vs) hl (by rw[hrec];exact hps _ _ _ hfw);rw[hrec]at hy;refine⟨fn,_,assign,body,hy,roundIn_of_wpIn trivial (hassign _ _ _ W _ hfw ⟨_,run_beginRound hl (by rw[hrec]),?_⟩)⟩;obtain⟨Wb,QA⟩:∃Wb,Wb=W.putObj (w.heap.size+1) (.loop { rec .ready none with state := .busy }):=⟨_,rfl⟩;rw[<-QA];have hcb:aH (fun b=>b=w.heap.size+1) W Wb:=by rw[QA];exact aH.putObj _ _ _
   have hl2:Wb.heap[w.heap.size+1]?=some (.loop { rec .ready none with state := .busy }):=by rw[QA];exact World.putObj_heap_same hlt
   have hk2:Wb.heap[w.heap.size]?=some (.deferred (some [])):=hcb.box hk (by omega);have hsb:W.heap.size<=Wb.heap.size:=hcb.size;refine wpIn_mono (eu _ k Wb vs (by omega) (hc.trans' hcb fun b _ hb=>by omega) (hI _ _ _ hi (nZ _ _ hcb)) hlen (Nk _ _ _ _ hfw hcb)) ?_
   have fin:∀(jump:Option Code) (W3:World),aH Z Wb W3 ->
     (Instr.endRound (w.heap.size+1) jump).run Tryz.prog W3 = .ok (.bool jump.isNone) (W3.putObj (w.heap.size+1) (.loop (rec (if jump.isNone then .ready else .done) jump))) /\
     aH (fun b=>b=w.heap.size+1) W3 (W3.putObj (w.heap.size+1) (.loop (rec (if jump.isNone then .ready else .done) jump))) /\
     aH (fun b=>Z b\/b=w.heap.size+1) W (W3.putObj (w.heap.size+1) (.loop (rec (if jump.isNone then .ready else .done) jump))) /\
     aH Z w (W3.putObj (w.heap.size+1) (.loop (rec (if jump.isNone then .ready else .done) jump))) /\
     (W3.putObj (w.heap.size+1) (.loop (rec (if jump.isNone then .ready else .done) jump))).heap[w.heap.size+1]?=some (.loop (rec (if jump.isNone then .ready else .done) jump)) /\
     (W3.putObj (w.heap.size+1) (.loop (rec (if jump.isNone then .ready else .done) jump))).heap[w.heap.size]?=some (.deferred (some [])):=fun jump W3 hc3=>by
    have hl3:=hc3.box hl2 (fun h=>by have:=hZ _ h;omega);have hk3:=hc3.box hk2 (fun h=>by have:=hZ _ h;omega);have hcp:=aH.putObj W3 (w.heap.size+1) (.loop (rec (if jump.isNone then .ready else .done) jump));have hr:=run_endRound (P:=Tryz.prog) jump hl3;rw[hrec]at hr hcp⊢;refine⟨hr,hcp,?_,?_,World.putObj_heap_same (lt_of_block hl3),hcp.box hk3 (by omega)⟩
    ·exact((hcb.mono fun b _ hb => .inr hb).trans (hc3.mono fun b _ hb => .inl hb)).trans (hcp.mono fun b _ hb => .inr hb)
    ·exact((hc.trans' hcb fun b _ hb=>by omega).trans hc3).trans' hcp fun b _ hb=>by omega
   rintro e a3 W3 hp
   cases e with
   | normal =>
    obtain⟨hc3,hi3⟩:=hp;obtain⟨hr,hcp,hcW,hcw,hl4,hk4⟩:=fin none W3 hc3;exact⟨_,_,hr,hcW,.inl ⟨rfl,hI _ _ _ hi3 (nZ _ _ hcp),hcw,hl4,hk4⟩⟩
   | ret =>
    obtain⟨hc3,hi3⟩:=hp;obtain⟨hr,hcp,hcW,hcw,hl4,hk4⟩:=fin (some .ret) W3 hc3;exact⟨_,_,hr,hcW,.inr ⟨rfl,_,hIx _ _ _ hi3 (nZ _ _ hcp),hcw,hl4,hk4⟩⟩
   | exit id =>
    obtain⟨hc3,hi3⟩:=hp;obtain⟨hr,hcp,hcW,hcw,hl4,hk4⟩:=fin (some (.exit id)) W3 hc3;exact⟨_,_,hr,hcW,.inr ⟨rfl,_,hIx _ _ _ hi3 (nZ _ _ hcp),hcw,hl4,hk4⟩⟩
   | goto t =>
    obtain⟨hc3,hi3⟩:=hp;obtain⟨hr,hcp,hcW,hcw,hl4,hk4⟩:=fin (some (.goto t)) W3 hc3;exact⟨_,_,hr,hcW,.inr ⟨rfl,_,hIx _ _ _ hi3 (nZ _ _ hcp),hcw,hl4,hk4⟩⟩
   | panic ch=>exact hp.elim
   | outgrown=>exact hp.elim
  ·rintro e W2 ⟨⟨v,rfl⟩,hc2,(⟨hi,hc,hl,hk⟩|⟨c,hi,hc,hl,hk⟩)⟩
   ·refine⟨none,_,by have:=run_endLoop (P:=Tryz.prog) hl (by rw[hrec];simp);rw[hrec]at this;exact this,?_⟩
    have hcp:=aH.putObj W2 (w.heap.size+1) (.loop { rec .ready none with state := .exhausted });rw[hrec]at hcp;exact hdone _ (hc.trans' hcp fun b _ hb=>by omega) (hI _ _ _ hi (nZ _ _ hcp)) (hcp.box hk (by omega))
   ·refine⟨some c,_,by have:=run_endLoop (P:=Tryz.prog) hl (by rw[hrec];simp);rw[hrec]at this;exact this,?_⟩
    have hcp:=aH.putObj W2 (w.heap.size+1) (.loop { rec .done (some c)with state := .exhausted });rw[hrec]at hcp;exact wpIn_wide.2 (hstop c _ (hc.trans' hcp fun b _ hb=>by omega) (hIx _ _ _ hi (nZ _ _ hcp)) (hcp.box hk (by omega)))
def Yg (it:Nat->World->Value->Prop)(k:Nat)(W:World)(vs:Array Value):Prop:=∃u,vs = #[u]/\it k W u
def Yh (it:Nat->World->Value->Value->Prop)(k:Nat)(W:World)(vs:Array Value):Prop:=∃u v,vs = #[u,v]/\it k W u v
theorem range_one {inf:Bool}{g:Operand}{ps:Array Tmp}{assign body:Code}{Q:Exit->Act->World->Prop}{a:Act}{w:World}(gf:Nat)(caps:Array Value)(N own:Nat)(M:Dom)(it:Nat->World->Value->Prop)(Z:Dom)(I:Nat->World->Prop)(Ix:Code->World->Prop)
  (eg:∀args w,(callFunc gf args).run Tryz.prog w = .ok (.enter gf args) w) (hg:a.eval g = .func (.func gf) #[] caps) (hps:ps.size=1) (hit:wE inf gf caps N (Yg it) M own w) (hMw:∀b,M b->b<w.heap.size)
  (Nk:∀k W W' u,it k W u->aH (fun b=>b=w.heap.size+1) W W'->it k W' u)
  (hZ:∀b,Z b->¬M b/\(b<w.heap.size\/w.heap.size+2+own<=b))
  (hI:∀k W W',I k W->aH (fun b=>w.heap.size<=b/\b<w.heap.size+2+own) W W'->I k W')
  (hIx:∀c W W',Ix c W->aH (fun b=>w.heap.size<=b/\b<w.heap.size+2+own) W W'->Ix c W') (h0:I 0 w)
  (a₁ : Value->Act)
  (hassign:∀(l:Nat) (u:Value) (W:World) (K:Act->World->Prop),K (a₁ u) W ->
   assign.wpIn (Fence.wide.inRound l) 0 Tryz.prog (Exit.then K (fun _ _ _=>False)) { tmps:=(ps.zip #[u]).foldl (fun t (p,v)=>t.setIfInBounds p v) a.tmps,defers := [] } W)
  (eu:∀(l k:Nat) (W:World) (u:Value),w.heap.size+2+own<=W.heap.size->aH Z w W->I k W->k<N->it k W u ->
   body.wpIn (Fence.wide.inRound l) 0 Tryz.prog (xG Z I Ix k W) (a₁ u) W)
  (hdone:∀W,aH Z w W->I N W->W.heap[w.heap.size]?=some (.deferred (some []))->Q .normal { a with defers := { target := .collected w.heap.size,args := #[] } :: a.defers } W)
  (hstop:∀c W,aH Z w W->Ix c W->W.heap[w.heap.size]?=some (.deferred (some []))->c.wp Tryz.prog Q { a with defers := { target := .collected w.heap.size,args := #[] } :: a.defers } W)
  (Yb:inf=true->∀W,¬I N W) :
  (Code.rangeFunc g ps assign body).wp Tryz.prog Q a w :=
 Jr gf caps N own M (Yg it) Z I Ix eg hg hit (fun k W vs h=>by obtain⟨u,rfl,_⟩:=h;exact hps.symm) hMw (fun k W W' vs h hc=>by obtain⟨u,rfl,h⟩:=h;exact⟨u,rfl,Nk _ _ _ _ h hc⟩) hZ hI hIx h0
  (fun vs=>a₁ (vs.getD 0 undef)) (fun l k vs W K h hK=>by obtain⟨u,rfl,h⟩:=h;exact hassign l u W K hK) (fun l k W vs h1 h2 h3 h4 h=>by obtain⟨u,rfl,h⟩:=h;exact eu l k W u h1 h2 h3 h4 h) hdone hstop Yb
theorem CS {inf:Bool}{g:Operand}{ps:Array Tmp}{assign body:Code}{Q:Exit->Act->World->Prop}{a:Act}{w:World}(gf:Nat)(caps:Array Value)(N own:Nat)(M:Dom)(it:Nat->World->Value->Value->Prop)(Z:Dom)(I:Nat->World->Prop)(Ix:Code->World->Prop)
  (eg:∀args w,(callFunc gf args).run Tryz.prog w = .ok (.enter gf args) w) (hg:a.eval g = .func (.func gf) #[] caps) (hps:ps.size=2) (hit:wE inf gf caps N (Yh it) M own w) (hMw:∀b,M b->b<w.heap.size)
  (Nk:∀k W W' u v,it k W u v->aH (fun b=>b=w.heap.size+1) W W'->it k W' u v)
  (hZ:∀b,Z b->¬M b/\(b<w.heap.size\/w.heap.size+2+own<=b))
  (hI:∀k W W',I k W->aH (fun b=>w.heap.size<=b/\b<w.heap.size+2+own) W W'->I k W')
  (hIx:∀c W W',Ix c W->aH (fun b=>w.heap.size<=b/\b<w.heap.size+2+own) W W'->Ix c W') (h0:I 0 w)
  (a₁ : Value->Value->Act)
  (hassign:∀(l:Nat) (u v:Value) (W:World) (K:Act->World->Prop),K (a₁ u v) W ->
   assign.wpIn (Fence.wide.inRound l) 0 Tryz.prog (Exit.then K (fun _ _ _=>False)) { tmps:=(ps.zip #[u,v]).foldl (fun t (p,v)=>t.setIfInBounds p v) a.tmps,defers := [] } W)
  (eu:∀(l k:Nat) (W:World) (u v:Value),w.heap.size+2+own<=W.heap.size->aH Z w W->I k W->k<N->it k W u v ->
   body.wpIn (Fence.wide.inRound l) 0 Tryz.prog (xG Z I Ix k W) (a₁ u v) W)
  (hdone:∀W,aH Z w W->I N W->W.heap[w.heap.size]?=some (.deferred (some []))->Q .normal { a with defers := { target := .collected w.heap.size,args := #[] } :: a.defers } W)
  (hstop:∀c W,aH Z w W->Ix c W->W.heap[w.heap.size]?=some (.deferred (some []))->c.wp Tryz.prog Q { a with defers := { target := .collected w.heap.size,args := #[] } :: a.defers } W)
  (Yb:inf=true->∀W,¬I N W) :
  (Code.rangeFunc g ps assign body).wp Tryz.prog Q a w :=
 Jr gf caps N own M (Yh it) Z I Ix eg hg hit (fun k W vs h=>by obtain⟨u,v,rfl,_⟩:=h;exact hps.symm) hMw (fun k W W' vs h hc=>by obtain⟨u,v,rfl,h⟩:=h;exact⟨u,v,rfl,Nk _ _ _ _ _ h hc⟩) hZ hI hIx h0
  (fun vs=>a₁ (vs.getD 0 undef) (vs.getD 1 undef)) (fun l k vs W K h hK=>by obtain⟨u,v,rfl,h⟩:=h;exact hassign l u v W K hK) (fun l k W vs h1 h2 h3 h4 h=>by obtain⟨u,v,rfl,h⟩:=h;exact eu l k W u v h1 h2 h3 h4 h) hdone hstop Yb
end Go.Proofs.YtdpbgcmfeajigaaGreatDoor
namespace Go.Proofs.YtdpbgcmfeajigaaGreatDoor
open Go.RowKit Go.Shelf
attribute [local go_sem] ak run_store_func
theorem gU {l:List Sg}(h:dL l=true):1<=l.length/\l.length<=6/\lW l<=64/\∀i,i<l.length->CX l i=true:=by
 unfold dL at h;simp only[Bool.and_eq_true,decide_eq_true_eq]at h;exact⟨h.1.1.1,h.1.1.2,h.2,fun i hi=>iW.1 h.1.2 i hi⟩
theorem pz {l:List Sg}{i:Nat}(h:CX l i=true):nameB (l.getD i default).name=true/\2<=(l.getD i default).size/\(l.getD i default).size<=4:=by
 unfold CX at h;simp only[Bool.and_eq_true,decide_eq_true_eq]at h;exact⟨h.1.1.1,h.1.1.2,h.1.2⟩
theorem qF {l:List Sg}(h:dL l=true):∀i,i<=l.length->BG l i (lW (l.take i))
 | 0,_=>BG.zero l
 | i+1,hi=>by
  have hv:=gU h;have ho:=pz (hv.2.2.2 i (by omega));have:=(qF h i (by omega)).succ (s:=(l.getD i default).size) (by omega) (by omega) rfl ho.2.1 ho.2.2;rw[this.is]at this;exact this
def fG (l:List Sg)(i:Nat):Int:=lW (l.take i)
theorem D8 {l:List Sg}{i:Nat}(hi:i<l.length):fG l (i+1)=fG l i*(l.getD i default).size:=by
 unfold fG;rw[aU l default hi,qp];show _*((l.getD i default).size*1)=_;rw[Int.mul_one]
def TS (l:List Sg)(k:Nat)(_:World)(u v:Value):Prop:=u = .int .i64 (k:Int)/\v = .int .i64 (fG l k)
theorem sG {l:List Sg}(A:Option Addr)(c pb:Nat)(M:Dom)(w:World)(hv:dL l=true)(hl:mG w M A c l)(hp:w.cell? ⟨pb,0,none⟩=some (.slice A l.length c))(hpb:M pb)(hM:∀b,M b->b<w.heap.size) :
  wE false 123 #[.pointer (some ⟨pb,0,none⟩)] l.length (Yh (TS l)) M 0 w:=by
 intro ln Z J X W1 B1 hW1 hb1 hR hj _;subst hW1;have HR:=hid hR;have HJ:=hid hj;have HV:=hid hv;have SA:=hid (hl.keep (Keeps.of_below hb1 hM));have ZN:=hid ((hb1.cell (p:=⟨pb,0,none⟩) (World.block_lt_of_cell? w _ hp)).trans hp);have HPB:=hid hpb;have hlen:=hl.len.1;have Iq:Hid (∀b,M b->¬Z b):=hid fun b h hz=>(hR.z _ hz).1 h;clear hR hj hl hp hb1 hpb;have p0:=ZN.out;have p1:pb<W1.heap.size:=World.block_lt_of_cell? W1 _ p0;simp only[List.append_toArray,List.cons_append,List.nil_append]
 go_enter Tryz.func123,Tryz.ntmps123
 go_wp2_with fail
 clear p0 p1
 go_loopw [3,7] (fun p q wr=>∃i:Nat,i<=l.length/\q = .int .i64 (i:Int)/\p = .int .i64 (fG l i)/\Hid (aH Z W1 wr)/\Hid (J i wr)) (fun _ q _=>l.length-(intOf q).toNat)
 case atStart=>exact⟨0,Nat.zero_le _,rfl,rfl,aH.refl _ _,HJ.out⟩
 case round =>
  obtain⟨i,hi,rfl,rfl,HC,HJI⟩:=hrel
  by_cases hlt:i<l.length
  ·have hii:(i:Int)<l.length:=by omega
   have dY:=hid hlt;have hst:=HR.out.step i wr #[.int .i64 (i:Int),.int .i64 (fG l i)] (by have:=HC.out.size;omega) HJI.out hlt ⟨_,_,rfl,rfl,rfl⟩;obtain⟨yf,yt,ya,yb',QE,Tq⟩:=hst;have HR4:=hid Tq;clear Tq hlt;obtain⟨z,hz⟩:∃z,fG l i=z:=⟨_,rfl⟩;have HZ:=hid hz;rw[hz]at QE⊢;clear hz;go_upto_region 4 with(fail)
   refine(wpIn_wide (n:=1)).1 ?_
   gi_wp2
   refine HR4.out.mono ?_;rintro e w4 ⟨hc4,(⟨rfl,Tn⟩|⟨rfl,XY⟩)⟩
   ·have Bo:=hid hc4
    have HJ4:=hid Tn;have sN:=hid (HC.out.trans hc4);obtain⟨b,o,s,rfl,hlb,HX,x0,x1,x2⟩:=(SA.out.keep (sN.out.keeps fun b _ h=>Iq.out b h)).get dY.out
    have q0:=World.cell?_of_block (w:=W1) (a:=⟨pb,0,none⟩) (sN.out.block pb (World.block_lt_of_cell? W1 _ ZN.out) (Iq.out pb HPB.out)) |>.trans ZN.out
    have q1:=World.block_lt_of_cell? w4 _ q0;have jE:=hid (show(l.getD i default).size=s.size by rw[HX.out]);have lu:=hid (pz ((gU HV.out).2.2.2 i dY.out));rw[jE.out]at lu;have HWN:=hid (show fG l (i+1)=z*s.size by rw[D8 dY.out,jE.out,HZ.out])
    have hwr:IntKind.i64.wrap (z*s.size)=z*s.size:=by
     have h1:=qF HV.out i (Nat.le_of_lt dY.out);have h2:=h1.wrap (s:=s.size) (by have:=(gU HV.out).2.1;have:=dY.out;omega) lu.out.2.1 lu.out.2.2;have:lW (l.take i)=z:=HZ.out;rw[this]at h2;exact h2
    clear hc4 Tn QE HX
    gi_wp2
    go_wp2_with fail
    go_roundw
    case rel=>exact⟨i+1,by have:=dY.out;omega,by go_num,by rw[HWN.out];(try rw[hwr]),sN.out,HJ4.out⟩
    case measure=>have:=dY.out;simp[intOf];omega
   ·have Bo:=hid (HC.out.trans hc4)
    have HX4:=hid XY;clear hc4 XY QE
    gi_wp2
    go_wp2_with fail
    refine bodyPost_ret (results_none rfl _ _ _) rfl ?_;exact⟨⟨_,rfl⟩,Bo.out,.inr HX4.out⟩
  ·have hii:¬(i:Int)<l.length:=by omega
   obtain rfl:i=l.length:=by omega
   have VW:=hid HJI.out;go_wp2_with fail
   go_end0
   exact⟨⟨_,rfl⟩,HC.out,.inl VW.out⟩
theorem xw (A:Option Addr)(n c:Nat)(w:World) :
  Calls Tryz.prog 85 #[.slice A n c] w fun e w'=>e = .returned (.func (.func 123) #[] #[.pointer (some ⟨w.heap.size,0,none⟩)])/\w'=w.alloc (.cells #[.slice A n c] 34):=by
 have hmf:∀(fn:Fn) (first cap:Array Value) (w:World),(Instr.makeFunc fn first cap).run Tryz.prog w = .ok (.func fn first cap) w:=fun _ _ _ _=>rfl
 go_enter Tryz.func85,Tryz.ntmps85
 go_wp2_with fail
 go_ret
 exact⟨rfl,rfl⟩
end Go.Proofs.YtdpbgcmfeajigaaGreatDoor
namespace Go.Proofs.YtdpbgcmfeajigaaGreatDoor
open Go.RowKit Go.Shelf
attribute [local go_sem] ak run_store_func Oper.semAt_some
theorem Df {P:Program}{id l n:Nat}{Q:Exit->Act->World->Prop}{a:Act}{w:World}{L:List Oper}(hm:P.follows .mixedOrders=true)(hd:rH L.toArray=true)(hQ:¬LetsOut Q)(hB:Region.lexB .any L.toArray=true)
  (h:wpQuiet P L.toArray (fun w'=>∃n,w'=w.drewN n) (fun a'=>∀w',(∃n,w'=w.drewN n)->Q .normal a' w') L a):(Code.region id L.toArray true).wpIn (Fence.wide.inRound l) n P Q a w:=by
 have hB':=hB;simp only[Region.lexB,Bool.and_eq_true]at hB';refine ni hm hd hQ (wpAny_of_quiet (C:=fun w'=>∃n,w'=w.drewN n) (Q:=fun a'=>∀w',(∃n,w'=w.drewN n)->Q .normal a' w') (fun _ w' hw' h=>h w' hw') _ _ _ _ ⟨1,rfl⟩ ?_);have:=wpAnyQ_lex (C:=fun w'=>∃n,w'=w.drewN n) (md := .any) hB'.1 L.toArray.toList 0 (Array.replicate L.toArray.size false) a (by simp) (by simpa using hB'.2) (by simpa using h);simpa using this
theorem Eo {P:Program}{id l n:Nat}{Q:Exit->Act->World->Prop}{a:Act}{w:World}{ops:Array Oper}(S:World->Prop)(hm:P.follows .mixedOrders=true)(hd:rH ops=true)(hQ:¬LetsOut Q)(hS:S w.drew)
  (h:S w.drew->wpAnyH P .any ops Q S ops.size (Array.replicate ops.size false) a w.drew):(Code.region id ops true).wpIn (Fence.wide.inRound l) n P Q a w :=
 ni hm hd hQ (wpAny_of_held _ _ _ _ (h hS))
def dh (l:List Sg):Int:=if dL l then lW l else 0
theorem KC (v:Value)(a:ByteArray)(b:Bool)(c:Int)(w:World) :
  Calls Tryz.prog 132 #[.agg #[.string a,.bool b,.int .i64 c]] w fun e w'=>e = .returned (.bool true)/\Below w.heap.size w w':=by
 go_enter Tryz.func132,Tryz.ntmps132
 go_wp2_with fail
 go_ret
 exact⟨rfl,by go_grown⟩
theorem Ux {D:Dom}(l:List Sg)(A:Option Addr)(n c:Nat)(w:World)(hn:n=l.length)(h:mG w D A c l)(hk:GK w) :
  Calls Tryz.prog 131 #[.slice A n c,.func (.func 132) #[] #[]] w fun e w'=>e = .returned (.int .i64 (dh l))/\Below w.heap.size w w':=by
 subst hn;have HL:=hid h.old;have HK:=hid hk;have hlen:=h.len.1;clear h hk;refine(callsIn_wide (n:=3)).1 (callsIn_of_wp_marks Tryz.func131 rfl trivial ?_ rfl);simp only[Tryz.ntmps131,List.size_toArray,List.length_cons,List.length_nil,Nat.reduceAdd,Nat.reduceSub,Array.replicate_succ,Array.replicate_zero,List.push_toArray,List.append_toArray,List.nil_append,List.cons_append];refine wpIn_wide.2 ?_;go_upto_region 1 with(fail)
 refine aF fun W hW=>?_;have HB:=hid (show Below w.heap.size w W by rw[hW];go_grown);have oL:=hid (show W.heap[w.heap.size]?=some (.cells #[.slice A l.length c] 34 (0,0))by rw[hW,aQ _ _ _ (by simp)];exact at_new _ _ _ rfl);have lq:=hid (show W.heap[w.heap.size+1]?=some (.cells #[.func (.func 132) #[] #[]] 154 (0,0))by rw[hW];exact at_new _ _ _ (by simp));have HS:=hid (show W.heap.size=w.heap.size+2 by rw[hW];simp);clear hW;have s0:=aj oL.out (i:=0) rfl;have s1:=lt_of_block oL.out;have BD:=hid (vw l A c l.length W rfl (HL.out.any HB.out) (HK.out.below HB.out HK.out.pos));cases hv:dL l
 ·have HR:=hid (show dh l=0 by unfold dh;rw[hv];rfl)
  rw[hv]at BD;clear hv;go_wp2_with (first|(go_at_call 84;refine BD.out.mono ?_;rintro e V ⟨rfl,jU⟩;have iG:=hid (au HB.out jU)))
  refine uT rfl (v := .int .i64 0) ?_ ⟨by rw[HR.out],iG.out⟩;simp[results,Tryz.results131,go_sem]
 rw[hv]at BD;have HV:=hid hv;have HR:=hid (show dh l=lW l by unfold dh;rw[hv];rfl);clear hv;go_upto_region 4 with(go_at_call 84;refine BD.out.mono ?_;rintro e V ⟨rfl,jU⟩;have iG:=hid jU;clear s0 s1 jU)
 refine aF fun V2 hV2=>?_;have hb2:Below V.heap.size V V2:=by rw[hV2];go_grown
 have HB2:=hid (au iG.out hb2);have HE2:=hid (show V2.heap[V.heap.size]?=some (.cells #[.int .i64 1] 3 (0,0))by rw[hV2];first|exact at_new _ _ _ rfl|(rw[aB (at_new _ _ _ rfl)];rfl));have yY:=hid (show w.heap.size+2<=V.heap.size by have:=iG.out.size;have:=HS.out;omega);obtain⟨nb,hnb⟩:∃nb,nb=V.heap.size:=⟨_,rfl⟩;rw[<-hnb]at HE2 yY⊢;clear hV2 hb2 hnb iG BD;have LH:=hid ((HB2.out.block _ (lt_of_block oL.out)).trans oL.out);have vZ:=hid ((HB2.out.block _ (lt_of_block lq.out)).trans lq.out);have s0:=aj LH.out (i:=0) rfl;have s1:=lt_of_block LH.out;go_wp2_with (go_at_call 85;refine(xw A l.length c V2).mono ?_;rintro e w2 ⟨rfl,rfl⟩)
 refine aF fun W2 hW2=>?_;have hb2:Below V2.heap.size V2 W2:=by rw[hW2];go_grown
 have HP:=hid (show W2.cell? ⟨V2.heap.size,0,none⟩=some (.slice A l.length c)by rw[hW2];exact aj (at_new _ _ _ rfl) (i:=0) rfl);have HS2:=hid (show W2.heap.size=V2.heap.size+1 by rw[hW2];simp);have aT:=hid (au HB.out (au HB2.out hb2));have Zi:=hid ((hb2.block _ (lt_of_block LH.out)).trans LH.out);have PI:=hid ((hb2.block _ (lt_of_block vZ.out)).trans vZ.out);have HF2:=hid ((hb2.block _ (lt_of_block HE2.out)).trans HE2.out);have pY:=hid (show w.heap.size+2<=nb/\nb<V2.heap.size from⟨yY.out,lt_of_block HE2.out⟩);have SA:=hid ((HL.out.keep (Keeps.of_below aT.out fun _ h=>h)).mono (E:=fun x=>x<w.heap.size\/x=V2.heap.size) fun k hk hl => .inl hk);clear hW2 hb2 s0 s1 oL lq HE2 LH vZ
 have Hq:=hid (sG A c V2.heap.size (fun x=>x<w.heap.size\/x=V2.heap.size) W2 HV.out SA.out HP.out (.inr rfl) (fun x hx=>by have:=HS2.out;have:=pY.out;omega));have HMP:=hid (fun i (hi:i<=l.length)=>qF HV.out i hi)
 refine CS 123 #[.pointer (some ⟨V2.heap.size,0,none⟩)] l.length 0 (fun x=>x<w.heap.size\/x=V2.heap.size) (TS l) (fun x=>x=nb)
  (fun k W'=>W'.heap[nb]?=some (.cells #[.int .i64 (fG l k)] 3 (0,0)))
  (fun _ _=>False)
  (enters_of Tryz.func123 (by kernel_rfl) rfl) rfl rfl Hq.out (fun x hx=>by have:=HS2.out;have:=pY.out;omega) (fun _ _ _ _ _ h _=>h) ?hZ ?hI (fun _ _ _ h _=>h) HF2.out ?a1 ?hassign ?eu ?hdone (fun _ _ _ h _=>h.elim) (fun h=>by cases h)
 case hassign =>
  intro l u v W K hK
  gi_wp2
  exact hK
 case hZ=>intro x hx;have:=HS2.out;have:=pY.out;exact⟨by omega,by omega⟩
 case hI=>intro k W3 W4 h hc;exact hc.box h (by have:=HS2.out;have:=pY.out;omega)
 case eu =>
  rintro ln k W3 u v hs3 hc3 VZ hkl ⟨rfl,rfl⟩;have HKL:=hid hkl;have HI3:=hid VZ;have Eu:=hid hc3;have hkk:(k:Int)<(l.length:Int):=by omega
  have hk0:(0:Int)<=(k:Int):=by omega
  have wu:=hid (show w.heap.size≠nb/\w.heap.size+1≠nb by have:=pY.out;omega);have t0:=aj (hc3.box Zi.out wu.out.1) (i:=0) rfl;have t1:=aj (hc3.box PI.out wu.out.2) (i:=0) rfl;have tl0:=lt_of_block (hc3.box Zi.out wu.out.1);obtain⟨b,o,s,rfl,hlb,HX,x0,x1,x2⟩:=(SA.out.keep (hc3.keeps fun x _ h e=>by have:=pY.out;omega)).get hkl;have jE:=hid (show(l.getD k default).size=s.size by rw[HX.out]);have lu:=hid (pz ((gU HV.out).2.2.2 k hkl));rw[jE.out]at lu;clear HX hc3 VZ hkl
  gi_upto_region 6 with(fail)
  refine Eo (fun W'=>W'.cell? ⟨w.heap.size+1,0,none⟩=some (.func (.func 132) #[] #[])/\W'.cell? ⟨w.heap.size,0,none⟩=some (.slice (some ⟨b,o,none⟩) l.length c)/\W'.cell? ⟨b,o+k*3,none⟩=some (.string s.name)/\W'.cell? ⟨b,o+k*3+1,none⟩=some (.bool s.inp)/\W'.cell? ⟨b,o+k*3+2,none⟩=some (.int .i64 s.size)) (by kernel_rfl) (by kernel_rfl) (fun h=>by obtain⟨_,_,h⟩:=h;exact h) ⟨t1,t0,x0,x1,x2⟩ (fun hHeld=>?_);clear t0 t1 x0 x1 x2;refine fH 0 ?_ rfl (by kernel_rfl) (fun _ _ _ h=>h) ?_ (by assumption) ?_
  rotate_left
  ·intro w hSw;(try dsimp only at hSw);go_simp;(try(with_reducible rfl))
  try simp only[Act.put,bf,bn,bC]
  refine fH 1 ?_ rfl (by kernel_rfl) (fun _ _ _ h=>h) ?_ (by assumption) ?_
  rotate_left
  ·intro w hSw;(try dsimp only at hSw);go_simp;(try(with_reducible rfl))
  try simp only[Act.put,bf,bn,bC]
  refine fH 2 ?_ rfl (by kernel_rfl) (fun _ _ _ h=>h) ?_ (by assumption) ?_
  rotate_left
  ·intro w hSw;(try dsimp only at hSw);go_simp;(try(with_reducible rfl))
  try simp only[Act.put,bf,bn,bC]
  refine fH 3 ?_ rfl (by kernel_rfl) (fun _ _ _ h=>h) ?_ (by assumption) ?_
  rotate_left
  ·intro w hSw;(try dsimp only at hSw);go_simp;(try(with_reducible rfl))
  try simp only[Act.put,bf,bn,bC]
  refine fH 4 ?_ rfl (by kernel_rfl) (fun _ _ _ h=>h) ?_ (by assumption) ?_
  rotate_left
  ·intro w hSw;(try dsimp only at hSw);go_simp;(try(with_reducible rfl))
  try simp only[Act.put,bf,bn,bC]
  refine lX 5 (by kernel_rfl) rfl fun K hK=>?_
  go_simp
  refine(KC (.int .i64 0) s.name s.inp s.size _).mono ?_;rintro e V3 ⟨rfl,hb3⟩;have vY:=hid (show Below W3.heap.size W3 V3 from((Below.refl _ _).drew).trans (hb3.mono (by simp)));have lH:=hid tl0;have JV:=hid hlb
  have hq:V3.cell? ⟨w.heap.size+1,0,none⟩=some (.func (.func 132) #[] #[])/\V3.cell? ⟨w.heap.size,0,none⟩=some (.slice (some ⟨b,o,none⟩) l.length c)/\V3.cell? ⟨b,o+k*3,none⟩=some (.string s.name)/\V3.cell? ⟨b,o+k*3+1,none⟩=some (.bool s.inp)/\V3.cell? ⟨b,o+k*3+2,none⟩=some (.int .i64 s.size):=by
   obtain⟨h1,h2,h3,h4,h5⟩:=hHeld;exact⟨(hb3.cell (World.block_lt_of_cell? _ _ h1)).trans h1,(hb3.cell (World.block_lt_of_cell? _ _ h2)).trans h2,(hb3.cell (World.block_lt_of_cell? _ _ h3)).trans h3,(hb3.cell (World.block_lt_of_cell? _ _ h4)).trans h4,(hb3.cell (World.block_lt_of_cell? _ _ h5)).trans h5⟩
  refine hK.out _ _ hq (fun hHeld=>?_);clear hK K hb3 tl0 hlb
  try simp only[Act.put,bf,bn,bC]
  refine wpAnyH_done (by kernel_rfl) ?_ _;clear hHeld;obtain⟨-,q1, -, -,q4⟩:=hq;have HN3:=hid ((vY.out.block _ (lt_of_block HI3.out)).trans HI3.out);have r0:=aj HN3.out (i:=0) rfl;have r1:=aA HN3.out (i:=0);have r2:=lt_of_block HN3.out;have q5:w.heap.size<V3.heap.size:=Nat.lt_of_lt_of_le lH.out vY.out.size;have q6:b<V3.heap.size:=Nat.lt_of_lt_of_le JV.out vY.out.size;have HWN:=hid (show fG l (k+1)=fG l k*s.size by rw[D8 HKL.out,jE.out])
  have hwr:IntKind.i64.wrap (fG l k*s.size)=fG l k*s.size :=
   (qF HV.out k (Nat.le_of_lt HKL.out)).wrap (s:=s.size) (by have:=(gU HV.out).2.1;have:=HKL.out;omega) lu.out.2.1 lu.out.2.2
  obtain⟨z,hz⟩:∃z,fG l k=z:=⟨_,rfl⟩;rw[hz]at r0 hwr HWN;clear hz
  gi_upto_region 7 with(fail)
  refine pO (fun W'=>W'.cell? ⟨nb,0,none⟩=some (.int .i64 z)/\W'.cell? ⟨w.heap.size,0,none⟩=some (.slice (some ⟨b,o,none⟩) l.length c)/\W'.cell? ⟨b,o+k*3+2,none⟩=some (.int .i64 s.size)) (by kernel_rfl) (by kernel_rfl) (fun h=>by obtain⟨_,_,h⟩:=h;exact h) (by kernel_rfl) (by kernel_rfl) ⟨r0,q1,q4⟩ (fun hHeld=>?_);simp only[List.dropLast_cons_cons,List.dropLast_singleton,List.getLast_cons_cons,List.getLast_singleton];refine fH 0 ?_ rfl (by kernel_rfl) (fun _ _ _ h=>h) ?_ (by assumption) ?_
  rotate_left
  ·intro w hSw;(try dsimp only at hSw);go_simp;(try(with_reducible rfl))
  try simp only[Act.put,bf,bn,bC]
  refine fH 1 ?_ rfl (by kernel_rfl) (fun _ _ _ h=>h) ?_ (by assumption) ?_
  rotate_left
  ·intro w hSw;(try dsimp only at hSw);go_simp;(try(with_reducible rfl))
  try simp only[Act.put,bf,bn,bC]
  refine fH 2 ?_ rfl (by kernel_rfl) (fun _ _ _ h=>h) ?_ (by assumption) ?_
  rotate_left
  ·intro w hSw;(try dsimp only at hSw);go_simp;(try(with_reducible rfl))
  try simp only[Act.put,bf,bn,bC]
  refine fH 3 ?_ rfl (by kernel_rfl) (fun _ _ _ h=>h) ?_ (by assumption) ?_
  rotate_left
  ·intro w hSw;(try dsimp only at hSw);go_simp;(try(with_reducible rfl))
  try simp only[Act.put,bf,bn,bC]
  refine fH 4 ?_ rfl (by kernel_rfl) (fun _ _ _ h=>h) ?_ (by assumption) ?_
  rotate_left
  ·intro w hSw;(try dsimp only at hSw);go_simp;(try(with_reducible rfl))
  try simp only[Act.put,bf,bn,bC]
  refine fH 5 ?_ rfl (by kernel_rfl) (fun _ _ _ h=>h) ?_ (by assumption) ?_
  rotate_left
  ·intro w hSw;(try dsimp only at hSw);go_simp;(try(with_reducible rfl))
  try simp only[Act.put,bf,bn,bC]
  refine fH 6 ?_ rfl (by kernel_rfl) (fun _ _ _ h=>h) ?_ (by assumption) ?_
  rotate_left
  ·intro w hSw;(try dsimp only at hSw);go_simp;(try(with_reducible rfl))
  try simp only[Act.put,bf,bn,bC]
  refine wpAnyH_done (by kernel_rfl) ?_ _;unfold jX
  go_simp
  gi_wp2_with fail
  refine⟨((aH.aS (V:=fun x=>x=nb) vY.out).set ⟨nb,0,none⟩ _ fun _=>rfl).drew,?_⟩;show(V3.setCell ⟨nb,0,none⟩ (.int .i64 (z*s.size))).heap[nb]?=some (Obj.cells #[.int .i64 (fG l (k+1))] 3 (0,0));rw[aB HN3.out,HWN.out];rfl
 case hdone =>
  rintro W3 hc h1 hD3;have r0:=aj h1 (i:=0) rfl
  dsimp only
  go_wp2_with fail
  have hbf:=aT.out.trans (hc.below (B:=w.heap.size) (fun x hx=>by have:=pY.out;omega) aT.out.size);have hpl:fG l l.length=lW l:=by unfold fG;rw[List.take_length]
  refine gy rfl hD3 (v := .int .i64 (fG l l.length)) (fun w' hc'=>?_) (fun w' hc'=>⟨by rw[HR.out,hpl],hbf.trans (hc'.below (fun x hx=>by have:=HS2.out;have:=pY.out;omega) hbf.size)⟩);simp[results,Tryz.results131,go_sem]
theorem DL {D:Dom}(l:List Sg)(A:Option Addr)(n c:Nat)(w:World)(hn:n=l.length)(h:mG w D A c l)(hk:GK w) :
  Calls Tryz.prog 101 #[.slice A n c] w fun e w'=>e = .returned (.int .i64 (dh l))/\Below w.heap.size w w':=by
 subst hn;have HC:=hid (Ux l A l.length c w rfl h hk);clear h hk
 go_enter Tryz.func101,Tryz.ntmps101
 go_wp2_with (go_at_call 131;(with_reducible refine HC.out.mono ?_);rintro e V ⟨rfl,hb⟩)
 go_ret
 exact⟨bD rfl,hb⟩
theorem Jh {D:Dom}{l:List Sg}{A:Option Addr}{n c:Nat}{w:World}(r:Int)(hr:dh l=r)(hn:n=l.length)(h:mG w D A c l)(hk:GK w) :
  Calls Tryz.prog 101 #[.slice A n c] w fun e w'=>e = .returned (.int .i64 r)/\Below w.heap.size w w':=by
 subst hr;exact DL l A n c w hn h hk
end Go.Proofs.YtdpbgcmfeajigaaGreatDoor
namespace Go.Proofs.YtdpbgcmfeajigaaGreatDoor
open Go.RowKit Go.Shelf
attribute [local go_sem] ak run_store_func Oper.semAt_some
def gJ (l:List Sg)(x:Int)(i:Nat):Int:=x / fG l i % (l.getD i default).size
theorem sF {l:List Sg}(hv:dL l=true){i:Nat}(hi:i<=l.length):1<=fG l i/\fG l i<=4096:=by
 have h:=qF hv i hi;refine⟨h.lo,Int.le_trans h.hi ?_⟩;have h6:=(gU hv).2.1;have:i=0\/i=1\/i=2\/i=3\/i=4\/i=5\/i=6:=by omega
 rcases this with rfl|rfl|rfl|rfl|rfl|rfl|rfl <;> decide
theorem mP {l:List Sg}{x:Int}(h0:0<=x)(h:x<dh l):dL l=true/\dh l=lW l/\x<64:=by
 unfold dh at h⊢;cases hv:dL l
 ·rw[hv]at h
  have h:x<0:=h;omega
 ·rw[hv]at h
  have h:x<lW l:=h;have:=(gU hv).2.2.1;exact⟨rfl,rfl,by omega⟩
theorem JH {D:Dom}(l:List Sg)(A:Option Addr)(n c:Nat)(x:Int)(i:Nat)(w:World)(hn:n=l.length)(h:mG w D A c l)(hk:GK w)(h0:0<=x)(hx:x<dh l)(hi:i<l.length) :
  Calls Tryz.prog 102 #[.slice A n c,.int .i64 x,.int .i64 (i:Int)] w fun e w'=>e = .returned (.int .i64 (gJ l x i))/\Below w.heap.size w w':=by
 subst hn;obtain⟨hv,hlz,h64⟩:=mP h0 hx;have HL:=hid h.old;have HK:=hid hk;have HV:=hid hv;have HI:=hid hi;have HX:=hid (show 0<=x/\x<64 from⟨h0,h64⟩);have hlen:=h.len.1;obtain⟨lz,hlz'⟩:∃lz,dh l=lz:=⟨_,rfl⟩;have HLZ:=hid hlz';rw[hlz']at hx;have d1:¬x<0:=by omega
 have e1:decide (x<0)=false:=decide_eq_false d1;have d2:¬lz<=x:=by omega
 have e2:decide (lz<=x)=false:=decide_eq_false d2;have d3:¬(i:Int)<0:=by omega
 have e3:decide ((i:Int)<0)=false:=decide_eq_false d3;have d4:¬(l.length:Int)<=(i:Int):=by omega
 have e4:decide ((l.length:Int)<=(i:Int))=false:=decide_eq_false d4;clear h hk hv hlz h64 hlz' h0 hx hi;refine(callsIn_wide (n:=3)).1 (callsIn_of_wp_marks Tryz.func102 rfl trivial ?_ rfl);simp only[Tryz.ntmps102,List.size_toArray,List.length_cons,List.length_nil,Nat.reduceAdd,Nat.reduceSub,Array.replicate_succ,Array.replicate_zero,List.push_toArray,List.append_toArray,List.nil_append,List.cons_append];refine wpIn_wide.2 ?_;go_upto_region 1 with(fail)
 refine aF fun W hW=>?_;have HB:=hid (show Below w.heap.size w W by rw[hW];go_grown);have oL:=hid (show W.heap[w.heap.size]?=some (.cells #[.slice A l.length c] 34 (0,0))by rw[hW,aQ _ _ _ (by first|(simp;done)|(simp;omega)),aQ _ _ _ (by first|(simp;done)|(simp;omega)),aQ _ _ _ (by simp)];exact at_new _ _ _ rfl);have lq:=hid (show W.heap[w.heap.size+1]?=some (.cells #[.int .i64 x] 3 (0,0))by rw[hW,aQ _ _ _ (by first|(simp;done)|(simp;omega)),aQ _ _ _ (by simp)];exact at_new _ _ _ (by simp));have HE2:=hid (show W.heap[w.heap.size+2]?=some (.cells #[.int .i64 (i:Int)] 3 (0,0))by rw[hW,aQ _ _ _ (by simp)];exact at_new _ _ _ (by simp))
 have Ip:=hid (show W.heap[w.heap.size+3]?=some (.cells #[.int .i64 0] 3 (0,0))by rw[hW];exact at_new _ _ _ (by simp));have HS:=hid (show W.heap.size=w.heap.size+4 by rw[hW];simp);clear hW
 have aI:Hid (∀W':World,Below W.heap.size W W'->W'.cell? ⟨w.heap.size,0,none⟩=some (.slice A l.length c)/\W'.cell? ⟨w.heap.size+1,0,none⟩=some (.int .i64 x)/\W'.cell? ⟨w.heap.size+2,0,none⟩=some (.int .i64 (i:Int))):=hid fun W' hb =>
  ⟨aj ((hb.block _ (lt_of_block oL.out)).trans oL.out) (i:=0) rfl,aj ((hb.block _ (lt_of_block lq.out)).trans lq.out) (i:=0) rfl,aj ((hb.block _ (lt_of_block HE2.out)).trans HE2.out) (i:=0) rfl⟩
 have HC:Hid (∀W':World,Below W.heap.size W W'->Calls Tryz.prog 101 #[.slice A l.length c] W' fun e w'=>e = .returned (.int .i64 lz)/\Below W.heap.size W w'):=hid fun W' hb=>by
  refine(Jh (l:=l) (w:=W') (n:=l.length) lz HLZ.out rfl (HL.out.any (au HB.out hb)) (HK.out.below (au HB.out hb) HK.out.pos)).mono ?_;rintro e w' ⟨rfl,hb'⟩;exact⟨rfl,au hb hb'⟩
 have HI1:=hid (show Below W.heap.size W W.drew from(Below.refl _ _).drew);have HI2:=hid (show∀i,Below W.heap.size W (W.drewN i)from fun i=>(aV.n W i).below _);obtain⟨s0,s1,s2⟩:=aI.out W (Below.refl _ _)
 go_region_held3 (fun W':World=>W'.cell? ⟨w.heap.size,0,none⟩=some (.slice A l.length c)/\W'.cell? ⟨w.heap.size+1,0,none⟩=some (.int .i64 x)/\W'.cell? ⟨w.heap.size+2,0,none⟩=some (.int .i64 (i:Int)))
  (first|(with_reducible exact aI.out _ hI)|(go_keep;done))
  ((go_at_call 101;(with_reducible refine(HC.out _ (by first|exact HI1.out|exact HI2.out _)).mono ?_);rintro e V ⟨rfl,hI⟩))
 all_goals
  have iG:=hid hI;clear hI s0 s1 s2 HI1 HI2;obtain⟨s0,s1,s2⟩:=aI.out _ iG.out;have s3:=lt_of_block ((iG.out.block _ (lt_of_block oL.out)).trans oL.out);clear s1 s2;go_wp2_with (go_at_call 85;refine(xw A l.length c _).mono ?_;rintro e w2 ⟨rfl,rfl⟩)
  refine aF fun W2 hW2=>?_;have hb2:Below V.heap.size V W2:=by rw[hW2];go_grown
  have HP:=hid (show W2.cell? ⟨V.heap.size,0,none⟩=some (.slice A l.length c)by rw[hW2];exact aj (at_new _ _ _ rfl) (i:=0) rfl);have HS2:=hid (show W2.heap.size=V.heap.size+1 by rw[hW2];simp);have uy:=hid (au iG.out hb2);have aT:=hid (au HB.out uy.out);have yY:=hid (show w.heap.size+4<=V.heap.size by have:=iG.out.size;have:=HS.out;omega);have HF3:=hid ((uy.out.block _ (lt_of_block Ip.out)).trans Ip.out);have SA:=hid ((HL.out.keep (Keeps.of_below aT.out fun _ h=>h)).mono (E:=fun x=>x<w.heap.size\/x=V.heap.size) fun k hk hl => .inl hk);have Zx:=hid (aI.out _ uy.out);clear hW2 hb2 s0 s3
  have Hq:=hid (sG A c V.heap.size (fun x=>x<w.heap.size\/x=V.heap.size) W2 HV.out SA.out HP.out (.inr rfl) (fun x hx=>by have:=HS2.out;have:=yY.out;omega))
  refine CS 123 #[.pointer (some ⟨V.heap.size,0,none⟩)] l.length 0 (fun x=>x<w.heap.size\/x=V.heap.size) (TS l) (fun x=>x=w.heap.size+3)
   (fun k W'=>k<=i/\W'.heap[w.heap.size+3]?=some (.cells #[.int .i64 0] 3 (0,0)))
   (fun c W'=>c = .ret/\W'.heap[w.heap.size+3]?=some (.cells #[.int .i64 (gJ l x i)] 3 (0,0)))
   (enters_of Tryz.func123 (by kernel_rfl) rfl) rfl rfl Hq.out (fun x hx=>by have:=HS2.out;have:=yY.out;omega) (fun _ _ _ _ _ h _=>h) ?hZ ?hI ?hIx ⟨Nat.zero_le _,HF3.out⟩ ?a1 ?hassign ?eu ?hdone ?hstop (fun h=>by cases h)
  case hassign =>
   intro l u v W K hK
   gi_wp2
   exact hK
  case hZ=>intro x hx;have:=HS2.out;have:=yY.out;exact⟨by omega,by omega⟩
  case hI=>rintro k W3 W4 ⟨h1,h2⟩ hc;exact⟨h1,hc.box h2 (by have:=HS2.out;have:=yY.out;omega)⟩
  case hIx=>rintro c W3 W4 ⟨h1,h2⟩ hc;exact⟨h1,hc.box h2 (by have:=HS2.out;have:=yY.out;omega)⟩
  case eu =>
   rintro ln k W3 u v hs3 hc3 ⟨hki,VZ⟩ hkl ⟨rfl,rfl⟩;have HKL:=hid hkl;have HKI:=hid hki;have HI3:=hid VZ;obtain⟨t0,t1,t2⟩:=Zx.out;have Am:∀(b:Nat) (v:Value),b≠w.heap.size+3->W2.cell? ⟨b,0,none⟩=some v->W3.cell? ⟨b,0,none⟩=some v:=fun b v hb hv=>(World.cell?_of_block (w:=W2) (a:=⟨b,0,none⟩) (hc3.block b (World.block_lt_of_cell? _ _ hv) hb)).trans hv;have q0:=Am _ _ (by omega) t0;have q1:=Am _ _ (by omega) t1;have q2:=Am _ _ (by omega) t2;have ql:=World.block_lt_of_cell? _ _ q0
   by_cases qc9:k=i
   ·have dk:((k:Int)==(i:Int))=true:=by rw[qc9];exact beq_self_eq_true _
    have hk0:(0:Int)<=(i:Int):=by omega
    have hkk:(i:Int)<(l.length:Int):=by have:=HI.out;omega
    obtain⟨b,o,s,rfl,hlb,HSX,x0,x1,x2⟩:=(SA.out.keep (hc3.keeps fun x _ h e=>by have:=yY.out;omega)).get HI.out;have lu:=hid (pz ((gU HV.out).2.2.2 i HI.out));have hwb:=sF HV.out (Nat.le_of_lt HI.out);have HVZ:=hid (show gJ l x i=x / fG l i % s.size by unfold gJ;rw[HSX.out]);rw[HSX.out]at lu;obtain⟨z,hz⟩:∃z,fG l i=z:=⟨_,rfl⟩;rw[hz]at hwb HVZ;have hxx:=HX.out;obtain⟨d,hd⟩:∃d,x / z=d:=⟨_,rfl⟩;have hq:x.tdiv z=d:=by rw[Int.tdiv_eq_ediv_of_nonneg hxx.1];exact hd
    have hdb:0<=d/\d<64:=by rw[<-hd];exact⟨Int.ediv_nonneg hxx.1 (by omega),Int.lt_of_le_of_lt (Int.ediv_le_self z hxx.1) hxx.2⟩
    obtain⟨r,hr⟩:∃r,d % s.size=r:=⟨_,rfl⟩;have hm:d.tmod s.size=r:=by rw[Int.tmod_eq_emod_of_nonneg hdb.1];exact hr
    rw[hd,hr]at HVZ
    have hrb:0<=r/\r<4:=by
     rw[<-hr];have:=lu.out.2;exact⟨Int.emod_nonneg _ (by omega),Int.lt_of_lt_of_le (Int.emod_lt_of_pos _ (by omega)) (by omega)⟩
    have w1:IntKind.i64.wrap d=d:=IntWalk.i64_in _ (by omega);have w2:IntKind.i64.wrap r=r:=IntWalk.i64_in _ (by omega);have n1:¬z=0:=by omega
    have n2:(z==0)=false:=ay n1;have n3:¬s.size=0:=by have:=lu.out.2;omega
    have n4:(s.size==0)=false:=ay n3;have r0:=aj HI3.out (i:=0) rfl;have r1:=aA HI3.out (i:=0);have r2:=lt_of_block HI3.out;have HHC:=hid hc3;rw[qc9,hz];clear VZ hkl hki qc9 t0 t1 t2 Am hd hr HSX x0 x1 hc3 hz dk;have dk:((i:Int)==(i:Int))=true:=beq_self_eq_true _
    gi_upto_region 7 with(fail)
    refine pO (fun W'=>W'.cell? ⟨w.heap.size+1,0,none⟩=some (.int .i64 x)/\W'.cell? ⟨w.heap.size,0,none⟩=some (.slice (some ⟨b,o,none⟩) l.length c)/\W'.cell? ⟨w.heap.size+2,0,none⟩=some (.int .i64 (i:Int))/\W'.cell? ⟨b,o+i*3+2,none⟩=some (.int .i64 s.size)) (by kernel_rfl) (by kernel_rfl) (fun h=>by obtain⟨_,_,h⟩:=h;exact h) (by kernel_rfl) (by kernel_rfl) ⟨q1,q0,q2,x2⟩ (fun hHeld=>?_);simp only[List.dropLast_cons_cons,List.dropLast_singleton,List.getLast_cons_cons,List.getLast_singleton];refine fH 0 ?_ rfl (by kernel_rfl) (fun _ _ _ h=>h) ?_ (by assumption) ?_
    rotate_left
    ·intro w hSw;(try dsimp only at hSw);go_simp;(try(with_reducible rfl))
    try simp only[Act.put,bf,bn,bC]
    refine fH 1 ?_ rfl (by kernel_rfl) (fun _ _ _ h=>h) ?_ (by assumption) ?_
    rotate_left
    ·intro w hSw;(try dsimp only at hSw);go_simp;(try(with_reducible rfl))
    try simp only[Act.put,bf,bn,bC]
    refine fH 2 ?_ rfl (by kernel_rfl) (fun _ _ _ h=>h) ?_ (by assumption) ?_
    rotate_left
    ·intro w hSw;(try dsimp only at hSw);go_simp;(try(with_reducible rfl))
    try simp only[Act.put,bf,bn,bC]
    refine fH 3 ?_ rfl (by kernel_rfl) (fun _ _ _ h=>h) ?_ (by assumption) ?_
    rotate_left
    ·intro w hSw;(try dsimp only at hSw);go_simp;(try(with_reducible rfl))
    try simp only[Act.put,bf,bn,bC]
    refine fH 4 ?_ rfl (by kernel_rfl) (fun _ _ _ h=>h) ?_ (by assumption) ?_
    rotate_left
    ·intro w hSw;(try dsimp only at hSw);go_simp;(try(with_reducible rfl))
    try simp only[Act.put,bf,bn,bC]
    refine fH 5 ?_ rfl (by kernel_rfl) (fun _ _ _ h=>h) ?_ (by assumption) ?_
    rotate_left
    ·intro w hSw;(try dsimp only at hSw);go_simp;(try(with_reducible rfl))
    try simp only[Act.put,bf,bn,bC]
    refine fH 6 ?_ rfl (by kernel_rfl) (fun _ _ _ h=>h) ?_ (by assumption) ?_
    rotate_left
    ·intro w hSw;(try dsimp only at hSw);go_simp;(try(with_reducible rfl))
    try simp only[Act.put,bf,bn,bC]
    refine fH 7 ?_ rfl (by kernel_rfl) (fun _ _ _ h=>h) ?_ (by assumption) ?_
    rotate_left
    ·intro w hSw;(try dsimp only at hSw);go_simp;(try(with_reducible rfl))
    try simp only[Act.put,bf,bn,bC]
    refine fH 8 ?_ rfl (by kernel_rfl) (fun _ _ _ h=>h) ?_ (by assumption) ?_
    rotate_left
    ·intro w hSw;(try dsimp only at hSw);go_simp;(try(with_reducible rfl))
    try simp only[Act.put,bf,bn,bC]
    refine wpAnyH_done (by kernel_rfl) ?_ _;unfold jX
    go_simp
    gi_wp2_with fail
    refine⟨((aH.refl (fun x=>x=w.heap.size+3) W3).set ⟨w.heap.size+3,0,none⟩ _ fun _=>rfl).drew,rfl,?_⟩;show(W3.setCell ⟨w.heap.size+3,0,none⟩ (.int .i64 r)).heap[w.heap.size+3]?=some (Obj.cells #[.int .i64 (gJ l x i)] 3 (0,0));rw[aB HI3.out,HVZ.out];rfl
   ·have dk:((k:Int)==(i:Int))=false:=ay (by omega)
    clear VZ hkl hki t0 t1 t2 Am q0 q1
    gi_wp2_with fail
    exact⟨aH.refl _ _,by have:=HKI.out;omega,HI3.out⟩
  case hdone =>
   rintro W3 hc ⟨h1,h2⟩ hD3;exact absurd h1 (by have:=HI.out;omega)
  case hstop =>
   rintro c W3 hc ⟨rfl,h2⟩ hD3
   dsimp only
   go_wp2_with fail
   have hbf:=aT.out.trans (hc.below (B:=w.heap.size) (fun x hx=>by omega) aT.out.size);refine gy rfl hD3 (v := .int .i64 (gJ l x i)) (fun w' hc'=>?_) (fun w' hc'=>⟨rfl,hbf.trans (hc'.below (fun x hx=>by have:=HS2.out;have:=yY.out;omega) hbf.size)⟩);have:=aj (hc'.box h2 (by have:=HS2.out;have:=yY.out;omega)) (i:=0) rfl;simp[results,Tryz.results102,go_sem,this]
end Go.Proofs.YtdpbgcmfeajigaaGreatDoor
