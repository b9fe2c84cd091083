/-
  Parts of a proof: LP PA PB PC PD PE PF PG PH PI PJ PK.
-/
import Derived.ProofKit
import Derived.SizedLaws
import Derived.Deep.Slices
import Derived.Deep.SlicePairs
import Derived.Deep.Fields
import Derived.Lib.SmallJoins
import Derived.Test.YtdpbgcmfeajigaaGreatDoorZ23
import Derived.Test.YtdpbgcmfeajigaaGreatDoorZ00
import Derived.Test.YtdpbgcmfeajigaaGreatDoorZ21
import Derived.Test.YtdpbgcmfeajigaaGreatDoorZ22
import Derived.Test.YtdpbgcmfeajigaaGreatDoorZ20
set_option linter.unusedSimpArgs false
set_option linter.unusedVariables false
set_option maxHeartbeats 8000000
set_option maxRecDepth 100000
namespace Go.Proofs.YtdpbgcmfeajigaaGreatDoor
open Go.ChangeShapes Go.WideShapes Go.RowKit Go.Deep Go.Joins
def Light {H:Type} (P:Program) (t:TypeId) (d:DataW H):Prop:=(d.weights P t).all (· ≤ reachBytes)=true
theorem light_at {H:Type} {P:Program} {ts:List TypeId} {ds:List (DataW H)} (h:(DataW.weightsEach P ts ds).all (· ≤ reachBytes)=true) {j:Nat} {t:TypeId} {d:DataW H} (ht:ts[j]? = some t) (hd:ds[j]? = some d):Light P t d:=by
 unfold Light
 rw [List.all_eq_true] at h ⊢
 exact fun n hn=>h n (DataW.weights_mem_each ht hd n hn)
theorem light_slice {H:Type} {P:Program} {t e:TypeId} {elems spare:List (DataW H)} (hu:P.underlying t=some (.slice e)) (h:Light P t (.slice elems spare)) :
  (elems.length+spare.length) * P.bytesOf e≤reachBytes ∧ ∀ d∈elems,Light P e d:=by
 unfold Light at h
 simp only [DataW.weights,hu,List.all_cons,Bool.and_eq_true,decide_eq_true_eq,List.all_append] at h
 refine ⟨h.1,fun d hd => ?_⟩
 have key : ∀ (l:List (DataW H)),(DataW.weightsAll P e l).all (· ≤ reachBytes)=true → ∀ d∈l,Light P e d:=by
  intro l
  induction l with
  | nil=>intro _ d hd;cases hd
  | cons x l ih =>
   intro hl d hd
   simp only [DataW.weightsAll,List.all_append,Bool.and_eq_true] at hl
   rcases List.mem_cons.1 hd with rfl | hd
   ·exact hl.1
   ·exact ih hl.2 d hd
 exact key elems h.2.1 d hd
section
variable {H:Type} {enc:TypeId × Value→H} {w:World} {base:Nat} {held:Bool}
theorem plain_addr {a:Addr} {u:Value} (h:w.cell? (a.add 0)=some u):a=⟨a.block,a.off,none⟩∧a.block < w.heap.size:=by
 have h0:a.add 0=a:=by unfold Addr.add;simp
 rw [h0] at h
 refine ⟨?_,World.block_lt_of_cell? w a h⟩
 obtain ⟨b,o,s⟩:=a
 cases s with
 | none=>rfl
 | some s =>
  unfold World.cell? at h
  split at h <;> simp at h
theorem add_at (b o k:Nat):(⟨b,o,none⟩:Addr).add k=⟨b,o+k,none⟩:=by
 unfold Addr.add
 by_cases h:k=0 <;> simp [h]
theorem getD_snoc_o {α : Type} (l:List α) (x d : α) (j:Nat):(l ++ [x]).getD j d=if j < l.length then l.getD j d else if j=l.length then x else d:=by
 simp only [List.getD,List.getElem?_append]
 split
 ·rfl
 ·split
  ·rename_i h h2;subst h2;simp
  ·rename_i h h2
   rw [List.getElem?_eq_none (by simp;omega)];rfl
theorem exists_list {α : Type} (d : α) {n:Nat} {P:Nat → α → Prop} (h : ∀ i,i < n → ∃ x,P i x) : ∃ l:List α,l.length=n ∧ ∀ i,i < n→P i (l.getD i d):=by
 induction n with
 | zero=>exact ⟨[],rfl,fun i hi=>absurd hi (Nat.not_lt_zero _)⟩
 | succ n ih =>
  obtain ⟨l,hl,hp⟩:=ih (fun i hi=>h i (by omega))
  obtain ⟨x,hx⟩:=h n (by omega)
  refine ⟨l ++ [x],by simp [hl],fun i hi => ?_⟩
  rw [getD_snoc_o,hl]
  split
  ·exact hp i ‹_›
  ·rw [if_pos (by omega)]
   obtain rfl:i=n:=by omega
   exact hx
theorem light_agg {P:Program} {t:TypeId} {fs:Array Field} {parts:List (DataW H)} (hu:P.underlying t=some (.struct fs)) (h:Light P t (.agg parts)) {j:Nat} {f:Field} {d:DataW H} (hf:fs[j]? = some f) (hd:parts[j]? = some d):Light P f.type d:=by
 unfold Light at h
 simp only [DataW.weights,hu] at h
 exact light_at h (j:=j) (by simp [hf]) hd
theorem flat_size {α : Type} (f : α → List Value) (s:Nat) (hf : ∀ x,(f x).length=s) (l:List α):(l.flatMap f).length=l.length * s:=by
 induction l with
 | nil=>simp
 | cons x l ih=>rw [List.flatMap_cons,List.length_append,hf,ih,List.length_cons,Nat.add_mul,Nat.one_mul];omega
theorem zip_parts {α β : Type} : ∀ l:List (α × β),(l.map Prod.fst).zip (l.map Prod.snd)=l
 | []=>rfl
 | x :: l=>by simp [zip_parts l]
theorem cells_F:Tryz.prog.cellsOf 24=5:=by kernel_rfl
theorem bytes_F:Tryz.prog.bytesOf 24=64:=by kernel_rfl
theorem cells_i:Tryz.prog.cellsOf 3=1:=by kernel_rfl
theorem cells_s:Tryz.prog.cellsOf 9=1:=by kernel_rfl
theorem cells_fs:Tryz.prog.cellsOf 22=1:=by kernel_rfl
theorem open_fields {n:Nat} {cs:List Value} {y:DataW H × List MemPlace} (h:DataW.trod enc Tryz.prog w base (fun _=>true) held n 24 cs=some y) (hcl:cs.length=5) :
  ∃ (o:Int) (s:ByteArray) (v b:Int) (a:Value) (k:Nat) (y4:DataW H × List MemPlace) (d0 d1 d2 d3:DataW H),cs = [.int .i64 o,.string s,.int .i64 v,.int .i64 b,a]∧y.1 = .agg [d0,d1,d2,d3,y4.1]∧DataW.trod enc Tryz.prog w base (fun _=>true) held k 22 [a]=some y4:=by
 obtain ⟨xs,k',_,hxy,_,hyl,hf⟩:=DataW.trod_struct Tryz.underlying24 h
 match xs,hyl,cs,hcl with
 | [y0,y1,y2,y3,y4],_,[v0,v1,v2,v3,v4],_ =>
  have g0:DataW.trod enc Tryz.prog w base (fun _=>true) held k' 3 [v0]=some y0:=by
   have:=hf 0 _ rfl
   change DataW.trod enc Tryz.prog w base (fun _=>true) held k' 3 (([v0,v1,v2,v3,v4].drop 0).take (Tryz.prog.cellsOf 3))=some y0 at this
   rw [cells_i] at this
   simpa using this
  have g1:DataW.trod enc Tryz.prog w base (fun _=>true) held k' 9 [v1]=some y1:=by
   have:=hf 1 _ rfl
   change DataW.trod enc Tryz.prog w base (fun _=>true) held k' 9 (([v0,v1,v2,v3,v4].drop 1).take (Tryz.prog.cellsOf 9))=some y1 at this
   rw [cells_s] at this
   simpa using this
  have g2:DataW.trod enc Tryz.prog w base (fun _=>true) held k' 3 [v2]=some y2:=by
   have:=hf 2 _ rfl
   change DataW.trod enc Tryz.prog w base (fun _=>true) held k' 3 (([v0,v1,v2,v3,v4].drop 2).take (Tryz.prog.cellsOf 3))=some y2 at this
   rw [cells_i] at this
   simpa using this
  have g3:DataW.trod enc Tryz.prog w base (fun _=>true) held k' 3 [v3]=some y3:=by
   have:=hf 3 _ rfl
   change DataW.trod enc Tryz.prog w base (fun _=>true) held k' 3 (([v0,v1,v2,v3,v4].drop 3).take (Tryz.prog.cellsOf 3))=some y3 at this
   rw [cells_i] at this
   simpa using this
  have g4:DataW.trod enc Tryz.prog w base (fun _=>true) held k' 22 [v4]=some y4:=by
   have:=hf 4 _ rfl
   change DataW.trod enc Tryz.prog w base (fun _=>true) held k' 22 (([v0,v1,v2,v3,v4].drop 4).take (Tryz.prog.cellsOf 22))=some y4 at this
   rw [cells_fs] at this
   simpa using this
  obtain ⟨z0,hz0,_⟩:=DataW.trod_int Tryz.underlying3 g0
  obtain ⟨z1,hz1,_⟩:=DataW.trod_string Tryz.underlying9 g1
  obtain ⟨z2,hz2,_⟩:=DataW.trod_int Tryz.underlying3 g2
  obtain ⟨z3,hz3,_⟩:=DataW.trod_int Tryz.underlying3 g3
  have e0:v0 = .int .i64 z0:=by simpa using hz0
  have e1:v1 = .string z1:=by simpa using hz1
  have e2:v2 = .int .i64 z2:=by simpa using hz2
  have e3:v3 = .int .i64 z3:=by simpa using hz3
  refine ⟨z0,z1,z2,z3,v4,k',y4,y0.1,y1.1,y2.1,y3.1,by rw [e0,e1,e2,e3],?_,g4⟩
  rw [hxy]
  rfl
theorem open_FL : ∀ (N:Nat) {n:Nat} {v:Value} {y:DataW H × List MemPlace},SizeOf.sizeOf y.1≤N→DataW.trod enc Tryz.prog w base (fun _=>true) held n 22 [v]=some y→Light Tryz.prog 22 y.1 →
  ∃ (A:Option Addr) (c:Nat) (l:List Fm),v = .slice A l.length c∧RdA w (· < w.heap.size) l A c:=by
 intro N
 induction N with
 | zero =>
  intro n v y hN h hl
  exfalso
  have:0 < SizeOf.sizeOf y.1:=by cases y.1 <;> simp <;> omega
  omega
 | succ N ih =>
  intro n v y hN h hl
  rcases open_slice Tryz.underlying22 h with ⟨hv,rfl⟩ | ⟨a,len,cap,m,k,D,Pl,hv,hb,hlc,hcm,hmm,rfl,hx⟩
  ·obtain rfl:v = .slice none 0 0:=by simpa using hv
   exact ⟨none,0,[],rfl,RdA.nil _ _ _ (by omega)⟩
  ·obtain rfl:v = .slice (some a) len cap:=by simpa using hv
   simp only [if_true] at hmm
   obtain rfl:cap=m:=hmm.symm
   obtain ⟨h8,hin⟩:=light_slice Tryz.underlying22 hl
   rw [bytes_F] at h8
   simp only [List.length_map,List.length_range,reachBytes] at h8
   rw [cells_F] at hx
   have each : ∀ i,i < len → ∃ q:Fm × (Option Addr × Nat),w.cell? (a.add (i * 5))=some (.int .i64 q.1.op)∧w.cell? (a.add (i * 5+1))=some (.string q.1.name)∧w.cell? (a.add (i * 5+2))=some (.int .i64 q.1.val)∧w.cell? (a.add (i * 5+3))=some (.int .i64 q.1.bound)∧w.cell? (a.add (i * 5+4))=some (.slice q.2.1 q.1.args.length q.2.2)∧RdA w (· < w.heap.size) q.1.args q.2.1 q.2.2:=by
    intro i hi
    obtain ⟨cs',hc,ht'⟩:=hx i (by omega)
    obtain ⟨_,hcl,hat⟩:=World.cells?_some hc
    obtain ⟨o,s,vv,bb,av,k2,y4,d0,d1,d2,d3,rfl,hy,g4⟩:=open_fields ht' hcl
    have hDm:D i∈(List.range len).map D:=List.mem_map.2 ⟨i,by simp [hi],rfl⟩
    have hli:=hin (D i) hDm
    have hy:D i = .agg [d0,d1,d2,d3,y4.1]:=hy
    have hs1:SizeOf.sizeOf (D i) < SizeOf.sizeOf ((List.range len).map D):=List.sizeOf_lt_of_mem hDm
    have hs2:SizeOf.sizeOf y4.1≤N:=by
     rw [hy] at hs1
     simp at hN hs1
     omega
    rw [hy] at hli
    obtain ⟨A2,c2,l2,e4,r2⟩:=ih hs2 g4 (light_agg Tryz.underlying24 hli (j:=4) rfl rfl)
    have c0:=hat 0 (by omega)
    have c1:=hat 1 (by omega)
    have c2':=hat 2 (by omega)
    have c3:=hat 3 (by omega)
    have c4:=hat 4 (by omega)
    rw [Go.Deep.add_add] at c0 c1 c2' c3 c4
    exact ⟨(.mk o s vv bb l2,(A2,c2)),by simpa [Fm.op] using c0,by simpa [Fm.name] using c1,by simpa [Fm.val] using c2',by simpa [Fm.bound] using c3,by simpa [e4,Fm.args] using c4,r2⟩
   obtain ⟨qs,hgl,hg⟩:=exists_list (default,(none,0)) each
   have hz:(qs.map Prod.fst).zip (qs.map Prod.snd)=qs:=zip_parts qs
   have hlen:(qs.map Prod.snd).length=(qs.map Prod.fst).length:=by simp
   refine ⟨some a,cap,qs.map Prod.fst,by rw [List.length_map,hgl],.mk _ _ _ (qs.map Prod.snd) hlen ?_ fun i hi => ?_⟩
   ·rw [List.length_map]
    have hfl:(qav (qs.map Prod.fst) (qs.map Prod.snd)).length=qs.length * 5:=by
     unfold qav
     rw [hz]
     exact flat_size _ 5 (fun _=>rfl) qs
    refine ⟨⟨hfl,by omega,by omega,hcm⟩,fun hn => ?_⟩
    rw [hgl] at hn
    obtain ⟨ha,hlt⟩:=plain_addr (by simpa using (hg 0 hn).1)
    refine ⟨a.block,a.off,by rw [←ha],hlt,hlt,fun j u hu => ?_⟩
    have hjl:j < qs.length * 5:=by
     rcases Nat.lt_or_ge j (qs.length * 5) with h | h
     ·exact h
     ·rw [List.getElem?_eq_none (by rw [hfl];exact h)] at hu;cases hu
    obtain ⟨q,r,rfl,hr⟩ : ∃ q r,j=q * 5+r∧r < 5:=⟨j / 5,j % 5,by omega,by omega⟩
    have hq:q < qs.length:=by omega
    rw [qdz hlen (by simpa using hq) hr] at hu
    have e1:(qs.map Prod.fst).getD q default=(qs.getD q (default,(none,0))).1:=by simp [List.getD,hq]
    have e2:(qs.map Prod.snd).getD q (none,0)=(qs.getD q (default,(none,0))).2:=by simp [List.getD,hq]
    rw [e1,e2] at hu
    obtain ⟨c0,c1,c2,c3,c4,_⟩:=hg q (by omega)
    rw [ha,add_at] at c0 c1 c2 c3 c4
    match r,hr with
    | 0,_=>simp only [qbr] at hu;have hu:=Option.some.inj hu;rw [←hu];exact c0
    | 1,_=>simp only [qbr] at hu;have hu:=Option.some.inj hu;rw [←hu];exact c1
    | 2,_=>simp only [qbr] at hu;have hu:=Option.some.inj hu;rw [←hu];exact c2
    | 3,_=>simp only [qbr] at hu;have hu:=Option.some.inj hu;rw [←hu];exact c3
    | 4,_=>simp only [qbr] at hu;have hu:=Option.some.inj hu;rw [←hu];exact c4
   ·rw [List.length_map] at hi
    have:=(hg i (by omega)).2.2.2.2.2
    simpa [List.getD,hi] using this
theorem open_F {v:Value} {d:DataW H} {p:List MemPlace} {r:Reach} {b0:Nat} (hv:Value.okWide Tryz.prog w r b0 24 v) (h:DataW.Trod enc Tryz.prog w base (fun _=>true) held 24 v d p) (hl:Light Tryz.prog 24 d) :
  ∃ f:Fm,qbj w (· < w.heap.size) v f:=by
 obtain ⟨cs,rfl,hsz⟩:=okWide_struct Tryz.underlying24 hv
 obtain ⟨l⟩:=cs
 obtain ⟨fuel,hf⟩:=h
 have hl5:l.length=5:=hsz.trans cells_F
 obtain ⟨o,s,vv,bb,av,k2,y4,d0,d1,d2,d3,e,hy,g4⟩:=open_fields hf hl5
 have e':l = [.int .i64 o,.string s,.int .i64 vv,.int .i64 bb,av]:=e
 have hy:d = .agg [d0,d1,d2,d3,y4.1]:=hy
 rw [hy] at hl
 obtain ⟨A2,c2,l2,e4,r2⟩:=open_FL _ (Nat.le_refl _) g4 (light_agg Tryz.underlying24 hl (j:=4) rfl rfl)
 subst e' e4
 exact ⟨.mk o s vv bb l2,A2,c2,rfl,r2⟩
end
theorem own_none:ownKnob Tryz.prog.godebug=none:=by kernel_rfl
theorem laid_out:laidOutB Tryz.prog=true:=by kernel_rfl
theorem reads_again {H:Type} {enc:TypeId × Value→H} {W W':World} {sp:Nat→Bool} {t:TypeId} {v:Value} {d:DataW H} {ps:List MemPlace} (hl:laidOutB Tryz.prog=true) (hr:Tryz.prog.readableRec t=true) (hrow:t < Tryz.prog.types.size)
  (h:DataW.Trod enc Tryz.prog W 0 (fun _=>true) true t v d ps) (hb:Below W.heap.size W W') (hlt : ∀ x∈ps,x.block < W.heap.size) (hsp : ∀ x∈ps,sp x.block=true):DataW.Trod enc Tryz.prog W' 0 sp true t v d ps :=
 WideElems.Trod_stays hl hr hrow h (fun x hx=>hb.same (hlt x hx)) hsp
theorem post_of_below {H:Type} {enc:TypeId × Value→H} {P:Program} {f:Func} {s:ChangeSpec} {apart fresh handsOn again:Bool} {W W':World} {args:Array Value} {v:Value} {ds gs:List (DataW H)} {before pa pv:List MemPlace}
  (hW:DataW.Whole enc P f.params.toList s.vars apart W args.toList ds gs before)
  (hres : ∀ (b:Nat) (sp:Nat→Bool) (hd:Bool),DataW.TrodAll enc P W' b sp hd f.resultTypes.toList (v.resultList f.resultTypes.size) (s.fn H (ds ++ gs)).results [])
  (hargs : ∀ sp:Nat→Bool,(∀ p∈before,sp p.block=true)→DataW.TrodAll enc P W' 0 sp true f.params.toList args.toList (s.fn H (ds ++ gs)).args pa)
  (hvars : ∀ sp:Nat→Bool,(∀ p∈before,sp p.block=true)→DataW.TrodVars enc P W' sp s.vars (s.fn H (ds ++ gs)).vars pv)
  (hps:before=pa ++ pv) (hb:Below W.heap.size W W')
  (hok : ∀ (j:Nat) (t:TypeId) (r:Value),f.resultTypes[j]? = some t→(v.resultList f.resultTypes.size)[j]? = some r→Value.okWide P W' .any 0 t r) :
  s.post enc P f apart fresh handsOn again W args v W':=by
 have hlt : ∀ p∈before,p.block < W.heap.size:=fun p hp=>hW.lt p hp
 have hold : ∀ p∈before,(fun b=>decide (b < W.heap.size)) p.block=true:=fun p hp=>by simpa using hlt p hp
 refine ⟨ds,gs,before,[],pa,pv,hW,hres _ _ _,hargs _ hold,hvars _ hold,World.keptBut_mono (fun p hp=>⟨hp,?_⟩) (hb.frame (· ∈ before)),fun _ => ?_⟩
 ·rw [hps,List.mem_append] at hp
  exact Or.inr hp
 ·obtain ⟨_,_,_,_,_,hz,hn⟩:=hW
  refine ⟨hok,_,_,([] ++ pa) ++ pv,⟨[] ++ pa,pv,trodAll_append (hargs _ (fun _ _=>rfl)) (hres _ _ _),hvars _ (fun _ _=>rfl),rfl,?_,?_⟩,?_⟩
  ·intro b off hp
   have hin:MemPlace.cell b off∈before:=by rw [hps];simpa using hp
   rw [hb.frozen (hlt _ hin)]
   exact hz b off hin
  ·intro ha
   have:=hn ha
   rw [hps] at this
   simpa using this
  ·intro p hp _
   rw [hps]
   simpa using hp
end Go.Proofs.YtdpbgcmfeajigaaGreatDoor
namespace Go.Proofs.YtdpbgcmfeajigaaGreatDoor
instance decFm:DecidableEq Fm:=fun _ _=>decidable_of_iff _ qeu
def qhd (o:Int):Bool:=decide (o=15) || decide (o=16) || decide (o=17)
theorem qkp {o:Int} : qhd o=true ↔ o=15∨o=16∨o=17:=by unfold qhd;simp only [Bool.or_eq_true,decide_eq_true_eq,or_assoc]
mutual
def qaw:Fm→List Fm
 | .mk o n v b l=>qbb l ++ (if qhd o then [.mk o n v b l] else [])
def qbb:List Fm→List Fm
 | [] => []
 | f :: l=>qaw f ++ qbb l
end
theorem qf0 (f:Fm):qaw f=qbb f.args ++ (if qhd f.op then [f] else []):=by cases f;simp only [qaw,Fm.op,Fm.args];rfl
theorem postPs_snoc : ∀ (l:List Fm) (f:Fm),qbb (l ++ [f])=qbb l ++ qaw f
 | [],f=>by simp [qbb]
 | g :: l,f=>by simp only [List.cons_append,qbb,postPs_snoc l f,List.append_assoc]
theorem qhf {x:Fm} : ∀ {l:List Fm},x∈qbb l ↔ ∃ g,g∈l∧x∈qaw g
 | []=>by simp [qbb]
 | f :: l=>by
  simp only [qbb,List.mem_append,qhf (l:=l),List.mem_cons]
  constructor
  ·rintro (h | ⟨g,hg,h⟩)
   ·exact ⟨f,.inl rfl,h⟩
   ·exact ⟨g,.inr hg,h⟩
  ·rintro ⟨g,rfl | hg,h⟩
   ·exact .inl h
   ·exact .inr ⟨g,hg,h⟩
theorem qfi {f x:Fm} : x∈qaw f ↔ (∃ g,g∈f.args∧x∈qaw g)∨(qhd f.op=true∧x=f):=by
 rw [qf0,List.mem_append,qhf]
 by_cases h:qhd f.op=true
 ·rw [if_pos h];simp [h]
 ·rw [if_neg h];simp [h]
theorem postP_self {f:Fm} (h:qhd f.op=true):f∈qaw f:=qfi.2 (.inr ⟨h,rfl⟩)
theorem qia {f g x:Fm} (hg:g∈f.args) (h:x∈qaw g):x∈qaw f:=qfi.2 (.inl ⟨g,hg,h⟩)
theorem Fm.ind1 {P:Fm→Prop} (h : ∀ f,(∀ g,g∈f.args→P g)→P f) (f:Fm):P f :=
 Fm.induct (fun f ih=>h f fun g hg=>by
  obtain ⟨i,hi,rfl⟩:=List.getElem_of_mem hg
  have:=ih i hi
  rwa [List.getD_eq_getElem?_getD,List.getElem?_eq_getElem hi,Option.getD_some] at this) f
theorem postP_rem {f:Fm} : ∀ {x:Fm},x∈qaw f→qhd x.op=true:=by
 refine Fm.ind1 (P:=fun f => ∀ {x:Fm},x∈qaw f→qhd x.op=true) ?_ f
 intro f ih x hx
 rcases qfi.1 hx with ⟨g,hg,h⟩ | ⟨h,rfl⟩
 ·exact ih g hg h
 ·exact h
theorem qi8 {f:Fm} : ∀ {x:Fm},x∈qaw f→x.size≤f.size:=by
 refine Fm.ind1 (P:=fun f => ∀ {x:Fm},x∈qaw f→x.size≤f.size) ?_ f
 intro f ih x hx
 rcases qfi.1 hx with ⟨g,hg,h⟩ | ⟨h,rfl⟩
 ·have h1:=ih g hg h
  have h2:=qbt hg
  rw [Fm.size_eq f];omega
 ·exact Nat.le_refl _
theorem postP_all {Q:Fm→Prop} (hq : ∀ f g,Q f→g∈f.args→Q g) {f:Fm} : Q f → ∀ {x:Fm},x∈qaw f→Q x:=by
 refine Fm.ind1 (P:=fun f=>Q f → ∀ {x:Fm},x∈qaw f→Q x) ?_ f
 intro f ih h x hx
 rcases qfi.1 hx with ⟨g,hg,h1⟩ | ⟨_,rfl⟩
 ·exact ih g hg (hq f g h hg) h1
 ·exact h
theorem qii {f g:Fm} (hg:g∈f.args) (h:qau f=true):qau g=true:=by
 unfold qau at h ⊢
 rw [Bool.and_eq_true] at h ⊢
 exact ⟨fits_arg hg h.1,qkz bareQ_less hg h.2⟩
theorem postP_loose {f x:Fm} (h:qau f=true) (hx:x∈qaw f):qau x=true:=postP_all (Q:=fun f=>qau f=true) (fun _ _ h hg=>qii hg h) h hx
theorem remB_past {o:Int} (h:qhd o=true):(qal o).past=true∧(qal o).future=false:=by
 rcases qkp.1 h with rfl | rfl | rfl <;> exact ⟨rfl,rfl⟩
theorem bare_layQ (x:Fm × Bool) (h:qbf x=true):qks x=true:=by
 unfold qbf at h;unfold qks
 simp only [Bool.and_eq_true] at h
 exact h.1.2
theorem past_in {f:Fm} (h:allI qbf true f):allB qci f=true:=by
 rw [←pastA_eq]
 exact (lay_in f).1 (allI_imp bare_layQ h)
theorem past_root {f:Fm} (h:(qal f.op).future=false) (ha : ∀ g,g∈f.args→allB qci g=true):allB qci f=true:=by
 refine qga.2 (qa9.2 ⟨by unfold qci;rw [h];rfl,fun g hg => ?_⟩)
 exact all_flag pastQ_flag (ha g hg)
theorem past_args {f g:Fm} (h:allB qci f=true) (hg:g∈f.args):allB qci g=true:=qkz (q:=qci) (fun _ h=>h) hg h
theorem rem_pastB {f:Fm} (h:qau f=true) (hr:qhd f.op=true):allB qci f=true:=by
 have hb:=qa9.1 (qb7 h).2.2
 rw [(remB_past hr).1,Bool.or_true] at hb
 exact past_root (remB_past hr).2 fun g hg=>past_in (hb.2 g hg)
def qge (g:Fm):List Fm→Nat
 | []=>0
 | x :: l=>if x=g then 0 else qge g l+1
theorem qf5 {g:Fm} : ∀ {l:List Fm},qge g l < l.length ↔ g∈l
 | []=>by simp [qge]
 | x :: l=>by
  rw [qge]
  by_cases h:x=g
  ·simp [h]
  ·rw [if_neg h,List.length_cons,Nat.add_lt_add_iff_right,qf5,List.mem_cons]
   simp [show ¬ g=x from fun e=>h e.symm]
theorem qgx {g:Fm} : ∀ {l:List Fm},qge g l < l.length→l.getD (qge g l) default=g
 | [],h=>by simp [qge] at h
 | x :: l,h=>by
  rw [qge] at h ⊢
  by_cases e:x=g
  ·rw [if_pos e];exact e
  ·rw [if_neg e] at h ⊢
   rw [List.getD_cons_succ]
   exact qgx (by simpa using h)
theorem idxF_min {g:Fm} : ∀ {l:List Fm} {k:Nat},k < qge g l→l.getD k default≠g
 | [],k,h=>by simp [qge] at h
 | x :: l,k,h=>by
  rw [qge] at h
  by_cases e:x=g
  ·rw [if_pos e] at h;omega
  ·rw [if_neg e] at h
   cases k with
   | zero=>exact e
   | succ k=>rw [List.getD_cons_succ];exact idxF_min (by omega)
theorem qji {g:Fm} {l:List Fm} {k:Nat} (hk:k < l.length) (h:l.getD k default=g):qge g l≤k:=by
 by_cases hl:k < qge g l
 ·exact absurd h (idxF_min hl)
 ·omega
theorem idxF_eq {g:Fm} {l:List Fm} {k:Nat} (hk:k < l.length) (h:l.getD k default=g) (hm : ∀ j,j < k→l.getD j default≠g):qge g l=k:=by
 have h1:=qji hk h
 have h2 : ¬ qge g l < k:=fun hl=>hm _ hl (qgx (by omega))
 omega
theorem nodup_idx {l:List Fm} (h:l.Nodup) {i:Nat} (hi:i < l.length):qge (l.getD i default) l=i:=by
 refine idxF_eq hi rfl fun j hj e => ?_
 unfold List.Nodup at h
 rw [List.pairwise_iff_getElem] at h
 have:=h j i (by omega) hi hj
 simp [List.getD,hi,show j < l.length by omega] at e
 exact this e
theorem qjk {l:List Fm} {i k:Nat} (h:i < k):(l.take k).getD i default=l.getD i default:=by
 simp only [List.getD_eq_getElem?_getD]
 rw [List.getElem?_take_of_lt h]
theorem qio {g:Fm} {l:List Fm} {k:Nat} (hk:k≤l.length):qge g (l.take k) < (l.take k).length ↔ qge g l < k:=by
 have hlen:(l.take k).length=k:=by rw [List.length_take];omega
 constructor
 ·intro h
  have h1:=qgx h
  rw [hlen] at h
  rw [qjk h] at h1
  have:=qji (by omega) h1
  omega
 ·intro h
  have h1:=qgx (g:=g) (l:=l) (by omega)
  rw [←qjk h] at h1
  have:=qji (l:=l.take k) (g:=g) (by omega) h1
  omega
def addP (out:List Fm) (g:Fm):List Fm:=if g∈out then out else out ++ [g]
def qc7 (out L:List Fm):List Fm:=L.foldl addP out
theorem qdq (out L M:List Fm):qc7 out (L ++ M)=qc7 (qc7 out L) M:=List.foldl_append ..
theorem gathP_nil (out:List Fm):qc7 out []=out:=rfl
theorem qjl (out:List Fm) (g:Fm) (L:List Fm):qc7 out (g :: L)=qc7 (addP out g) L:=rfl
theorem gathP_one (out:List Fm) (g:Fm):qc7 out [g]=addP out g:=rfl
theorem addP_mem {out:List Fm} {g x:Fm} : x∈addP out g ↔ x∈out∨x=g:=by
 unfold addP
 by_cases h:g∈out
 ·rw [if_pos h]
  constructor
  ·exact .inl
  ·rintro (h1 | rfl)
   ·exact h1
   ·exact h
 ·rw [if_neg h];simp
theorem qfn {x:Fm} : ∀ {L out:List Fm},x∈qc7 out L ↔ x∈out∨x∈L
 | [],out=>by simp [gathP_nil]
 | g :: L,out=>by rw [qjl,qfn,addP_mem,List.mem_cons,or_assoc]
theorem addP_nodup {out:List Fm} {g:Fm} (h:out.Nodup):(addP out g).Nodup:=by
 unfold addP
 by_cases hg:g∈out
 ·rw [if_pos hg];exact h
 ·rw [if_neg hg]
  unfold List.Nodup at h ⊢
  rw [List.pairwise_append]
  refine ⟨h,List.pairwise_singleton ..,fun a ha b hb e => ?_⟩
  rw [List.mem_singleton] at hb
  subst hb;subst e
  exact hg ha
theorem gathP_nodup : ∀ {L out:List Fm},out.Nodup→(qc7 out L).Nodup
 | [],_,h=>h
 | g :: L,out,h=>by rw [qjl];exact gathP_nodup (addP_nodup h)
theorem addP_len (out:List Fm) (g:Fm):out.length≤(addP out g).length∧(addP out g).length≤out.length+1:=by
 unfold addP
 split
 ·omega
 ·simp
theorem qfo : ∀ (L out:List Fm),out.length≤(qc7 out L).length∧(qc7 out L).length≤out.length+L.length
 | [],out=>⟨Nat.le_refl _,Nat.le_refl _⟩
 | g :: L,out=>by
  rw [qjl]
  have h1:=qfo L (addP out g)
  have h2:=addP_len out g
  simp only [List.length_cons]
  omega
def Clo (l:List Fm):Prop := ∀ i,i < l.length → ∀ g,g∈qaw (l.getD i default)→qge g l≤i
theorem clo_nil:Clo []:=fun i h=>absurd h (Nat.not_lt_zero _)
theorem addP_clo {out:List Fm} {f:Fm} (h:Clo out) (hs : ∀ x,x∈qaw f→x=f∨x∈out):Clo (addP out f):=by
 unfold addP
 by_cases hf:f∈out
 ·rw [if_pos hf];exact h
 ·rw [if_neg hf]
  intro i hi g hg
  by_cases hl:i < out.length
  ·have e:(out ++ [f]).getD i default=out.getD i default:=by simp [List.getD,List.getElem?_append_left hl]
   rw [e] at hg
   have h1:=h i hl g hg
   have h2:=qgx (g:=g) (l:=out) (by omega)
   refine Nat.le_trans (qji (k:=qge g out) (by simp;omega) ?_) h1
   have e2:(out ++ [f]).getD (qge g out) default=out.getD (qge g out) default:=by simp [List.getD,List.getElem?_append_left (show qge g out < out.length by omega)]
   rw [e2];exact h2
  ·have hi':i=out.length:=by rw [List.length_append] at hi;simp at hi;omega
   subst hi'
   have e:(out ++ [f]).getD out.length default=f:=by simp [List.getD]
   rw [e] at hg
   rcases hs g hg with rfl | hm
   ·exact qji (by simp) e
   ·have h1:=qf5.2 hm
    have h2:=qgx h1
    refine Nat.le_trans (qji (k:=qge g out) (by simp;omega) ?_) (Nat.le_of_lt h1)
    have e2:(out ++ [f]).getD (qge g out) default=out.getD (qge g out) default:=by simp [List.getD,List.getElem?_append_left h1]
    rw [e2];exact h2
theorem gathP_clo (f:Fm) : ∀ {out:List Fm},Clo out→Clo (qc7 out (qaw f)):=by
 refine Fm.ind1 (P:=fun f => ∀ {out:List Fm},Clo out→Clo (qc7 out (qaw f))) ?_ f
 intro f ih out h
 have key : ∀ l:List Fm,(∀ g,g∈l→g∈f.args) → ∀ {out:List Fm},Clo out→Clo (qc7 out (qbb l)):=by
  intro l
  induction l with
  | nil=>intro _ out h;exact h
  | cons g l ihl =>
   intro hl out h
   simp only [qbb]
   rw [qdq]
   exact ihl (fun x hx=>hl x (by simp [hx])) (ih g (hl g (by simp)) h)
 rw [qf0,qdq]
 have h1:=key f.args (fun _ h=>h) h
 by_cases hr:qhd f.op=true
 ·rw [if_pos hr,gathP_one]
  refine addP_clo h1 fun x hx => ?_
  rcases qfi.1 hx with ⟨g,hg,h2⟩ | ⟨_,h2⟩
  ·exact .inr (qfn.2 (.inr (qhf.2 ⟨g,hg,h2⟩)))
  ·exact .inl h2
 ·rw [if_neg hr,gathP_nil];exact h1
def qbh (f:Fm):List Fm:=if qau f then qc7 [] (qaw f) else []
theorem qgt {f:Fm} (h:qau f=true):qbh f=qc7 [] (qaw f):=by unfold qbh;rw [if_pos h]
theorem qjb {f x:Fm} (h:qau f=true):x∈qbh f ↔ x∈qaw f:=by rw [qgt h,qfn];simp
theorem nodesZ_nodup (f:Fm):(qbh f).Nodup:=by
 unfold qbh
 split
 ·exact gathP_nodup List.nodup_nil
 ·exact List.nodup_nil
theorem nodesZ_clo (f:Fm):Clo (qbh f):=by
 unfold qbh
 split
 ·exact gathP_clo f clo_nil
 ·exact clo_nil
theorem nodesZ_out {f x:Fm} (h:x∈qbh f):qau f=true∧qau x=true∧qhd x.op=true∧allB qci x=true:=by
 by_cases hl:qau f=true
 ·rw [qjb hl] at h
  have h1:=postP_loose hl h
  have h2:=postP_rem h
  exact ⟨hl,h1,h2,rem_pastB h1 h2⟩
 ·unfold qbh at h
  rw [if_neg hl] at h
  cases h
theorem nodesZ_arg {f g:Fm} (h:qau f=true) (hg:g∈f.args) {x:Fm} (hx:x∈qbh g):x∈qbh f:=by
 rw [qjb (qii hg h)] at hx
 rw [qjb h]
 exact qia hg hx
theorem nodesZ_last {f:Fm} (h:qau f=true) (hr:qhd f.op=true):0 < (qbh f).length∧(qbh f).getD ((qbh f).length - 1) default=f:=by
 rw [qgt h,qf0,if_pos hr,qdq,gathP_one]
 have hn : ¬ f∈qc7 [] (qbb f.args):=by
  rw [qfn]
  rintro (h1 | h1)
  ·cases h1
  ·obtain ⟨g,hg,h2⟩:=qhf.1 h1
   have h3:=qi8 h2
   have h4:=qbt hg
   rw [Fm.size_eq f] at h3
   omega
 unfold addP
 rw [if_neg hn]
 simp [List.getD]
theorem leaf_postP {f:Fm} (h:qau f=true) (ha:f.args = []):qaw f = []:=by
 have hs:=(qdf (qdo (qa9.1 (qb7 h).2.2).1).2.1).2.1
 rw [qf0,ha]
 by_cases hr:qhd f.op=true
 ·rw [ha] at hs
  rcases qkp.1 hr with e | e | e <;> rw [e] at hs <;> exact absurd hs (by decide)
 ·rw [if_neg hr];rfl
theorem nodesZ_leaf {f:Fm} (ha:f.args = []):qbh f = []:=by
 unfold qbh
 split
 ·rename_i h;rw [leaf_postP h ha];rfl
 ·rfl
def qf3 (l:List Fm):Bool:=decide (l.length≤8) && qky l.length fun i=>qhd (l.getD i default).op && qau (l.getD i default) && allB qci (l.getD i default) && decide (i≤qge (l.getD i default) l) && (qaw (l.getD i default)).all fun g=>decide (qge g l≤i)
end Go.Proofs.YtdpbgcmfeajigaaGreatDoor
namespace Go.Proofs.YtdpbgcmfeajigaaGreatDoor
def qe3:List Bool→Nat
 | []=>0
 | b :: l=>(if b then 1 else 0)+2 * qe3 l
theorem memOf_lt : ∀ l:List Bool,qe3 l < 2 ^ l.length
 | []=>by simp [qe3]
 | b :: l=>by
  have:=memOf_lt l
  rw [qe3,List.length_cons,Nat.pow_succ]
  split <;> omega
theorem qjc (b:Bool) : ∀ l:List Bool,qe3 (l ++ [b])=qe3 l+(if b then 2 ^ l.length else 0)
 | []=>by cases b <;> simp [qe3]
 | c :: l=>by
  rw [List.cons_append,qe3,qe3,qjc b l,List.length_cons,Nat.pow_succ]
  cases b <;> simp <;> omega
theorem memOf_or (l:List Bool):qe3 (l ++ [true])=qe3 l ||| (1 <<< l.length):=by
 rw [qjc,if_pos rfl,Nat.one_shiftLeft,Nat.or_comm]
 have:=Nat.two_pow_add_eq_or_of_lt (memOf_lt l) 1
 rw [Nat.mul_one] at this
 omega
def stepN (o:Int) (a s:Bool) (bs:List Bool):Bool :=
 if o=1 then true else if o=3 then a else if o=4 then !bs.getD 0 false else if o=5 then bs.all id else if o=6 then bs.any id
 else if o=15 then s else if o=16 then bs.getD 1 false || (bs.getD 0 false && s) else if o=17 then bs.getD 1 false && (bs.getD 0 false || s) else false
mutual
def qej (sg:ByteArray→Int→Bool) (sy:Fm→Bool):Fm→Bool
 | .mk o n v b l=>stepN o (sg n v) (sy (.mk o n v b l)) (nowVs sg sy l)
def nowVs (sg:ByteArray→Int→Bool) (sy:Fm→Bool):List Fm→List Bool
 | [] => []
 | f :: l=>qej sg sy f :: nowVs sg sy l
end
theorem nowVs_map (sg:ByteArray→Int→Bool) (sy:Fm→Bool) : ∀ l:List Fm,nowVs sg sy l=l.map (qej sg sy)
 | []=>rfl
 | f :: l=>by simp only [nowVs,List.map_cons,nowVs_map sg sy l]
theorem nowV_eq (sg:ByteArray→Int→Bool) (sy:Fm→Bool) (f:Fm):qej sg sy f=stepN f.op (sg f.name f.val) (sy f) (f.args.map (qej sg sy)):=by
 cases f;simp only [qej,Fm.op,Fm.name,Fm.val,Fm.args,nowVs_map]
theorem qif {α β : Type} (φ : α → β) (l:List α) (i:Nat) (d : α) (e : β) (h:i < l.length):(l.map φ).getD i e = φ (l.getD i d):=by
 simp [List.getD,h]
def qbl (nodes:List Fm) (mem:Nat) (f:Fm):Bool:=mem.testBit (qge f nodes)
def startB (nodes:List Fm):List Bool:=nodes.map fun n=>decide (n.val=1)
def startZ (nodes:List Fm):Nat:=qe3 (startB nodes)
def lookF (n:Fm):Fm:=if n.op=15 then n.args.getD 0 default else n
def nextB (sg:ByteArray→Int→Bool) (nodes:List Fm) (mem:Nat):List Bool:=nodes.map fun n=>qej sg (qbl nodes mem) (lookF n)
def nextZ (sg:ByteArray→Int→Bool) (nodes:List Fm) (mem:Nat):Nat:=qe3 (nextB sg nodes mem)
theorem qff {o:Int} (h:(qal o).loose=true):plainOp o∨o=3∨o=4:=by
 unfold qal at h
 split at h
 ·rename_i h1
  unfold isOp at h1
  rw [Bool.and_eq_true,decide_eq_true_eq,decide_eq_true_eq] at h1
  have:o=1∨o=2∨o=3∨o=4∨o=5∨o=6∨o=7∨o=8∨o=9∨o=10∨o=11∨o=12∨o=13∨o=14∨o=15∨o=16∨o=17∨o=18∨o=19:=by omega
  unfold plainOp
  rcases this with rfl | rfl | rfl | rfl | rfl | rfl | rfl | rfl | rfl | rfl | rfl | rfl | rfl | rfl | rfl | rfl | rfl | rfl | rfl <;> first | exact absurd h (by decide) | omega
 ·cases h
theorem qh3 {f:Fm} (h:qau f=true):Bare f:=⟨_,(qb7 h).2.2⟩
end Go.Proofs.YtdpbgcmfeajigaaGreatDoor
namespace Go.Proofs.YtdpbgcmfeajigaaGreatDoor
mutual
def qde (vb:Fm→Int):Fm→Fm
 | .mk o n v b l => .mk o n (if qhd o then vb (.mk o n v b l) else v) b (agedVs vb l)
def agedVs (vb:Fm→Int):List Fm→List Fm
 | [] => []
 | f :: l=>qde vb f :: agedVs vb l
end
theorem agedVs_map (vb:Fm→Int) : ∀ l:List Fm,agedVs vb l=l.map (qde vb)
 | []=>rfl
 | f :: l=>by simp only [agedVs,List.map_cons,agedVs_map vb l]
theorem qhn (vb:Fm→Int) (f:Fm):qde vb f = .mk f.op f.name (if qhd f.op then vb f else f.val) f.bound (f.args.map (qde vb)):=by
 cases f;simp only [qde,Fm.op,Fm.name,Fm.val,Fm.bound,Fm.args,agedVs_map];rfl
section
variable (vb:Fm→Int) (f:Fm)
theorem aged_op:(qde vb f).op=f.op:=by rw [qhn];rfl
theorem aged_name:(qde vb f).name=f.name:=by rw [qhn];rfl
theorem aged_val:(qde vb f).val=if qhd f.op then vb f else f.val:=by rw [qhn];rfl
theorem aged_bound:(qde vb f).bound=f.bound:=by rw [qhn];rfl
theorem qiz:(qde vb f).args=f.args.map (qde vb):=by rw [qhn];rfl
end
theorem aged_self (f:Fm):qde Fm.val f=f:=by
 refine Fm.ind1 (P:=fun f=>qde Fm.val f=f) ?_ f
 intro f ih
 have e:f.args.map (qde Fm.val)=f.args:=by
  have:f.args.map (qde Fm.val)=f.args.map id:=List.map_congr_left fun g hg=>ih g hg
  rw [this,List.map_id]
 rw [qhn,e,ite_self,f.eta]
def bitV (nodes:List Fm) (mem:Nat) (f:Fm):Int:=if qbl nodes mem f then 1 else 0
def putZ (nodes:List Fm) (mem:Nat) (f:Fm):Fm:=qde (bitV nodes mem) f
end Go.Proofs.YtdpbgcmfeajigaaGreatDoor
namespace Go.Proofs.YtdpbgcmfeajigaaGreatDoor
def Per {α : Type} (u:Nat → α) (b L:Nat):Prop := ∀ t,b≤t→u (t+L)=u t
theorem Per.mono {α : Type} {u:Nat → α} {b c L:Nat} (h:Per u b L) (hc:b≤c):Per u c L:=fun t ht=>h t (Nat.le_trans hc ht)
theorem Per.mul {α : Type} {u:Nat → α} {b L:Nat} (h:Per u b L) : ∀ (k t:Nat),b≤t→u (t+k * L)=u t
 | 0,t,_=>by rw [Nat.zero_mul,Nat.add_zero]
 | k+1,t,ht=>by
  rw [Nat.succ_mul,←Nat.add_assoc,h (t+k * L) (by omega)]
  exact h.mul k t ht
def qcf (b L t:Nat):Nat:=if t < b+L then t else b+(t - b) % L
theorem qfj {b L t:Nat} (hL:0 < L):qcf b L t < b+L:=by
 unfold qcf
 split
 ·assumption
 ·have:=Nat.mod_lt (t - b) hL;omega
theorem Per.place {α : Type} {u:Nat → α} {b L:Nat} (h:Per u b L) (hL:0 < L) (t:Nat):u (qcf b L t)=u t:=by
 unfold qcf
 split
 ·rfl
 ·have h1:=h.mul ((t - b) / L) (b+(t - b) % L) (by omega)
  have h2:b+(t - b) % L+(t - b) / L * L=t:=by
   have:=Nat.mod_add_div (t - b) L
   rw [Nat.mul_comm] at this
   omega
  rw [h2] at h1
  exact h1.symm
open Classical in
def untilSet (b L:Nat) (u v:List Bool) (i:Nat) (out:List Bool):List Bool :=
 out.set (b+L - 1 - i % (b+L)) (v.getD (b+L - 1 - i % (b+L)) false || (u.getD (b+L - 1 - i % (b+L)) false && out.getD (qcf b L (b+L - 1 - i % (b+L)+1)) false))
def qgc (b L:Nat) (u v:List Bool):Nat→List Bool
 | 0=>List.replicate (b+L) false
 | k+1=>untilSet b L u v k (qgc b L u v k)
def untilR (b L:Nat) (u v:List Bool):List Bool:=qgc b L u v (2 * (b+L))
theorem qg5 (b L:Nat) (u v:List Bool) : ∀ k,(qgc b L u v k).length=b+L
 | 0=>List.length_replicate ..
 | k+1=>by rw [qgc,untilSet,List.length_set,qg5]
section
variable {b L:Nat} {ru rv:List Bool} {u v:Nat→Bool}
end
def qi4 (b L:Nat) (u v:List Bool) (i:Nat) (out:List Bool):List Bool :=
 out.set (b+L - 1 - i % (b+L)) (v.getD (b+L - 1 - i % (b+L)) false && (u.getD (b+L - 1 - i % (b+L)) false || out.getD (qcf b L (b+L - 1 - i % (b+L)+1)) false))
def qdj (b L:Nat) (u v:List Bool):Nat→List Bool
 | 0=>List.replicate (b+L) true
 | k+1=>qi4 b L u v k (qdj b L u v k)
def qhe (b L:Nat) (u v:List Bool):List Bool:=qdj b L u v (2 * (b+L))
theorem qe9 (b L:Nat) (u v:List Bool) : ∀ k,(qdj b L u v k).length=b+L
 | 0=>List.length_replicate ..
 | k+1=>by rw [qdj,qi4,List.length_set,qe9]
def qgd (a b:Nat→Bool) (c:Bool):Nat→Bool
 | 0=>b 0 || (a 0 && c)
 | t+1=>b (t+1) || (a (t+1) && qgd a b c t)
def qdi (a b:Nat→Bool) (c:Bool):Nat→Bool
 | 0=>b 0 && (a 0 || c)
 | t+1=>b (t+1) && (a (t+1) || qdi a b c t)
end Go.Proofs.YtdpbgcmfeajigaaGreatDoor
namespace Go.Proofs.YtdpbgcmfeajigaaGreatDoor
def qhq (n:Nat) (u:Nat→Bool):List Bool:=(List.range n).map u
def qcm (r:List Bool) (t:Nat):Bool:=r.getD t false
def stepR (b L:Nat) (a:Nat→Bool) (o v:Int) (rs:List (List Bool)):List Bool :=
 if o=1 then qhq (b+L) fun _=>true
 else if o=2 then qhq (b+L) fun _=>false
 else if o=3 then qhq (b+L) a
 else if o=4 then qhq (b+L) fun t => !qcm (rs.getD 0 []) t
 else if o=5 then qhq (b+L) fun t=>rs.all fun r=>qcm r t
 else if o=6 then qhq (b+L) fun t=>rs.any fun r=>qcm r t
 else if o=8 then qhq (b+L) fun t=>qcm (rs.getD 0 []) (qcf b L (t+1))
 else if o=9 then untilR b L (rs.getD 0 []) (rs.getD 1 [])
 else if o=10 then qhe b L (rs.getD 0 []) (rs.getD 1 [])
 else if o=15 then qhq (b+L) fun t=>(decide (t=0) && decide (v=1)) || (decide (0 < t) && qcm (rs.getD 0 []) (t - 1))
 else if o=16 then qhq (b+L) (qgd (qcm (rs.getD 0 [])) (qcm (rs.getD 1 [])) (decide (v=1)))
 else if o=17 then qhq (b+L) (qdi (qcm (rs.getD 0 [])) (qcm (rs.getD 1 [])) (decide (v=1)))
 else []
mutual
def rowV (b L:Nat) (sg:Nat→ByteArray→Int→Bool):Fm→List Bool
 | .mk o n v bd l=>stepR b L (fun t=>sg t n v) o v (rowVs b L sg l)
def rowVs (b L:Nat) (sg:Nat→ByteArray→Int→Bool):List Fm→List (List Bool)
 | [] => []
 | f :: l=>rowV b L sg f :: rowVs b L sg l
end
theorem rowVs_map (b L:Nat) (sg:Nat→ByteArray→Int→Bool) : ∀ l:List Fm,rowVs b L sg l=l.map (rowV b L sg)
 | []=>rfl
 | f :: l=>by simp only [rowVs,List.map_cons,rowVs_map b L sg l]
theorem rowV_eq (b L:Nat) (sg:Nat→ByteArray→Int→Bool) (f:Fm):rowV b L sg f=stepR b L (fun t=>sg t f.name f.val) f.op f.val (f.args.map (rowV b L sg)):=by
 cases f;simp only [rowV,Fm.op,Fm.name,Fm.val,Fm.args,rowVs_map]
mutual
def qd4:Fm→Nat
 | .mk o n v b l=>qdw l+(if 15≤o∧o≤19 then 1 else 0)
def qdw:List Fm→Nat
 | []=>0
 | f :: l=>max (qd4 f) (qdw l)
end
theorem nestN_eq (f:Fm):qd4 f=qdw f.args+(if 15≤f.op∧f.op≤19 then 1 else 0):=by cases f;simp only [qd4,Fm.op,Fm.args];rfl
theorem getD_mapF2 {α : Type} (φ : Fm → α) (l:List Fm) (i:Nat) (d : α) (h:i < l.length):(l.map φ).getD i d = φ (l.getD i default):=by simp [List.getD,h]
theorem qax {l:List Fm} {i:Nat} (h:i < l.length):l.getD i default∈l:=by simp [List.getD,h]
theorem qjs {f:Fm} (h:Bare f):(f.op=4∨f.op=8∨f.op=15→f.args.length=1)∧(f.op=9∨f.op=10∨f.op=16∨f.op=17→f.args.length=2):=by
 have hs:=qdf h.node.2.1
 constructor
 ·intro h1
  have:(qal f.op).least=1∧(qal f.op).most=1:=by rcases h1 with e | e | e <;> rw [e] <;> exact ⟨rfl,rfl⟩
  omega
 ·intro h1
  have:(qal f.op).least=2∧(qal f.op).most=2:=by rcases h1 with e | e | e | e <;> rw [e] <;> exact ⟨rfl,rfl⟩
  omega
end Go.Proofs.YtdpbgcmfeajigaaGreatDoor
namespace Go.Proofs.YtdpbgcmfeajigaaGreatDoor
open Go.RowKit Go.Shelf
attribute [local go_sem] qab
theorem RdI.any {w w':World} {D:Dom} {A:Option Addr} {c:Nat} {zs:List Int} (h:RdI w D A c zs) (hb:Below w.heap.size w w'):RdI w' qbi A c zs:=(h.old.keep (Keeps.of_below hb fun _ h=>h)).mono fun _ _ _=>trivial
theorem qaf {w w' w'':World} (h:Below w.heap.size w w') (hb:Below w'.heap.size w' w''):Below w.heap.size w w'':=h.trans (hb.mono h.size)
def inB2 (m x:Int):Bool:=decide (0≤x) && decide (x < m)
def qcr (l:List Int) (m:Int):Bool:=l.all (inB2 m)
theorem belowB_no {l:List Int} {m:Int} {i:Nat} (hi:i < l.length) (h:inB2 m (l.getD i 0)=false):qcr l m=false:=by
 unfold qcr
 rw [List.all_eq_false]
 exact ⟨l.getD i 0,by simp [List.getD,hi],by rw [h];simp⟩
theorem belowB_yes {l:List Int} {m:Int} (h : ∀ i,i < l.length→inB2 m (l.getD i 0)=true):qcr l m=true:=by
 unfold qcr
 rw [List.all_eq_true]
 intro x hx
 obtain ⟨i,hi,rfl⟩:=List.getElem_of_mem hx
 have:=h i hi
 simpa [List.getD,hi] using this
theorem below_any {D:Dom} (l:List Int) (m:Int) (A:Option Addr) (c n:Nat) (w:World) (hn:n=l.length) (h:RdI w D A c l) :
  Calls Tryz.prog 87 #[.slice A n c,.int .i64 m] w fun e w'=>e = .returned (.bool (qcr l m))∧Below w.heap.size w w':=by
 subst hn
 have hlen:=h.len.1
 have HH:=hid h
 clear h
 go_enter Tryz.func87,Tryz.ntmps87
 go_wp2_with fail
 go_loopw [9] (fun q wr => ∃ i:Nat,i≤l.length∧q = .int .i64 (i:Int)∧SameW w wr∧Hid (∀ k,k < i→inB2 m (l.getD k 0)=true)) (fun q _=>l.length - (intOf q).toNat)
 case atStart=>exact ⟨0,Nat.zero_le _,rfl,rfl,fun j h=>absurd h (Nat.not_lt_zero _)⟩
 case round =>
  obtain ⟨i,hi,rfl,hw,HALL⟩:=hrel
  obtain rfl:w=wr:=hw.symm
  by_cases hlt:i < l.length
  ·have hii:(i:Int) < l.length:=by omega
   have HLT:=hid hlt
   obtain ⟨b,o,x,rfl,_,hlb,HX,x0⟩:=HH.out.get hlt
   have HXX:=hid HX.out
   clear HX hi hlt
   by_cases h0:x < 0
   ·have d0:decide (x < 0)=true:=decide_eq_true h0
    have HR:=hid (show qcr l m=false from belowB_no HLT.out (by rw [HXX.out];unfold inB2;rw [decide_eq_false (by omega)];rfl))
    go_wp2_with fail
    go_ret
    exact ⟨qah HR.out.symm,Below.refl _ _⟩
   have d0:decide (x < 0)=false:=decide_eq_false h0
   by_cases h1:m≤x
   ·have d1:decide (m≤x)=true:=decide_eq_true h1
    have HR:=hid (show qcr l m=false from belowB_no HLT.out (by rw [HXX.out];unfold inB2;rw [decide_eq_false (show ¬ x < m by omega)];simp))
    go_wp2_with fail
    go_ret
    exact ⟨qah HR.out.symm,Below.refl _ _⟩
   ·have d1:decide (m≤x)=false:=decide_eq_false h1
    have HOK:=hid (show inB2 m (l.getD i 0)=true by rw [HXX.out];unfold inB2;rw [decide_eq_true (show 0≤x by omega),decide_eq_true (show x < m by omega)];rfl)
    clear h0 h1
    go_wp2_with fail
    go_roundw
    case rel =>
     refine ⟨i+1,by have:=HLT.out;omega,by go_num,rfl,fun j hj => ?_⟩
     by_cases e:j=i
     ·rw [e];exact HOK.out
     ·exact HALL.out j (by omega)
    case measure=>have:=HLT.out;simp [intOf];omega
  ·have hii : ¬ (i:Int) < l.length:=by omega
   have HR:=hid (show qcr l m=true from belowB_yes fun j hj=>HALL.out j (by omega))
   go_wp2_with fail
   go_ret
   exact ⟨qah HR.out.symm,Below.refl _ _⟩
theorem qjr {D:Dom} {l:List Int} {m:Int} {A:Option Addr} {c n:Nat} {w:World} (r:Bool) (hr:qcr l m=r) (hn:n=l.length) (h:RdI w D A c l) :
  Calls Tryz.prog 87 #[.slice A n c,.int .i64 m] w fun e w'=>e = .returned (.bool r)∧Below w.heap.size w w':=by
 subst hr;exact below_any l m A c n w hn h
structure Las where
 stem:List Int
 loop:List Int
def qcs (W:Las):Bool:=decide (W.stem.length≤60) && decide (1≤W.loop.length) && decide (W.loop.length≤40) && qcr W.stem 64 && qcr W.loop 64
def qh6 (m:Int) (W:Las):Bool:=qcs W && qcr W.stem m && qcr W.loop m
def qbe (W:Las) (i:Nat):Int:=if i < W.stem.length then W.stem.getD i 0 else W.loop.getD ((i - W.stem.length) % W.loop.length) 0
def RdL (w:World) (D:Dom) (v:Value) (W:Las):Prop := ∃ As cs Al cl,v = .agg #[.slice As W.stem.length cs,.slice Al W.loop.length cl]∧RdI w D As cs W.stem∧RdI w D Al cl W.loop
theorem RdL.any {w w':World} {D:Dom} {v:Value} {W:Las} (h:RdL w D v W) (hb:Below w.heap.size w w'):RdL w' qbi v W:=let ⟨As,cs,Al,cl,e,h1,h2⟩:=h;⟨As,cs,Al,cl,e,h1.any hb,h2.any hb⟩
def qh4 (w:World) (b:Nat) (W:Las) (As:Option Addr) (cs:Nat) (Al:Option Addr) (cl:Nat):Prop:=w.heap[b]? = some (.cells #[.slice As W.stem.length cs,.slice Al W.loop.length cl] 37 (0,0))
section
variable {w w':World} {b:Nat} {W:Las} {As Al:Option Addr} {cs cl:Nat}
theorem qh4.below (h:qh4 w b W As cs Al cl) (hb:Below w.heap.size w w'):qh4 w' b W As cs Al cl:=(hb.block _ (lt_of_block h)).trans h
theorem qh4.cells (h:qh4 w b W As cs Al cl):w.cell? ⟨b,0,none⟩=some (.slice As W.stem.length cs)∧w.cell? ⟨b,1,none⟩=some (.slice Al W.loop.length cl)∧b < w.heap.size:=⟨qaa h (i:=0) rfl,qaa h (i:=1) rfl,lt_of_block h⟩
end
theorem formed_any {D:Dom} (W:Las) (v:Value) (w:World) (h:RdL w D v W) :
  Calls Tryz.prog 62 #[v] w fun e w'=>e = .returned (.bool (qcs W))∧Below w.heap.size w w':=by
 obtain ⟨As,cs,Al,cl,rfl,hs,hl⟩:=h
 have hsl:=hs.len.1
 have hll:=hl.len.1
 have HS:=hid hs.old
 have HL:=hid hl.old
 clear hs hl
 go_enter Tryz.func62,Tryz.ntmps62
 go_upto_region 1 with (fail)
 refine qai fun U hU => ?_
 have HB:=hid (show Below w.heap.size w U by rw [hU];go_grown)
 have HO:=hid (show qh4 U w.heap.size W As cs Al cl by show U.heap[_]? = _;rw [hU];exact at_new _ _ _ rfl)
 clear hU
 obtain ⟨s0,s1,s2⟩:=HO.out.cells
 by_cases h1:60 < W.stem.length
 ·have hi:60 < (W.stem.length:Int):=by omega
  have di:=decide_eq_true hi
  have HR:=hid (show qcs W=false by unfold qcs;rw [decide_eq_false (show ¬ W.stem.length≤60 by omega)];simp)
  clear h1
  go_wp2_with fail
  go_ret
  exact ⟨qah HR.out.symm,HB.out⟩
 have hi_18 : ¬ 60 < (W.stem.length:Int):=by omega
 have di_18:=decide_eq_false hi_18
 by_cases h1:W.loop.length < 1
 ·have hi:(W.loop.length:Int) < 1:=by omega
  have di:=decide_eq_true hi
  have HR:=hid (show qcs W=false by unfold qcs;rw [decide_eq_false (show ¬ 1≤W.loop.length by omega)];simp)
  clear h1
  go_wp2_with fail
  go_ret
  exact ⟨qah HR.out.symm,HB.out⟩
 have hi_17 : ¬ (W.loop.length:Int) < 1:=by omega
 have di_17:=decide_eq_false hi_17
 by_cases h1:40 < W.loop.length
 ·have hi:40 < (W.loop.length:Int):=by omega
  have di:=decide_eq_true hi
  have HR:=hid (show qcs W=false by unfold qcs;rw [decide_eq_false (show ¬ W.loop.length≤40 by omega)];simp)
  clear h1
  go_wp2_with fail
  go_ret
  exact ⟨qah HR.out.symm,HB.out⟩
 have hi_18 : ¬ 40 < (W.loop.length:Int):=by omega
 have di_18:=decide_eq_false hi_18
 have HF:=hid (show qcs W=(qcr W.stem 64 && qcr W.loop 64) by
  unfold qcs
  rw [decide_eq_true (show W.stem.length≤60 by omega),decide_eq_true (show 1≤W.loop.length by omega),decide_eq_true (show W.loop.length≤40 by omega),Bool.true_and,Bool.true_and,Bool.true_and])
 cases hb1:qcr W.stem 64
 ·have HQ:=hid hb1
  have HR:=hid (show qcs W=false by rw [HF.out,hb1];rfl)
  clear hb1
  go_wp2_with (go_at_call 87;(with_reducible refine (qjr (l:=W.stem) false HQ.out rfl (HS.out.any HB.out)).mono ?_);rintro e V ⟨rfl,hbv⟩;have HBV:=hid hbv;clear hbv)
  go_ret
  exact ⟨qah HR.out.symm,qaf HB.out HBV.out⟩
 have HQ:=hid hb1
 have HR:=hid (show qcs W=qcr W.loop 64 by rw [HF.out,hb1];rfl)
 clear hb1
 obtain ⟨r,hr⟩ : ∃ r,qcr W.loop 64=r:=⟨_,rfl⟩
 have HRR:=hid hr
 clear hr
 go_wp2_with (first | (go_at_call 87;(with_reducible refine (qjr (l:=W.stem) true HQ.out rfl (HS.out.any HB.out)).mono ?_);rintro e V ⟨rfl,hbv⟩;have HBV:=hid hbv;clear hbv HQ s0 s1 s2;obtain ⟨s0,s1,s2⟩:=(HO.out.below HBV.out).cells) | (go_at_call 87;(with_reducible refine (qjr (l:=W.loop) r HRR.out rfl (HL.out.any (qaf HB.out HBV.out))).mono ?_);rintro e V2 ⟨rfl,hbv⟩;have HB2:=hid (qaf HBV.out hbv);clear hbv))
 go_ret
 exact ⟨qah (HR.out.trans HRR.out).symm,qaf HB.out HB2.out⟩
theorem qku {D:Dom} {W:Las} {v:Value} {w:World} (r:Bool) (hr:qcs W=r) (h:RdL w D v W) :
  Calls Tryz.prog 62 #[v] w fun e w'=>e = .returned (.bool r)∧Below w.heap.size w w':=by
 subst hr;exact formed_any W v w h
theorem wvalid_any {D:Dom} (m:Int) (W:Las) (v:Value) (w:World) (h:RdL w D v W) :
  Calls Tryz.prog 40 #[.int .i64 m,v] w fun e w'=>e = .returned (.bool (qh6 m W))∧Below w.heap.size w w':=by
 obtain ⟨As,cs,Al,cl,rfl,hs,hl⟩:=h
 have hsl:=hs.len.1
 have hll:=hl.len.1
 have HS:=hid hs.old
 have HL:=hid hl.old
 clear hs hl
 go_enter Tryz.func40,Tryz.ntmps40
 go_upto_region 1 with (fail)
 refine qai fun U hU => ?_
 have HB:=hid (show Below w.heap.size w U by rw [hU];go_grown)
 have HO:=hid (show qh4 U w.heap.size W As cs Al cl by show U.heap[_]? = _;rw [hU];exact at_new _ _ _ rfl)
 clear hU
 obtain ⟨s0,s1,s2⟩:=HO.out.cells
 have HRL:=hid (show RdL U qbi (.agg #[.slice As W.stem.length cs,.slice Al W.loop.length cl]) W from ⟨As,cs,Al,cl,rfl,HS.out.any HB.out,HL.out.any HB.out⟩)
 cases hf:qcs W
 ·have HQ:=hid hf
  have HR:=hid (show qh6 m W=false by unfold qh6;rw [hf];rfl)
  clear hf
  go_wp2_with (go_at_call 62;(with_reducible refine (qku (W:=W) false HQ.out HRL.out).mono ?_);rintro e V ⟨rfl,hbv⟩;have HBV:=hid hbv;clear hbv s0 s1 s2;obtain ⟨s0,s1,s2⟩:=(HO.out.below HBV.out).cells)
  go_ret
  exact ⟨qah HR.out.symm,qaf HB.out HBV.out⟩
 have HQ:=hid hf
 have HF:=hid (show qh6 m W=(qcr W.stem m && qcr W.loop m) by unfold qh6;rw [hf,Bool.true_and])
 clear hf
 cases hb1:qcr W.stem m
 ·have HQ1:=hid hb1
  have HR:=hid (show qh6 m W=false by rw [HF.out,hb1];rfl)
  clear hb1
  go_wp2_with (first | (go_at_call 62;(with_reducible refine (qku (W:=W) true HQ.out HRL.out).mono ?_);rintro e V ⟨rfl,hbv⟩;have HBV:=hid hbv;clear hbv s0 s1 s2;obtain ⟨s0,s1,s2⟩:=(HO.out.below HBV.out).cells) | (go_at_call 87;(with_reducible refine (qjr (l:=W.stem) false HQ1.out rfl (HS.out.any (qaf HB.out HBV.out))).mono ?_);rintro e V1 ⟨rfl,hbv⟩;have HB1:=hid (qaf HBV.out hbv);clear hbv HQ1 s0 s1 s2;obtain ⟨s0,s1,s2⟩:=(HO.out.below HB1.out).cells))
  go_ret
  exact ⟨qah HR.out.symm,qaf HB.out HB1.out⟩
 have HQ1:=hid hb1
 have HR:=hid (show qh6 m W=qcr W.loop m by rw [HF.out,hb1];rfl)
 clear hb1
 obtain ⟨r,hr⟩ : ∃ r,qcr W.loop m=r:=⟨_,rfl⟩
 have HRR:=hid hr
 clear hr
 go_wp2_with (first | (go_at_call 62;(with_reducible refine (qku (W:=W) true HQ.out HRL.out).mono ?_);rintro e V ⟨rfl,hbv⟩;have HBV:=hid hbv;clear hbv s0 s1 s2;obtain ⟨s0,s1,s2⟩:=(HO.out.below HBV.out).cells) | (go_at_call 87;(with_reducible refine (qjr (l:=W.stem) true HQ1.out rfl (HS.out.any (qaf HB.out HBV.out))).mono ?_);rintro e V1 ⟨rfl,hbv⟩;have HB1:=hid (qaf HBV.out hbv);clear hbv HQ1 s0 s1 s2;obtain ⟨s0,s1,s2⟩:=(HO.out.below HB1.out).cells) | (go_at_call 87;(with_reducible refine (qjr (l:=W.loop) r HRR.out rfl (HL.out.any (qaf HB.out HB1.out))).mono ?_);rintro e V2 ⟨rfl,hbv⟩;have HB2:=hid (qaf HB1.out hbv);clear hbv))
 go_ret
 exact ⟨qah (HR.out.trans HRR.out).symm,qaf HB.out HB2.out⟩
theorem wvalid_r {D:Dom} {m:Int} {W:Las} {v:Value} {w:World} (r:Bool) (hr:qh6 m W=r) (h:RdL w D v W) :
  Calls Tryz.prog 40 #[.int .i64 m,v] w fun e w'=>e = .returned (.bool r)∧Below w.heap.size w w':=by
 subst hr;exact wvalid_any m W v w h
theorem pick_any {D:Dom} (W:Las) (i:Nat) (v:Value) (w:World) (h:RdL w D v W) (hi:i≤1000000) (hne:0 < W.loop.length) :
  Calls Tryz.prog 63 #[v,.int .i64 (i:Int)] w fun e w'=>e = .returned (.int .i64 (qbe W i))∧Below w.heap.size w w':=by
 obtain ⟨As,cs,Al,cl,rfl,hs,hl⟩:=h
 have hsl:=hs.len.1
 have hll:=hl.len.1
 have HS:=hid hs.old
 have HL:=hid hl.old
 clear hs hl
 go_enter Tryz.func63,Tryz.ntmps63
 go_upto_region 1 with (fail)
 refine qai fun U hU => ?_
 have HB:=hid (show Below w.heap.size w U by rw [hU];go_grown)
 have HO:=hid (show qh4 U w.heap.size W As cs Al cl by show U.heap[_]? = _;rw [hU];exact at_new _ _ _ rfl)
 clear hU
 obtain ⟨s0,s1,s2⟩:=HO.out.cells
 by_cases h1:i < W.stem.length
 ·have hii:(i:Int) < W.stem.length:=by omega
  obtain ⟨b,o,x,rfl,_,hlb,HX,x0⟩:=(HS.out.any HB.out).get h1
  have HR:=hid (show qbe W i=x by unfold qbe;rw [if_pos h1];exact HX.out)
  clear HX h1
  go_wp2_with fail
  go_ret
  exact ⟨qas HR.out.symm,HB.out⟩
 ·have hii : ¬ (i:Int) < W.stem.length:=by omega
  obtain ⟨r,hr⟩ : ∃ r,(i - W.stem.length) % W.loop.length=r:=⟨_,rfl⟩
  have hrl:r < W.loop.length:=by rw [←hr];exact Nat.mod_lt _ hne
  obtain ⟨b,o,x,rfl,_,hlb,HX,x0⟩:=(HL.out.any HB.out).get hrl
  have HR:=hid (show qbe W i=x by unfold qbe;rw [if_neg h1,hr];exact HX.out)
  have hsub:IntKind.i64.wrap ((i:Int) - (W.stem.length:Int))=((i - W.stem.length:Nat):Int):=by
   rw [IntWalk.i64_in _ (by omega)];omega
  have htm:((i - W.stem.length:Nat):Int).tmod (W.loop.length:Int)=(r:Int):=by
   rw [Int.tmod_eq_emod_of_nonneg (by omega),←hr];rfl
  have hne1 : ¬ (W.loop.length:Int)=0:=by omega
  have hne2:((W.loop.length:Int) == 0)=false:=qac hne1
  have hne3 : ¬ W.loop.length=0:=by omega
  have hwr:IntKind.i64.wrap (r:Int)=(r:Int):=IntWalk.i64_in _ (by omega)
  have hr0:(0:Int)≤(r:Int):=by omega
  have hri:(r:Int) < W.loop.length:=by omega
  obtain ⟨d,hd⟩ : ∃ d,i - W.stem.length=d:=⟨_,rfl⟩
  rw [hd] at hsub htm
  clear HX h1 hr hd hrl
  go_upto_region 3 with (fail)
  go_quiet (fail)
  go_wp2_with fail
  go_ret
  exact ⟨qas HR.out.symm,below_drewN HB.out _⟩
end Go.Proofs.YtdpbgcmfeajigaaGreatDoor
namespace Go.Proofs.YtdpbgcmfeajigaaGreatDoor
open Go.RowKit Go.Shelf
attribute [local go_sem] qab run_store_func
structure RoundsG (l N:Nat) (item:Nat→World→Array Value→Prop) (Z M:Dom) (B1 own:Nat) (J:Nat→World→Prop) (X:World→Prop):Prop where
 z : ∀ b,Z b → ¬ M b∧(b < B1∨B1+own≤b)
 keep : ∀ k W W',J k W→Chg (fun b=>B1≤b∧b < B1+own) W W'→J k W'
 keepX : ∀ W W',X W→Chg (fun b=>B1≤b∧b < B1+own) W W'→X W'
 step : ∀ k W vs,B1+own≤W.heap.size→J k W→k < N→item k W vs→YieldAt Fence.wide 0 Tryz.prog l vs W fun e W'=>Chg Z W W'∧((e = .returned (.bool true)∧J (k+1) W')∨(e = .returned (.bool false)∧X W'))
def qi0 (inf:Bool) (gf:Nat) (caps:Array Value) (N:Nat) (item:Nat→World→Array Value→Prop) (M:Dom) (own:Nat) (w:World):Prop :=
 ∀ (l:Nat) (Z:Dom) (J:Nat→World→Prop) (X:World→Prop) (W1:World) (B1:Nat),W1.heap.size=B1→Below w.heap.size w W1→RoundsG l N item Z M B1 own J X→J 0 W1→(inf=true → ∀ W,¬ J N W) →
  Calls Tryz.prog gf (#[.func (.yield l) #[] #[]] ++ caps) W1 fun e w'=>(∃ v,e = .returned v)∧Chg Z W1 w'∧(J N w'∨X w')
theorem range_gen {inf:Bool} {g:Operand} {ps:Array Tmp} {assign body:Code} {Q:Exit→Act→World→Prop} {a:Act} {w:World} (gf:Nat) (caps:Array Value) (N own:Nat) (M:Dom) (item:Nat→World→Array Value→Prop) (Z:Dom) (I:Nat→World→Prop) (Ix:Code→World→Prop)
  (eg : ∀ args w,(callFunc gf args).run Tryz.prog w = .ok (.enter gf args) w) (hg:a.eval g = .func (.func gf) #[] caps) (hit:qi0 inf gf caps N item M own w) (hps : ∀ k W vs,item k W vs→vs.size=ps.size) (hMw : ∀ b,M b→b < w.heap.size)
  (hitem : ∀ k W W' vs,item k W vs→Chg (fun b=>b=w.heap.size+1) W W'→item k W' vs)
  (hZ : ∀ b,Z b → ¬ M b∧(b < w.heap.size∨w.heap.size+2+own≤b))
  (hI : ∀ k W W',I k W→Chg (fun b=>w.heap.size≤b∧b < w.heap.size+2+own) W W'→I k W')
  (hIx : ∀ c W W',Ix c W→Chg (fun b=>w.heap.size≤b∧b < w.heap.size+2+own) W W'→Ix c W') (h0:I 0 w)
  (a₁ : Array Value→Act)
  (hassign : ∀ (l k:Nat) (vs:Array Value) (W:World) (K:Act→World→Prop),item k W vs→K (a₁ vs) W →
   assign.wpIn (Fence.wide.inRound l) 0 Tryz.prog (Exit.then K (fun _ _ _=>False)) { tmps:=(ps.zip vs).foldl (fun t (p,v)=>t.setIfInBounds p v) a.tmps,defers := [] } W)
  (hround : ∀ (l k:Nat) (W:World) (vs:Array Value),w.heap.size+2+own≤W.heap.size→Chg Z w W→I k W→k < N→item k W vs →
   body.wpIn (Fence.wide.inRound l) 0 Tryz.prog (qjt Z I Ix k W) (a₁ vs) W)
  (hdone : ∀ W,Chg Z w W→I N W→W.heap[w.heap.size]? = some (.deferred (some []))→Q .normal { a with defers := { target := .collected w.heap.size,args := #[] } :: a.defers } W)
  (hstop : ∀ c W,Chg Z w W→Ix c W→W.heap[w.heap.size]? = some (.deferred (some []))→c.wp Tryz.prog Q { a with defers := { target := .collected w.heap.size,args := #[] } :: a.defers } W)
  (hinf:inf=true → ∀ W,¬ I N W) :
  (Code.rangeFunc g ps assign body).wp Tryz.prog Q a w:=by
 refine (wpIn_wide (n:=3)).1 (wpIn_rangeFunc fun fn _ => ?_)
 obtain ⟨rec,hrec⟩ : ∃ rec:LoopState→Option Code→Loop,rec=fun st pe => { state:=st,pending:=pe,fn,tmps:=a.tmps,params:=ps,assign,body,defers:=w.heap.size } := ⟨_,rfl⟩
 obtain ⟨W1,hW1⟩ : ∃ W1,(w.alloc (.deferred (some []))).alloc (.loop (rec .ready none))=W1:=⟨_,rfl⟩
 have hL1:W1.heap[w.heap.size+1]? = some (.loop (rec .ready none)):=by rw [←hW1];exact at_new _ _ _ (by simp)
 have hK1:W1.heap[w.heap.size]? = some (.deferred (some [])):=by rw [←hW1,qan _ _ _ (by simp)];exact at_new _ _ _ rfl
 have hs1:W1.heap.size=w.heap.size+2:=by rw [←hW1];simp
 have hb1:Below w.heap.size w W1:=by rw [←hW1];exact ((Below.refl _ w).alloc (Nat.le_refl _) _).alloc (by simp) _
 refine ⟨w.heap.size+1,[{ target := .collected w.heap.size,args := #[] }],W1,{ target := .fn (.func gf) caps,args := #[.func (.yield (w.heap.size+1)) #[] #[]] },W1,gf,
  #[.func (.yield (w.heap.size+1)) #[] #[]] ++ caps,W1,?_,?_,?_,?_,?_,?_⟩
 ·rw [←hW1,hrec];exact run_enterLoop_outer _ _ _ _ _
 ·simp only [resolve,hg]
  simp [go_sem]
 ·exact fun f' _=>trivial
 ·simp [invoke,go_sem,eg]
 ·intro hd;simp [Fence.wide] at hd
 ·have ownC : ∀ W W':World,Chg (fun b=>w.heap.size+2≤b∧b < w.heap.size+2+own) W W'→Chg (fun b=>w.heap.size≤b∧b < w.heap.size+2+own) W W':=fun W W' h=>h.mono fun b _ hb=>⟨by omega,hb.2⟩
  have ownL : ∀ W W':World,Chg (fun b=>b=w.heap.size+1) W W'→Chg (fun b=>w.heap.size≤b∧b < w.heap.size+2+own) W W':=fun W W' h=>h.mono fun b _ hb=>by omega
  refine callsIn_wide.2 ((hit (w.heap.size+1) (fun b=>Z b∨b=w.heap.size+1)
   (fun k W=>I k W∧Chg Z w W∧W.heap[w.heap.size+1]? = some (.loop (rec .ready none))∧W.heap[w.heap.size]? = some (.deferred (some [])))
   (fun W => ∃ c,Ix c W∧Chg Z w W∧W.heap[w.heap.size+1]? = some (.loop (rec .done (some c)))∧W.heap[w.heap.size]? = some (.deferred (some [])))
   W1 (w.heap.size+2) hs1 hb1 ⟨?_,?_,?_,?_⟩ ⟨hI 0 w W1 h0 (Chg.of_new hb1),Chg.of_new hb1,hL1,hK1⟩ (fun h W hj=>hinf h W hj.1)).mono ?_)
  ·rintro b (hb | hb)
   ·have:=hZ b hb;exact ⟨this.1,by omega⟩
   ·exact ⟨fun hm=>by have:=hMw b hm;omega,by omega⟩
  ·rintro k W W' ⟨hi,hc,hl,hk⟩ hw
   exact ⟨hI k W W' hi (ownC _ _ hw),hc.trans' hw fun b _ hb=>by omega,hw.box hl (by omega),hw.box hk (by omega)⟩
  ·rintro W W' ⟨c,hi,hc,hl,hk⟩ hw
   exact ⟨c,hIx c W W' hi (ownC _ _ hw),hc.trans' hw fun b _ hb=>by omega,hw.box hl (by omega),hw.box hk (by omega)⟩
  ·rintro k W vs hsz ⟨hi,hc,hl,hk⟩ hlen hfw
   have hlt:w.heap.size+1 < W.heap.size:=lt_of_block hl
   have hy:=run_yield (P:=Tryz.prog) (args:=vs) hl (by rw [hrec];exact hps _ _ _ hfw)
   rw [hrec] at hy
   refine ⟨fn,_,assign,body,hy,roundIn_of_wpIn trivial (hassign _ _ _ W _ hfw ⟨_,run_beginRound hl (by rw [hrec]),?_⟩)⟩
   obtain ⟨Wb,hWb⟩ : ∃ Wb,Wb=W.putObj (w.heap.size+1) (.loop { rec .ready none with state := .busy }):=⟨_,rfl⟩
   rw [←hWb]
   have hcb:Chg (fun b=>b=w.heap.size+1) W Wb:=by rw [hWb];exact Chg.putObj _ _ _
   have hl2:Wb.heap[w.heap.size+1]? = some (.loop { rec .ready none with state := .busy }):=by rw [hWb];exact World.putObj_heap_same hlt
   have hk2:Wb.heap[w.heap.size]? = some (.deferred (some [])):=hcb.box hk (by omega)
   have hsb:W.heap.size≤Wb.heap.size:=hcb.size
   refine wpIn_mono (hround _ k Wb vs (by omega) (hc.trans' hcb fun b _ hb=>by omega) (hI _ _ _ hi (ownL _ _ hcb)) hlen (hitem _ _ _ _ hfw hcb)) ?_
   have fin : ∀ (jump:Option Code) (W3:World),Chg Z Wb W3 →
     (Instr.endRound (w.heap.size+1) jump).run Tryz.prog W3 = .ok (.bool jump.isNone) (W3.putObj (w.heap.size+1) (.loop (rec (if jump.isNone then .ready else .done) jump))) ∧
     Chg (fun b=>b=w.heap.size+1) W3 (W3.putObj (w.heap.size+1) (.loop (rec (if jump.isNone then .ready else .done) jump))) ∧
     Chg (fun b=>Z b∨b=w.heap.size+1) W (W3.putObj (w.heap.size+1) (.loop (rec (if jump.isNone then .ready else .done) jump))) ∧
     Chg Z w (W3.putObj (w.heap.size+1) (.loop (rec (if jump.isNone then .ready else .done) jump))) ∧
     (W3.putObj (w.heap.size+1) (.loop (rec (if jump.isNone then .ready else .done) jump))).heap[w.heap.size+1]? = some (.loop (rec (if jump.isNone then .ready else .done) jump)) ∧
     (W3.putObj (w.heap.size+1) (.loop (rec (if jump.isNone then .ready else .done) jump))).heap[w.heap.size]? = some (.deferred (some [])):=fun jump W3 hc3=>by
    have hl3:=hc3.box hl2 (fun h=>by have:=hZ _ h;omega)
    have hk3:=hc3.box hk2 (fun h=>by have:=hZ _ h;omega)
    have hcp:=Chg.putObj W3 (w.heap.size+1) (.loop (rec (if jump.isNone then .ready else .done) jump))
    have hr:=run_endRound (P:=Tryz.prog) jump hl3
    rw [hrec] at hr hcp ⊢
    refine ⟨hr,hcp,?_,?_,World.putObj_heap_same (lt_of_block hl3),hcp.box hk3 (by omega)⟩
    ·exact ((hcb.mono fun b _ hb => .inr hb).trans (hc3.mono fun b _ hb => .inl hb)).trans (hcp.mono fun b _ hb => .inr hb)
    ·exact ((hc.trans' hcb fun b _ hb=>by omega).trans hc3).trans' hcp fun b _ hb=>by omega
   rintro e a3 W3 hp
   cases e with
   | normal =>
    obtain ⟨hc3,hi3⟩:=hp
    obtain ⟨hr,hcp,hcW,hcw,hl4,hk4⟩:=fin none W3 hc3
    exact ⟨_,_,hr,hcW,.inl ⟨rfl,hI _ _ _ hi3 (ownL _ _ hcp),hcw,hl4,hk4⟩⟩
   | ret =>
    obtain ⟨hc3,hi3⟩:=hp
    obtain ⟨hr,hcp,hcW,hcw,hl4,hk4⟩:=fin (some .ret) W3 hc3
    exact ⟨_,_,hr,hcW,.inr ⟨rfl,_,hIx _ _ _ hi3 (ownL _ _ hcp),hcw,hl4,hk4⟩⟩
   | exit id =>
    obtain ⟨hc3,hi3⟩:=hp
    obtain ⟨hr,hcp,hcW,hcw,hl4,hk4⟩:=fin (some (.exit id)) W3 hc3
    exact ⟨_,_,hr,hcW,.inr ⟨rfl,_,hIx _ _ _ hi3 (ownL _ _ hcp),hcw,hl4,hk4⟩⟩
   | goto t =>
    obtain ⟨hc3,hi3⟩:=hp
    obtain ⟨hr,hcp,hcW,hcw,hl4,hk4⟩:=fin (some (.goto t)) W3 hc3
    exact ⟨_,_,hr,hcW,.inr ⟨rfl,_,hIx _ _ _ hi3 (ownL _ _ hcp),hcw,hl4,hk4⟩⟩
   | panic ch=>exact hp.elim
   | outgrown=>exact hp.elim
  ·rintro e W2 ⟨⟨v,rfl⟩,hc2,(⟨hi,hc,hl,hk⟩ | ⟨c,hi,hc,hl,hk⟩)⟩
   ·refine ⟨none,_,by have:=run_endLoop (P:=Tryz.prog) hl (by rw [hrec];simp);rw [hrec] at this;exact this,?_⟩
    have hcp:=Chg.putObj W2 (w.heap.size+1) (.loop { rec .ready none with state := .exhausted })
    rw [hrec] at hcp
    exact hdone _ (hc.trans' hcp fun b _ hb=>by omega) (hI _ _ _ hi (ownL _ _ hcp)) (hcp.box hk (by omega))
   ·refine ⟨some c,_,by have:=run_endLoop (P:=Tryz.prog) hl (by rw [hrec];simp);rw [hrec] at this;exact this,?_⟩
    have hcp:=Chg.putObj W2 (w.heap.size+1) (.loop { rec .done (some c) with state := .exhausted })
    rw [hrec] at hcp
    exact wpIn_wide.2 (hstop c _ (hc.trans' hcp fun b _ hb=>by omega) (hIx _ _ _ hi (ownL _ _ hcp)) (hcp.box hk (by omega)))
def item1 (it:Nat→World→Value→Prop) (k:Nat) (W:World) (vs:Array Value):Prop := ∃ u,vs = #[u]∧it k W u
def item2 (it:Nat→World→Value→Value→Prop) (k:Nat) (W:World) (vs:Array Value):Prop := ∃ u v,vs = #[u,v]∧it k W u v
theorem range_one {inf:Bool} {g:Operand} {ps:Array Tmp} {assign body:Code} {Q:Exit→Act→World→Prop} {a:Act} {w:World} (gf:Nat) (caps:Array Value) (N own:Nat) (M:Dom) (it:Nat→World→Value→Prop) (Z:Dom) (I:Nat→World→Prop) (Ix:Code→World→Prop)
  (eg : ∀ args w,(callFunc gf args).run Tryz.prog w = .ok (.enter gf args) w) (hg:a.eval g = .func (.func gf) #[] caps) (hps:ps.size=1) (hit:qi0 inf gf caps N (item1 it) M own w) (hMw : ∀ b,M b→b < w.heap.size)
  (hitem : ∀ k W W' u,it k W u→Chg (fun b=>b=w.heap.size+1) W W'→it k W' u)
  (hZ : ∀ b,Z b → ¬ M b∧(b < w.heap.size∨w.heap.size+2+own≤b))
  (hI : ∀ k W W',I k W→Chg (fun b=>w.heap.size≤b∧b < w.heap.size+2+own) W W'→I k W')
  (hIx : ∀ c W W',Ix c W→Chg (fun b=>w.heap.size≤b∧b < w.heap.size+2+own) W W'→Ix c W') (h0:I 0 w)
  (a₁ : Value→Act)
  (hassign : ∀ (l:Nat) (u:Value) (W:World) (K:Act→World→Prop),K (a₁ u) W →
   assign.wpIn (Fence.wide.inRound l) 0 Tryz.prog (Exit.then K (fun _ _ _=>False)) { tmps:=(ps.zip #[u]).foldl (fun t (p,v)=>t.setIfInBounds p v) a.tmps,defers := [] } W)
  (hround : ∀ (l k:Nat) (W:World) (u:Value),w.heap.size+2+own≤W.heap.size→Chg Z w W→I k W→k < N→it k W u →
   body.wpIn (Fence.wide.inRound l) 0 Tryz.prog (qjt Z I Ix k W) (a₁ u) W)
  (hdone : ∀ W,Chg Z w W→I N W→W.heap[w.heap.size]? = some (.deferred (some []))→Q .normal { a with defers := { target := .collected w.heap.size,args := #[] } :: a.defers } W)
  (hstop : ∀ c W,Chg Z w W→Ix c W→W.heap[w.heap.size]? = some (.deferred (some []))→c.wp Tryz.prog Q { a with defers := { target := .collected w.heap.size,args := #[] } :: a.defers } W)
  (hinf:inf=true → ∀ W,¬ I N W) :
  (Code.rangeFunc g ps assign body).wp Tryz.prog Q a w :=
 range_gen gf caps N own M (item1 it) Z I Ix eg hg hit (fun k W vs h=>by obtain ⟨u,rfl,_⟩:=h;exact hps.symm) hMw (fun k W W' vs h hc=>by obtain ⟨u,rfl,h⟩:=h;exact ⟨u,rfl,hitem _ _ _ _ h hc⟩) hZ hI hIx h0
  (fun vs=>a₁ (vs.getD 0 undef)) (fun l k vs W K h hK=>by obtain ⟨u,rfl,h⟩:=h;exact hassign l u W K hK) (fun l k W vs h1 h2 h3 h4 h=>by obtain ⟨u,rfl,h⟩:=h;exact hround l k W u h1 h2 h3 h4 h) hdone hstop hinf
theorem range_two {inf:Bool} {g:Operand} {ps:Array Tmp} {assign body:Code} {Q:Exit→Act→World→Prop} {a:Act} {w:World} (gf:Nat) (caps:Array Value) (N own:Nat) (M:Dom) (it:Nat→World→Value→Value→Prop) (Z:Dom) (I:Nat→World→Prop) (Ix:Code→World→Prop)
  (eg : ∀ args w,(callFunc gf args).run Tryz.prog w = .ok (.enter gf args) w) (hg:a.eval g = .func (.func gf) #[] caps) (hps:ps.size=2) (hit:qi0 inf gf caps N (item2 it) M own w) (hMw : ∀ b,M b→b < w.heap.size)
  (hitem : ∀ k W W' u v,it k W u v→Chg (fun b=>b=w.heap.size+1) W W'→it k W' u v)
  (hZ : ∀ b,Z b → ¬ M b∧(b < w.heap.size∨w.heap.size+2+own≤b))
  (hI : ∀ k W W',I k W→Chg (fun b=>w.heap.size≤b∧b < w.heap.size+2+own) W W'→I k W')
  (hIx : ∀ c W W',Ix c W→Chg (fun b=>w.heap.size≤b∧b < w.heap.size+2+own) W W'→Ix c W') (h0:I 0 w)
  (a₁ : Value→Value→Act)
  (hassign : ∀ (l:Nat) (u v:Value) (W:World) (K:Act→World→Prop),K (a₁ u v) W →
   assign.wpIn (Fence.wide.inRound l) 0 Tryz.prog (Exit.then K (fun _ _ _=>False)) { tmps:=(ps.zip #[u,v]).foldl (fun t (p,v)=>t.setIfInBounds p v) a.tmps,defers := [] } W)
  (hround : ∀ (l k:Nat) (W:World) (u v:Value),w.heap.size+2+own≤W.heap.size→Chg Z w W→I k W→k < N→it k W u v →
   body.wpIn (Fence.wide.inRound l) 0 Tryz.prog (qjt Z I Ix k W) (a₁ u v) W)
  (hdone : ∀ W,Chg Z w W→I N W→W.heap[w.heap.size]? = some (.deferred (some []))→Q .normal { a with defers := { target := .collected w.heap.size,args := #[] } :: a.defers } W)
  (hstop : ∀ c W,Chg Z w W→Ix c W→W.heap[w.heap.size]? = some (.deferred (some []))→c.wp Tryz.prog Q { a with defers := { target := .collected w.heap.size,args := #[] } :: a.defers } W)
  (hinf:inf=true → ∀ W,¬ I N W) :
  (Code.rangeFunc g ps assign body).wp Tryz.prog Q a w :=
 range_gen gf caps N own M (item2 it) Z I Ix eg hg hit (fun k W vs h=>by obtain ⟨u,v,rfl,_⟩:=h;exact hps.symm) hMw (fun k W W' vs h hc=>by obtain ⟨u,v,rfl,h⟩:=h;exact ⟨u,v,rfl,hitem _ _ _ _ _ h hc⟩) hZ hI hIx h0
  (fun vs=>a₁ (vs.getD 0 undef) (vs.getD 1 undef)) (fun l k vs W K h hK=>by obtain ⟨u,v,rfl,h⟩:=h;exact hassign l u v W K hK) (fun l k W vs h1 h2 h3 h4 h=>by obtain ⟨u,v,rfl,h⟩:=h;exact hround l k W u v h1 h2 h3 h4 h) hdone hstop hinf
end Go.Proofs.YtdpbgcmfeajigaaGreatDoor
namespace Go.Proofs.YtdpbgcmfeajigaaGreatDoor
open Go.RowKit Go.Shelf
attribute [local go_sem] qab run_store_func
theorem qcu {l:List Sg} (h:qce l=true):1≤l.length∧l.length≤6∧qgh l≤64 ∧ ∀ i,i < l.length→sgOk l i=true:=by
 unfold qce at h
 simp only [Bool.and_eq_true,decide_eq_true_eq] at h
 exact ⟨h.1.1.1,h.1.1.2,h.2,fun i hi=>qc9.1 h.1.2 i hi⟩
theorem qg9 {l:List Sg} {i:Nat} (h:sgOk l i=true):nameB (l.getD i default).name=true∧2≤(l.getD i default).size∧(l.getD i default).size≤4:=by
 unfold sgOk at h
 simp only [Bool.and_eq_true,decide_eq_true_eq] at h
 exact ⟨h.1.1.1,h.1.1.2,h.1.2⟩
theorem qgp {l:List Sg} (h:qce l=true) : ∀ i,i≤l.length→PrOk l i (qgh (l.take i))
 | 0,_=>PrOk.zero l
 | i+1,hi=>by
  have hv:=qcu h
  have ho:=qg9 (hv.2.2.2 i (by omega))
  have:=(qgp h i (by omega)).succ (s:=(l.getD i default).size) (by omega) (by omega) rfl ho.2.1 ho.2.2
  rw [this.is] at this
  exact this
def qbn (l:List Sg) (i:Nat):Int:=qgh (l.take i)
theorem weight_succ {l:List Sg} {i:Nat} (hi:i < l.length):qbn l (i+1)=qbn l i * (l.getD i default).size:=by
 unfold qbn
 rw [qam l default hi,qgn]
 show _ * ((l.getD i default).size * 1)=_
 rw [Int.mul_one]
def wItem (l:List Sg) (k:Nat) (_:World) (u v:Value):Prop:=u = .int .i64 (k:Int)∧v = .int .i64 (qbn l k)
theorem qfv {l:List Sg} (A:Option Addr) (c pb:Nat) (M:Dom) (w:World) (hv:qce l=true) (hl:RdG w M A c l) (hp:w.cell? ⟨pb,0,none⟩=some (.slice A l.length c)) (hpb:M pb) (hM : ∀ b,M b→b < w.heap.size) :
  qi0 false 123 #[.pointer (some ⟨pb,0,none⟩)] l.length (item2 (wItem l)) M 0 w:=by
 intro ln Z J X W1 B1 hW1 hb1 hR hj _
 subst hW1
 have HR:=hid hR
 have HJ:=hid hj
 have HV:=hid hv
 have HLW:=hid (hl.keep (Keeps.of_below hb1 hM))
 have HPW:=hid ((hb1.cell (p:=⟨pb,0,none⟩) (World.block_lt_of_cell? w _ hp)).trans hp)
 have HPB:=hid hpb
 have hlen:=hl.len.1
 have HKZ:Hid (∀ b,M b → ¬ Z b):=hid fun b h hz=>(hR.z _ hz).1 h
 clear hR hj hl hp hb1 hpb
 have p0:=HPW.out
 have p1:pb < W1.heap.size:=World.block_lt_of_cell? W1 _ p0
 simp only [List.append_toArray,List.cons_append,List.nil_append]
 go_enter Tryz.func123,Tryz.ntmps123
 go_wp2_with fail
 clear p0 p1
 go_loopw [3,7] (fun p q wr => ∃ i:Nat,i≤l.length∧q = .int .i64 (i:Int)∧p = .int .i64 (qbn l i)∧Hid (Chg Z W1 wr)∧Hid (J i wr)) (fun _ q _=>l.length - (intOf q).toNat)
 case atStart=>exact ⟨0,Nat.zero_le _,rfl,rfl,Chg.refl _ _,HJ.out⟩
 case round =>
  obtain ⟨i,hi,rfl,rfl,HC,HJI⟩:=hrel
  by_cases hlt:i < l.length
  ·have hii:(i:Int) < l.length:=by omega
   have HLT:=hid hlt
   have hst:=HR.out.step i wr #[.int .i64 (i:Int),.int .i64 (qbn l i)] (by have:=HC.out.size;omega) HJI.out hlt ⟨_,_,rfl,rfl,rfl⟩
   obtain ⟨yf,yt,ya,yb',hyr,hR4⟩:=hst
   have HR4:=hid hR4
   clear hR4 hlt
   obtain ⟨z,hz⟩ : ∃ z,qbn l i=z:=⟨_,rfl⟩
   have HZ:=hid hz
   rw [hz] at hyr ⊢
   clear hz
   go_upto_region 4 with (fail)
   refine (wpIn_wide (n:=1)).1 ?_
   gi_wp2
   refine HR4.out.mono ?_
   rintro e w4 ⟨hc4,(⟨rfl,hJ4⟩ | ⟨rfl,hX4⟩)⟩
   ·have HC4:=hid hc4
    have HJ4:=hid hJ4
    have HCC:=hid (HC.out.trans hc4)
    obtain ⟨b,o,s,rfl,hlb,HX,x0,x1,x2⟩:=(HLW.out.keep (HCC.out.keeps fun b _ h=>HKZ.out b h)).get HLT.out
    have q0:=World.cell?_of_block (w:=W1) (a:=⟨pb,0,none⟩) (HCC.out.block pb (World.block_lt_of_cell? W1 _ HPW.out) (HKZ.out pb HPB.out)) |>.trans HPW.out
    have q1:=World.block_lt_of_cell? w4 _ q0
    have HSZ:=hid (show (l.getD i default).size=s.size by rw [HX.out])
    have HOK:=hid (qg9 ((qcu HV.out).2.2.2 i HLT.out))
    rw [HSZ.out] at HOK
    have HWN:=hid (show qbn l (i+1)=z * s.size by rw [weight_succ HLT.out,HSZ.out,HZ.out])
    have hwr:IntKind.i64.wrap (z * s.size)=z * s.size:=by
     have h1:=qgp HV.out i (Nat.le_of_lt HLT.out)
     have h2:=h1.wrap (s:=s.size) (by have:=(qcu HV.out).2.1;have:=HLT.out;omega) HOK.out.2.1 HOK.out.2.2
     have:qgh (l.take i)=z:=HZ.out
     rw [this] at h2
     exact h2
    clear hc4 hJ4 hyr HX
    gi_wp2
    go_wp2_with fail
    go_roundw
    case rel=>exact ⟨i+1,by have:=HLT.out;omega,by go_num,by rw [HWN.out];(try rw [hwr]),HCC.out,HJ4.out⟩
    case measure=>have:=HLT.out;simp [intOf];omega
   ·have HC4:=hid (HC.out.trans hc4)
    have HX4:=hid hX4
    clear hc4 hX4 hyr
    gi_wp2
    go_wp2_with fail
    refine bodyPost_ret (results_none rfl _ _ _) rfl ?_
    exact ⟨⟨_,rfl⟩,HC4.out,.inr HX4.out⟩
  ·have hii : ¬ (i:Int) < l.length:=by omega
   obtain rfl:i=l.length:=by omega
   have HJE:=hid HJI.out
   go_wp2_with fail
   go_end0
   exact ⟨⟨_,rfl⟩,HC.out,.inl HJE.out⟩
theorem qhw (A:Option Addr) (n c:Nat) (w:World) :
  Calls Tryz.prog 85 #[.slice A n c] w fun e w'=>e = .returned (.func (.func 123) #[] #[.pointer (some ⟨w.heap.size,0,none⟩)])∧w'=w.alloc (.cells #[.slice A n c] 34):=by
 have hmf : ∀ (fn:Fn) (first cap:Array Value) (w:World),(Instr.makeFunc fn first cap).run Tryz.prog w = .ok (.func fn first cap) w:=fun _ _ _ _=>rfl
 go_enter Tryz.func85,Tryz.ntmps85
 go_wp2_with fail
 go_ret
 exact ⟨rfl,rfl⟩
end Go.Proofs.YtdpbgcmfeajigaaGreatDoor
namespace Go.Proofs.YtdpbgcmfeajigaaGreatDoor
open Go.RowKit Go.Shelf
attribute [local go_sem] qab run_store_func Oper.semAt_some
theorem qj7 {P:Program} {id l n:Nat} {Q:Exit→Act→World→Prop} {a:Act} {w:World} {L:List Oper} (hm:P.follows .mixedOrders=true) (hd:qgu L.toArray=true) (hQ : ¬ LetsOut Q) (hB:Region.lexB .any L.toArray=true)
  (h:wpQuiet P L.toArray (fun w' => ∃ n,w'=w.drewN n) (fun a' => ∀ w',(∃ n,w'=w.drewN n)→Q .normal a' w') L a):(Code.region id L.toArray true).wpIn (Fence.wide.inRound l) n P Q a w:=by
 have hB':=hB
 simp only [Region.lexB,Bool.and_eq_true] at hB'
 refine qd8 hm hd hQ (wpAny_of_quiet (C:=fun w' => ∃ n,w'=w.drewN n) (Q:=fun a' => ∀ w',(∃ n,w'=w.drewN n)→Q .normal a' w') (fun _ w' hw' h=>h w' hw') _ _ _ _ ⟨1,rfl⟩ ?_)
 have:=wpAnyQ_lex (C:=fun w' => ∃ n,w'=w.drewN n) (md := .any) hB'.1 L.toArray.toList 0 (Array.replicate L.toArray.size false) a (by simp) (by simpa using hB'.2) (by simpa using h)
 simpa using this
theorem wpIn_round_held {P:Program} {id l n:Nat} {Q:Exit→Act→World→Prop} {a:Act} {w:World} {ops:Array Oper} (S:World→Prop) (hm:P.follows .mixedOrders=true) (hd:qgu ops=true) (hQ : ¬ LetsOut Q) (hS:S w.drew)
  (h:S w.drew→wpAnyH P .any ops Q S ops.size (Array.replicate ops.size false) a w.drew):(Code.region id ops true).wpIn (Fence.wide.inRound l) n P Q a w :=
 qd8 hm hd hQ (wpAny_of_held _ _ _ _ (h hS))
def qbk (l:List Sg):Int:=if qce l then qgh l else 0
theorem letters1_any (v:Value) (a:ByteArray) (b:Bool) (c:Int) (w:World) :
  Calls Tryz.prog 132 #[.agg #[.string a,.bool b,.int .i64 c]] w fun e w'=>e = .returned (.bool true)∧Below w.heap.size w w':=by
 go_enter Tryz.func132,Tryz.ntmps132
 go_wp2_with fail
 go_ret
 exact ⟨rfl,by go_grown⟩
theorem count_all {D:Dom} (l:List Sg) (A:Option Addr) (n c:Nat) (w:World) (hn:n=l.length) (h:RdG w D A c l) (hk:GK w) :
  Calls Tryz.prog 131 #[.slice A n c,.func (.func 132) #[] #[]] w fun e w'=>e = .returned (.int .i64 (qbk l))∧Below w.heap.size w w':=by
 subst hn
 have HL:=hid h.old
 have HK:=hid hk
 have hlen:=h.len.1
 clear h hk
 refine (callsIn_wide (n:=3)).1 (callsIn_of_wp_marks Tryz.func131 rfl trivial ?_ rfl)
 simp only [Tryz.ntmps131,List.size_toArray,List.length_cons,List.length_nil,Nat.reduceAdd,Nat.reduceSub,Array.replicate_succ,Array.replicate_zero,List.push_toArray,List.append_toArray,List.nil_append,List.cons_append]
 refine wpIn_wide.2 ?_
 go_upto_region 1 with (fail)
 refine qai fun W hW => ?_
 have HB:=hid (show Below w.heap.size w W by rw [hW];go_grown)
 have HE0:=hid (show W.heap[w.heap.size]? = some (.cells #[.slice A l.length c] 34 (0,0)) by rw [hW,qan _ _ _ (by simp)];exact at_new _ _ _ rfl)
 have HE1:=hid (show W.heap[w.heap.size+1]? = some (.cells #[.func (.func 132) #[] #[]] 154 (0,0)) by rw [hW];exact at_new _ _ _ (by simp))
 have HS:=hid (show W.heap.size=w.heap.size+2 by rw [hW];simp)
 clear hW
 have s0:=qaa HE0.out (i:=0) rfl
 have s1:=lt_of_block HE0.out
 have HSV:=hid (qg6 l A c l.length W rfl (HL.out.any HB.out) (HK.out.below HB.out HK.out.pos))
 cases hv:qce l
 ·have HR:=hid (show qbk l=0 by unfold qbk;rw [hv];rfl)
  rw [hv] at HSV
  clear hv
  go_wp2_with (first | (go_at_call 84;refine HSV.out.mono ?_;rintro e V ⟨rfl,hbV⟩;have HBV:=hid (qaf HB.out hbV)))
  refine qhh rfl (v := .int .i64 0) ?_ ⟨by rw [HR.out],HBV.out⟩
  simp [results,Tryz.results131,go_sem]
 rw [hv] at HSV
 have HV:=hid hv
 have HR:=hid (show qbk l=qgh l by unfold qbk;rw [hv];rfl)
 clear hv
 go_upto_region 4 with (go_at_call 84;refine HSV.out.mono ?_;rintro e V ⟨rfl,hbV⟩;have HBV:=hid hbV;clear s0 s1 hbV)
 refine qai fun V2 hV2 => ?_
 have hb2:Below V.heap.size V V2:=by rw [hV2];go_grown
 have HB2:=hid (qaf HBV.out hb2)
 have HE2:=hid (show V2.heap[V.heap.size]? = some (.cells #[.int .i64 1] 3 (0,0)) by rw [hV2];first | exact at_new _ _ _ rfl | (rw [qae (at_new _ _ _ rfl)];rfl))
 have HVS:=hid (show w.heap.size+2≤V.heap.size by have:=HBV.out.size;have:=HS.out;omega)
 obtain ⟨nb,hnb⟩ : ∃ nb,nb=V.heap.size:=⟨_,rfl⟩
 rw [←hnb] at HE2 HVS ⊢
 clear hV2 hb2 hnb HBV HSV
 have HE0':=hid ((HB2.out.block _ (lt_of_block HE0.out)).trans HE0.out)
 have HE1':=hid ((HB2.out.block _ (lt_of_block HE1.out)).trans HE1.out)
 have s0:=qaa HE0'.out (i:=0) rfl
 have s1:=lt_of_block HE0'.out
 go_wp2_with (go_at_call 85;refine (qhw A l.length c V2).mono ?_;rintro e w2 ⟨rfl,rfl⟩)
 refine qai fun W2 hW2 => ?_
 have hb2:Below V2.heap.size V2 W2:=by rw [hW2];go_grown
 have HP:=hid (show W2.cell? ⟨V2.heap.size,0,none⟩=some (.slice A l.length c) by rw [hW2];exact qaa (at_new _ _ _ rfl) (i:=0) rfl)
 have HS2:=hid (show W2.heap.size=V2.heap.size+1 by rw [hW2];simp)
 have HBW:=hid (qaf HB.out (qaf HB2.out hb2))
 have HF0:=hid ((hb2.block _ (lt_of_block HE0'.out)).trans HE0'.out)
 have HF1:=hid ((hb2.block _ (lt_of_block HE1'.out)).trans HE1'.out)
 have HF2:=hid ((hb2.block _ (lt_of_block HE2.out)).trans HE2.out)
 have HNB:=hid (show w.heap.size+2≤nb∧nb < V2.heap.size from ⟨HVS.out,lt_of_block HE2.out⟩)
 have HLW:=hid ((HL.out.keep (Keeps.of_below HBW.out fun _ h=>h)).mono (E:=fun x=>x < w.heap.size∨x=V2.heap.size) fun k hk hl => .inl hk)
 clear hW2 hb2 s0 s1 HE0 HE1 HE2 HE0' HE1'
 have HWI:=hid (qfv A c V2.heap.size (fun x=>x < w.heap.size∨x=V2.heap.size) W2 HV.out HLW.out HP.out (.inr rfl) (fun x hx=>by have:=HS2.out;have:=HNB.out;omega))
 have HMP:=hid (fun i (hi:i≤l.length)=>qgp HV.out i hi)
 refine range_two 123 #[.pointer (some ⟨V2.heap.size,0,none⟩)] l.length 0 (fun x=>x < w.heap.size∨x=V2.heap.size) (wItem l) (fun x=>x=nb)
  (fun k W'=>W'.heap[nb]? = some (.cells #[.int .i64 (qbn l k)] 3 (0,0)))
  (fun _ _=>False)
  (enters_of Tryz.func123 (by kernel_rfl) rfl) rfl rfl HWI.out (fun x hx=>by have:=HS2.out;have:=HNB.out;omega) (fun _ _ _ _ _ h _=>h) ?hZ ?hI (fun _ _ _ h _=>h) HF2.out ?a1 ?hassign ?hround ?hdone (fun _ _ _ h _=>h.elim) (fun h=>by cases h)
 case hassign =>
  intro l u v W K hK
  gi_wp2
  exact hK
 case hZ=>intro x hx;have:=HS2.out;have:=HNB.out;exact ⟨by omega,by omega⟩
 case hI=>intro k W3 W4 h hc;exact hc.box h (by have:=HS2.out;have:=HNB.out;omega)
 case hround =>
  rintro ln k W3 u v hs3 hc3 hI3 hkl ⟨rfl,rfl⟩
  have HKL:=hid hkl
  have HI3:=hid hI3
  have HC3:=hid hc3
  have hkk:(k:Int) < (l.length:Int):=by omega
  have hk0:(0:Int)≤(k:Int):=by omega
  have HNE:=hid (show w.heap.size≠nb∧w.heap.size+1≠nb by have:=HNB.out;omega)
  have t0:=qaa (hc3.box HF0.out HNE.out.1) (i:=0) rfl
  have t1:=qaa (hc3.box HF1.out HNE.out.2) (i:=0) rfl
  have tl0:=lt_of_block (hc3.box HF0.out HNE.out.1)
  obtain ⟨b,o,s,rfl,hlb,HX,x0,x1,x2⟩:=(HLW.out.keep (hc3.keeps fun x _ h e=>by have:=HNB.out;omega)).get hkl
  have HSZ:=hid (show (l.getD k default).size=s.size by rw [HX.out])
  have HOK:=hid (qg9 ((qcu HV.out).2.2.2 k hkl))
  rw [HSZ.out] at HOK
  clear HX hc3 hI3 hkl
  gi_upto_region 6 with (fail)
  refine wpIn_round_held (fun W'=>W'.cell? ⟨w.heap.size+1,0,none⟩=some (.func (.func 132) #[] #[])∧W'.cell? ⟨w.heap.size,0,none⟩=some (.slice (some ⟨b,o,none⟩) l.length c)∧W'.cell? ⟨b,o+k * 3,none⟩=some (.string s.name)∧W'.cell? ⟨b,o+k * 3+1,none⟩=some (.bool s.inp)∧W'.cell? ⟨b,o+k * 3+2,none⟩=some (.int .i64 s.size)) (by kernel_rfl) (by kernel_rfl) (fun h=>by obtain ⟨_,_,h⟩:=h;exact h) ⟨t1,t0,x0,x1,x2⟩ (fun hHeld => ?_)
  clear t0 t1 x0 x1 x2
  refine wpAnyH_take (i:=0) (v := ?_) rfl (by kernel_rfl) (by kernel_rfl) (by kernel_rfl) (fun _ _ _ h=>h) (Or.inl ⟨by rfl,?_⟩) (by assumption) ?_
  rotate_left
  ·intro w hSw;(try dsimp only at hSw);go_simp;(try (with_reducible rfl))
  try simp only [Act.put,List.setIfInBounds_toArray,List.set_cons_zero,List.set_cons_succ]
  refine wpAnyH_take (i:=1) (v := ?_) rfl (by kernel_rfl) (by kernel_rfl) (by kernel_rfl) (fun _ _ _ h=>h) (Or.inl ⟨by rfl,?_⟩) (by assumption) ?_
  rotate_left
  ·intro w hSw;(try dsimp only at hSw);go_simp;(try (with_reducible rfl))
  try simp only [Act.put,List.setIfInBounds_toArray,List.set_cons_zero,List.set_cons_succ]
  refine wpAnyH_take (i:=2) (v := ?_) rfl (by kernel_rfl) (by kernel_rfl) (by kernel_rfl) (fun _ _ _ h=>h) (Or.inl ⟨by rfl,?_⟩) (by assumption) ?_
  rotate_left
  ·intro w hSw;(try dsimp only at hSw);go_simp;(try (with_reducible rfl))
  try simp only [Act.put,List.setIfInBounds_toArray,List.set_cons_zero,List.set_cons_succ]
  refine wpAnyH_take (i:=3) (v := ?_) rfl (by kernel_rfl) (by kernel_rfl) (by kernel_rfl) (fun _ _ _ h=>h) (Or.inl ⟨by rfl,?_⟩) (by assumption) ?_
  rotate_left
  ·intro w hSw;(try dsimp only at hSw);go_simp;(try (with_reducible rfl))
  try simp only [Act.put,List.setIfInBounds_toArray,List.set_cons_zero,List.set_cons_succ]
  refine wpAnyH_take (i:=4) (v := ?_) rfl (by kernel_rfl) (by kernel_rfl) (by kernel_rfl) (fun _ _ _ h=>h) (Or.inl ⟨by rfl,?_⟩) (by assumption) ?_
  rotate_left
  ·intro w hSw;(try dsimp only at hSw);go_simp;(try (with_reducible rfl))
  try simp only [Act.put,List.setIfInBounds_toArray,List.set_cons_zero,List.set_cons_succ]
  refine wpAnyH_ready (rs := [5]) (by kernel_rfl) (by simp) (AllReadyH.cons rfl (fun K hK => ?_) AllReadyH.nil)
  go_simp
  refine (letters1_any (.int .i64 0) s.name s.inp s.size _).mono ?_
  rintro e V3 ⟨rfl,hb3⟩
  have HBB:=hid (show Below W3.heap.size W3 V3 from ((Below.refl _ _).drew).trans (hb3.mono (by simp)))
  have HTL:=hid tl0
  have HLB:=hid hlb
  have hq:V3.cell? ⟨w.heap.size+1,0,none⟩=some (.func (.func 132) #[] #[])∧V3.cell? ⟨w.heap.size,0,none⟩=some (.slice (some ⟨b,o,none⟩) l.length c)∧V3.cell? ⟨b,o+k * 3,none⟩=some (.string s.name)∧V3.cell? ⟨b,o+k * 3+1,none⟩=some (.bool s.inp)∧V3.cell? ⟨b,o+k * 3+2,none⟩=some (.int .i64 s.size):=by
   obtain ⟨h1,h2,h3,h4,h5⟩:=hHeld
   exact ⟨(hb3.cell (World.block_lt_of_cell? _ _ h1)).trans h1,(hb3.cell (World.block_lt_of_cell? _ _ h2)).trans h2,(hb3.cell (World.block_lt_of_cell? _ _ h3)).trans h3,(hb3.cell (World.block_lt_of_cell? _ _ h4)).trans h4,(hb3.cell (World.block_lt_of_cell? _ _ h5)).trans h5⟩
  refine hK.out _ _ hq (fun hHeld => ?_)
  clear hK K hb3 tl0 hlb
  try simp only [Act.put,List.setIfInBounds_toArray,List.set_cons_zero,List.set_cons_succ]
  refine wpAnyH_done (by kernel_rfl) ?_ _
  clear hHeld
  obtain ⟨-,q1, -, -,q4⟩:=hq
  have HN3:=hid ((HBB.out.block _ (lt_of_block HI3.out)).trans HI3.out)
  have r0:=qaa HN3.out (i:=0) rfl
  have r1:=qad HN3.out (i:=0)
  have r2:=lt_of_block HN3.out
  have q5:w.heap.size < V3.heap.size:=Nat.lt_of_lt_of_le HTL.out HBB.out.size
  have q6:b < V3.heap.size:=Nat.lt_of_lt_of_le HLB.out HBB.out.size
  have HWN:=hid (show qbn l (k+1)=qbn l k * s.size by rw [weight_succ HKL.out,HSZ.out])
  have hwr:IntKind.i64.wrap (qbn l k * s.size)=qbn l k * s.size :=
   (qgp HV.out k (Nat.le_of_lt HKL.out)).wrap (s:=s.size) (by have:=(qcu HV.out).2.1;have:=HKL.out;omega) HOK.out.2.1 HOK.out.2.2
  obtain ⟨z,hz⟩ : ∃ z,qbn l k=z:=⟨_,rfl⟩
  rw [hz] at r0 hwr HWN
  clear hz
  gi_upto_region 7 with (fail)
  refine qe1 (fun W'=>W'.cell? ⟨nb,0,none⟩=some (.int .i64 z)∧W'.cell? ⟨w.heap.size,0,none⟩=some (.slice (some ⟨b,o,none⟩) l.length c)∧W'.cell? ⟨b,o+k * 3+2,none⟩=some (.int .i64 s.size)) (by kernel_rfl) (by kernel_rfl) (fun h=>by obtain ⟨_,_,h⟩:=h;exact h) (by kernel_rfl) (by kernel_rfl) ⟨r0,q1,q4⟩ (fun hHeld => ?_)
  simp only [List.dropLast_cons_cons,List.dropLast_singleton,List.getLast_cons_cons,List.getLast_singleton]
  refine wpAnyH_take (i:=0) (v := ?_) rfl (by kernel_rfl) (by kernel_rfl) (by kernel_rfl) (fun _ _ _ h=>h) (Or.inl ⟨by rfl,?_⟩) (by assumption) ?_
  rotate_left
  ·intro w hSw;(try dsimp only at hSw);go_simp;(try (with_reducible rfl))
  try simp only [Act.put,List.setIfInBounds_toArray,List.set_cons_zero,List.set_cons_succ]
  refine wpAnyH_take (i:=1) (v := ?_) rfl (by kernel_rfl) (by kernel_rfl) (by kernel_rfl) (fun _ _ _ h=>h) (Or.inl ⟨by rfl,?_⟩) (by assumption) ?_
  rotate_left
  ·intro w hSw;(try dsimp only at hSw);go_simp;(try (with_reducible rfl))
  try simp only [Act.put,List.setIfInBounds_toArray,List.set_cons_zero,List.set_cons_succ]
  refine wpAnyH_take (i:=2) (v := ?_) rfl (by kernel_rfl) (by kernel_rfl) (by kernel_rfl) (fun _ _ _ h=>h) (Or.inl ⟨by rfl,?_⟩) (by assumption) ?_
  rotate_left
  ·intro w hSw;(try dsimp only at hSw);go_simp;(try (with_reducible rfl))
  try simp only [Act.put,List.setIfInBounds_toArray,List.set_cons_zero,List.set_cons_succ]
  refine wpAnyH_take (i:=3) (v := ?_) rfl (by kernel_rfl) (by kernel_rfl) (by kernel_rfl) (fun _ _ _ h=>h) (Or.inl ⟨by rfl,?_⟩) (by assumption) ?_
  rotate_left
  ·intro w hSw;(try dsimp only at hSw);go_simp;(try (with_reducible rfl))
  try simp only [Act.put,List.setIfInBounds_toArray,List.set_cons_zero,List.set_cons_succ]
  refine wpAnyH_take (i:=4) (v := ?_) rfl (by kernel_rfl) (by kernel_rfl) (by kernel_rfl) (fun _ _ _ h=>h) (Or.inl ⟨by rfl,?_⟩) (by assumption) ?_
  rotate_left
  ·intro w hSw;(try dsimp only at hSw);go_simp;(try (with_reducible rfl))
  try simp only [Act.put,List.setIfInBounds_toArray,List.set_cons_zero,List.set_cons_succ]
  refine wpAnyH_take (i:=5) (v := ?_) rfl (by kernel_rfl) (by kernel_rfl) (by kernel_rfl) (fun _ _ _ h=>h) (Or.inl ⟨by rfl,?_⟩) (by assumption) ?_
  rotate_left
  ·intro w hSw;(try dsimp only at hSw);go_simp;(try (with_reducible rfl))
  try simp only [Act.put,List.setIfInBounds_toArray,List.set_cons_zero,List.set_cons_succ]
  refine wpAnyH_take (i:=6) (v := ?_) rfl (by kernel_rfl) (by kernel_rfl) (by kernel_rfl) (fun _ _ _ h=>h) (Or.inl ⟨by rfl,?_⟩) (by assumption) ?_
  rotate_left
  ·intro w hSw;(try dsimp only at hSw);go_simp;(try (with_reducible rfl))
  try simp only [Act.put,List.setIfInBounds_toArray,List.set_cons_zero,List.set_cons_succ]
  refine wpAnyH_done (by kernel_rfl) ?_ _
  unfold qeo
  go_simp
  gi_wp2_with fail
  refine ⟨((Chg.of_new (V:=fun x=>x=nb) HBB.out).set ⟨nb,0,none⟩ _ fun _=>rfl).drew,?_⟩
  show (V3.setCell ⟨nb,0,none⟩ (.int .i64 (z * s.size))).heap[nb]? = some (Obj.cells #[.int .i64 (qbn l (k+1))] 3 (0,0))
  rw [qae HN3.out,HWN.out]
  rfl
 case hdone =>
  rintro W3 hc h1 hD3
  have r0:=qaa h1 (i:=0) rfl
  dsimp only
  go_wp2_with fail
  have hbf:=HBW.out.trans (hc.below (B:=w.heap.size) (fun x hx=>by have:=HNB.out;omega) HBW.out.size)
  have hpl:qbn l l.length=qgh l:=by unfold qbn;rw [List.take_length]
  refine qbu rfl hD3 (v := .int .i64 (qbn l l.length)) (fun w' hc' => ?_) (fun w' hc'=>⟨by rw [HR.out,hpl],hbf.trans (hc'.below (fun x hx=>by have:=HS2.out;have:=HNB.out;omega) hbf.size)⟩)
  simp [results,Tryz.results131,go_sem]
theorem letters_any {D:Dom} (l:List Sg) (A:Option Addr) (n c:Nat) (w:World) (hn:n=l.length) (h:RdG w D A c l) (hk:GK w) :
  Calls Tryz.prog 101 #[.slice A n c] w fun e w'=>e = .returned (.int .i64 (qbk l))∧Below w.heap.size w w':=by
 subst hn
 have HC:=hid (count_all l A l.length c w rfl h hk)
 clear h hk
 go_enter Tryz.func101,Tryz.ntmps101
 go_wp2_with (go_at_call 131;(with_reducible refine HC.out.mono ?_);rintro e V ⟨rfl,hb⟩)
 go_ret
 exact ⟨qas rfl,hb⟩
theorem letters_r {D:Dom} {l:List Sg} {A:Option Addr} {n c:Nat} {w:World} (r:Int) (hr:qbk l=r) (hn:n=l.length) (h:RdG w D A c l) (hk:GK w) :
  Calls Tryz.prog 101 #[.slice A n c] w fun e w'=>e = .returned (.int .i64 r)∧Below w.heap.size w w':=by
 subst hr;exact letters_any l A n c w hn h hk
end Go.Proofs.YtdpbgcmfeajigaaGreatDoor
namespace Go.Proofs.YtdpbgcmfeajigaaGreatDoor
open Go.RowKit Go.Shelf
attribute [local go_sem] qab run_store_func Oper.semAt_some
def qcb (l:List Sg) (x:Int) (i:Nat):Int:=x / qbn l i % (l.getD i default).size
theorem qfw {l:List Sg} (hv:qce l=true) {i:Nat} (hi:i≤l.length):1≤qbn l i∧qbn l i≤4096:=by
 have h:=qgp hv i hi
 refine ⟨h.lo,Int.le_trans h.hi ?_⟩
 have h6:=(qcu hv).2.1
 have:i=0∨i=1∨i=2∨i=3∨i=4∨i=5∨i=6:=by omega
 rcases this with rfl | rfl | rfl | rfl | rfl | rfl | rfl <;> decide
theorem qeb {l:List Sg} {x:Int} (h0:0≤x) (h:x < qbk l):qce l=true∧qbk l=qgh l∧x < 64:=by
 unfold qbk at h ⊢
 cases hv:qce l
 ·rw [hv] at h
  have h:x < 0:=h
  omega
 ·rw [hv] at h
  have h:x < qgh l:=h
  have:=(qcu hv).2.2.1
  exact ⟨rfl,rfl,by omega⟩
theorem value_any {D:Dom} (l:List Sg) (A:Option Addr) (n c:Nat) (x:Int) (i:Nat) (w:World) (hn:n=l.length) (h:RdG w D A c l) (hk:GK w) (h0:0≤x) (hx:x < qbk l) (hi:i < l.length) :
  Calls Tryz.prog 102 #[.slice A n c,.int .i64 x,.int .i64 (i:Int)] w fun e w'=>e = .returned (.int .i64 (qcb l x i))∧Below w.heap.size w w':=by
 subst hn
 obtain ⟨hv,hlz,h64⟩:=qeb h0 hx
 have HL:=hid h.old
 have HK:=hid hk
 have HV:=hid hv
 have HI:=hid hi
 have HX:=hid (show 0≤x∧x < 64 from ⟨h0,h64⟩)
 have hlen:=h.len.1
 obtain ⟨lz,hlz'⟩ : ∃ lz,qbk l=lz:=⟨_,rfl⟩
 have HLZ:=hid hlz'
 rw [hlz'] at hx
 have d1 : ¬ x < 0:=by omega
 have e1:decide (x < 0)=false:=decide_eq_false d1
 have d2 : ¬ lz≤x:=by omega
 have e2:decide (lz≤x)=false:=decide_eq_false d2
 have d3 : ¬ (i:Int) < 0:=by omega
 have e3:decide ((i:Int) < 0)=false:=decide_eq_false d3
 have d4 : ¬ (l.length:Int)≤(i:Int):=by omega
 have e4:decide ((l.length:Int)≤(i:Int))=false:=decide_eq_false d4
 clear h hk hv hlz h64 hlz' h0 hx hi
 refine (callsIn_wide (n:=3)).1 (callsIn_of_wp_marks Tryz.func102 rfl trivial ?_ rfl)
 simp only [Tryz.ntmps102,List.size_toArray,List.length_cons,List.length_nil,Nat.reduceAdd,Nat.reduceSub,Array.replicate_succ,Array.replicate_zero,List.push_toArray,List.append_toArray,List.nil_append,List.cons_append]
 refine wpIn_wide.2 ?_
 go_upto_region 1 with (fail)
 refine qai fun W hW => ?_
 have HB:=hid (show Below w.heap.size w W by rw [hW];go_grown)
 have HE0:=hid (show W.heap[w.heap.size]? = some (.cells #[.slice A l.length c] 34 (0,0)) by rw [hW,qan _ _ _ (by first | (simp;done) | (simp;omega)),qan _ _ _ (by first | (simp;done) | (simp;omega)),qan _ _ _ (by simp)];exact at_new _ _ _ rfl)
 have HE1:=hid (show W.heap[w.heap.size+1]? = some (.cells #[.int .i64 x] 3 (0,0)) by rw [hW,qan _ _ _ (by first | (simp;done) | (simp;omega)),qan _ _ _ (by simp)];exact at_new _ _ _ (by simp))
 have HE2:=hid (show W.heap[w.heap.size+2]? = some (.cells #[.int .i64 (i:Int)] 3 (0,0)) by rw [hW,qan _ _ _ (by simp)];exact at_new _ _ _ (by simp))
 have HE3:=hid (show W.heap[w.heap.size+3]? = some (.cells #[.int .i64 0] 3 (0,0)) by rw [hW];exact at_new _ _ _ (by simp))
 have HS:=hid (show W.heap.size=w.heap.size+4 by rw [hW];simp)
 clear hW
 have HCELL:Hid (∀ W':World,Below W.heap.size W W'→W'.cell? ⟨w.heap.size,0,none⟩=some (.slice A l.length c)∧W'.cell? ⟨w.heap.size+1,0,none⟩=some (.int .i64 x)∧W'.cell? ⟨w.heap.size+2,0,none⟩=some (.int .i64 (i:Int))):=hid fun W' hb =>
  ⟨qaa ((hb.block _ (lt_of_block HE0.out)).trans HE0.out) (i:=0) rfl,qaa ((hb.block _ (lt_of_block HE1.out)).trans HE1.out) (i:=0) rfl,qaa ((hb.block _ (lt_of_block HE2.out)).trans HE2.out) (i:=0) rfl⟩
 have HC:Hid (∀ W':World,Below W.heap.size W W'→Calls Tryz.prog 101 #[.slice A l.length c] W' fun e w'=>e = .returned (.int .i64 lz)∧Below W.heap.size W w'):=hid fun W' hb=>by
  refine (letters_r (l:=l) (w:=W') (n:=l.length) lz HLZ.out rfl (HL.out.any (qaf HB.out hb)) (HK.out.below (qaf HB.out hb) HK.out.pos)).mono ?_
  rintro e w' ⟨rfl,hb'⟩
  exact ⟨rfl,qaf hb hb'⟩
 have HI1:=hid (show Below W.heap.size W W.drew from (Below.refl _ _).drew)
 have HI2:=hid (show ∀ i,Below W.heap.size W (W.drewN i) from fun i=>(qap.n W i).below _)
 obtain ⟨s0,s1,s2⟩:=HCELL.out W (Below.refl _ _)
 go_region_held3 (fun W':World=>W'.cell? ⟨w.heap.size,0,none⟩=some (.slice A l.length c)∧W'.cell? ⟨w.heap.size+1,0,none⟩=some (.int .i64 x)∧W'.cell? ⟨w.heap.size+2,0,none⟩=some (.int .i64 (i:Int)))
  (first | (with_reducible exact HCELL.out _ hI) | (go_keep;done))
  ((go_at_call 101;(with_reducible refine (HC.out _ (by first | exact HI1.out | exact HI2.out _)).mono ?_);rintro e V ⟨rfl,hI⟩))
 all_goals
  have HBV:=hid hI
  clear hI s0 s1 s2 HI1 HI2
  obtain ⟨s0,s1,s2⟩:=HCELL.out _ HBV.out
  have s3:=lt_of_block ((HBV.out.block _ (lt_of_block HE0.out)).trans HE0.out)
  clear s1 s2
  go_wp2_with (go_at_call 85;refine (qhw A l.length c _).mono ?_;rintro e w2 ⟨rfl,rfl⟩)
  refine qai fun W2 hW2 => ?_
  have hb2:Below V.heap.size V W2:=by rw [hW2];go_grown
  have HP:=hid (show W2.cell? ⟨V.heap.size,0,none⟩=some (.slice A l.length c) by rw [hW2];exact qaa (at_new _ _ _ rfl) (i:=0) rfl)
  have HS2:=hid (show W2.heap.size=V.heap.size+1 by rw [hW2];simp)
  have HBW2:=hid (qaf HBV.out hb2)
  have HBW:=hid (qaf HB.out HBW2.out)
  have HVS:=hid (show w.heap.size+4≤V.heap.size by have:=HBV.out.size;have:=HS.out;omega)
  have HF3:=hid ((HBW2.out.block _ (lt_of_block HE3.out)).trans HE3.out)
  have HLW:=hid ((HL.out.keep (Keeps.of_below HBW.out fun _ h=>h)).mono (E:=fun x=>x < w.heap.size∨x=V.heap.size) fun k hk hl => .inl hk)
  have HCW:=hid (HCELL.out _ HBW2.out)
  clear hW2 hb2 s0 s3
  have HWI:=hid (qfv A c V.heap.size (fun x=>x < w.heap.size∨x=V.heap.size) W2 HV.out HLW.out HP.out (.inr rfl) (fun x hx=>by have:=HS2.out;have:=HVS.out;omega))
  refine range_two 123 #[.pointer (some ⟨V.heap.size,0,none⟩)] l.length 0 (fun x=>x < w.heap.size∨x=V.heap.size) (wItem l) (fun x=>x=w.heap.size+3)
   (fun k W'=>k≤i∧W'.heap[w.heap.size+3]? = some (.cells #[.int .i64 0] 3 (0,0)))
   (fun c W'=>c = .ret∧W'.heap[w.heap.size+3]? = some (.cells #[.int .i64 (qcb l x i)] 3 (0,0)))
   (enters_of Tryz.func123 (by kernel_rfl) rfl) rfl rfl HWI.out (fun x hx=>by have:=HS2.out;have:=HVS.out;omega) (fun _ _ _ _ _ h _=>h) ?hZ ?hI ?hIx ⟨Nat.zero_le _,HF3.out⟩ ?a1 ?hassign ?hround ?hdone ?hstop (fun h=>by cases h)
  case hassign =>
   intro l u v W K hK
   gi_wp2
   exact hK
  case hZ=>intro x hx;have:=HS2.out;have:=HVS.out;exact ⟨by omega,by omega⟩
  case hI=>rintro k W3 W4 ⟨h1,h2⟩ hc;exact ⟨h1,hc.box h2 (by have:=HS2.out;have:=HVS.out;omega)⟩
  case hIx=>rintro c W3 W4 ⟨h1,h2⟩ hc;exact ⟨h1,hc.box h2 (by have:=HS2.out;have:=HVS.out;omega)⟩
  case hround =>
   rintro ln k W3 u v hs3 hc3 ⟨hki,hI3⟩ hkl ⟨rfl,rfl⟩
   have HKL:=hid hkl
   have HKI:=hid hki
   have HI3:=hid hI3
   obtain ⟨t0,t1,t2⟩:=HCW.out
   have keepc : ∀ (b:Nat) (v:Value),b≠w.heap.size+3→W2.cell? ⟨b,0,none⟩=some v→W3.cell? ⟨b,0,none⟩=some v:=fun b v hb hv=>(World.cell?_of_block (w:=W2) (a:=⟨b,0,none⟩) (hc3.block b (World.block_lt_of_cell? _ _ hv) hb)).trans hv
   have q0:=keepc _ _ (by omega) t0
   have q1:=keepc _ _ (by omega) t1
   have q2:=keepc _ _ (by omega) t2
   have ql:=World.block_lt_of_cell? _ _ q0
   by_cases hki':k=i
   ·have dk:((k:Int) == (i:Int))=true:=by rw [hki'];exact beq_self_eq_true _
    have hk0:(0:Int)≤(i:Int):=by omega
    have hkk:(i:Int) < (l.length:Int):=by have:=HI.out;omega
    obtain ⟨b,o,s,rfl,hlb,HSX,x0,x1,x2⟩:=(HLW.out.keep (hc3.keeps fun x _ h e=>by have:=HVS.out;omega)).get HI.out
    have HOK:=hid (qg9 ((qcu HV.out).2.2.2 i HI.out))
    have hwb:=qfw HV.out (Nat.le_of_lt HI.out)
    have HVZ:=hid (show qcb l x i=x / qbn l i % s.size by unfold qcb;rw [HSX.out])
    rw [HSX.out] at HOK
    obtain ⟨z,hz⟩ : ∃ z,qbn l i=z:=⟨_,rfl⟩
    rw [hz] at hwb HVZ
    have hxx:=HX.out
    obtain ⟨d,hd⟩ : ∃ d,x / z=d:=⟨_,rfl⟩
    have hq:x.tdiv z=d:=by rw [Int.tdiv_eq_ediv_of_nonneg hxx.1];exact hd
    have hdb:0≤d∧d < 64:=by rw [←hd];exact ⟨Int.ediv_nonneg hxx.1 (by omega),Int.lt_of_le_of_lt (Int.ediv_le_self z hxx.1) hxx.2⟩
    obtain ⟨r,hr⟩ : ∃ r,d % s.size=r:=⟨_,rfl⟩
    have hm:d.tmod s.size=r:=by rw [Int.tmod_eq_emod_of_nonneg hdb.1];exact hr
    rw [hd,hr] at HVZ
    have hrb:0≤r∧r < 4:=by
     rw [←hr]
     have:=HOK.out.2
     exact ⟨Int.emod_nonneg _ (by omega),Int.lt_of_lt_of_le (Int.emod_lt_of_pos _ (by omega)) (by omega)⟩
    have w1:IntKind.i64.wrap d=d:=IntWalk.i64_in _ (by omega)
    have w2:IntKind.i64.wrap r=r:=IntWalk.i64_in _ (by omega)
    have n1 : ¬ z=0:=by omega
    have n2:(z == 0)=false:=qac n1
    have n3 : ¬ s.size=0:=by have:=HOK.out.2;omega
    have n4:(s.size == 0)=false:=qac n3
    have r0:=qaa HI3.out (i:=0) rfl
    have r1:=qad HI3.out (i:=0)
    have r2:=lt_of_block HI3.out
    have HHC:=hid hc3
    rw [hki',hz]
    clear hI3 hkl hki hki' t0 t1 t2 keepc hd hr HSX x0 x1 hc3 hz dk
    have dk:((i:Int) == (i:Int))=true:=beq_self_eq_true _
    gi_upto_region 7 with (fail)
    refine qe1 (fun W'=>W'.cell? ⟨w.heap.size+1,0,none⟩=some (.int .i64 x)∧W'.cell? ⟨w.heap.size,0,none⟩=some (.slice (some ⟨b,o,none⟩) l.length c)∧W'.cell? ⟨w.heap.size+2,0,none⟩=some (.int .i64 (i:Int))∧W'.cell? ⟨b,o+i * 3+2,none⟩=some (.int .i64 s.size)) (by kernel_rfl) (by kernel_rfl) (fun h=>by obtain ⟨_,_,h⟩:=h;exact h) (by kernel_rfl) (by kernel_rfl) ⟨q1,q0,q2,x2⟩ (fun hHeld => ?_)
    simp only [List.dropLast_cons_cons,List.dropLast_singleton,List.getLast_cons_cons,List.getLast_singleton]
    refine wpAnyH_take (i:=0) (v := ?_) rfl (by kernel_rfl) (by kernel_rfl) (by kernel_rfl) (fun _ _ _ h=>h) (Or.inl ⟨by rfl,?_⟩) (by assumption) ?_
    rotate_left
    ·intro w hSw;(try dsimp only at hSw);go_simp;(try (with_reducible rfl))
    try simp only [Act.put,List.setIfInBounds_toArray,List.set_cons_zero,List.set_cons_succ]
    refine wpAnyH_take (i:=1) (v := ?_) rfl (by kernel_rfl) (by kernel_rfl) (by kernel_rfl) (fun _ _ _ h=>h) (Or.inl ⟨by rfl,?_⟩) (by assumption) ?_
    rotate_left
    ·intro w hSw;(try dsimp only at hSw);go_simp;(try (with_reducible rfl))
    try simp only [Act.put,List.setIfInBounds_toArray,List.set_cons_zero,List.set_cons_succ]
    refine wpAnyH_take (i:=2) (v := ?_) rfl (by kernel_rfl) (by kernel_rfl) (by kernel_rfl) (fun _ _ _ h=>h) (Or.inl ⟨by rfl,?_⟩) (by assumption) ?_
    rotate_left
    ·intro w hSw;(try dsimp only at hSw);go_simp;(try (with_reducible rfl))
    try simp only [Act.put,List.setIfInBounds_toArray,List.set_cons_zero,List.set_cons_succ]
    refine wpAnyH_take (i:=3) (v := ?_) rfl (by kernel_rfl) (by kernel_rfl) (by kernel_rfl) (fun _ _ _ h=>h) (Or.inl ⟨by rfl,?_⟩) (by assumption) ?_
    rotate_left
    ·intro w hSw;(try dsimp only at hSw);go_simp;(try (with_reducible rfl))
    try simp only [Act.put,List.setIfInBounds_toArray,List.set_cons_zero,List.set_cons_succ]
    refine wpAnyH_take (i:=4) (v := ?_) rfl (by kernel_rfl) (by kernel_rfl) (by kernel_rfl) (fun _ _ _ h=>h) (Or.inl ⟨by rfl,?_⟩) (by assumption) ?_
    rotate_left
    ·intro w hSw;(try dsimp only at hSw);go_simp;(try (with_reducible rfl))
    try simp only [Act.put,List.setIfInBounds_toArray,List.set_cons_zero,List.set_cons_succ]
    refine wpAnyH_take (i:=5) (v := ?_) rfl (by kernel_rfl) (by kernel_rfl) (by kernel_rfl) (fun _ _ _ h=>h) (Or.inl ⟨by rfl,?_⟩) (by assumption) ?_
    rotate_left
    ·intro w hSw;(try dsimp only at hSw);go_simp;(try (with_reducible rfl))
    try simp only [Act.put,List.setIfInBounds_toArray,List.set_cons_zero,List.set_cons_succ]
    refine wpAnyH_take (i:=6) (v := ?_) rfl (by kernel_rfl) (by kernel_rfl) (by kernel_rfl) (fun _ _ _ h=>h) (Or.inl ⟨by rfl,?_⟩) (by assumption) ?_
    rotate_left
    ·intro w hSw;(try dsimp only at hSw);go_simp;(try (with_reducible rfl))
    try simp only [Act.put,List.setIfInBounds_toArray,List.set_cons_zero,List.set_cons_succ]
    refine wpAnyH_take (i:=7) (v := ?_) rfl (by kernel_rfl) (by kernel_rfl) (by kernel_rfl) (fun _ _ _ h=>h) (Or.inl ⟨by rfl,?_⟩) (by assumption) ?_
    rotate_left
    ·intro w hSw;(try dsimp only at hSw);go_simp;(try (with_reducible rfl))
    try simp only [Act.put,List.setIfInBounds_toArray,List.set_cons_zero,List.set_cons_succ]
    refine wpAnyH_take (i:=8) (v := ?_) rfl (by kernel_rfl) (by kernel_rfl) (by kernel_rfl) (fun _ _ _ h=>h) (Or.inl ⟨by rfl,?_⟩) (by assumption) ?_
    rotate_left
    ·intro w hSw;(try dsimp only at hSw);go_simp;(try (with_reducible rfl))
    try simp only [Act.put,List.setIfInBounds_toArray,List.set_cons_zero,List.set_cons_succ]
    refine wpAnyH_done (by kernel_rfl) ?_ _
    unfold qeo
    go_simp
    gi_wp2_with fail
    refine ⟨((Chg.refl (fun x=>x=w.heap.size+3) W3).set ⟨w.heap.size+3,0,none⟩ _ fun _=>rfl).drew,rfl,?_⟩
    show (W3.setCell ⟨w.heap.size+3,0,none⟩ (.int .i64 r)).heap[w.heap.size+3]? = some (Obj.cells #[.int .i64 (qcb l x i)] 3 (0,0))
    rw [qae HI3.out,HVZ.out]
    rfl
   ·have dk:((k:Int) == (i:Int))=false:=qac (by omega)
    clear hI3 hkl hki t0 t1 t2 keepc q0 q1
    gi_wp2_with fail
    exact ⟨Chg.refl _ _,by have:=HKI.out;omega,HI3.out⟩
  case hdone =>
   rintro W3 hc ⟨h1,h2⟩ hD3
   exact absurd h1 (by have:=HI.out;omega)
  case hstop =>
   rintro c W3 hc ⟨rfl,h2⟩ hD3
   dsimp only
   go_wp2_with fail
   have hbf:=HBW.out.trans (hc.below (B:=w.heap.size) (fun x hx=>by omega) HBW.out.size)
   refine qbu rfl hD3 (v := .int .i64 (qcb l x i)) (fun w' hc' => ?_) (fun w' hc'=>⟨rfl,hbf.trans (hc'.below (fun x hx=>by have:=HS2.out;have:=HVS.out;omega) hbf.size)⟩)
   have:=qaa (hc'.box h2 (by have:=HS2.out;have:=HVS.out;omega)) (i:=0) rfl
   simp [results,Tryz.results102,go_sem,this]
end Go.Proofs.YtdpbgcmfeajigaaGreatDoor
namespace Go.Proofs.YtdpbgcmfeajigaaGreatDoor
open Go.RowKit Go.Shelf
attribute [local go_sem] qab run_store_func Oper.semAt_some
def qen (l:List Sg) (vs:List Int):Nat→Int
 | 0=>0
 | k+1=>qen l vs k+vs.getD k 0 * qbn l k
def makeZ (l:List Sg) (vs:List Int):Int:=qen l vs l.length
def valsB (l:List Sg) (vs:List Int):Bool:=decide (vs.length=l.length) && qky l.length fun i=>decide (0≤vs.getD i 0) && decide (vs.getD i 0 < (l.getD i default).size)
theorem valsB_out {l:List Sg} {vs:List Int} (h:valsB l vs=true):vs.length=l.length ∧ ∀ i,i < l.length→0≤vs.getD i 0∧vs.getD i 0 < (l.getD i default).size:=by
 unfold valsB at h
 rw [Bool.and_eq_true,decide_eq_true_eq,qc9] at h
 exact ⟨h.1,fun i hi=>by simpa using h.2 i hi⟩
theorem qig {l:List Sg} {vs:List Int} (hv:qce l=true) (h:valsB l vs=true) : ∀ k,k≤l.length→0≤qen l vs k∧qen l vs k≤16384 * k
 | 0,_=>by simp [qen]
 | k+1,hk=>by
  have ih:=qig hv h k (by omega)
  have hw:=qfw hv (i:=k) (by omega)
  have h1:=(valsB_out h).2 k (by omega)
  have h2:=qg9 ((qcu hv).2.2.2 k (by omega))
  have h3:vs.getD k 0=0∨vs.getD k 0=1∨vs.getD k 0=2∨vs.getD k 0=3:=by omega
  rw [qen]
  rcases h3 with e | e | e | e <;> rw [e] <;> omega
theorem make_any {D E:Dom} (l:List Sg) (vs:List Int) (A:Option Addr) (n c:Nat) (B:Option Addr) (m d:Nat) (w:World) (hn:n=l.length) (h:RdG w D A c l) (hm:m=vs.length) (hi:RdI w E B d vs) (hk:GK w) (hv:qce l=true) (hb:valsB l vs=true) :
  Calls Tryz.prog 38 #[.slice A n c,.slice B m d] w fun e w'=>e = .returned (.tuple #[.int .i64 (makeZ l vs),.bool true])∧Below w.heap.size w w':=by
 subst hn hm
 have HL:=hid h.old
 have HVI:=hid hi.old
 have HK:=hid hk
 have HV:=hid hv
 have HB0:=hid hb
 have hlen:=h.len.1
 have hlen2:=hi.len.1
 have hvl:=(valsB_out hb).1
 have e1:((vs.length:Int) != (l.length:Int))=false:=by rw [hvl];simp
 have HVL:=hid hvl
 clear h hi hk hv hb hvl
 refine (callsIn_wide (n:=3)).1 (callsIn_of_wp_marks Tryz.func38 rfl trivial ?_ rfl)
 simp only [Tryz.ntmps38,List.size_toArray,List.length_cons,List.length_nil,Nat.reduceAdd,Nat.reduceSub,Array.replicate_succ,Array.replicate_zero,List.push_toArray,List.append_toArray,List.nil_append,List.cons_append]
 refine wpIn_wide.2 ?_
 go_upto_region 1 with (fail)
 refine qai fun W hW => ?_
 have HB:=hid (show Below w.heap.size w W by rw [hW];go_grown)
 have HE0:=hid (show W.heap[w.heap.size]? = some (.cells #[.slice A l.length c] 34 (0,0)) by rw [hW,qan _ _ _ (by first | (simp;done) | (simp;omega)),qan _ _ _ (by first | (simp;done) | (simp;omega)),qan _ _ _ (by simp)];exact at_new _ _ _ rfl)
 have HE1:=hid (show W.heap[w.heap.size+1]? = some (.cells #[.slice B vs.length d] 35 (0,0)) by rw [hW,qan _ _ _ (by first | (simp;done) | (simp;omega)),qan _ _ _ (by simp)];exact at_new _ _ _ (by simp))
 have HE2:=hid (show W.heap[w.heap.size+2]? = some (.cells #[.int .i64 0] 3 (0,0)) by rw [hW,qan _ _ _ (by simp)];exact at_new _ _ _ (by simp))
 have HE3:=hid (show W.heap[w.heap.size+3]? = some (.cells #[.bool false] 4 (0,0)) by rw [hW];exact at_new _ _ _ (by simp))
 have HS:=hid (show W.heap.size=w.heap.size+4 by rw [hW];simp)
 clear hW
 have HCELL:Hid (∀ W':World,Below W.heap.size W W'→W'.cell? ⟨w.heap.size,0,none⟩=some (.slice A l.length c)∧W'.cell? ⟨w.heap.size+1,0,none⟩=some (.slice B vs.length d)):=hid fun W' hb =>
  ⟨qaa ((hb.block _ (lt_of_block HE0.out)).trans HE0.out) (i:=0) rfl,qaa ((hb.block _ (lt_of_block HE1.out)).trans HE1.out) (i:=0) rfl⟩
 have HSV:=hid (qg6 l A c l.length W rfl (HL.out.any HB.out) (HK.out.below HB.out HK.out.pos))
 rw [HV.out] at HSV
 obtain ⟨s0,s1⟩:=HCELL.out W (Below.refl _ _)
 go_upto_region 4 with (go_at_call 84;(with_reducible refine HSV.out.mono ?_);rintro e V ⟨rfl,hbV⟩;have HBV:=hid hbV;clear s0 s1;obtain ⟨s0,s1⟩:=HCELL.out _ HBV.out;clear hbV)
 refine qai fun V2 hV2 => ?_
 have hb2:Below V.heap.size V V2:=by rw [hV2];go_grown
 have HB2:=hid (qaf HBV.out hb2)
 have HN2:=hid (show V2.heap[V.heap.size]? = some (.cells #[.int .i64 0] 3 (0,0)) by rw [hV2];first | exact at_new _ _ _ rfl | (rw [qae (at_new _ _ _ rfl)];rfl))
 have HVS:=hid (show w.heap.size+4≤V.heap.size by have:=HBV.out.size;have:=HS.out;omega)
 obtain ⟨nb,hnb⟩ : ∃ nb,nb=V.heap.size:=⟨_,rfl⟩
 rw [←hnb] at HN2 HVS ⊢
 clear hV2 hb2 hnb HBV HSV s0 s1
 obtain ⟨s0,s1⟩:=HCELL.out V2 HB2.out
 have s3:=lt_of_block ((HB2.out.block _ (lt_of_block HE0.out)).trans HE0.out)
 go_wp2_with (go_at_call 85;refine (qhw A l.length c V2).mono ?_;rintro e w2 ⟨rfl,rfl⟩)
 refine qai fun W2 hW2 => ?_
 have hb2:Below V2.heap.size V2 W2:=by rw [hW2];go_grown
 have HP:=hid (show W2.cell? ⟨V2.heap.size,0,none⟩=some (.slice A l.length c) by rw [hW2];exact qaa (at_new _ _ _ rfl) (i:=0) rfl)
 have HS2:=hid (show W2.heap.size=V2.heap.size+1 by rw [hW2];simp)
 have HBW2:=hid (qaf HB2.out hb2)
 have HBW:=hid (qaf HB.out HBW2.out)
 have HF2:=hid ((HBW2.out.block _ (lt_of_block HE2.out)).trans HE2.out)
 have HF3:=hid ((HBW2.out.block _ (lt_of_block HE3.out)).trans HE3.out)
 have HFN:=hid ((hb2.block _ (lt_of_block HN2.out)).trans HN2.out)
 have HNB:=hid (show w.heap.size+4≤nb∧nb < V2.heap.size from ⟨HVS.out,lt_of_block HN2.out⟩)
 have HLW:=hid ((HL.out.keep (Keeps.of_below HBW.out fun _ h=>h)).mono (E:=fun x=>x < w.heap.size∨x=V2.heap.size) fun k hk hl => .inl hk)
 have HIW:=hid ((HVI.out.keep (Keeps.of_below HBW.out fun _ h=>h)).mono (E:=fun x=>x < w.heap.size∨x=V2.heap.size) fun k hk hl => .inl hk)
 have HCW:=hid (HCELL.out _ HBW2.out)
 clear hW2 hb2 s0 s1 s3
 have HWI:=hid (qfv A c V2.heap.size (fun x=>x < w.heap.size∨x=V2.heap.size) W2 HV.out HLW.out HP.out (.inr rfl) (fun x hx=>by have:=HS2.out;have:=HNB.out;omega))
 refine range_two 123 #[.pointer (some ⟨V2.heap.size,0,none⟩)] l.length 0 (fun x=>x < w.heap.size∨x=V2.heap.size) (wItem l) (fun x=>x=nb)
  (fun k W'=>W'.heap[nb]? = some (.cells #[.int .i64 (qen l vs k)] 3 (0,0)))
  (fun _ _=>False)
  (enters_of Tryz.func123 (by kernel_rfl) rfl) rfl rfl HWI.out (fun x hx=>by have:=HS2.out;have:=HNB.out;omega) (fun _ _ _ _ _ h _=>h) ?hZ ?hI (fun _ _ _ h _=>h) HFN.out ?a1 ?hassign ?hround ?hdone (fun _ _ _ h _=>h.elim) (fun h=>by cases h)
 case hassign =>
  intro l u v W K hK
  gi_wp2
  exact hK
 case hZ=>intro x hx;have:=HS2.out;have:=HNB.out;exact ⟨by omega,by omega⟩
 case hI=>intro k W3 W4 h hc;exact hc.box h (by have:=HS2.out;have:=HNB.out;omega)
 case hround =>
  rintro ln k W3 u v hs3 hc3 hI3 hkl ⟨rfl,rfl⟩
  have HKL:=hid hkl
  have HI3:=hid hI3
  obtain ⟨t0,t1⟩:=HCW.out
  have keepc : ∀ (b:Nat) (v:Value),b≠nb→W2.cell? ⟨b,0,none⟩=some v→W3.cell? ⟨b,0,none⟩=some v:=fun b v hb hv=>(World.cell?_of_block (w:=W2) (a:=⟨b,0,none⟩) (hc3.block b (World.block_lt_of_cell? _ _ hv) hb)).trans hv
  have q0:=keepc _ _ (by have:=HNB.out;omega) t0
  have q1:=keepc _ _ (by have:=HNB.out;omega) t1
  have ql:=World.block_lt_of_cell? _ _ q0
  have ql1:=World.block_lt_of_cell? _ _ q1
  have hk0:(0:Int)≤(k:Int):=by omega
  have hkk:(k:Int) < (l.length:Int):=by omega
  have hkv:(k:Int) < (vs.length:Int):=by have:=HVL.out;omega
  obtain ⟨b,o,s,rfl,hlb,HSX,x0,x1,x2⟩:=(HLW.out.keep (hc3.keeps fun x _ h e=>by have:=HNB.out;omega)).get hkl
  obtain ⟨b',o',y,rfl,_,hlb',HY,y0⟩:=(HIW.out.keep (hc3.keeps fun x _ h e=>by have:=HNB.out;omega)).get (show k < vs.length by have:=HVL.out;omega)
  have hyb:=(valsB_out HB0.out).2 k hkl
  rw [HSX.out,HY.out] at hyb
  have e2 : ¬ y < 0:=by omega
  have e3:decide (y < 0)=false:=decide_eq_false e2
  have e4 : ¬ s.size≤y:=by omega
  have e5:decide (s.size≤y)=false:=decide_eq_false e4
  have hwb:=qfw HV.out (Nat.le_of_lt hkl)
  have hmb:=qig HV.out HB0.out k (Nat.le_of_lt hkl)
  have hszb:=qg9 ((qcu HV.out).2.2.2 k hkl)
  rw [HSX.out] at hszb
  have HMS:=hid (show qen l vs (k+1)=qen l vs k+y * qbn l k by rw [qen,HY.out])
  have h6:=(qcu HV.out).2.1
  obtain ⟨z,hz⟩ : ∃ z,qbn l k=z:=⟨_,rfl⟩
  obtain ⟨u,hu⟩ : ∃ u,qen l vs k=u:=⟨_,rfl⟩
  rw [hz] at hwb HMS ⊢
  rw [hu] at hmb HMS HI3
  have hyz:0≤y * z∧y * z≤12288:=by
   have h3:y=0∨y=1∨y=2∨y=3:=by omega
   rcases h3 with rfl | rfl | rfl | rfl <;> omega
  have w1:IntKind.i64.wrap (y * z)=y * z:=IntWalk.i64_in _ (by omega)
  have w2:IntKind.i64.wrap (u+y * z)=u+y * z:=IntWalk.i64_in _ (by omega)
  have r0:=qaa HI3.out (i:=0) rfl
  have r1:=qad HI3.out (i:=0)
  have r2:=lt_of_block HI3.out
  have HHC:=hid hc3
  clear hI3 hkl t0 t1 keepc HSX x0 x1 hc3 hz hu HY hmb hwb hszb h6 hyz e2 e4 hyb
  gi_upto_region 7 with (fail)
  refine qj7 (by kernel_rfl) (by kernel_rfl) (fun h=>by obtain ⟨_,_,h⟩:=h;exact h) (by kernel_rfl) ?_
  repeat (quiet_step (fail))
  refine wpQuiet_nil ?_
  intro W4 hw'
  obtain ⟨nq,rfl⟩:=hw'
  gi_upto_region 9 with (fail)
  refine qe1 (fun W'=>W'.cell? ⟨nb,0,none⟩=some (.int .i64 u)∧W'.cell? ⟨w.heap.size+1,0,none⟩=some (.slice (some ⟨b',o',none⟩) vs.length d)∧W'.cell? ⟨b',o'+k,none⟩=some (.int .i64 y)) (by kernel_rfl) (by kernel_rfl) (fun h=>by obtain ⟨_,_,h⟩:=h;exact h) (by kernel_rfl) (by kernel_rfl) ⟨r0,q1,y0⟩ (fun hHeld => ?_)
  simp only [List.dropLast_cons_cons,List.dropLast_singleton,List.getLast_cons_cons,List.getLast_singleton]
  refine wpAnyH_take (i:=0) (v := ?_) rfl (by kernel_rfl) (by kernel_rfl) (by kernel_rfl) (fun _ _ _ h=>h) (Or.inl ⟨by rfl,?_⟩) (by assumption) ?_
  rotate_left
  ·intro w hSw;(try dsimp only at hSw);go_simp;(try (with_reducible rfl))
  try simp only [Act.put,List.setIfInBounds_toArray,List.set_cons_zero,List.set_cons_succ]
  refine wpAnyH_take (i:=1) (v := ?_) rfl (by kernel_rfl) (by kernel_rfl) (by kernel_rfl) (fun _ _ _ h=>h) (Or.inl ⟨by rfl,?_⟩) (by assumption) ?_
  rotate_left
  ·intro w hSw;(try dsimp only at hSw);go_simp;(try (with_reducible rfl))
  try simp only [Act.put,List.setIfInBounds_toArray,List.set_cons_zero,List.set_cons_succ]
  refine wpAnyH_take (i:=2) (v := ?_) rfl (by kernel_rfl) (by kernel_rfl) (by kernel_rfl) (fun _ _ _ h=>h) (Or.inl ⟨by rfl,?_⟩) (by assumption) ?_
  rotate_left
  ·intro w hSw;(try dsimp only at hSw);go_simp;(try (with_reducible rfl))
  try simp only [Act.put,List.setIfInBounds_toArray,List.set_cons_zero,List.set_cons_succ]
  refine wpAnyH_take (i:=3) (v := ?_) rfl (by kernel_rfl) (by kernel_rfl) (by kernel_rfl) (fun _ _ _ h=>h) (Or.inl ⟨by rfl,?_⟩) (by assumption) ?_
  rotate_left
  ·intro w hSw;(try dsimp only at hSw);go_simp;(try (with_reducible rfl))
  try simp only [Act.put,List.setIfInBounds_toArray,List.set_cons_zero,List.set_cons_succ]
  refine wpAnyH_take (i:=4) (v := ?_) rfl (by kernel_rfl) (by kernel_rfl) (by kernel_rfl) (fun _ _ _ h=>h) (Or.inl ⟨by rfl,?_⟩) (by assumption) ?_
  rotate_left
  ·intro w hSw;(try dsimp only at hSw);go_simp;(try (with_reducible rfl))
  try simp only [Act.put,List.setIfInBounds_toArray,List.set_cons_zero,List.set_cons_succ]
  refine wpAnyH_take (i:=5) (v := ?_) rfl (by kernel_rfl) (by kernel_rfl) (by kernel_rfl) (fun _ _ _ h=>h) (Or.inl ⟨by rfl,?_⟩) (by assumption) ?_
  rotate_left
  ·intro w hSw;(try dsimp only at hSw);go_simp;(try (with_reducible rfl))
  try simp only [Act.put,List.setIfInBounds_toArray,List.set_cons_zero,List.set_cons_succ]
  refine wpAnyH_take (i:=6) (v := ?_) rfl (by kernel_rfl) (by kernel_rfl) (by kernel_rfl) (fun _ _ _ h=>h) (Or.inl ⟨by rfl,?_⟩) (by assumption) ?_
  rotate_left
  ·intro w hSw;(try dsimp only at hSw);go_simp;(try (with_reducible rfl))
  try simp only [Act.put,List.setIfInBounds_toArray,List.set_cons_zero,List.set_cons_succ]
  refine wpAnyH_take (i:=7) (v := ?_) rfl (by kernel_rfl) (by kernel_rfl) (by kernel_rfl) (fun _ _ _ h=>h) (Or.inl ⟨by rfl,?_⟩) (by assumption) ?_
  rotate_left
  ·intro w hSw;(try dsimp only at hSw);go_simp;(try (with_reducible rfl))
  try simp only [Act.put,List.setIfInBounds_toArray,List.set_cons_zero,List.set_cons_succ]
  refine wpAnyH_done (by kernel_rfl) ?_ _
  unfold qeo
  go_simp
  gi_wp2_with fail
  refine ⟨?_,?_⟩
  ·have hc:=((Chg.refl (fun x=>x=nb) W3).drewN nq).set ⟨nb,0,none⟩ (.int .i64 (u+y * z)) fun _=>rfl
   exact hc.drew
  ·show ((W3.drewN nq).setCell ⟨nb,0,none⟩ (.int .i64 (u+y * z))).heap[nb]? = some (Obj.cells #[.int .i64 (qen l vs (k+1))] 3 (0,0))
   have hn:(W3.drewN nq).heap[nb]? = _:=HI3.out
   rw [qae hn,HMS.out]
   rfl
 case hdone =>
  rintro W3 hc h1 hD3
  have r0:=qaa h1 (i:=0) rfl
  have e2:=hc.box HF2.out (show w.heap.size+2≠nb by have:=HNB.out;omega)
  have e3:=hc.box HF3.out (show w.heap.size+3≠nb by have:=HNB.out;omega)
  have p0:=qaa e2 (i:=0) rfl
  have p1:=qad e2 (i:=0)
  have p2:=lt_of_block e2
  have p3:=qaa e3 (i:=0) rfl
  have p4:=qad e3 (i:=0)
  have p5:=lt_of_block e3
  have E2:=hid e2
  have E3:=hid e3
  have HC3:=hid hc
  have HD3:=hid hD3
  clear e2 e3 hc
  dsimp only
  go_wp2_with fail
  have hbf:=(HBW.out.trans (HC3.out.below (B:=w.heap.size) (fun x hx=>by have:=HNB.out;omega) HBW.out.size))
  obtain ⟨W5,hW5⟩ : ∃ W5,W5=(W3.setCell ⟨w.heap.size+2,0,none⟩ (.int .i64 (qen l vs l.length))).setCell ⟨w.heap.size+3,0,none⟩ (.bool true):=⟨_,rfl⟩
  rw [←hW5]
  have hc5:Chg (fun x=>x=w.heap.size+2∨x=w.heap.size+3) W3 W5:=by
   rw [hW5]
   exact ((Chg.refl _ W3).set ⟨w.heap.size+2,0,none⟩ _ fun _ => .inl rfl).set ⟨w.heap.size+3,0,none⟩ _ fun _ => .inr rfl
  have g2:W5.heap[w.heap.size+2]? = some (.cells #[.int .i64 (qen l vs l.length)] 3 (0,0)):=by
   rw [hW5,Below.heap_setCell _ _ _ _ (by simp),qae E2.out];rfl
  have g3:W5.heap[w.heap.size+3]? = some (.cells #[.bool true] 4 (0,0)):=by
   rw [hW5,qae (show (W3.setCell ⟨w.heap.size+2,0,none⟩ (.int .i64 (qen l vs l.length))).heap[w.heap.size+3]? = some (.cells #[.bool false] 4 (0,0)) by rw [Below.heap_setCell _ _ _ _ (by simp)];exact E3.out)]
   rfl
  have hD5:W5.heap[W2.heap.size]? = some (.deferred (some [])):=(hc5.block _ (lt_of_block HD3.out) (by have:=HS2.out;have:=HNB.out;omega)).trans HD3.out
  have hb5:=hbf.trans (hc5.below (B:=w.heap.size) (fun x hx=>by omega) hbf.size)
  clear hW5
  refine qbu rfl hD5 (v := .tuple #[.int .i64 (qen l vs l.length),.bool true]) (fun w' hc' => ?_) (fun w' hc'=>⟨rfl,hb5.trans (hc'.below (fun x hx=>by have:=HS2.out;have:=HNB.out;omega) hb5.size)⟩)
  have z2:=qaa (hc'.box g2 (by have:=HS2.out;have:=HNB.out;omega)) (i:=0) rfl
  have z3:=qaa (hc'.box g3 (by have:=HS2.out;have:=HNB.out;omega)) (i:=0) rfl
  simp [results,Tryz.results38,go_sem,z2,z3]
end Go.Proofs.YtdpbgcmfeajigaaGreatDoor
