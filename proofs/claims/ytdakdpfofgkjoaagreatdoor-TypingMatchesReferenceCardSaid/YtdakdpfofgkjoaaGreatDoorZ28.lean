/-
  Parts of a proof: LN LP XO KL ZA ZB ZC ZD ZE ZG.
-/
import Derived.Test.YtdakdpfofgkjoaaGreatDoorRows
import Derived.ProofKit
import Derived.LaidMore
import Derived.OpenShut
import Derived.Stop.Joined
import Derived.Test.YtdakdpfofgkjoaaGreatDoorZ04
import Derived.SizedLaws
import Derived.Deep.Slices
import Derived.Deep.SlicePairs
import Derived.Deep.Fields
import Derived.Lib.SmallJoins
import Derived.Test.YtdakdpfofgkjoaaGreatDoorZ00
import Derived.Test.YtdakdpfofgkjoaaGreatDoorZ22
import Derived.Test.YtdakdpfofgkjoaaGreatDoorZ20
import Derived.Test.YtdakdpfofgkjoaaGreatDoorZ16
import Derived.Test.YtdakdpfofgkjoaaGreatDoorZ18
import Derived.Test.YtdakdpfofgkjoaaGreatDoorZ27
set_option linter.unusedSimpArgs false
set_option linter.unusedVariables false
set_option maxHeartbeats 8000000
set_option maxRecDepth 100000
namespace Go.Proofs.YtdakdpfofgkjoaaGreatDoor
open Go.ChangeShapes Go.WideShapes Go.ChangeAt Go.WideMaps Go.WideElems Go.RowKit
def formD {H:Type} (s:Form):DataW H := .agg [.lit (.int .i64 s.least),.lit (.int .i64 s.most),.lit (.int .i64 s.val),.lit (.int .i64 s.bound),.lit (.bool s.named),.lit (.bool s.past),.lit (.bool s.future),.lit (.bool s.loose)]
theorem forms_data {H:Type} : (Rows.laid_foresight_formula_forms:DataW H) = .agg (qct.map formD):=rfl
theorem keys_data {H:Type} : (Rows.laid_foresight_signal_keys:DataW H) = .agg (keysL.map fun s => .lit (.string s.data.toList)):=rfl
theorem gKeys:Tryz.prog.globalNamed "foresight/signal.keys" = some 1:=by kernel_rfl
theorem gForms:Tryz.prog.globalNamed "foresight/formula.forms" = some 0:=by kernel_rfl
theorem take_one {l:List Value} {j:Nat} {v:Value} (h:(l.drop j).take 1 = [v]):l[j]? = some v:=by
 have h1:=congrArg (fun x:List Value=>x[0]?) h
 simpa [List.getElem?_take] using h1
section
variable {H:Type} {enc:TypeId × Value→H} {w:World} {base:Nat} {sp:Nat→Bool} {held:Bool}
theorem form_cells {fuel:Nat} {cs:List Value} {s:Form} {ps:List MemPlace} (h:DataW.trod enc Tryz.prog w base sp held fuel 84 cs=some (formD s,ps)) :
  cs[0]? = some (.int .i64 s.least)∧cs[1]? = some (.int .i64 s.most)∧cs[2]? = some (.int .i64 s.val)∧cs[3]? = some (.int .i64 s.bound)∧cs[4]? = some (.bool s.named)∧cs[5]? = some (.bool s.past)∧cs[6]? = some (.bool s.future)∧cs[7]? = some (.bool s.loose):=by
 obtain ⟨xs,n,rfl,hx,hl,hn,hel⟩:=DataW.trod_struct Tryz.underlying84 h
 simp only [Prod.mk.injEq,formD,DataW.agg.injEq] at hx
 have c3:Tryz.prog.cellsOf 3=1:=by kernel_rfl
 have c4:Tryz.prog.cellsOf 4=1:=by kernel_rfl
 have e0:DataW.trod enc Tryz.prog w base sp held n 3 ((cs.drop 0).take (Tryz.prog.cellsOf 3))=xs[0]? := hel 0 _ rfl
 have e1:DataW.trod enc Tryz.prog w base sp held n 3 ((cs.drop 1).take (Tryz.prog.cellsOf 3))=xs[1]? := hel 1 _ rfl
 have e2:DataW.trod enc Tryz.prog w base sp held n 3 ((cs.drop 2).take (Tryz.prog.cellsOf 3))=xs[2]? := hel 2 _ rfl
 have e3:DataW.trod enc Tryz.prog w base sp held n 3 ((cs.drop 3).take (Tryz.prog.cellsOf 3))=xs[3]? := hel 3 _ rfl
 have e4:DataW.trod enc Tryz.prog w base sp held n 4 ((cs.drop 4).take (Tryz.prog.cellsOf 4))=xs[4]? := hel 4 _ rfl
 have e5:DataW.trod enc Tryz.prog w base sp held n 4 ((cs.drop 5).take (Tryz.prog.cellsOf 4))=xs[5]? := hel 5 _ rfl
 have e6:DataW.trod enc Tryz.prog w base sp held n 4 ((cs.drop 6).take (Tryz.prog.cellsOf 4))=xs[6]? := hel 6 _ rfl
 have e7:DataW.trod enc Tryz.prog w base sp held n 4 ((cs.drop 7).take (Tryz.prog.cellsOf 4))=xs[7]? := hel 7 _ rfl
 match xs,hn,hx,e0,e1,e2,e3,e4,e5,e6,e7 with
 | [x0,x1,x2,x3,x4,x5,x6,x7],_,hx,e0,e1,e2,e3,e4,e5,e6,e7 =>
  simp only [List.map_cons,List.map_nil,List.cons.injEq,and_true] at hx
  obtain ⟨⟨h0,h1,h2,h3,h4,h5,h6,h7⟩,_⟩:=hx
  rw [c3] at e0 e1 e2 e3
  rw [c4] at e4 e5 e6 e7
  obtain ⟨k0,a0,b0,_⟩:=DataW.trod_int Tryz.underlying3 e0
  obtain ⟨k1,a1,b1,_⟩:=DataW.trod_int Tryz.underlying3 e1
  obtain ⟨k2,a2,b2,_⟩:=DataW.trod_int Tryz.underlying3 e2
  obtain ⟨k3,a3,b3,_⟩:=DataW.trod_int Tryz.underlying3 e3
  obtain ⟨k4,a4,b4⟩:=DataW.trod_bool Tryz.underlying4 e4
  obtain ⟨k5,a5,b5⟩:=DataW.trod_bool Tryz.underlying4 e5
  obtain ⟨k6,a6,b6⟩:=DataW.trod_bool Tryz.underlying4 e6
  obtain ⟨k7,a7,b7⟩:=DataW.trod_bool Tryz.underlying4 e7
  rw [b0] at h0
  rw [b1] at h1
  rw [b2] at h2
  rw [b3] at h3
  rw [b4] at h4
  rw [b5] at h5
  rw [b6] at h6
  rw [b7] at h7
  simp only [DataW.lit.injEq,Lit.int.injEq,Lit.bool.injEq,true_and] at h0 h1 h2 h3 h4 h5 h6 h7
  subst h0 h1 h2 h3 h4 h5 h6 h7
  exact ⟨take_one a0,take_one a1,take_one a2,take_one a3,take_one a4,take_one a5,take_one a6,take_one a7⟩
end
theorem of_laid {W:World} (h:laidMetH Tryz.prog [("foresight/signal.keys", Rows.laid_foresight_signal_keys),("foresight/formula.forms", Rows.laid_foresight_formula_forms)] W):GF W∧GK W:=by
 rw [MakeChecks.laidMetH_plain _ _ _ (by kernel_rfl)] at h
 obtain ⟨ps,⟨g0,t0,cs0,f0,p0,q0,hg0,ht0,hv0,hd0,⟨g1,t1,cs1,f1,p1,q1,hg1,ht1,hv1,hd1,_,_⟩,_⟩,_,_⟩:=h
 obtain rfl:=Option.some.inj (gKeys.symm.trans hg0)
 obtain rfl:=Option.some.inj (gForms.symm.trans hg1)
 obtain rfl:=Option.some.inj ((show (Tryz.prog.globals[1]?).map (·.type)=some 124 by kernel_rfl).symm.trans ht0)
 obtain rfl:=Option.some.inj ((show (Tryz.prog.globals[0]?).map (·.type)=some 112 by kernel_rfl).symm.trans ht1)
 rw [keys_data] at hd0
 rw [forms_data] at hd1
 constructor
 ·obtain ⟨xs,m,rfl,hx,hlen,hn,hel⟩:=DataW.trod_array Tryz.underlying112 hd1
  have c8:Tryz.prog.cellsOf 84=8:=by kernel_rfl
  simp only [Prod.mk.injEq,DataW.agg.injEq] at hx
  have key : ∀ k,k < 20 → ∀ j u,(((cs1.toList.drop (k * 8)).take 8)[j]? = some u)→W.cell? ⟨0,k * 8+j,none⟩=some u:=fun k hk j u hu=>by
   have hj:j < 8:=by
    rcases Nat.lt_or_ge j 8 with h | h
    ·exact h
    ·rw [List.getElem?_take_eq_none h] at hu;cases hu
   rw [List.getElem?_take_of_lt hj,List.getElem?_drop] at hu
   have:=World.var?_cell hg1 hv1 (k * 8+j)
   rw [this,←hu]
   simp
  have el : ∀ k,k < 20→_:=fun k hk=>by
   have e:=hel k hk
   rw [c8] at e
   have hk':k < xs.length:=by rw [hn];exact hk
   rw [List.getElem?_eq_getElem hk'] at e
   have e2:xs[k].1=formD (qct.getD k qcc):=by
    have h1:(xs.map (·.1))[k]? = (qct.map formD)[k]? := by rw [←hx.1]
    rw [List.getElem?_map,List.getElem?_map,List.getElem?_eq_getElem hk'] at h1
    have hf:k < qct.length:=hk
    rw [List.getElem?_eq_getElem hf] at h1
    simp only [Option.map_some,Option.some.injEq] at h1
    rw [h1]
    simp [List.getD,List.getElem?_eq_getElem hf]
   have e3:xs[k]=(formD (qct.getD k qcc),xs[k].2):=Prod.ext e2 rfl
   rw [e3] at e
   exact form_cells e
  refine ⟨?_,fun k hk => ?_⟩
  ·have:=key 0 (by omega) 0 _ (el 0 (by omega)).1
   exact World.block_lt_of_cell? W ⟨0,_,none⟩ this
  ·obtain ⟨a0,a1,a2,a3,a4,a5,a6,a7⟩:=el k hk
   exact ⟨key k hk 0 _ a0,key k hk 1 _ a1,key k hk 2 _ a2,key k hk 3 _ a3,key k hk 4 _ a4,key k hk 5 _ a5,key k hk 6 _ a6,key k hk 7 _ a7⟩
 ·obtain ⟨xs,m,rfl,hx,hlen,hn,hel⟩:=DataW.trod_array Tryz.underlying124 hd0
  have c1:Tryz.prog.cellsOf 9=1:=by kernel_rfl
  simp only [Prod.mk.injEq,DataW.agg.injEq] at hx
  have el : ∀ k,k < 10→W.cell? ⟨1,k,none⟩=some (.string (keysL.getD k ByteArray.empty)):=fun k hk=>by
   have e:=hel k hk
   rw [c1,Nat.mul_one] at e
   have hk':k < xs.length:=by rw [hn];exact hk
   rw [List.getElem?_eq_getElem hk'] at e
   obtain ⟨s,e1,e2,_⟩:=DataW.trod_string Tryz.underlying9 e
   have h1:(xs.map (·.1))[k]? = (keysL.map fun s=>(.lit (.string s.data.toList):DataW Unit))[k]? := by rw [←hx.1]
   have hf:k < keysL.length:=hk
   rw [List.getElem?_map,List.getElem?_map,List.getElem?_eq_getElem hk',List.getElem?_eq_getElem hf,e2] at h1
   simp only [Option.map_some,Option.some.injEq,DataW.lit.injEq,Lit.string.injEq] at h1
   have hs:s=keysL[k]:=by
    have:=Array.toList_inj.1 h1
    cases s
    cases hq:keysL[k]
    rw [hq] at this
    simp only at this
    rw [this]
   have:=World.var?_cell hg0 hv0 k
   rw [this]
   have h2:=take_one e1
   rw [hs] at h2
   have h3:keysL.getD k ByteArray.empty=keysL[k]:=by simp [List.getD,List.getElem?_eq_getElem hf]
   rw [h3,←h2]
   simp
  exact ⟨World.block_lt_of_cell? W ⟨1,_,none⟩ (el 0 (by omega)),el⟩
end Go.Proofs.YtdakdpfofgkjoaaGreatDoor
namespace Go.Proofs.YtdakdpfofgkjoaaGreatDoor
open Go.ChangeShapes Go.WideShapes Go.RowKit Go.Deep Go.Joins
def Light {H:Type} (P:Program) (t:TypeId) (d:DataW H):Prop:=(d.weights P t).all (· ≤ reachBytes)=true
theorem light_at {H:Type} {P:Program} {ts:List TypeId} {ds:List (DataW H)} (h:(DataW.weightsEach P ts ds).all (· ≤ reachBytes)=true) {j:Nat} {t:TypeId} {d:DataW H} (ht:ts[j]? = some t) (hd:ds[j]? = some d):Light P t d:=by
 unfold Light
 rw [List.all_eq_true] at h ⊢
 exact fun n hn=>h n (DataW.weights_mem_each ht hd n hn)
theorem qih {H:Type} {P:Program} {t e:TypeId} {elems spare:List (DataW H)} (hu:P.underlying t=some (.slice e)) (h:Light P t (.slice elems spare)) :
  (elems.length+spare.length) * P.bytesOf e≤reachBytes ∧ ∀ d∈elems,Light P e d:=by
 unfold Light at h
 simp only [DataW.weights,hu,List.all_cons,Bool.and_eq_true,decide_eq_true_eq,List.all_append] at h
 refine ⟨h.1,fun d hd => ?_⟩
 have key : ∀ (l:List (DataW H)),(DataW.weightsAll P e l).all (· ≤ reachBytes)=true → ∀ d∈l,Light P e d:=by
  intro l
  induction l with
  | nil=>intro _ d hd;cases hd
  | cons x l ih =>
   intro hl d hd
   simp only [DataW.weightsAll,List.all_append,Bool.and_eq_true] at hl
   rcases List.mem_cons.1 hd with rfl | hd
   ·exact hl.1
   ·exact ih hl.2 d hd
 exact key elems h.2.1 d hd
section
variable {H:Type} {enc:TypeId × Value→H} {w:World} {base:Nat} {held:Bool}
theorem qjs {a:Addr} {u:Value} (h:w.cell? (a.add 0)=some u):a=⟨a.block,a.off,none⟩∧a.block < w.heap.size:=by
 have h0:a.add 0=a:=by unfold Addr.add;simp
 rw [h0] at h
 refine ⟨?_,World.block_lt_of_cell? w a h⟩
 obtain ⟨b,o,s⟩:=a
 cases s with
 | none=>rfl
 | some s =>
  unfold World.cell? at h
  split at h <;> simp at h
theorem add_at (b o k:Nat):(⟨b,o,none⟩:Addr).add k=⟨b,o+k,none⟩:=by
 unfold Addr.add
 by_cases h:k=0 <;> simp [h]
theorem getD_snoc_o {α : Type} (l:List α) (x d : α) (j:Nat):(l ++ [x]).getD j d=if j < l.length then l.getD j d else if j=l.length then x else d:=by
 simp only [List.getD,List.getElem?_append]
 split
 ·rfl
 ·split
  ·rename_i h h2;subst h2;simp
  ·rename_i h h2
   rw [List.getElem?_eq_none (by simp;omega)];rfl
theorem qil {α : Type} (d : α) {n:Nat} {P:Nat → α → Prop} (h : ∀ i,i < n → ∃ x,P i x) : ∃ l:List α,l.length=n ∧ ∀ i,i < n→P i (l.getD i d):=by
 induction n with
 | zero=>exact ⟨[],rfl,fun i hi=>absurd hi (Nat.not_lt_zero _)⟩
 | succ n ih =>
  obtain ⟨l,hl,hp⟩:=ih (fun i hi=>h i (by omega))
  obtain ⟨x,hx⟩:=h n (by omega)
  refine ⟨l ++ [x],by simp [hl],fun i hi => ?_⟩
  rw [getD_snoc_o,hl]
  split
  ·exact hp i ‹_›
  ·rw [if_pos (by omega)]
   obtain rfl:i=n:=by omega
   exact hx
theorem qf4 {P:Program} {t:TypeId} {fs:Array Field} {parts:List (DataW H)} (hu:P.underlying t=some (.struct fs)) (h:Light P t (.agg parts)) {j:Nat} {f:Field} {d:DataW H} (hf:fs[j]? = some f) (hd:parts[j]? = some d):Light P f.type d:=by
 unfold Light at h
 simp only [DataW.weights,hu] at h
 exact light_at h (j:=j) (by simp [hf]) hd
theorem qi9 {α : Type} (f : α → List Value) (s:Nat) (hf : ∀ x,(f x).length=s) (l:List α):(l.flatMap f).length=l.length * s:=by
 induction l with
 | nil=>simp
 | cons x l ih=>rw [List.flatMap_cons,List.length_append,hf,ih,List.length_cons,Nat.add_mul,Nat.one_mul];omega
theorem zip_parts {α β : Type} : ∀ l:List (α × β),(l.map Prod.fst).zip (l.map Prod.snd)=l
 | []=>rfl
 | x :: l=>by simp [zip_parts l]
theorem cells_F:Tryz.prog.cellsOf 28=5:=by kernel_rfl
theorem bytes_F:Tryz.prog.bytesOf 28=64:=by kernel_rfl
theorem cells_i:Tryz.prog.cellsOf 3=1:=by kernel_rfl
theorem cells_s:Tryz.prog.cellsOf 9=1:=by kernel_rfl
theorem cells_fs:Tryz.prog.cellsOf 26=1:=by kernel_rfl
theorem qif {n:Nat} {cs:List Value} {y:DataW H × List MemPlace} (h:DataW.trod enc Tryz.prog w base (fun _=>true) held n 28 cs=some y) (hcl:cs.length=5) :
  ∃ (o:Int) (s:ByteArray) (v b:Int) (a:Value) (k:Nat) (y4:DataW H × List MemPlace) (d0 d1 d2 d3:DataW H),cs = [.int .i64 o,.string s,.int .i64 v,.int .i64 b,a]∧y.1 = .agg [d0,d1,d2,d3,y4.1]∧DataW.trod enc Tryz.prog w base (fun _=>true) held k 26 [a]=some y4:=by
 obtain ⟨xs,k',_,hxy,_,hyl,hf⟩:=DataW.trod_struct Tryz.underlying28 h
 match xs,hyl,cs,hcl with
 | [y0,y1,y2,y3,y4],_,[v0,v1,v2,v3,v4],_ =>
  have g0:DataW.trod enc Tryz.prog w base (fun _=>true) held k' 3 [v0]=some y0:=by
   have:=hf 0 _ rfl
   change DataW.trod enc Tryz.prog w base (fun _=>true) held k' 3 (([v0,v1,v2,v3,v4].drop 0).take (Tryz.prog.cellsOf 3))=some y0 at this
   rw [cells_i] at this
   simpa using this
  have g1:DataW.trod enc Tryz.prog w base (fun _=>true) held k' 9 [v1]=some y1:=by
   have:=hf 1 _ rfl
   change DataW.trod enc Tryz.prog w base (fun _=>true) held k' 9 (([v0,v1,v2,v3,v4].drop 1).take (Tryz.prog.cellsOf 9))=some y1 at this
   rw [cells_s] at this
   simpa using this
  have g2:DataW.trod enc Tryz.prog w base (fun _=>true) held k' 3 [v2]=some y2:=by
   have:=hf 2 _ rfl
   change DataW.trod enc Tryz.prog w base (fun _=>true) held k' 3 (([v0,v1,v2,v3,v4].drop 2).take (Tryz.prog.cellsOf 3))=some y2 at this
   rw [cells_i] at this
   simpa using this
  have g3:DataW.trod enc Tryz.prog w base (fun _=>true) held k' 3 [v3]=some y3:=by
   have:=hf 3 _ rfl
   change DataW.trod enc Tryz.prog w base (fun _=>true) held k' 3 (([v0,v1,v2,v3,v4].drop 3).take (Tryz.prog.cellsOf 3))=some y3 at this
   rw [cells_i] at this
   simpa using this
  have g4:DataW.trod enc Tryz.prog w base (fun _=>true) held k' 26 [v4]=some y4:=by
   have:=hf 4 _ rfl
   change DataW.trod enc Tryz.prog w base (fun _=>true) held k' 26 (([v0,v1,v2,v3,v4].drop 4).take (Tryz.prog.cellsOf 26))=some y4 at this
   rw [cells_fs] at this
   simpa using this
  obtain ⟨z0,hz0,_⟩:=DataW.trod_int Tryz.underlying3 g0
  obtain ⟨z1,hz1,_⟩:=DataW.trod_string Tryz.underlying9 g1
  obtain ⟨z2,hz2,_⟩:=DataW.trod_int Tryz.underlying3 g2
  obtain ⟨z3,hz3,_⟩:=DataW.trod_int Tryz.underlying3 g3
  have e0:v0 = .int .i64 z0:=by simpa using hz0
  have e1:v1 = .string z1:=by simpa using hz1
  have e2:v2 = .int .i64 z2:=by simpa using hz2
  have e3:v3 = .int .i64 z3:=by simpa using hz3
  refine ⟨z0,z1,z2,z3,v4,k',y4,y0.1,y1.1,y2.1,y3.1,by rw [e0,e1,e2,e3],?_,g4⟩
  rw [hxy]
  rfl
theorem open_FL : ∀ (N:Nat) {n:Nat} {v:Value} {y:DataW H × List MemPlace},SizeOf.sizeOf y.1≤N→DataW.trod enc Tryz.prog w base (fun _=>true) held n 26 [v]=some y→Light Tryz.prog 26 y.1 →
  ∃ (A:Option Addr) (c:Nat) (l:List Fm),v = .slice A l.length c∧RdA w (· < w.heap.size) l A c:=by
 intro N
 induction N with
 | zero =>
  intro n v y hN h hl
  exfalso
  have:0 < SizeOf.sizeOf y.1:=by cases y.1 <;> simp <;> omega
  omega
 | succ N ih =>
  intro n v y hN h hl
  rcases open_slice Tryz.underlying26 h with ⟨hv,rfl⟩ | ⟨a,len,cap,m,k,D,Pl,hv,hb,hlc,hcm,hmm,rfl,hx⟩
  ·obtain rfl:v = .slice none 0 0:=by simpa using hv
   exact ⟨none,0,[],rfl,RdA.nil _ _ _ (by omega)⟩
  ·obtain rfl:v = .slice (some a) len cap:=by simpa using hv
   simp only [if_true] at hmm
   obtain rfl:cap=m:=hmm.symm
   obtain ⟨h8,hin⟩:=qih Tryz.underlying26 hl
   rw [bytes_F] at h8
   simp only [List.length_map,List.length_range,reachBytes] at h8
   rw [cells_F] at hx
   have each : ∀ i,i < len → ∃ q:Fm × (Option Addr × Nat),w.cell? (a.add (i * 5))=some (.int .i64 q.1.op)∧w.cell? (a.add (i * 5+1))=some (.string q.1.name)∧w.cell? (a.add (i * 5+2))=some (.int .i64 q.1.val)∧w.cell? (a.add (i * 5+3))=some (.int .i64 q.1.bound)∧w.cell? (a.add (i * 5+4))=some (.slice q.2.1 q.1.args.length q.2.2)∧RdA w (· < w.heap.size) q.1.args q.2.1 q.2.2:=by
    intro i hi
    obtain ⟨cs',hc,ht'⟩:=hx i (by omega)
    obtain ⟨_,hcl,hat⟩:=World.cells?_some hc
    obtain ⟨o,s,vv,bb,av,k2,y4,d0,d1,d2,d3,rfl,hy,g4⟩:=qif ht' hcl
    have hDm:D i∈(List.range len).map D:=List.mem_map.2 ⟨i,by simp [hi],rfl⟩
    have hli:=hin (D i) hDm
    have hy:D i = .agg [d0,d1,d2,d3,y4.1]:=hy
    have hs1:SizeOf.sizeOf (D i) < SizeOf.sizeOf ((List.range len).map D):=List.sizeOf_lt_of_mem hDm
    have hs2:SizeOf.sizeOf y4.1≤N:=by
     rw [hy] at hs1
     simp at hN hs1
     omega
    rw [hy] at hli
    obtain ⟨A2,c2,l2,e4,r2⟩:=ih hs2 g4 (qf4 Tryz.underlying28 hli (j:=4) rfl rfl)
    have c0:=hat 0 (by omega)
    have c1:=hat 1 (by omega)
    have c2':=hat 2 (by omega)
    have c3:=hat 3 (by omega)
    have c4:=hat 4 (by omega)
    rw [Go.Deep.add_add] at c0 c1 c2' c3 c4
    exact ⟨(.mk o s vv bb l2,(A2,c2)),by simpa [Fm.op] using c0,by simpa [Fm.name] using c1,by simpa [Fm.val] using c2',by simpa [Fm.bound] using c3,by simpa [e4,Fm.args] using c4,r2⟩
   obtain ⟨qs,hgl,hg⟩:=qil (default,(none,0)) each
   have hz:(qs.map Prod.fst).zip (qs.map Prod.snd)=qs:=zip_parts qs
   have hlen:(qs.map Prod.snd).length=(qs.map Prod.fst).length:=by simp
   refine ⟨some a,cap,qs.map Prod.fst,by rw [List.length_map,hgl],.mk _ _ _ (qs.map Prod.snd) hlen ?_ fun i hi => ?_⟩
   ·rw [List.length_map]
    have hfl:(qav (qs.map Prod.fst) (qs.map Prod.snd)).length=qs.length * 5:=by
     unfold qav
     rw [hz]
     exact qi9 _ 5 (fun _=>rfl) qs
    refine ⟨⟨hfl,by omega,by omega,hcm⟩,fun hn => ?_⟩
    rw [hgl] at hn
    obtain ⟨ha,hlt⟩:=qjs (by simpa using (hg 0 hn).1)
    refine ⟨a.block,a.off,by rw [←ha],hlt,hlt,fun j u hu => ?_⟩
    have hjl:j < qs.length * 5:=by
     rcases Nat.lt_or_ge j (qs.length * 5) with h | h
     ·exact h
     ·rw [List.getElem?_eq_none (by rw [hfl];exact h)] at hu;cases hu
    obtain ⟨q,r,rfl,hr⟩ : ∃ q r,j=q * 5+r∧r < 5:=⟨j / 5,j % 5,by omega,by omega⟩
    have hq:q < qs.length:=by omega
    rw [qea hlen (by simpa using hq) hr] at hu
    have e1:(qs.map Prod.fst).getD q default=(qs.getD q (default,(none,0))).1:=by simp [List.getD,hq]
    have e2:(qs.map Prod.snd).getD q (none,0)=(qs.getD q (default,(none,0))).2:=by simp [List.getD,hq]
    rw [e1,e2] at hu
    obtain ⟨c0,c1,c2,c3,c4,_⟩:=hg q (by omega)
    rw [ha,add_at] at c0 c1 c2 c3 c4
    match r,hr with
    | 0,_=>simp only [qbr] at hu;have hu:=Option.some.inj hu;rw [←hu];exact c0
    | 1,_=>simp only [qbr] at hu;have hu:=Option.some.inj hu;rw [←hu];exact c1
    | 2,_=>simp only [qbr] at hu;have hu:=Option.some.inj hu;rw [←hu];exact c2
    | 3,_=>simp only [qbr] at hu;have hu:=Option.some.inj hu;rw [←hu];exact c3
    | 4,_=>simp only [qbr] at hu;have hu:=Option.some.inj hu;rw [←hu];exact c4
   ·rw [List.length_map] at hi
    have:=(hg i (by omega)).2.2.2.2.2
    simpa [List.getD,hi] using this
theorem open_F {v:Value} {d:DataW H} {p:List MemPlace} {r:Reach} {b0:Nat} (hv:Value.okWide Tryz.prog w r b0 28 v) (h:DataW.Trod enc Tryz.prog w base (fun _=>true) held 28 v d p) (hl:Light Tryz.prog 28 d) :
  ∃ f:Fm,qby w (· < w.heap.size) v f:=by
 obtain ⟨cs,rfl,hsz⟩:=okWide_struct Tryz.underlying28 hv
 obtain ⟨l⟩:=cs
 obtain ⟨fuel,hf⟩:=h
 have hl5:l.length=5:=hsz.trans cells_F
 obtain ⟨o,s,vv,bb,av,k2,y4,d0,d1,d2,d3,e,hy,g4⟩:=qif hf hl5
 have e':l = [.int .i64 o,.string s,.int .i64 vv,.int .i64 bb,av]:=e
 have hy:d = .agg [d0,d1,d2,d3,y4.1]:=hy
 rw [hy] at hl
 obtain ⟨A2,c2,l2,e4,r2⟩:=open_FL _ (Nat.le_refl _) g4 (qf4 Tryz.underlying28 hl (j:=4) rfl rfl)
 subst e' e4
 exact ⟨.mk o s vv bb l2,A2,c2,rfl,r2⟩
end
theorem own_none:ownKnob Tryz.prog.godebug=none:=by kernel_rfl
theorem laid_out:laidOutB Tryz.prog=true:=by kernel_rfl
theorem reads_again {H:Type} {enc:TypeId × Value→H} {W W':World} {sp:Nat→Bool} {t:TypeId} {v:Value} {d:DataW H} {ps:List MemPlace} (hl:laidOutB Tryz.prog=true) (hr:Tryz.prog.readableRec t=true) (hrow:t < Tryz.prog.types.size)
  (h:DataW.Trod enc Tryz.prog W 0 (fun _=>true) true t v d ps) (hb:Below W.heap.size W W') (hlt : ∀ x∈ps,x.block < W.heap.size) (hsp : ∀ x∈ps,sp x.block=true):DataW.Trod enc Tryz.prog W' 0 sp true t v d ps :=
 WideElems.Trod_stays hl hr hrow h (fun x hx=>hb.same (hlt x hx)) hsp
theorem post_of_below {H:Type} {enc:TypeId × Value→H} {P:Program} {f:Func} {s:ChangeSpec} {apart fresh handsOn again:Bool} {W W':World} {args:Array Value} {v:Value} {ds gs:List (DataW H)} {before pa pv:List MemPlace}
  (hW:DataW.Whole enc P f.params.toList s.vars apart W args.toList ds gs before)
  (hres : ∀ (b:Nat) (sp:Nat→Bool) (hd:Bool),DataW.TrodAll enc P W' b sp hd f.resultTypes.toList (v.resultList f.resultTypes.size) (s.fn H (ds ++ gs)).results [])
  (hargs : ∀ sp:Nat→Bool,(∀ p∈before,sp p.block=true)→DataW.TrodAll enc P W' 0 sp true f.params.toList args.toList (s.fn H (ds ++ gs)).args pa)
  (hvars : ∀ sp:Nat→Bool,(∀ p∈before,sp p.block=true)→DataW.TrodVars enc P W' sp s.vars (s.fn H (ds ++ gs)).vars pv)
  (hps:before=pa ++ pv) (hb:Below W.heap.size W W')
  (hok : ∀ (j:Nat) (t:TypeId) (r:Value),f.resultTypes[j]? = some t→(v.resultList f.resultTypes.size)[j]? = some r→Value.okWide P W' .any 0 t r) :
  s.post enc P f apart fresh handsOn again W args v W':=by
 have hlt : ∀ p∈before,p.block < W.heap.size:=fun p hp=>hW.lt p hp
 have hold : ∀ p∈before,(fun b=>decide (b < W.heap.size)) p.block=true:=fun p hp=>by simpa using hlt p hp
 refine ⟨ds,gs,before,[],pa,pv,hW,hres _ _ _,hargs _ hold,hvars _ hold,World.keptBut_mono (fun p hp=>⟨hp,?_⟩) (hb.frame (· ∈ before)),fun _ => ?_⟩
 ·rw [hps,List.mem_append] at hp
  exact Or.inr hp
 ·obtain ⟨_,_,_,_,_,hz,hn⟩:=hW
  refine ⟨hok,_,_,([] ++ pa) ++ pv,⟨[] ++ pa,pv,trodAll_append (hargs _ (fun _ _=>rfl)) (hres _ _ _),hvars _ (fun _ _=>rfl),rfl,?_,?_⟩,?_⟩
  ·intro b off hp
   have hin:MemPlace.cell b off∈before:=by rw [hps];simpa using hp
   rw [hb.frozen (hlt _ hin)]
   exact hz b off hin
  ·intro ha
   have:=hn ha
   rw [hps] at this
   simpa using this
  ·intro p hp _
   rw [hps]
   simpa using hp
end Go.Proofs.YtdakdpfofgkjoaaGreatDoor
namespace Go.Proofs.YtdakdpfofgkjoaaGreatDoor
open Go.ChangeShapes Go.WideShapes Go.RowKit Go.Deep Go.Joins
theorem cells_G:Tryz.prog.cellsOf 75=3:=by kernel_rfl
theorem bytes_G:Tryz.prog.bytesOf 75=32:=by kernel_rfl
theorem cells_Q:Tryz.prog.cellsOf 54=8:=by kernel_rfl
theorem bytes_Q:1≤Tryz.prog.bytesOf 54:=of_decide_eq_true (by kernel_rfl)
theorem cells_b:Tryz.prog.cellsOf 4=1:=by kernel_rfl
theorem cells_S:Tryz.prog.cellsOf 25=2:=by kernel_rfl
theorem cells_gl:Tryz.prog.cellsOf 22=1:=by kernel_rfl
theorem cells_ql:Tryz.prog.cellsOf 23=1:=by kernel_rfl
section
variable {H:Type} {enc:TypeId × Value→H} {w:World} {base:Nat} {held:Bool}
theorem open_gfields {n:Nat} {cs:List Value} {y:DataW H × List MemPlace} (h:DataW.trod enc Tryz.prog w base (fun _=>true) held n 75 cs=some y) (hcl:cs.length=3) :
  ∃ s:Sg,cs=qfh s:=by
 obtain ⟨xs,k',_,hxy,_,hyl,hf⟩:=DataW.trod_struct Tryz.underlying75 h
 match xs,hyl,cs,hcl with
 | [y0,y1,y2],_,[v0,v1,v2],_ =>
  have g0:DataW.trod enc Tryz.prog w base (fun _=>true) held k' 9 [v0]=some y0:=by
   have:=hf 0 _ rfl
   change DataW.trod enc Tryz.prog w base (fun _=>true) held k' 9 (([v0,v1,v2].drop 0).take (Tryz.prog.cellsOf 9))=some y0 at this
   rw [cells_s] at this
   simpa using this
  have g1:DataW.trod enc Tryz.prog w base (fun _=>true) held k' 4 [v1]=some y1:=by
   have:=hf 1 _ rfl
   change DataW.trod enc Tryz.prog w base (fun _=>true) held k' 4 (([v0,v1,v2].drop 1).take (Tryz.prog.cellsOf 4))=some y1 at this
   rw [cells_b] at this
   simpa using this
  have g2:DataW.trod enc Tryz.prog w base (fun _=>true) held k' 3 [v2]=some y2:=by
   have:=hf 2 _ rfl
   change DataW.trod enc Tryz.prog w base (fun _=>true) held k' 3 (([v0,v1,v2].drop 2).take (Tryz.prog.cellsOf 3))=some y2 at this
   rw [cells_i] at this
   simpa using this
  obtain ⟨z0,hz0,_⟩:=DataW.trod_string Tryz.underlying9 g0
  obtain ⟨z1,hz1⟩:=DataW.trod_bool Tryz.underlying4 g1
  obtain ⟨z2,hz2,_⟩:=DataW.trod_int Tryz.underlying3 g2
  have e0:v0 = .string z0:=by simpa using hz0
  have e1:v1 = .bool z1:=by simpa using hz1.1
  have e2:v2 = .int .i64 z2:=by simpa using hz2
  exact ⟨⟨z0,z1,z2⟩,by rw [e0,e1,e2];rfl⟩
theorem open_GL {n:Nat} {v:Value} {y:DataW H × List MemPlace} (h:DataW.trod enc Tryz.prog w base (fun _=>true) held n 22 [v]=some y) (hl:Light Tryz.prog 22 y.1) :
  ∃ (A:Option Addr) (c:Nat) (l:List Sg),v = .slice A l.length c∧RdG w (· < w.heap.size) A c l:=by
 rcases open_slice Tryz.underlying22 h with ⟨hv,rfl⟩ | ⟨a,len,cap,m,k,D,Pl,hv,hb,hlc,hcm,hmm,rfl,hx⟩
 ·obtain rfl:v = .slice none 0 0:=by simpa using hv
  exact ⟨none,0,[],rfl,RdG.nil _ _ _ (by omega)⟩
 ·obtain rfl:v = .slice (some a) len cap:=by simpa using hv
  simp only [if_true] at hmm
  obtain rfl:cap=m:=hmm.symm
  obtain ⟨h8,hin⟩:=qih Tryz.underlying22 hl
  rw [bytes_G] at h8
  simp only [List.length_map,List.length_range,reachBytes] at h8
  rw [cells_G] at hx
  have each : ∀ i,i < len → ∃ q:Sg,w.cell? (a.add (i * 3))=some (.string q.name)∧w.cell? (a.add (i * 3+1))=some (.bool q.inp)∧w.cell? (a.add (i * 3+2))=some (.int .i64 q.size):=by
   intro i hi
   obtain ⟨cs',hc,ht'⟩:=hx i (by omega)
   obtain ⟨_,hcl,hat⟩:=World.cells?_some hc
   obtain ⟨s,rfl⟩:=open_gfields ht' hcl
   have c0:=hat 0 (by omega)
   have c1:=hat 1 (by omega)
   have c2:=hat 2 (by omega)
   rw [Go.Deep.add_add] at c0 c1 c2
   exact ⟨s,by simpa [qfh] using c0,by simpa [qfh] using c1,by simpa [qfh] using c2⟩
  obtain ⟨gs,hgl,hg⟩:=qil default each
  refine ⟨some a,cap,gs,by rw [hgl],⟨⟨qi9 qfh 3 (fun _=>rfl) gs,by omega,by omega,hcm⟩,fun hn => ?_⟩⟩
  rw [hgl] at hn
  obtain ⟨ha,hlt⟩:=qjs (by simpa using (hg 0 hn).1)
  refine ⟨a.block,a.off,by rw [←ha],hlt,hlt,fun j u hu => ?_⟩
  have hjl:j < gs.length * 3:=by
   rcases Nat.lt_or_ge j (gs.length * 3) with h | h
   ·exact h
   ·rw [List.getElem?_eq_none (by rw [qi9 qfh 3 (fun _=>rfl) gs];exact h)] at hu;cases hu
  obtain ⟨q,r,rfl,hr⟩ : ∃ q r,j=q * 3+r∧r < 3:=⟨j / 3,j % 3,by omega,by omega⟩
  rw [qhx qfh default 3 (fun _=>rfl) gs q r (by omega) hr] at hu
  obtain ⟨c0,c1,c2⟩:=hg q (by omega)
  rw [ha,add_at] at c0 c1 c2
  match r,hr with
  | 0,_=>simp only [qfh] at hu;have hu:=Option.some.inj hu;rw [←hu];exact c0
  | 1,_=>simp only [qfh] at hu;have hu:=Option.some.inj hu;rw [←hu];exact c1
  | 2,_=>simp only [qfh] at hu;have hu:=Option.some.inj hu;rw [←hu];exact c2
theorem open_qfields {n:Nat} {cs:List Value} {y:DataW H × List MemPlace} (h:DataW.trod enc Tryz.prog w base (fun _=>true) held n 54 cs=some y) (hcl:cs.length=8) (hl:Light Tryz.prog 54 y.1) :
  ∃ (r:Rq) (s:Option Addr × Nat),cs=qh6 r s∧RdA w (· < w.heap.size) r.f.args s.1 s.2:=by
 obtain ⟨xs,k',_,hxy,_,hyl,hf⟩:=DataW.trod_struct Tryz.underlying54 h
 match xs,hyl,cs,hcl with
 | [y0,y1,y2,y3],_,[v0,v1,v2,v3,v4,v5,v6,v7],_ =>
  have g0:DataW.trod enc Tryz.prog w base (fun _=>true) held k' 9 [v0]=some y0:=by
   have:=hf 0 _ rfl
   change DataW.trod enc Tryz.prog w base (fun _=>true) held k' 9 (([v0,v1,v2,v3,v4,v5,v6,v7].drop 0).take (Tryz.prog.cellsOf 9))=some y0 at this
   rw [cells_s] at this
   simpa using this
  have g1:DataW.trod enc Tryz.prog w base (fun _=>true) held k' 9 [v1]=some y1:=by
   have:=hf 1 _ rfl
   change DataW.trod enc Tryz.prog w base (fun _=>true) held k' 9 (([v0,v1,v2,v3,v4,v5,v6,v7].drop 1).take (Tryz.prog.cellsOf 9))=some y1 at this
   rw [cells_s] at this
   simpa using this
  have g2:DataW.trod enc Tryz.prog w base (fun _=>true) held k' 3 [v2]=some y2:=by
   have:=hf 2 _ rfl
   change DataW.trod enc Tryz.prog w base (fun _=>true) held k' 3 (([v0,v1,v2,v3,v4,v5,v6,v7].drop 2).take (Tryz.prog.cellsOf 3))=some y2 at this
   rw [cells_i] at this
   simpa using this
  have g3:DataW.trod enc Tryz.prog w base (fun _=>true) held k' 28 [v3,v4,v5,v6,v7]=some y3:=by
   have:=hf 3 _ rfl
   change DataW.trod enc Tryz.prog w base (fun _=>true) held k' 28 (([v0,v1,v2,v3,v4,v5,v6,v7].drop 3).take (Tryz.prog.cellsOf 28))=some y3 at this
   rw [cells_F] at this
   simpa using this
  obtain ⟨z0,hz0,_⟩:=DataW.trod_string Tryz.underlying9 g0
  obtain ⟨z1,hz1,_⟩:=DataW.trod_string Tryz.underlying9 g1
  obtain ⟨z2,hz2,_⟩:=DataW.trod_int Tryz.underlying3 g2
  have e0:v0 = .string z0:=by simpa using hz0
  have e1:v1 = .string z1:=by simpa using hz1
  have e2:v2 = .int .i64 z2:=by simpa using hz2
  obtain ⟨o,s,vv,bb,av,k2,y4,d0,d1,d2,d3,e,hy,g4⟩:=qif g3 rfl
  have hy1:y.1 = .agg [y0.1,y1.1,y2.1,y3.1]:=by rw [hxy];rfl
  rw [hy1] at hl
  have hl3:=qf4 Tryz.underlying54 hl (j:=3) rfl rfl
  rw [hy] at hl3
  obtain ⟨A2,c2,l2,e4,r2⟩:=open_FL _ (Nat.le_refl _) g4 (qf4 Tryz.underlying28 hl3 (j:=4) rfl rfl)
  simp only [List.cons.injEq,and_true] at e
  obtain ⟨q3,q4,q5,q6,q7⟩:=e
  exact ⟨⟨z0,z1,z2,.mk o s vv bb l2⟩,(A2,c2),by rw [e0,e1,e2,q3,q4,q5,q6,q7,e4];rfl,r2⟩
theorem open_QL {n:Nat} {v:Value} {y:DataW H × List MemPlace} (h:DataW.trod enc Tryz.prog w base (fun _=>true) held n 23 [v]=some y) (hl:Light Tryz.prog 23 y.1) :
  ∃ (A:Option Addr) (c:Nat) (l:List Rq),v = .slice A l.length c∧RdR w (· < w.heap.size) A c l:=by
 rcases open_slice Tryz.underlying23 h with ⟨hv,rfl⟩ | ⟨a,len,cap,m,k,D,Pl,hv,hb,hlc,hcm,hmm,rfl,hx⟩
 ·obtain rfl:v = .slice none 0 0:=by simpa using hv
  exact ⟨none,0,[],rfl,RdR.nil _ _ _ (by omega)⟩
 ·obtain rfl:v = .slice (some a) len cap:=by simpa using hv
  simp only [if_true] at hmm
  obtain rfl:cap=m:=hmm.symm
  obtain ⟨h8,hin⟩:=qih Tryz.underlying23 hl
  simp only [List.length_map,List.length_range] at h8
  have hcap:len≤140737488355328:=by
   have h1:=Nat.le_mul_of_pos_right (len+(cap - len)) bytes_Q
   have h2:=Nat.le_trans h1 (by simpa using h8)
   have h3:reachBytes≤140737488355328:=by decide
   omega
  rw [cells_Q] at hx
  have each : ∀ i,i < len → ∃ q:Rq × (Option Addr × Nat),(∀ j u,j < 8→(qh6 q.1 q.2)[j]? = some u→w.cell? (a.add (i * 8+j))=some u)∧RdA w (· < w.heap.size) q.1.f.args q.2.1 q.2.2:=by
   intro i hi
   obtain ⟨cs',hc,ht'⟩:=hx i (by omega)
   obtain ⟨_,hcl,hat⟩:=World.cells?_some hc
   have hDm:D i∈(List.range len).map D:=List.mem_map.2 ⟨i,by simp [hi],rfl⟩
   obtain ⟨r,s,rfl,hr⟩:=open_qfields ht' hcl (hin (D i) hDm)
   refine ⟨(r,s),fun j u hj hu => ?_,hr⟩
   have c0:=hat j (by omega)
   rw [Go.Deep.add_add] at c0
   rw [c0]
   exact hu
  obtain ⟨qs,hgl,hg⟩:=qil (default,(none,0)) each
  have hz:(qs.map Prod.fst).zip (qs.map Prod.snd)=qs:=zip_parts qs
  have hlen:(qs.map Prod.snd).length=(qs.map Prod.fst).length:=by simp
  refine ⟨some a,cap,qs.map Prod.fst,by rw [List.length_map,hgl],qs.map Prod.snd,hlen,?_,fun i hi => ?_⟩
  ·rw [List.length_map]
   have hfl:(qft (qs.map Prod.fst) (qs.map Prod.snd)).length=qs.length * 8:=by
    unfold qft
    rw [hz]
    exact qi9 _ 8 (fun _=>rfl) qs
   refine ⟨⟨hfl,by omega,by omega,hcm⟩,fun hn => ?_⟩
   rw [hgl] at hn
   obtain ⟨ha,hlt⟩:=qjs (by simpa using (hg 0 hn).1 0 _ (by omega) rfl)
   refine ⟨a.block,a.off,by rw [←ha],hlt,hlt,fun j u hu => ?_⟩
   have hjl:j < qs.length * 8:=by
    rcases Nat.lt_or_ge j (qs.length * 8) with h | h
    ·exact h
    ·rw [List.getElem?_eq_none (by rw [hfl];exact h)] at hu;cases hu
   obtain ⟨q,r,rfl,hr⟩ : ∃ q r,j=q * 8+r∧r < 8:=⟨j / 8,j % 8,by omega,by omega⟩
   have hq:q < qs.length:=by omega
   rw [cellsQ_at hlen (by simpa using hq) hr] at hu
   have e1:(qs.map Prod.fst).getD q default=(qs.getD q (default,(none,0))).1:=by simp [List.getD,hq]
   have e2:(qs.map Prod.snd).getD q (none,0)=(qs.getD q (default,(none,0))).2:=by simp [List.getD,hq]
   rw [e1,e2] at hu
   have:=(hg q (by omega)).1 r u hr hu
   rw [ha,add_at] at this
   exact this
  ·rw [List.length_map] at hi
   have:=(hg i (by omega)).2
   simpa [List.getD,hi] using this
theorem open_S {v:Value} {d:DataW H} {p:List MemPlace} {r:Reach} {b0:Nat} (hv:Value.okWide Tryz.prog w r b0 25 v) (h:DataW.Trod enc Tryz.prog w base (fun _=>true) held 25 v d p) (hl:Light Tryz.prog 25 d) :
  ∃ (A:Option Addr) (c:Nat) (l:List Sg) (B:Option Addr) (e:Nat) (rs:List Rq),v = .agg #[.slice A l.length c,.slice B rs.length e]∧RdG w (· < w.heap.size) A c l∧RdR w (· < w.heap.size) B e rs:=by
 obtain ⟨cs,rfl,hsz⟩:=okWide_struct Tryz.underlying25 hv
 obtain ⟨l⟩:=cs
 obtain ⟨fuel,hf⟩:=h
 have hl2:l.length=2:=hsz.trans cells_S
 obtain ⟨xs,k',_,hxy,_,hyl,hg⟩:=DataW.trod_struct Tryz.underlying25 hf
 match xs,hyl,l,hl2 with
 | [y0,y1],_,[v0,v1],_ =>
  have g0:DataW.trod enc Tryz.prog w base (fun _=>true) held k' 22 [v0]=some y0:=by
   have:=hg 0 _ rfl
   change DataW.trod enc Tryz.prog w base (fun _=>true) held k' 22 (([v0,v1].drop 0).take (Tryz.prog.cellsOf 22))=some y0 at this
   rw [cells_gl] at this
   simpa using this
  have g1:DataW.trod enc Tryz.prog w base (fun _=>true) held k' 23 [v1]=some y1:=by
   have:=hg 1 _ rfl
   change DataW.trod enc Tryz.prog w base (fun _=>true) held k' 23 (([v0,v1].drop 1).take (Tryz.prog.cellsOf 23))=some y1 at this
   rw [cells_ql] at this
   simpa using this
  have hd:d = .agg [y0.1,y1.1]:=by
   simp only [Prod.mk.injEq] at hxy
   simpa using hxy.1
  subst hd
  obtain ⟨A,c,l,e0,r0⟩:=open_GL g0 (qf4 Tryz.underlying25 hl (j:=0) rfl rfl)
  obtain ⟨B,e,rs,e1,r1⟩:=open_QL g1 (qf4 Tryz.underlying25 hl (j:=1) rfl rfl)
  subst e0 e1
  exact ⟨A,c,l,B,e,rs,rfl,r0,r1⟩
end
end Go.Proofs.YtdakdpfofgkjoaaGreatDoor
namespace Go.Proofs.YtdakdpfofgkjoaaGreatDoor
theorem looseB_ref (f:Fm):qa3 f=(decide (f.size≤400) && decide (f.depth≤60) && qbu f && qb8 f && layL f):=by
 rw [Bool.eq_iff_iff]
 unfold qa3 layL
 simp only [Bool.and_eq_true,decide_eq_true_eq]
 rw [qcb,qjj,coreA_split,qjj]
 constructor
 ·rintro ⟨⟨a,b⟩,c,d,e⟩;exact ⟨⟨⟨⟨by omega,by omega⟩,c⟩,d⟩,e⟩
 ·rintro ⟨⟨⟨⟨a,b⟩,c⟩,d⟩,e⟩;exact ⟨⟨by omega,by omega⟩,c,d,e⟩
theorem validB_ref (f:Fm):qb5 f=(decide (f.size≤60) && decide (f.depth≤20) && qbu f):=by
 rw [Bool.eq_iff_iff]
 unfold qb5 qbu
 simp only [Bool.and_eq_true,decide_eq_true_eq]
 rw [qcb]
 constructor
 ·rintro ⟨⟨a,b⟩,c⟩;exact ⟨⟨by omega,by omega⟩,c⟩
 ·rintro ⟨⟨a,b⟩,c⟩;exact ⟨⟨by omega,by omega⟩,c⟩
end Go.Proofs.YtdakdpfofgkjoaaGreatDoor
namespace Go.Proofs.YtdakdpfofgkjoaaGreatDoor
def qga (n:Nat):Nat:=min n 1000
def qfo:List Fm→Nat
 | []=>0
 | f :: l=>qga f.size+qfo l
theorem qeu : ∀ l m:List Fm,qfo (l ++ m)=qfo l+qfo m
 | [],m=>by simp [qfo]
 | f :: l,m=>by simp only [List.cons_append,qfo,qeu l m];omega
theorem capsZ_le : ∀ l:List Fm,qfo l≤l.length * 1000
 | []=>by simp [qfo]
 | f :: l=>by
  have:=capsZ_le l
  have h:qga f.size≤1000:=Nat.min_le_right _ _
  simp only [qfo,List.length_cons]
  omega
theorem qj8 : ∀ (l:List Fm) (a:Nat),qga (a+qfo l)=qga (a+sizes l)
 | [],a=>rfl
 | f :: l,a=>by
  have h1:=qj8 l (a+f.size)
  have h2:=qj8 l (a+qga f.size)
  simp only [qfo,sizes]
  unfold qga at *
  omega
theorem repF_depth (o:Int) (f:Fm) : ∀ n,(qfa o n f).depth=f.depth+2 * n
 | 0=>by simp [qfa]
 | n+1=>by
  simp only [qfa,opF,Fm.depth,depths,repF_depth o f n]
  omega
def qhh (neg:Bool) (f:Fm):Nat:=qga (kf neg f).size
def qh7 (neg:Bool) (f:Fm):Nat:=(kf neg f).depth
def qce (neg:Bool) (f:Fm):List Fm:=kfs (qcz neg f.op) (qdr neg f.op) f.args
structure ExtLaw (neg:Bool) (f:Fm):Prop where
 is_:f.op=3→neg=true→qhh neg f=2∧qh7 neg f=2
 not_:f.op=4→qhh neg f=qga (1+qfo (qce neg f) - 1)∧qh7 neg f=depths (qce neg f)+1 - 1
 lone:(f.op=11∨f.op=12∨f.op=18∨f.op=19)→qhh neg f=qga (1+qfo (qce neg f)+1)∧qh7 neg f=depths (qce neg f)+1
 rep:(f.op=13∨f.op=14)→qhh neg f=qga ((1+qfo (qce neg f) - 1) * (f.bound.toNat+1)+2 * f.bound.toNat)∧qh7 neg f=depths (qce neg f)+1 - 1+2 * f.bound.toNat
 gen:f.op≠4→f.op≠11→f.op≠12→f.op≠13→f.op≠14→f.op≠18→f.op≠19→(f.op=3→neg=false)→qhh neg f=qga (1+qfo (qce neg f))∧qh7 neg f=depths (qce neg f)+1
theorem capN_cap (a b c:Nat):qga (qga a * (b+1)+c)=qga (a * (b+1)+c):=by
 unfold qga
 by_cases h:a≤1000
 ·rw [Nat.min_eq_left h]
 ·have h1:min a 1000=1000:=Nat.min_eq_right (by omega)
  rw [h1]
  have h2:1000≤1000 * (b+1):=Nat.le_mul_of_pos_right _ (by omega)
  have h3:a≤a * (b+1):=Nat.le_mul_of_pos_right _ (by omega)
  omega
theorem ext_law {neg:Bool} {f:Fm} (hs:qas f=true):ExtLaw neg f:=by
 obtain ⟨o,n,v,b,l⟩:=f
 refine ⟨fun h3 hn => ?_,fun h4 => ?_,fun hl => ?_,fun hr => ?_,fun h4 h11 h12 h13 h14 h18 h19 hn => ?_⟩
 ·have h3':o=3:=h3
  subst h3' hn
  have hl:l = []:=no_arg (f := .mk 3 n v b l) rfl hs
  subst hl
  unfold qhh qh7
  rw [qlf]
  exact ⟨rfl,rfl⟩
 ·have h4':o=4:=h4
  subst h4'
  obtain ⟨g,hg⟩:=qha (f := .mk 4 n v b l) rfl rfl hs
  have hg':l = [g]:=hg
  subst hg'
  unfold qhh qh7 qce
  rw [kf_not]
  show qga (kf (!neg) g).size=qga (1+(qga (kf (!neg) g).size+0) - 1)∧(kf (!neg) g).depth=max (kf (!neg) g).depth 0+1 - 1
  unfold qga
  omega
 ·have hg:qkz o=true:=by
   have hl':o=11∨o=12∨o=18∨o=19:=hl
   rcases hl' with rfl | rfl | rfl | rfl <;> rfl
  have hL : ∃ x,qd8 neg o = [opF x []]:=by
   have hl':o=11∨o=12∨o=18∨o=19:=hl
   rcases hl' with rfl | rfl | rfl | rfl <;> exact ⟨_,rfl⟩
  have hne : ∃ g,l = [g]:=by
   have hl':o=11∨o=12∨o=18∨o=19:=hl
   rcases hl' with rfl | rfl | rfl | rfl <;> exact qha (f := .mk _ n v b l) rfl rfl hs
  obtain ⟨x,hx⟩:=hL
  obtain ⟨g,rfl⟩:=hne
  unfold qhh qh7 qce
  rw [qi5 hg,hx]
  simp only [Fm.op,Fm.args,kfs]
  show qga (1+((opF x []).size+((kf (qcz neg o) g).size+0)))=qga (1+(qga (kf (qcz neg o) g).size+0)+1)∧1+max (opF x []).depth (max (kf (qcz neg o) g).depth 0)=max (kf (qcz neg o) g).depth 0+1
  have h1:(opF x []).size=1:=rfl
  have h2:(opF x []).depth=1:=rfl
  have h3:1≤(kf (qcz neg o) g).depth:=by rw [Fm.depth_eq];omega
  rw [h1,h2]
  unfold qga
  omega
 ·have hr':o=13∨o=14:=hr
  have hne : ∃ g,l = [g]:=by
   rcases hr' with rfl | rfl <;> exact qha (f := .mk _ n v b l) rfl rfl hs
  obtain ⟨g,rfl⟩:=hne
  have ht:qcz neg o=neg:=by rcases hr' with rfl | rfl <;> rfl
  unfold qhh qh7 qce
  rw [kf_rep hr',repF_size,repF_depth]
  simp only [Fm.op,Fm.args,kfs,Fm.bound,ht]
  show qga _=qga ((1+(qga (kf neg g).size+0) - 1) * (b.toNat+1)+2 * b.toNat)∧_=max (kf neg g).depth 0+1 - 1+2 * b.toNat
  refine ⟨?_,by omega⟩
  rw [show 1+(qga (kf neg g).size+0) - 1=qga (kf neg g).size by omega,capN_cap,Nat.mul_add,Nat.mul_add,Nat.mul_one,Nat.mul_comm b.toNat (kf neg g).size]
  congr 1
  omega
 ·by_cases h3:o=3
  ·subst h3
   have hl:l = []:=no_arg (f := .mk 3 n v b l) rfl hs
   subst hl
   obtain rfl:=hn rfl
   unfold qhh qh7
   rw [kf_is]
   exact ⟨rfl,rfl⟩
  ·have hg:qkz o=true:=gen_of (qbz hs).1 h3 h4 h13 h14
   have hL:qd8 neg o = []:=by
    unfold qd8 qe0
    rw [decide_eq_false (show ¬ o=11 from h11),decide_eq_false (show ¬ o=12 from h12),decide_eq_false (show ¬ o=18 from h18),decide_eq_false (show ¬ o=19 from h19)]
    rfl
   unfold qhh qh7 qce
   rw [qi5 hg,hL,List.nil_append]
   simp only [Fm.op,Fm.args]
   refine ⟨?_,by simp only [Fm.depth];omega⟩
   rw [qj8]
   simp only [Fm.size]
theorem ext_fits {f:Fm} (neg:Bool):qa9 (kf neg f) 60 20=(!decide (60 < qhh neg f) && !decide (20 < qh7 neg f)):=by
 have h:(60 < qhh neg f) ↔ 60 < (kf neg f).size:=by unfold qhh qga;omega
 unfold qa9
 rw [show decide (60 < qhh neg f)=decide (60 < (kf neg f).size) by rw [decide_eq_decide];exact h]
 unfold qh7
 by_cases h1:(kf neg f).size≤60
 ·rw [decide_eq_true (show ((kf neg f).size:Int)≤60 by omega),decide_eq_false (show ¬ 60 < (kf neg f).size by omega)]
  by_cases h2:(kf neg f).depth≤20
  ·rw [decide_eq_true (show ((kf neg f).depth:Int)≤20 by omega),decide_eq_false (show ¬ 20 < (kf neg f).depth by omega)];rfl
  ·rw [decide_eq_false (show ¬ ((kf neg f).depth:Int)≤20 by omega),decide_eq_true (show 20 < (kf neg f).depth by omega)];rfl
 ·rw [decide_eq_false (show ¬ ((kf neg f).size:Int)≤60 by omega),decide_eq_true (show 60 < (kf neg f).size by omega)];rfl
end Go.Proofs.YtdakdpfofgkjoaaGreatDoor
namespace Go.Proofs.YtdakdpfofgkjoaaGreatDoor
open Go.RowKit Go.Shelf
attribute [local go_sem] qad qbo
structure qjl (w:World) (base:Nat) (E:Dom) (A:Option Addr) (c:Nat) (gs:List Fm) (sl:List (Option Addr × Nat)):Prop where
 le : ∀ k,base≤k→E k
 own:w.ownsRow base 28 5 (.slice A gs.length c) gs.length (qav gs sl)
 len:sl.length=gs.length
 arg : ∀ i,i < gs.length→RdA w (fun k=>E k∧(Value.slice A gs.length c).ownBlock≠some k) (gs.getD i default).args (sl.getD i (none,0)).1 (sl.getD i (none,0)).2
section
variable {w w':World} {base c:Nat} {E:Dom} {A:Option Addr} {gs:List Fm} {sl:List (Option Addr × Nat)}
theorem qjl.nil (w:World) {base:Nat} {E:Dom} (h : ∀ k,base≤k→E k):qjl w base E none 0 [] []:=⟨h,⟨rfl,.inl ⟨rfl,rfl⟩⟩,rfl,fun i h=>absurd h (Nat.not_lt_zero _)⟩
theorem qjl.empty {g:Nat} (hb : ∀ k,base≤k→E k) (hg:base≤g) (h:w.heap[g]? = some (.cells #[] 28 (0,0))):qjl w base E (some ⟨g,0,none⟩) 0 [] [] :=
 ⟨hb,⟨by simp [qav],.inr ⟨g,0,#[],rfl,hg,h,Nat.le_refl _,by omega,by simp,by simp [qav]⟩⟩,rfl,fun i h=>absurd h (Nat.not_lt_zero _)⟩
theorem qjl.ge (h:qjl w base E A c gs sl) {k:Nat} (hk:(Value.slice A gs.length c).ownBlock=some k):base≤k∧k < w.heap.size:=by
 rcases h.own.2 with ⟨h0,_⟩ | ⟨g,cap,cur,hv,hb,hg,_⟩
 ·rw [h0] at hk;cases hk
 ·rw [hv] at hk
  injection hk with hk
  have:g=k:=hk
  subst this
  exact ⟨hb,lt_of_block hg⟩
theorem qjl.below (h:qjl w base E A c gs sl) (hb:Below w.heap.size w w'):qjl w' base E A c gs sl :=
 ⟨h.le,own_below h.own hb,h.len,fun i hi=>(h.arg i hi).belowD hb⟩
theorem qjl.rd (h:qjl w base E A c gs sl) (hn:gs.length≤140737488355328):RdA w E gs A c:=by
 refine .mk gs A c sl h.len ?_ fun i hi=>(h.arg i hi).mono fun k hk _=>hk.1
 have hle:=h.le
 rcases h.own.2 with ⟨hv,h0⟩ | ⟨g,cap,cur,hv,hb,hh,h1,h2,hsz,htk⟩
 ·injection hv with hA _ hc
  have:gs = []:=List.eq_nil_of_length_eq_zero h0
  subst this hc
  have hl:=h.len
  have:sl = []:=List.eq_nil_of_length_eq_zero hl
  subst this
  exact Rd.nil _ _ _ _ (by omega)
 ·injection hv with hA _ hc
  subst hA hc
  refine ⟨⟨h.own.1,hn,h1,h2⟩,fun hn=>⟨g,0,rfl,hle _ hb,lt_of_block hh,fun j u hu => ?_⟩⟩
  rw [←htk,List.getElem?_take] at hu
  split at hu
  ·simp [World.cell?,hh];simpa using hu
  ·cases hu
theorem qjl.app {A':Option Addr} {c' n:Nat} {ms:List Fm} {sm:List (Option Addr × Nat)} (h:qjl w base E A c gs sl) (hg:w.grownBy w' (Value.slice A gs.length c).ownBlock) (hn:n=(gs ++ ms).length)
  (hown:w'.ownsRow base 28 5 (.slice A' n c') n (qav gs sl ++ qav ms sm)) (hat:(Value.slice A' n c').ownBlock=(Value.slice A gs.length c).ownBlock∨(Value.slice A' n c').ownBlock=some w.heap.size) (hsm:sm.length=ms.length)
  (hms : ∀ i,i < ms.length→RdA w (fun k=>E k∧(Value.slice A gs.length c).ownBlock≠some k) (ms.getD i default).args (sm.getD i (none,0)).1 (sm.getD i (none,0)).2):qjl w' base E A' c' (gs ++ ms) (sl ++ sm):=by
 subst hn
 have key : ∀ {l:List Fm} {B:Option Addr} {d:Nat},RdA w (fun k=>E k∧(Value.slice A gs.length c).ownBlock≠some k) l B d→RdA w' (fun k=>E k∧(Value.slice A' (gs ++ ms).length c').ownBlock≠some k) l B d:=fun h1=>by
  refine ((h1.mono (E:=fun k=>(E k∧(Value.slice A gs.length c).ownBlock≠some k)∧k < w.heap.size) fun k hk hl=>⟨hk,hl⟩).keep (w':=w') ⟨hg.size,fun k hk hl=>hg.block k hl (fun e=>hk.1.2 e.symm)⟩).mono fun k hk' _=>⟨hk'.1.1,fun e => ?_⟩
  rcases hat with hat | hat
  ·rw [hat] at e;exact hk'.1.2 e
  ·rw [hat] at e
   injection e with e
   have:=hk'.2
   omega
 refine ⟨h.le,by rw [qeb h.len];exact hown,by rw [List.length_append,List.length_append,h.len,hsm],fun i hi => ?_⟩
 by_cases hl:i < gs.length
 ·have e1:(gs ++ ms).getD i default=gs.getD i default:=by simp [List.getD,List.getElem?_append_left hl]
  have e2:(sl ++ sm).getD i (none,0)=sl.getD i (none,0):=by simp [List.getD,List.getElem?_append_left (show i < sl.length by rw [h.len];exact hl)]
  rw [e1,e2]
  exact key (h.arg i hl)
 ·have hl2:i - gs.length < ms.length:=by rw [List.length_append] at hi;omega
  have e1:(gs ++ ms).getD i default=ms.getD (i - gs.length) default:=by simp [List.getD,List.getElem?_append_right (show gs.length≤i by omega)]
  have e2:(sl ++ sm).getD i (none,0)=sm.getD (i - gs.length) (none,0):=by simp [List.getD,List.getElem?_append_right (show sl.length≤i by rw [h.len];omega),h.len]
  rw [e1,e2]
  exact key (hms _ hl2)
end
end Go.Proofs.YtdakdpfofgkjoaaGreatDoor
namespace Go.Proofs.YtdakdpfofgkjoaaGreatDoor
theorem getD_cs (y:Fm) (l:List Fm) (k:Nat):(y :: l).getD (k+1) default=l.getD k default:=by simp [List.getD]
theorem insF_put (x:Fm) : ∀ (l:List Fm) (k:Nat),k≤l.length→(∀ j,j < k→(l.getD j default).cmp x < 0)→(k < l.length→0 < (l.getD k default).cmp x)→qfs x l=l.take k ++ x :: l.drop k
 | [],k,hk,_,_=>by
  have:k=0:=by simpa using hk
  subst this
  rfl
 | y :: l,0,_,_,h=>by
  have h1:0 < y.cmp x:=h (by simp)
  have h2:x.cmp y < 0:=by rw [qcm];omega
  unfold qfs
  rw [if_pos h2]
  rfl
 | y :: l,k+1,hk,hj,h=>by
  have h1:y.cmp x < 0:=hj 0 (by omega)
  have h2 : ¬ x.cmp y < 0:=by rw [qcm];omega
  have h3 : ¬ x.cmp y=0:=by rw [qcm];omega
  unfold qfs
  rw [if_neg h2,if_neg h3,insF_put x l k (by simpa using hk) (fun j hj'=>by have:=hj (j+1) (by omega);rwa [getD_cs] at this) (fun hk'=>by have:=h (by simpa using hk');rwa [getD_cs] at this)]
  rfl
theorem insF_same (x:Fm) : ∀ (l:List Fm) (k:Nat),k < l.length→(∀ j,j < k→(l.getD j default).cmp x < 0)→(l.getD k default).cmp x=0→qfs x l=l
 | [],k,hk,_,_=>absurd hk (Nat.not_lt_zero _)
 | y :: l,0,_,_,h=>by
  have h1:y.cmp x=0:=h
  have h2 : ¬ x.cmp y < 0:=by rw [qcm];omega
  have h3:x.cmp y=0:=by rw [qcm];omega
  unfold qfs
  rw [if_neg h2,if_pos h3]
 | y :: l,k+1,hk,hj,h=>by
  have h1:y.cmp x < 0:=hj 0 (by omega)
  have h2 : ¬ x.cmp y < 0:=by rw [qcm];omega
  have h3 : ¬ x.cmp y=0:=by rw [qcm];omega
  unfold qfs
  rw [if_neg h2,if_neg h3,insF_same x l k (by simpa using hk) (fun j hj'=>by have:=hj (j+1) (by omega);rwa [getD_cs] at this) (by rwa [getD_cs] at h)]
theorem insF_le (x:Fm) : ∀ l:List Fm,(qfs x l).length≤l.length+1
 | []=>by simp [qfs]
 | y :: l=>by
  have:=insF_le x l
  unfold qfs
  split
  ·simp
  ·split
   ·simp
   ·simp only [List.length_cons];omega
def qe5 (op:Int) (x:Fm):List Fm:=if x.op=op then x.args else [x]
def qbs (op:Int) (l:List Fm):List Fm:=l.flatMap (qe5 op)
def qkt (op:Int) (l:List Fm):List Fm:=l.foldl (fun a y=>if y.op=qdw op then a else qfs y a) []
theorem qev (op:Int) (l:List Fm) (y:Fm):qkt op (l ++ [y])=if y.op=qdw op then qkt op l else qfs y (qkt op l):=by
 unfold qkt
 rw [List.foldl_append]
 rfl
theorem accF_asc (op:Int) (l:List Fm):qk5 (qkt op l):=by
 have key : ∀ (l a:List Fm),qk5 a→qk5 (l.foldl (fun a y=>if y.op=qdw op then a else qfs y a) a):=by
  intro l
  induction l with
  | nil=>intro a h;exact h
  | cons y l ih =>
   intro a h
   rw [List.foldl_cons]
   apply ih
   split
   ·exact h
   ·exact insF_asc y h
 exact key l [] List.Pairwise.nil
theorem accF_len (op:Int) (l:List Fm):(qkt op l).length≤l.length:=by
 have key : ∀ (l a:List Fm),(l.foldl (fun a y=>if y.op=qdw op then a else qfs y a) a).length≤a.length+l.length:=by
  intro l
  induction l with
  | nil=>intro a;simp
  | cons y l ih =>
   intro a
   rw [List.foldl_cons,List.length_cons]
   have h1:=ih (if y.op=qdw op then a else qfs y a)
   have h2:=insF_le y a
   split at h1 <;> (rename_i e;simp only [e,if_true,if_false] at *;omega)
 have:=key l []
 simpa [qkt] using this
theorem accF_mem (op:Int) (l:List Fm) (x:Fm):x∈qkt op l ↔ x∈l∧x.op≠qdw op:=by
 have key : ∀ (l a:List Fm),x∈(l.foldl (fun a y=>if y.op=qdw op then a else qfs y a) a) ↔ x∈a∨(x∈l∧x.op≠qdw op):=by
  intro l
  induction l with
  | nil=>intro a;simp
  | cons y l ih =>
   intro a
   rw [List.foldl_cons,ih]
   by_cases e:y.op=qdw op
   ·rw [if_pos e,List.mem_cons]
    constructor
    ·rintro (h | ⟨h,h2⟩)
     ·exact .inl h
     ·exact .inr ⟨.inr h,h2⟩
    ·rintro (h | ⟨h | h,h2⟩)
     ·exact .inl h
     ·rw [h] at h2;exact absurd e h2
     ·exact .inr ⟨h,h2⟩
   ·rw [if_neg e,qlh,List.mem_cons]
    constructor
    ·rintro ((h | h) | ⟨h,h2⟩)
     ·exact .inr ⟨.inl h,by rw [h];exact e⟩
     ·exact .inl h
     ·exact .inr ⟨.inr h,h2⟩
    ·rintro (h | ⟨h | h,h2⟩)
     ·exact .inl (.inr h)
     ·exact .inl (.inl h)
     ·exact .inr ⟨h,h2⟩
 have:=key l []
 unfold qkt
 rw [this]
 simp
theorem qja (op:Int) : ∀ l:List Fm,(qbs op l).length≤sizes l
 | []=>Nat.le_refl _
 | x :: l=>by
  have:=qja op l
  have h1:=qbx x.args
  have h2:=Fm.size_eq x
  unfold qbs at *
  rw [List.flatMap_cons,List.length_append]
  simp only [sizes]
  have:(qe5 op x).length≤x.size:=by
   unfold qe5
   split
   ·omega
   ·simp;omega
  omega
theorem qf7 (op:Int) (l:List Fm) {i:Nat} (hi:i < l.length):qbs op (l.take (i+1))=qbs op (l.take i) ++ qe5 op (l.getD i default):=by
 unfold qbs
 rw [qan l default hi,List.flatMap_append]
 simp
theorem flatR_mem {op:Int} {l:List Fm} {x:Fm} (h:x∈qbs op l) : ∃ g,g∈l∧x∈qe5 op g:=by
 unfold qbs at h
 rwa [List.mem_flatMap] at h
theorem qi7 {op:Int} (hop:op=5∨op=6) {l:List Fm} (h : ∀ g,g∈l→Can g) {z:Fm} (hz:z∈qbs op l) (h0:z.op=qcu op):qbm op l=opF (qcu op) []:=by
 obtain ⟨g,hg,hx⟩:=flatR_mem hz
 have hzz : ∃ g,g∈l∧g.op=qcu op:=by
  unfold qe5 at hx
  split at hx
  ·rename_i e
   have hs:=(h g hg).node.set (by rw [e];exact hop)
   have:=(hs.2.2.2.2.2 z hx).2.2
   rw [e] at this
   exact absurd h0 this
  ·rw [List.mem_singleton] at hx
   subst hx
   exact ⟨_,hg,h0⟩
 unfold qbm
 rw [if_pos (qep.2 hzz)]
theorem gath_end {op:Int} (hop:op=5∨op=6) {l:List Fm} (h : ∀ g,g∈l→Can g) (hz : ∀ z,z∈qbs op l→z.op≠qcu op):qbm op l=qic op (qkt op (qbs op l)):=by
 have hz' : ∀ g,g∈l→g.op≠qcu op:=fun g hg e=>by
  have hne:g.op≠op:=by rw [e];rcases hop with rfl | rfl <;> (unfold qcu;decide)
  exact hz g (by unfold qbs;rw [List.mem_flatMap];exact ⟨g,hg,by unfold qe5;rw [if_neg hne];simp⟩) e
 unfold qbm
 rw [if_neg fun e=>by obtain ⟨g,hg,e⟩:=qep.1 e;exact hz' g hg e]
 congr 1
 refine ((accF_asc op _).set fun x => ?_).symm
 rw [accF_mem]
 unfold qbs qbf
 rw [List.mem_flatMap,List.mem_flatMap]
 constructor
 ·rintro ⟨⟨g,hg,hx⟩,hu⟩
  refine ⟨g,hg,?_⟩
  unfold qe5 at hx
  unfold qfn
  split
  ·rename_i e;rw [if_pos e] at hx;exact hx
  ·rename_i e
   rw [if_neg e,List.mem_singleton] at hx
   subst hx
   rw [if_neg hu];simp
 ·rintro ⟨g,hg,hx⟩
  unfold qfn at hx
  split at hx
  ·rename_i e
   refine ⟨⟨g,hg,by unfold qe5;rw [if_pos e];exact hx⟩,?_⟩
   have hs:=(h g hg).node.set (by rw [e];exact hop)
   have:=(hs.2.2.2.2.2 x hx).2.1
   rwa [e] at this
  ·rename_i e
   split at hx
   ·cases hx
   ·rename_i e2
    rw [List.mem_singleton] at hx
    subst hx
    exact ⟨⟨_,hg,by unfold qe5;rw [if_neg e];simp⟩,e2⟩
def oppR (gs:List Fm) (i k:Nat):Bool:=decide ((gs.getD k default).op=4) && decide (((gs.getD k default).args.getD 0 default).cmp (gs.getD i default)=0)
theorem oppR_yes {gs:List Fm} {i k:Nat} (hi:i < gs.length) (hk:k < gs.length) (h:oppR gs i k=true):qky gs=true:=by
 unfold oppR at h
 rw [Bool.and_eq_true,decide_eq_true_eq,decide_eq_true_eq] at h
 rw [qix]
 refine ⟨_,qa1 hk,h.1,?_⟩
 rw [qjd.1 h.2]
 exact qa1 hi
theorem oppR_no {gs:List Fm} (h : ∀ i,i < gs.length → ∀ k,k < gs.length→oppR gs i k=false):qky gs=false:=by
 cases he:qky gs
 ·rfl
 ·obtain ⟨x,hx,h4,hm⟩:=qix.1 he
  obtain ⟨k,hk,rfl⟩:=List.getElem_of_mem hx
  obtain ⟨i,hi,hi'⟩:=List.getElem_of_mem hm
  have ek:gs.getD k default=gs[k]:=by simp [List.getD,hk]
  have ei:gs.getD i default=gs[i]:=by simp [List.getD,hi]
  have:=h i hi k hk
  unfold oppR at this
  rw [ek,ei,hi',decide_eq_true h4,qe9] at this
  cases this
end Go.Proofs.YtdakdpfofgkjoaaGreatDoor
namespace Go.Proofs.YtdakdpfofgkjoaaGreatDoor
open Go.RowKit Go.Shelf
attribute [local go_sem] qad qbo
theorem RdA.litGe {W:World} {D:Dom} {k n:Nat} {gs:List Fm} {sl:List (Option Addr × Nat)} {cs:Array Value} (hbk:D k) (hk:W.heap[k]? = some (.cells cs 28 (0,0))) (hcs:cs.toList=qav gs sl) (hsl:sl.length=gs.length) (hn:n=gs.length) (hl:n≤1000000)
  (ha : ∀ i,i < gs.length→RdA W D (gs.getD i default).args (sl.getD i (none,0)).1 (sl.getD i (none,0)).2):RdA W D gs (some ⟨k,0,none⟩) n:=by
 subst hn
 refine .mk gs _ _ sl hsl ⟨⟨qcw hsl,by omega,Nat.le_refl _,by omega⟩,fun _=>⟨k,0,rfl,hbk,lt_of_block hk,fun j u hu => ?_⟩⟩ ha
 rw [Nat.zero_add]
 refine qaa hk ?_
 rw [←hcs] at hu
 simpa using hu
theorem rone_ge (o:Int) (f:Fm) (v:Value) (w:World) (D:Dom) (hD : ∀ x,w.heap.size≤x→D x) (h:qby w D v f) :
  Calls Tryz.prog 87 #[.int .i64 o,v] w fun e w' => ∃ v',e = .returned v'∧qby w' D v' (opF o [f])∧Below w.heap.size w w':=by
 obtain ⟨A,c,rfl,ha⟩:=h
 have HA:=hid ha
 clear ha
 go_enter Tryz.func87,Tryz.ntmps87
 go_upto_region 1 with (fail)
 refine qai fun W hW => ?_
 have HB:=hid (show Below w.heap.size w W by rw [hW];go_grown)
 have HE:=hid (show qdd W w.heap.size f A c by
  show W.heap[w.heap.size]? = _
  rw [hW,qaq _ _ _ (by simp)];exact at_new _ _ _ rfl)
 have HR:=hid (show OB W (w.heap.size+1) 0 ⟨#[]⟩ 0 0 none 0 0 by rw [hW];exact at_new _ _ _ (by simp))
 obtain ⟨x0,x1,x2,x3,x4,xl⟩:=HE.out.cells
 clear hW
 go_wp2_with (first | (go_at_call 88;refine (qg3 o _ 1 1 _).mono ?_;rintro e V ⟨rfl,hbV⟩;have hr:=(HR.out.alloc (.cells #[.int .i64 f.op,.string f.name,.int .i64 f.val,.int .i64 f.bound,.slice A f.args.length c] 28)).below hbV;obtain ⟨r0,r1,r2,r3,r4,rl⟩:=hr.cells;have p0:=hr.free 0;have p1:=hr.free 1;have p2:=hr.free 2;have p3:=hr.free 3;have p4:=hr.free 4))
 refine qab fun WE hWE => ?_
 have hoE:OB WE (w.heap.size+1) o ⟨#[]⟩ 0 0 (some ⟨W.heap.size,0,none⟩) 1 1:=by rw [hWE];exact qag hr
 have hcE:Chg (fun x=>x=w.heap.size+1) V WE:=by rw [hWE];exact qae _ _ _ _ _ _ _
 have hbW:Below W.heap.size W V:=((Below.refl _ _).alloc (Nat.le_refl _) _).trans (hbV.mono (by simp))
 have hnew:WE.heap[W.heap.size]? = some (.cells #[.int .i64 f.op,.string f.name,.int .i64 f.val,.int .i64 f.bound,.slice A f.args.length c] 28 (0,0)) :=
  (hcE.block _ (Nat.lt_of_lt_of_le (by simp) hbV.size) (by have:=lt_of_block HR.out;omega)).trans ((hbV.block _ (by simp)).trans (at_new _ _ _ rfl))
 have hbE:Below w.heap.size w WE:=by
  have h1:=HB.out.trans (hbW.mono HB.out.size)
  exact h1.trans (hcE.below (B:=w.heap.size) (fun x hx h=>by omega) h1.size)
 have hrd:RdA WE D [f] (some ⟨W.heap.size,0,none⟩) 1:=RdA.litGe (hD _ HB.out.size) (sl := [(A,c)]) hnew rfl rfl rfl (by omega) fun i hi=>by
  obtain rfl:i=0:=by simpa using hi
  exact HA.out.belowD hbE
 obtain ⟨y0,y1,y2,y3,y4,yl⟩:=hoE.cells
 clear hWE r0 r1 r2 r3 r4 p0 p1 p2 p3 p4
 exact bodyPost_ret (v := .agg #[.int .i64 o,.string ⟨#[]⟩,.int .i64 0,.int .i64 0,.slice (some ⟨W.heap.size,0,none⟩) 1 1]) (by simp [results,Tryz.results87,go_sem,y0,y1,y2,y3,y4]) rfl ⟨_,rfl,⟨_,1,rfl,hrd⟩,hbE⟩
theorem rtwo_ge (o:Int) (f g:Fm) (v v2:Value) (w:World) (D:Dom) (hD : ∀ x,w.heap.size≤x→D x) (h:qby w D v f) (h2:qby w D v2 g) :
  Calls Tryz.prog 89 #[.int .i64 o,v,v2] w fun e w' => ∃ v',e = .returned v'∧qby w' D v' (opF o [f,g])∧Below w.heap.size w w':=by
 obtain ⟨A,c,rfl,ha⟩:=h
 obtain ⟨A2,c2,rfl,ha2⟩:=h2
 have HA:=hid ha
 have HA2:=hid ha2
 clear ha ha2
 go_enter Tryz.func89,Tryz.ntmps89
 go_upto_region 1 with (fail)
 refine qai fun W hW => ?_
 have HB:=hid (show Below w.heap.size w W by rw [hW];go_grown)
 have HE:=hid (show qdd W w.heap.size f A c by
  show W.heap[w.heap.size]? = _
  rw [hW,qaq _ _ _ (by simp;omega),qaq _ _ _ (by simp)];exact at_new _ _ _ rfl)
 have HE2:=hid (show qdd W (w.heap.size+1) g A2 c2 by
  show W.heap[w.heap.size+1]? = _
  rw [hW,qaq _ _ _ (by simp)];exact at_new _ _ _ (by simp))
 have HR:=hid (show OB W (w.heap.size+1+1) 0 ⟨#[]⟩ 0 0 none 0 0 by rw [hW];exact at_new _ _ _ (by simp))
 obtain ⟨x0,x1,x2,x3,x4,xl⟩:=HE.out.cells
 obtain ⟨z0,z1,z2,z3,z4,zl⟩:=HE2.out.cells
 clear hW
 go_wp2_with (first | (go_at_call 88;refine (qg3 o _ 2 2 _).mono ?_;rintro e V ⟨rfl,hbV⟩;have hr:=(HR.out.alloc (.cells #[.int .i64 f.op,.string f.name,.int .i64 f.val,.int .i64 f.bound,.slice A f.args.length c,.int .i64 g.op,.string g.name,.int .i64 g.val,.int .i64 g.bound,.slice A2 g.args.length c2] 28)).below hbV;obtain ⟨r0,r1,r2,r3,r4,rl⟩:=hr.cells;have p0:=hr.free 0;have p1:=hr.free 1;have p2:=hr.free 2;have p3:=hr.free 3;have p4:=hr.free 4))
 refine qab fun WE hWE => ?_
 have hoE:OB WE (w.heap.size+1+1) o ⟨#[]⟩ 0 0 (some ⟨W.heap.size,0,none⟩) 2 2:=by rw [hWE];exact qag hr
 have hcE:Chg (fun x=>x=w.heap.size+1+1) V WE:=by rw [hWE];exact qae _ _ _ _ _ _ _
 have hbW:Below W.heap.size W V:=((Below.refl _ _).alloc (Nat.le_refl _) _).trans (hbV.mono (by simp))
 have hnew:WE.heap[W.heap.size]? = some (.cells #[.int .i64 f.op,.string f.name,.int .i64 f.val,.int .i64 f.bound,.slice A f.args.length c,.int .i64 g.op,.string g.name,.int .i64 g.val,.int .i64 g.bound,.slice A2 g.args.length c2] 28 (0,0)) :=
  (hcE.block _ (Nat.lt_of_lt_of_le (by simp) hbV.size) (by have:=lt_of_block HR.out;omega)).trans ((hbV.block _ (by simp)).trans (at_new _ _ _ rfl))
 have hbE:Below w.heap.size w WE:=by
  have h1:=HB.out.trans (hbW.mono HB.out.size)
  exact h1.trans (hcE.below (B:=w.heap.size) (fun x hx h=>by omega) h1.size)
 have hrd:RdA WE D [f,g] (some ⟨W.heap.size,0,none⟩) 2:=RdA.litGe (hD _ HB.out.size) (sl := [(A,c),(A2,c2)]) hnew rfl rfl rfl (by omega) fun i hi=>by
  match i,hi with
  | 0,_=>exact HA.out.belowD hbE
  | 1,_=>exact HA2.out.belowD hbE
  | i+2,hi=>exact absurd hi (by simp)
 obtain ⟨y0,y1,y2,y3,y4,yl⟩:=hoE.cells
 clear hWE r0 r1 r2 r3 r4 p0 p1 p2 p3 p4
 exact bodyPost_ret (v := .agg #[.int .i64 o,.string ⟨#[]⟩,.int .i64 0,.int .i64 0,.slice (some ⟨W.heap.size,0,none⟩) 2 2]) (by simp [results,Tryz.results89,go_sem,y0,y1,y2,y3,y4]) rfl ⟨_,rfl,⟨_,2,rfl,hrd⟩,hbE⟩
theorem qf0  (w:World) :
  Calls Tryz.prog 91 #[] w fun e w'=>e = .returned (.agg #[.int .i64 2,.string ⟨#[]⟩,.int .i64 0,.int .i64 0,.slice none 0 0])∧Below w.heap.size w w':=by
 go_enter Tryz.func91,Tryz.ntmps91
 go_wp2_with fail
 refine qab fun W hW => ?_
 have hb:Below w.heap.size w W:=by rw [hW];go_grown
 have hc:W.heap[w.heap.size]? = some (.cells #[.int .i64 2,.string ⟨#[]⟩,.int .i64 0,.int .i64 0,.slice none 0 0] 28 (0,0)):=by rw [hW];exact heap_alloc_new w _
 have r0:=qaa hc (i:=0) rfl
 have r1:=qaa hc (i:=1) rfl
 have r2:=qaa hc (i:=2) rfl
 have r3:=qaa hc (i:=3) rfl
 have r4:=qaa hc (i:=4) rfl
 clear hW
 exact bodyPost_ret (v := .agg #[.int .i64 2,.string ⟨#[]⟩,.int .i64 0,.int .i64 0,.slice none 0 0]) (by simp [results,Tryz.results91,go_sem,r0,r1,r2,r3,r4]) rfl ⟨rfl,hb⟩
theorem rdual_any (op:Int) (w:World):Calls Tryz.prog 94 #[.int .i64 op] w fun e w'=>e = .returned (.int .i64 (qe8 op))∧w'=w:=by
 go_enter Tryz.func94,Tryz.ntmps94
 go_wp2
 all_goals
  go_ret
  refine ⟨?_,rfl⟩
  simp_all [qe8]
end Go.Proofs.YtdakdpfofgkjoaaGreatDoor
namespace Go.Proofs.YtdakdpfofgkjoaaGreatDoor
open Go.RowKit Go.Shelf
attribute [local go_sem] qad qbo
theorem qe3 (o:Int) (n:Nat) (f:Fm) (v:Value) (w:World) (D:Dom) (hD : ∀ x,w.heap.size≤x→D x) (h:qby w D v f) (hn:n≤1000) :
  Calls Tryz.prog 92 #[.int .i64 o,.int .i64 (n:Int),v] w fun e w' => ∃ v',e = .returned v'∧qby w' D v' (qfa o n f)∧Below w.heap.size w w':=by
 obtain ⟨A,c,rfl,ha⟩:=h
 have HA:=hid (ha.mono (E:=fun x=>D x∧x≠w.heap.size+1∧x≠w.heap.size+2) fun x hx hl=>⟨hx,by omega,by omega⟩)
 clear ha
 go_enter Tryz.func92,Tryz.ntmps92
 go_upto_region 2 with (fail)
 refine qai fun W hW => ?_
 have HB:=hid (show Below w.heap.size w W by rw [hW];go_grown)
 have HO:=hid (show OB W w.heap.size f.op f.name f.val f.bound A f.args.length c by rw [hW];exact (qaq _ _ _ (by simp;omega)).trans ((qaq _ _ _ (by simp)).trans (at_new _ _ _ rfl)))
 have HR:=hid (show OB W (w.heap.size+1) 0 ⟨#[]⟩ 0 0 none 0 0 by rw [hW];exact (qaq _ _ _ (by simp)).trans (at_new _ _ _ (by simp)))
 have HU:=hid (show OB W (w.heap.size+2) f.op f.name f.val f.bound A f.args.length c by rw [hW];exact at_new _ _ _ (by simp))
 have HWS:=hid (show w.heap.size+2 < W.heap.size from lt_of_block HU.out)
 clear hW
 go_wp2_with fail
 go_loopw [8] (fun i wr => ∃ (k:Nat) (g:Fm) (A':Option Addr) (c':Nat),k≤n∧i = .int .i64 (k:Int)∧Hid (g=qfa o k f)∧Hid (OB wr w.heap.size f.op f.name f.val f.bound A f.args.length c)∧Hid (OB wr (w.heap.size+1) 0 ⟨#[]⟩ 0 0 none 0 0)∧Hid (OB wr (w.heap.size+2) g.op g.name g.val g.bound A' g.args.length c')∧Hid (RdA wr (fun x=>D x∧x≠w.heap.size+1∧x≠w.heap.size+2) g.args A' c')∧Hid (RdA wr (fun x=>D x∧x≠w.heap.size+1∧x≠w.heap.size+2) f.args A c)∧Hid (Below w.heap.size w wr)∧Hid (w.heap.size+2 < wr.heap.size)) (fun i _=>n - (intOf i).toNat)
 case atStart=>exact ⟨0,f,A,c,Nat.zero_le _,rfl,rfl,HO.out,HR.out,HU.out,HA.out.belowD HB.out,HA.out.belowD HB.out,HB.out,HWS.out⟩
 case round =>
  obtain ⟨k,g,A',c',hk,rfl,HG,HO,HR,HU,HGA,HFA,HB,HS⟩:=hrel
  obtain ⟨f0,f1,f2,f3,f4,f5⟩:=HO.out.cells
  obtain ⟨g0,g1,g2,g3,g4,g5⟩:=HU.out.cells
  by_cases hlt:k < n
  ·have hki:(k:Int) < n:=by omega
   have HCELL:Hid (∀ W':World,Below wr.heap.size wr W'→(fun W':World=>W'.cell? ⟨w.heap.size,0,none⟩=some (.int .i64 f.op)∧W'.cell? ⟨w.heap.size,1,none⟩=some (.string f.name)∧W'.cell? ⟨w.heap.size,2,none⟩=some (.int .i64 f.val)∧W'.cell? ⟨w.heap.size,3,none⟩=some (.int .i64 f.bound)∧W'.cell? ⟨w.heap.size,4,none⟩=some (.slice A f.args.length c)∧W'.cell? ⟨w.heap.size+2,0,none⟩=some (.int .i64 g.op)∧W'.cell? ⟨w.heap.size+2,1,none⟩=some (.string g.name)∧W'.cell? ⟨w.heap.size+2,2,none⟩=some (.int .i64 g.val)∧W'.cell? ⟨w.heap.size+2,3,none⟩=some (.int .i64 g.bound)∧W'.cell? ⟨w.heap.size+2,4,none⟩=some (.slice A' g.args.length c')) W'):=hid fun W' hb'=>by
    obtain ⟨a0,a1,a2,a3,a4,_⟩:=(HO.out.below hb').cells
    obtain ⟨b0,b1,b2,b3,b4,_⟩:=(HU.out.below hb').cells
    exact ⟨a0,a1,a2,a3,a4,b0,b1,b2,b3,b4⟩
   have HDD:Hid (∀ x,wr.heap.size≤x→D x∧x≠w.heap.size+1∧x≠w.heap.size+2):=hid fun x hx=>⟨hD x (by have:=HB.out.size;omega),by have:=HS.out;omega,by have:=HS.out;omega⟩
   clear hk
   go_upto_region 5 with (fail)
   refine qa8 (fun W':World=>W'.cell? ⟨w.heap.size,0,none⟩=some (.int .i64 f.op)∧W'.cell? ⟨w.heap.size,1,none⟩=some (.string f.name)∧W'.cell? ⟨w.heap.size,2,none⟩=some (.int .i64 f.val)∧W'.cell? ⟨w.heap.size,3,none⟩=some (.int .i64 f.bound)∧W'.cell? ⟨w.heap.size,4,none⟩=some (.slice A f.args.length c)∧W'.cell? ⟨w.heap.size+2,0,none⟩=some (.int .i64 g.op)∧W'.cell? ⟨w.heap.size+2,1,none⟩=some (.string g.name)∧W'.cell? ⟨w.heap.size+2,2,none⟩=some (.int .i64 g.val)∧W'.cell? ⟨w.heap.size+2,3,none⟩=some (.int .i64 g.bound)∧W'.cell? ⟨w.heap.size+2,4,none⟩=some (.slice A' g.args.length c')) (by kernel_rfl) (by kernel_rfl) (by kernel_rfl) (HCELL.out _ (Below.refl _ _).drew) (fun hHeld => ?_)
   simp only [List.dropLast_cons_cons,List.dropLast_singleton,List.getLast_cons_cons,List.getLast_singleton]
   refine wpAnyH_take (i:=0) (v := ?_) rfl (by kernel_rfl) (by kernel_rfl) (by kernel_rfl) (fun _ _ _ h=>h) (Or.inl ⟨by rfl,?_⟩) (by assumption) ?_
   rotate_left
   ·intro w hSw;(try dsimp only at hSw);go_simp;(try (with_reducible rfl))
   try simp only [Act.put,List.setIfInBounds_toArray,List.set_cons_zero,List.set_cons_succ]
   refine wpAnyH_take (i:=1) (v := ?_) rfl (by kernel_rfl) (by kernel_rfl) (by kernel_rfl) (fun _ _ _ h=>h) (Or.inl ⟨by rfl,?_⟩) (by assumption) ?_
   rotate_left
   ·intro w hSw;(try dsimp only at hSw);go_simp;(try (with_reducible rfl))
   try simp only [Act.put,List.setIfInBounds_toArray,List.set_cons_zero,List.set_cons_succ]
   refine wpAnyH_take (i:=2) (v := ?_) rfl (by kernel_rfl) (by kernel_rfl) (by kernel_rfl) (fun _ _ _ h=>h) (Or.inl ⟨by rfl,?_⟩) (by assumption) ?_
   rotate_left
   ·intro w hSw;(try dsimp only at hSw);go_simp;(try (with_reducible rfl))
   try simp only [Act.put,List.setIfInBounds_toArray,List.set_cons_zero,List.set_cons_succ]
   refine wpAnyH_ready (rs := [3]) (by kernel_rfl) (by simp) (AllReadyH.cons rfl (fun K hK => ?_) AllReadyH.nil)
   go_simp
   (go_at_call 87;(with_reducible refine (rone_ge 8 g _ _ (fun x=>D x∧x≠w.heap.size+1∧x≠w.heap.size+2) ?_ ?_).mono ?_);exact fun x hx=>HDD.out x hx;exact ⟨_,_,rfl,HGA.out.belowD (Below.refl _ _).drew⟩;rintro e W1 ⟨v1,rfl,⟨A1,c1,rfl,ha1⟩,hb1⟩;have HA1:=hid ha1;have HB1:=hid ((show Below wr.heap.size wr wr.drew from (Below.refl _ _).drew).trans hb1);clear ha1 hb1)
   go_wp2_with fail
   refine hK.out _ _ ?_ (fun hHeld => ?_)
   ·exact HCELL.out _ HB1.out
   clear hK K
   try simp only [Act.put,List.setIfInBounds_toArray,List.set_cons_zero,List.set_cons_succ]
   refine wpAnyH_ready (rs := [4]) (by kernel_rfl) (by simp) (AllReadyH.cons rfl (fun K hK => ?_) AllReadyH.nil)
   go_simp
   (go_at_call 89;(with_reducible refine (rtwo_ge o f (opF 8 [g]) _ _ _ (fun x=>D x∧x≠w.heap.size+1∧x≠w.heap.size+2) ?_ ?_ ?_).mono ?_);exact fun x hx=>HDD.out x (Nat.le_trans HB1.out.size hx);exact ⟨_,_,rfl,HFA.out.belowD HB1.out⟩;exact ⟨_,_,rfl,HA1.out⟩;rintro e W2 ⟨v2,rfl,⟨A2,c2,rfl,ha2⟩,hb2⟩;have HA2:=hid ha2;have HB2:=hid (qac HB1.out hb2);clear ha2 hb2)
   go_wp2_with fail
   refine hK.out _ _ ?_ (fun hHeld => ?_)
   ·exact HCELL.out _ HB2.out
   clear hK K
   try simp only [Act.put,List.setIfInBounds_toArray,List.set_cons_zero,List.set_cons_succ]
   have hu2:=HU.out.below HB2.out
   obtain ⟨u0,u1,u2,u3,u4,u5⟩:=hu2.cells
   have p0:=hu2.free 0
   have p1:=hu2.free 1
   have p2:=hu2.free 2
   have p3:=hu2.free 3
   have p4:=hu2.free 4
   have HU2:=hid hu2
   clear hu2
   refine wpAnyH_done (by kernel_rfl) ?_ _
   unfold qgw
   go_simp
   go_wp2_with fail
   go_roundw
   case rel =>
    have hc:=qae W2 (w.heap.size+2) (.int .i64 (opF o [f,opF 8 [g]]).op) (.string (opF o [f,opF 8 [g]]).name) (.int .i64 (opF o [f,opF 8 [g]]).val) (.int .i64 (opF o [f,opF 8 [g]]).bound) (.slice A2 (opF o [f,opF 8 [g]]).args.length c2)
    have hk2:Keeps (fun x=>D x∧x≠w.heap.size+1∧x≠w.heap.size+2) W2 _:=hc.keeps fun x _ hx hv=>hx.2.2 hv
    have hbw:Below w.heap.size w W2:=qac HB.out HB2.out
    refine ⟨k+1,opF o [f,opF 8 [g]],A2,c2,by omega,by go_num,by rw [HG.out];rfl,hc.box (HO.out.below HB2.out) (by show ¬ w.heap.size=w.heap.size+2;omega),hc.box (HR.out.below HB2.out) (by show ¬ w.heap.size+1=w.heap.size+2;omega),qag HU2.out,HA2.out.keep hk2,(HFA.out.belowD HB2.out).keep hk2,hbw.trans (hc.below (B:=w.heap.size) (fun x hx hv=>by have hv':x=w.heap.size+2:=hv;omega) hbw.size),Nat.lt_of_lt_of_le (Nat.lt_of_lt_of_le HS.out HB2.out.size) hc.size⟩
   case measure=>simp [intOf];omega
  ·have hki : ¬ (k:Int) < n:=by omega
   have hkn:k=n:=by omega
   obtain rfl:=hkn
   have p0:=HR.out.free 0
   have p1:=HR.out.free 1
   have p2:=HR.out.free 2
   have p3:=HR.out.free 3
   have p4:=HR.out.free 4
   obtain ⟨r0,r1,r2,r3,r4,r5⟩:=HR.out.cells
   clear hk
   go_wp2_with fail
   refine qab fun W9 hW9 => ?_
   have hO9:OB W9 (w.heap.size+1) g.op g.name g.val g.bound A' g.args.length c':=by rw [hW9];exact qag HR.out
   have hC9:Chg (fun k=>k=w.heap.size+1) wr W9:=by rw [hW9];exact qae _ _ _ _ _ _ _
   clear hW9 p0 p1 p2 p3 p4 r0 r1 r2 r3 r4 r5
   obtain ⟨r0,r1,r2,r3,r4,r5⟩:=hO9.cells
   exact bodyPost_ret (v := .agg #[.int .i64 g.op,.string g.name,.int .i64 g.val,.int .i64 g.bound,.slice A' g.args.length c']) (by simp [results,Tryz.results92,go_sem,r0,r1,r2,r3,r4]) rfl ⟨_,rfl,by rw [←HG.out];exact ⟨A',c',rfl,(HGA.out.keep (hC9.keeps fun x _ hx hv=>hx.2.1 hv)).mono fun x hx _=>hx.1⟩,HB.out.trans (hC9.below (B:=w.heap.size) (fun x hx hv=>by have hv':x=w.heap.size+1:=hv;omega) HB.out.size)⟩
end Go.Proofs.YtdakdpfofgkjoaaGreatDoor
namespace Go.Proofs.YtdakdpfofgkjoaaGreatDoor
def simpleR (o:Int):Prop:=o=1∨o=2∨o=5∨o=6∨o=8∨o=9∨o=10
def lateR (o:Int):Prop:=o=15∨o=16∨o=17
theorem qip {f:Fm} (hs:qas f=true) (h3:(qah f.op).named=false):f.name=⟨#[]⟩:=by
 have h:=(qbz hs).2.2.2.2.2.2.2
 unfold qeg at h
 rw [h3] at h
 exact empty_name (by simpa using h)
theorem qk9 {f:Fm} (hs:qas f=true) (h:(qah f.op).val=0):f.val=0:=by
 obtain ⟨_,_,_,h1,h2,_⟩:=qbz hs
 omega
theorem qjm {f:Fm} (hs:qas f=true) (h:(qah f.op).bound=0):f.bound=0:=by
 obtain ⟨_,_,_,_,_,h1,h2,_⟩:=qbz hs
 omega
theorem rf_is {f:Fm} (hs:qas f=true) (h:f.op=3):f=isF f.name f.val∧kf false f=f∧kf true f=opF 4 [f]:=by
 have hb:=qjm hs (by rw [h];rfl)
 have ha:f.args = []:=no_arg (by rw [h];rfl) hs
 obtain ⟨o,n,v,b,l⟩:=f
 have h':o=3:=h
 have hb':b=0:=hb
 have ha':l = []:=ha
 subst h' hb' ha'
 exact ⟨rfl,by rw [kf_is],by rw [qlf];rfl⟩
theorem rf_not {f:Fm} (neg:Bool) (hs:qas f=true) (h:f.op=4):qce neg f = [kf neg f]:=by
 obtain ⟨g,hg⟩:=qha (by rw [h];rfl) (by rw [h];rfl) hs
 obtain ⟨o,n,v,b,l⟩:=f
 have h':o=4:=h
 have hg':l = [g]:=hg
 subst h' hg'
 rw [kf_not];rfl
theorem rf_simple {f:Fm} (neg:Bool) (hs:qas f=true) (h:simpleR f.op):kf neg f=opF (if neg then qe8 f.op else f.op) (qce neg f):=by
 have hn:=qip hs (by rcases h with h | h | h | h | h | h | h <;> (rw [h];rfl))
 have hv:=qk9 hs (by rcases h with h | h | h | h | h | h | h <;> (rw [h];rfl))
 obtain ⟨o,n,v,b,l⟩:=f
 have hn':n=⟨#[]⟩:=hn
 have hv':v=0:=hv
 subst hn' hv'
 have h':o=1∨o=2∨o=5∨o=6∨o=8∨o=9∨o=10:=h
 unfold qce
 rcases h' with rfl | rfl | rfl | rfl | rfl | rfl | rfl <;> cases neg <;> (rw [qi5 rfl];rfl)
theorem rf_imp {f:Fm} (neg:Bool) (hs:qas f=true) (h:f.op=7):kf neg f=opF (if neg then 5 else 6) (qce neg f):=by
 have hn:=qip hs (by rw [h];rfl)
 have hv:=qk9 hs (by rw [h];rfl)
 obtain ⟨o,n,v,b,l⟩:=f
 have hn':n=⟨#[]⟩:=hn
 have hv':v=0:=hv
 have h':o=7:=h
 subst hn' hv' h'
 unfold qce
 cases neg <;> (rw [qi5 rfl];rfl)
theorem qjq {f:Fm} (neg:Bool) (hs:qas f=true) (h:lateR f.op):kf neg f = .mk (if neg then qe8 f.op else f.op) ⟨#[]⟩ (if neg then 1 - f.val else f.val) 0 (qce neg f):=by
 have hn:=qip hs (by rcases h with h | h | h <;> (rw [h];rfl))
 obtain ⟨o,n,v,b,l⟩:=f
 have hn':n=⟨#[]⟩:=hn
 subst hn'
 have h':o=15∨o=16∨o=17:=h
 unfold qce
 rcases h' with rfl | rfl | rfl <;> cases neg <;> (rw [qi5 rfl];rfl)
theorem qf1 {f:Fm} (neg:Bool) (hs:qas f=true) (h:f.op=11∨f.op=12∨f.op=13∨f.op=14∨f.op=18∨f.op=19) : ∃ g,f.args = [g]∧qce neg f = [kf neg g]:=by
 obtain ⟨g,hg⟩:=qha (f:=f) (by rcases h with h | h | h | h | h | h <;> (rw [h];rfl)) (by rcases h with h | h | h | h | h | h <;> (rw [h];rfl)) hs
 refine ⟨g,hg,?_⟩
 unfold qce
 rw [hg]
 rcases h with h | h | h | h | h | h <;> (rw [h];rfl)
theorem rf_lone {f:Fm} (neg:Bool) (hs:qas f=true) (h:f.op=11∨f.op=12) {g:Fm} (hg:f.args = [g]) :
  kf neg f=if (decide (f.op=11) != neg) then opF 9 [opF 1 [],kf neg g] else opF 10 [opF 2 [],kf neg g]:=by
 have hn:=qip hs (by rcases h with h | h <;> (rw [h];rfl))
 have hv:=qk9 hs (by rcases h with h | h <;> (rw [h];rfl))
 obtain ⟨o,n,v,b,l⟩:=f
 have hn':n=⟨#[]⟩:=hn
 have hv':v=0:=hv
 have hg':l = [g]:=hg
 subst hn' hv' hg'
 have h':o=11∨o=12:=h
 rcases h' with rfl | rfl <;> cases neg <;> (rw [qi5 rfl];rfl)
theorem rf_lonp {f:Fm} (neg:Bool) (hs:qas f=true) (h:f.op=18∨f.op=19) {g:Fm} (hg:f.args = [g]) :
  kf neg f=if (decide (f.op=18) != neg) then .mk 16 ⟨#[]⟩ 0 0 [opF 1 [],kf neg g] else .mk 17 ⟨#[]⟩ 1 0 [opF 2 [],kf neg g]:=by
 have hn:=qip hs (by rcases h with h | h <;> (rw [h];rfl))
 have hv:=qk9 hs (by rcases h with h | h <;> (rw [h];rfl))
 obtain ⟨o,n,v,b,l⟩:=f
 have hn':n=⟨#[]⟩:=hn
 have hv':v=0:=hv
 have hg':l = [g]:=hg
 subst hn' hv' hg'
 have h':o=18∨o=19:=h
 rcases h' with rfl | rfl <;> cases neg <;> (rw [qi5 rfl];rfl)
theorem rf_rep {f:Fm} (neg:Bool) (hs:qas f=true) (h:f.op=13∨f.op=14) {g:Fm} (hg:f.args = [g]) :
  kf neg f=qfa (if (decide (f.op=13) != neg) then 6 else 5) f.bound.toNat (kf neg g):=by
 obtain ⟨o,n,v,b,l⟩:=f
 have hg':l = [g]:=hg
 subst hg'
 have h':o=13∨o=14:=h
 rw [kf_rep h']
 rcases h' with rfl | rfl <;> cases neg <;> rfl
theorem op_kinds {f:Fm} (hs:qas f=true):f.op=3∨f.op=4∨f.op=7∨(f.op=11∨f.op=12)∨(f.op=13∨f.op=14)∨(f.op=18∨f.op=19)∨f.op=15∨(f.op=16∨f.op=17)∨simpleR f.op:=by
 unfold simpleR
 rcases qdt (qbz hs).1 with h | h | h | h | h | h | h | h | h | h | h | h | h | h | h | h | h | h | h <;> rw [h] <;> simp
theorem qfd {f:Fm} (hs:qas f=true):0≤f.bound∧f.bound≤9:=by
 obtain ⟨h0,_,_,_,_,h1,h2,_⟩:=qbz hs
 refine ⟨h1,Int.le_trans h2 ?_⟩
 rcases qdt h0 with h | h | h | h | h | h | h | h | h | h | h | h | h | h | h | h | h | h | h <;> rw [h] <;> decide
theorem shp_valr {f:Fm} (hs:qas f=true):0≤f.val∧f.val≤3:=by
 obtain ⟨h0,_,_,h1,h2,_⟩:=qbz hs
 refine ⟨h1,Int.le_trans h2 ?_⟩
 rcases qdt h0 with h | h | h | h | h | h | h | h | h | h | h | h | h | h | h | h | h | h | h <;> rw [h] <;> decide
theorem qju {f:Fm} (h:qbu f=true):qas f=true:=by
 unfold qbu at h
 rw [qd1,Bool.and_eq_true] at h
 exact h.1
theorem qhu {f g:Fm} (hg:g∈f.args) (h:qbu f=true):qbu g=true:=by
 unfold qbu at h ⊢
 rw [qd1,Bool.and_eq_true] at h
 obtain ⟨i,hi,rfl⟩:=List.getElem_of_mem hg
 have:=qd0.1 h.2 i hi
 rwa [show f.args.getD i default=f.args[i] by simp [List.getD,hi]] at this
end Go.Proofs.YtdakdpfofgkjoaaGreatDoor
