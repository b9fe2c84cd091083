/-
  Parts of a proof: R2 UV UW KL LG UX ZR ZS.
-/
import Derived.Test.YtdpbgcmfeajigaaGreatDoorZ28
import Derived.Test.YtdpbgcmfeajigaaGreatDoorZ20
import Derived.Test.YtdpbgcmfeajigaaGreatDoorZ30
import Derived.Test.YtdpbgcmfeajigaaGreatDoorZ21
import Derived.Test.YtdpbgcmfeajigaaGreatDoorZ16
import Derived.Test.YtdpbgcmfeajigaaGreatDoorZ18
import Derived.Test.YtdpbgcmfeajigaaGreatDoorZ22
set_option linter.unusedSimpArgs false
set_option linter.unusedVariables false
set_option maxHeartbeats 8000000
set_option maxRecDepth 100000
namespace Go.Proofs.YtdpbgcmfeajigaaGreatDoor
def cutQ (R:Act→World→Prop) (Q:Exit→Act→World→Prop):Exit→Act→World→Prop
 | .normal,a,w=>R a w
 | e,a,w=>Q e a w
def waitsB (md:Region.Mode) (n:Nat) (B:Array Oper):Bool:=B.all fun o=>(List.range n).all fun i=>o.after.any fun e=>Region.binds md e && e.on == i
section
variable {P:Program} {A B:Array Oper} {Q:Exit→Act→World→Prop} {R:Act→World→Prop} {md:Region.Mode}
theorem waitsB_spec {n:Nat} (h:waitsB md n B=true) {o:Oper} (ho:o∈B) : ∀ i,i < n → ∃ e∈o.after,Region.binds md e=true∧e.on=i:=by
 intro i hi
 unfold waitsB at h
 have h1:=Array.all_eq_true'.1 h o ho
 have h2:=List.all_eq_true.1 h1 i (List.mem_range.2 hi)
 obtain ⟨e,he,hb⟩:=Array.any_eq_true'.1 h2
 rw [Bool.and_eq_true,beq_iff_eq] at hb
 exact ⟨e,he,hb.1,hb.2⟩
theorem getD_appF {l:Array Bool} {k j:Nat} : (l ++ Array.replicate k false).getD j false=l.getD j false:=by
 by_cases h:j < l.size
 ·simp [Array.getD,h,show j < l.size+k by omega,Array.getElem_append]
 ·by_cases h2:j < l.size+k
  ·simp [Array.getD,h,h2,Array.getElem_append]
  ·simp [Array.getD,h,h2]
theorem getD_appT {l:Array Bool} {k j:Nat} (h:j < l.size):(l ++ Array.replicate k false).getD j true=l.getD j true:=by
 simp [Array.getD,h,show j < l.size+k by omega,Array.getElem_append]
theorem ready_app {listed:Array Bool} (hs:listed.size=A.size) {i k:Nat} (hi:i < A.size):i∈Region.ready md (A ++ B) (listed ++ Array.replicate k false) ↔ i∈Region.ready md A listed:=by
 rw [mem_ready,mem_ready,getD_appT (by omega),Array.getElem?_append_left hi]
 simp only [getD_appF]
theorem ready_low {listed:Array Bool} (hw:waitsB md A.size B=true) {i k:Nat} (hi:i∈Region.ready md (A ++ B) (listed ++ Array.replicate k false)) (hnl : ¬ ∀ j,j < A.size→listed.getD j false=true):i < A.size:=by
 by_cases h:i < A.size
 ·exact h
 ·exfalso
  apply hnl
  intro j hj
  obtain ⟨_,o,ho,hall⟩:=mem_ready.1 hi
  rw [Array.getElem?_append_right (by omega)] at ho
  obtain ⟨e,he,hb,rfl⟩:=waitsB_spec hw (Array.mem_of_getElem? ho) j hj
  have:=hall e he hb
  rwa [getD_appF] at this
theorem wp_cutQ {o:Oper} {a:Act} {w:World} {K K':Act→World→Prop} (h : ∀ a w,K a w→K' a w) (hh:o.wp P a w K (cutQ R Q)):o.wp P a w K' Q:=by
 unfold Oper.wp at *
 generalize (execOp a.eval o).run P w=r at *
 cases r with
 | ok n w' =>
  cases n <;> simp only [Oper.upon] at hh ⊢ <;>
   first
    | exact h _ _ hh
    | exact Calls.mono hh (fun e w'' he=>by
      cases e with
      | returned u=>exact h _ _ he
      | panicked c=>exact he
      | outgrown=>exact he)
    | exact Rows.mono hh (fun _ _ he=>h _ _ he)
 | halt x w'=>cases x <;> simp only [Oper.upon] at hh ⊢ <;> exact hh
theorem all_true_eq {listed:Array Bool} (hall : ∀ i,i < listed.size→listed.getD i false=true):listed=Array.replicate listed.size true:=by
 apply Array.ext
 ·simp
 ·intro i h1 h2
  have:=hall i h1
  simp [Array.getD,h1] at this
  simp [this]
theorem wpAny_cut (hb:backB A=true) (hw:waitsB md A.size B=true) (hR : ∀ a w,R a w → ∀ f,wpAny P md (A ++ B) Q (f+B.size) (Array.replicate A.size true ++ Array.replicate B.size false) a w) : ∀ (fuel:Nat) (listed:Array Bool) (a:Act) (w:World),listed.size=A.size →
  wpAny P md A (cutQ R Q) fuel listed a w→wpAny P md (A ++ B) Q (fuel+B.size) (listed ++ Array.replicate B.size false) a w
 | 0,listed,a,w,hs,h=>by
  have hall:=qe0 hs hb h.1
  have he:=all_true_eq (listed:=listed) (fun i hi=>hall i (by omega))
  rw [hs] at he
  rw [he]
  exact hR _ _ h.2 0
 | fuel+1,listed,a,w,hs,h=>by
  by_cases hr:Region.ready md A listed = []
  ·have hall:=qe0 hs hb hr
   have he:=all_true_eq (listed:=listed) (fun i hi=>hall i (by omega))
   rw [hs] at he
   rw [he]
   exact hR _ _ (h.1 hr) (fuel+1)
  ·have hnl : ¬ ∀ i,i < A.size→listed.getD i false=true:=fun hall=>hr (by
    rcases hr':Region.ready md A listed with _ | ⟨j,l⟩
    ·rfl
    ·have hj:j∈Region.ready md A listed:=by rw [hr'];exact List.mem_cons_self
     have h3:=(mem_ready.1 hj).1
     have h4:=hall j (qcn hj)
     have h':j < listed.size:=by have:=qcn hj;omega
     simp [Array.getD,h'] at h3 h4
     rw [h4] at h3;cases h3)
   rw [show fuel+1+B.size=(fuel+B.size)+1 by omega]
   refine ⟨fun e => ?_,fun i hi => ?_⟩
   ·exfalso
    rcases hr':Region.ready md A listed with _ | ⟨j,l⟩
    ·exact hr hr'
    ·have hj:j∈Region.ready md A listed:=by rw [hr'];exact List.mem_cons_self
     have:=(ready_app (B:=B) (k:=B.size) hs (qcn hj)).2 hj
     rw [e] at this;cases this
   ·have hilt:=ready_low hw hi hnl
    have hi':=(ready_app hs hilt).1 hi
    have h1:=h.2 i hi'
    unfold wpOp at h1 ⊢
    rw [Array.getElem?_append_left hilt]
    rw [Array.getElem?_eq_getElem hilt] at h1 ⊢
    simp only at h1 ⊢
    have hg:=(qhl hb (Array.getElem?_eq_getElem hilt)).1
    rw [if_pos (qe2 hg _)] at h1 ⊢
    have hset:(listed ++ Array.replicate B.size false).setIfInBounds i true=listed.setIfInBounds i true ++ Array.replicate B.size false:=by
     apply Array.ext
     ·simp
     ·intro j h1 h2
      simp only [Array.size_setIfInBounds,Array.size_append] at h1 h2
      rw [Array.getElem_setIfInBounds (by simpa using h1),Array.getElem_append,Array.getElem_append]
      by_cases hj:j < listed.size
      ·rw [dif_pos hj,dif_pos (by simpa using hj),Array.getElem_setIfInBounds (by simpa using hj)]
      ·rw [dif_neg hj,dif_neg (by simpa using hj),if_neg (by omega)]
       simp
    rcases h1 with h1 | ⟨h1,h2⟩
    ·refine .inl (wp_cutQ (fun a' w' hk => ?_) h1)
     rw [hset]
     exact wpAny_cut hb hw hR fuel _ a' w' (by rw [Array.size_setIfInBounds];exact hs) hk
    ·exact .inr ⟨h1,h2⟩
def RestQ (P:Program) (L:List Oper) (n:Nat) (Q:Exit→Act→World→Prop) (a:Act) (w:World):Prop :=
 ∀ f,∃ S:World→Prop,S w∧wpAnyH P .any L.toArray Q S (f+(L.length - n)) (Array.replicate n true ++ Array.replicate (L.length - n) false) a w
theorem wpAny_parts {L:List Oper} {n:Nat} (hn:n≤L.length) (hb:backB (L.take n).toArray=true) (hw:waitsB .any n (L.drop n).toArray=true) {a:Act} {w:World} (S:World→Prop) (hS:S w)
  (h:S w→wpAnyH P .any (L.take n).toArray (cutQ (RestQ P L n Q) Q) S n (Array.replicate n false) a w):wpAny P .any L.toArray Q L.toArray.size (Array.replicate L.toArray.size false) a w:=by
 have hl:(L.take n).toArray.size=n:=by simp [Nat.min_eq_left hn]
 have hd:(L.drop n).toArray.size=L.length - n:=by simp
 have e:L.toArray=(L.take n).toArray ++ (L.drop n).toArray:=by rw [List.append_toArray,List.take_append_drop]
 have h1:=wpAny_of_held _ _ _ _ (h hS)
 have key:=wpAny_cut (P:=P) (md := .any) (A:=(L.take n).toArray) (B:=(L.drop n).toArray) (Q:=Q) (R:=RestQ P L n Q) hb (by rw [hl];exact hw) (fun a w hq f=>by
  obtain ⟨S',hS',hh⟩:=hq f
  rw [hl,hd,←e]
  exact wpAny_of_held _ _ _ _ hh) n (Array.replicate n false) a w (by rw [hl];simp) h1
 rw [←e,hd] at key
 have e2:L.toArray.size=n+(L.length - n):=by simp;omega
 rw [e2]
 have e3:Array.replicate (n+(L.length - n)) false=Array.replicate n false ++ Array.replicate (L.length - n) false:=by
  apply Array.ext
  ·simp
  ·intro i h1 h2;simp [Array.getElem_append]
 rw [e3]
 exact key
theorem qj8 {id l m n:Nat} {L:List Oper} {a:Act} {w:World} (S:World→Prop) (hm:P.follows .mixedOrders=true) (hd:qgu L.toArray=true) (hQ : ¬ LetsOut Q) (hn:n≤L.length) (hb:backB (L.take n).toArray=true) (hw:waitsB .any n (L.drop n).toArray=true) (hS:S w.drew)
  (h:S w.drew→wpAnyH P .any (L.take n).toArray (cutQ (RestQ P L n Q) Q) S n (Array.replicate n false) a w.drew):(Code.region id L.toArray true).wpIn (Fence.wide.inRound l) m P Q a w :=
 qd8 hm hd hQ (wpAny_parts hn hb hw S hS h)
end
end Go.Proofs.YtdpbgcmfeajigaaGreatDoor
namespace Go.Proofs.YtdpbgcmfeajigaaGreatDoor
open Go.RowKit Go.Shelf
attribute [local go_sem] qab run_store_func Oper.semAt_some
theorem nodesval_any (D:Dom) (x:Fm) (b o:Nat) (A:Option Addr) (c:Nat) (w:World) (h:qcp w D b o x A c) :
  Calls Tryz.prog 46 #[.pointer (some ⟨b,o,none⟩)] w fun e w'=>e = .returned (.int .i64 x.val)∧Below w.heap.size w w':=by
 obtain ⟨_,q1,_,_,p2,_,_,_⟩:=h
 go_enter Tryz.func46,Tryz.ntmps46
 go_wp2_with fail
 go_ret
 exact ⟨rfl,by first | exact Below.refl _ _ | go_grown⟩
theorem nodesval_F (w0:World):ValF 46 #[] Fm.val (fun _=>True) w0 :=
 ⟨enters_of Tryz.func46 (by kernel_rfl) rfl,fun D x b o A c W _ _ h=>nodesval_any D x b o A c W h⟩
theorem qi7 : ∀ {l:List Fm},(∀ g,g∈l→(qaw g).length≤g.size)→(qbb l).length≤sizes l
 | [],_=>Nat.le_refl _
 | f :: l,h=>by
  have h1:=h f (by simp)
  have h2:=qi7 (l:=l) fun g hg=>h g (by simp [hg])
  rw [qbb,sizes,List.length_append]
  omega
theorem qgq (f:Fm):(qaw f).length≤f.size:=by
 refine Fm.ind1 (P:=fun f=>(qaw f).length≤f.size) ?_ f
 intro f ih
 have:=qi7 ih
 rw [qf0,Fm.size_eq,List.length_append]
 split <;> simp <;> omega
theorem ownBlock_some {g n c:Nat} : (Value.slice (some ⟨g,0,none⟩) n c).ownBlock=some g:=rfl
theorem app_zero {wA w7:World} {base s1 cx c7:Nat} {X A7:Option Addr} {R:List Fm} {sl:List (Option Addr × Nat)} {g':Fm} {A2:Option Addr} {c2:Nat} (hf:qbm wA base X cx R sl) (hown7:w7.ownsRow base 24 5 (.slice A7 (R.length+1) c7) (R.length+1) (qav R sl ++ qgb)) (hg7:wA.grownBy w7 (Value.slice X R.length cx).ownBlock)
  (hat7:(Value.slice A7 (R.length+1) c7).ownBlock=(Value.slice X R.length cx).ownBlock∨(Value.slice A7 (R.length+1) c7).ownBlock=some wA.heap.size) (ha:RdA wA (Nw s1 wA) g'.args A2 c2) (hs:base≤s1) (hge : ∀ k,(Value.slice X R.length cx).ownBlock=some k→k < s1) :
  ∃ g,A7=some ⟨g,0,none⟩∧base≤g∧qbm w7 base A7 c7 (R ++ [qbs]) (sl ++ [(none,0)])∧RdA w7 (fun k=>Nw base w7 k∧k≠g) g'.args A2 c2∧g < w7.heap.size:=by
 have hF7:qbm w7 base A7 c7 (R ++ [qbs]) (sl ++ [(none,0)]):=by
  refine qbm.app (n:=R.length+1) hf hg7 (by simp) ?_ hat7 rfl fun i hi => ?_
  ·have:qav [qbs] [(none,0)]=qgb:=rfl
   rw [this];exact hown7
  ·have hi0:i=0:=by simpa using hi
   subst hi0
   exact RdA.nil _ _ _ (Nat.zero_le _)
 rcases hown7.2 with ⟨_,h0⟩ | ⟨g,cap,cur,hv,hb,hg,_⟩
 ·omega
 ·injection hv with e1 e2 e3
  subst e1
  refine ⟨g,rfl,hb,hF7,?_,lt_of_block hg⟩
  refine ((ha.mono (E:=fun k=>Nw s1 wA k∧k < wA.heap.size) fun k hk hl=>⟨hk,hl⟩).keep (w':=w7) ⟨hg7.size,fun k hk hl=>hg7.block k hl (fun e=>by have:=hge k e.symm;have:=hk.1.1;omega)⟩).mono fun k hk _=>⟨⟨by have:=hk.1.1;omega,hk.1.2.of_eq (hg7.block k hk.2 (fun e=>by have:=hge k e.symm;have:=hk.1.1;omega))⟩,fun e => ?_⟩
  subst e
  rw [ownBlock_some] at hat7
  rcases hat7 with e | e
  ·have:=hge _ e.symm;have:=hk.1.1;omega
  ·injection e with e;have:=hk.2;omega
theorem set_lastF {R:List Fm} {g':Fm} : (R ++ [qbs]).set R.length g'=R ++ [g']:=by simp
theorem set_lastS {R:List Fm} {sl:List (Option Addr × Nat)} {x:Option Addr × Nat} (h:sl.length=R.length):(sl ++ [(none,0)]).set R.length x=sl ++ [x]:=by rw [←h];simp
def set5F (w:World) (b o:Nat) (f:Fm) (A:Option Addr) (d:Nat):World:=((((w.setCell ⟨b,o,none⟩ (.int .i64 f.op)).setCell ⟨b,o+1,none⟩ (.string f.name)).setCell ⟨b,o+2,none⟩ (.int .i64 f.val)).setCell ⟨b,o+3,none⟩ (.int .i64 f.bound)).setCell ⟨b,o+4,none⟩ (.slice A f.args.length d)
theorem set5F_chg (w:World) (b o:Nat) (f:Fm) (A:Option Addr) (d:Nat):Chg (fun x=>x=b) w (set5F w b o f A d):=set5_chg _ _ _ _ _ _ _ _
def AppEnd (w7 W:World) (base ob c7:Nat) (A7:Option Addr) (R:List Fm) (g':Fm) (sl:List (Option Addr × Nat)):Prop :=
 W.heap[ob]? = some (.cells #[.slice A7 (R ++ [g']).length c7] 22 (0,0))∧qbm W base A7 c7 (R ++ [g']) sl∧Chg (fun b=>b=ob∨base≤b) w7 W
theorem app_end1 {w7:World} {base ob c7 cx g:Nat} {X:Option Addr} {R:List Fm} {sl:List (Option Addr × Nat)} {g':Fm} {A2:Option Addr} {c2:Nat} (hF:qbm w7 base (some ⟨g,0,none⟩) c7 (R ++ [qbs]) (sl ++ [(none,0)])) (hl:sl.length=R.length) (ha:RdA w7 (fun k=>Nw base w7 k∧k≠g) g'.args A2 c2) (hg:base≤g)
  (hob:w7.heap[ob]? = some (.cells #[.slice X R.length cx] 22 (0,0))) (hobb:ob < base) :
  AppEnd w7 ((set5F w7 g (R.length * 5) g' A2 c2).setCell ⟨ob,0,none⟩ (.slice (some ⟨g,0,none⟩) (R.length+1) c7)) base ob c7 (some ⟨g,0,none⟩) R g' (sl ++ [(A2,c2)]):=by
 have h1:=hF.set (i:=R.length) (by simp) g' A2 c2 ha
 rw [set_lastF,set_lastS hl] at h1
 have hc5:=set5F_chg w7 g (R.length * 5) g' A2 c2
 have hc8:=(Chg.refl (fun b=>b=ob) (set5F w7 g (R.length * 5) g' A2 c2)).set ⟨ob,0,none⟩ (.slice (some ⟨g,0,none⟩) (R.length+1) c7) fun _=>rfl
 refine ⟨?_,qbm.chg h1 hc8 (fun k hk=>by have hk':k=ob:=hk;omega),(hc5.mono fun b _ h => .inr (by have h':b=g:=h;omega)).trans (hc8.mono fun b _ h => .inl h)⟩
 rw [qae (hc5.box hob (by show ¬ ob=g;omega)),List.length_append]
 rfl
theorem app_end2 {w7:World} {base ob c7 cx g:Nat} {X:Option Addr} {R:List Fm} {sl:List (Option Addr × Nat)} {g':Fm} {A2:Option Addr} {c2:Nat} (hF:qbm w7 base (some ⟨g,0,none⟩) c7 (R ++ [qbs]) (sl ++ [(none,0)])) (hl:sl.length=R.length) (ha:RdA w7 (fun k=>Nw base w7 k∧k≠g) g'.args A2 c2) (hg:base≤g)
  (hob:w7.heap[ob]? = some (.cells #[.slice X R.length cx] 22 (0,0))) (hobb:ob < base) :
  AppEnd w7 (set5F (w7.setCell ⟨ob,0,none⟩ (.slice (some ⟨g,0,none⟩) (R.length+1) c7)) g (R.length * 5) g' A2 c2) base ob c7 (some ⟨g,0,none⟩) R g' (sl ++ [(A2,c2)]):=by
 obtain ⟨w8,hw8⟩ : ∃ w8,w8=w7.setCell ⟨ob,0,none⟩ (.slice (some ⟨g,0,none⟩) (R.length+1) c7):=⟨_,rfl⟩
 have hc8:Chg (fun b=>b=ob) w7 w8:=by rw [hw8];exact (Chg.refl (fun b=>b=ob) w7).set ⟨ob,0,none⟩ _ fun _=>rfl
 have hob8:w8.heap[ob]? = some (.cells #[.slice (some ⟨g,0,none⟩) (R.length+1) c7] 22 (0,0)):=by rw [hw8,qae hob];rfl
 have hF8:=hF.chg hc8 (fun k hk=>by have hk':k=ob:=hk;omega)
 have ha8:RdA w8 (fun k=>Nw base w8 k∧k≠g) g'.args A2 c2:=by
  have hk:Keeps (fun k=>Nw base w7 k∧k≠g) w7 w8:=hc8.keeps fun k _ hk hv=>by have hv':k=ob:=hv;have:=hk.1.1;omega
  exact (ha.keep hk).mono fun k hk' hl'=>⟨⟨hk'.1.1,hk'.1.2.of_eq (hk.block k hk' hk'.1.2.lt)⟩,hk'.2⟩
 rw [←hw8]
 have h1:=hF8.set (i:=R.length) (by simp) g' A2 c2 ha8
 rw [set_lastF,set_lastS hl] at h1
 have hc5:=set5F_chg w8 g (R.length * 5) g' A2 c2
 refine ⟨?_,h1,(hc8.mono fun b _ h => .inl h).trans (hc5.mono fun b _ h => .inr (by have h':b=g:=h;omega))⟩
 rw [hc5.box hob8 (by show ¬ ob=g;omega),List.length_append]
 rfl
theorem nodes_top {D:Dom} (f:Fm) (v:Value) (w:World) (h:qbj w D v f) (hg:GF w) (hk:GK w) :
  Calls Tryz.prog 10 #[v] w fun e w' => ∃ A c,e = .returned (.slice A (qbh f).length c)∧RdA w' (Nw w.heap.size w') (qbh f) A c∧Below w.heap.size w w':=by
 obtain ⟨A,c,rfl,ha⟩:=h
 have HA:=hid ha.old
 have HG:=hid hg
 have HK:=hid hk
 clear ha hg hk
 refine (callsIn_wide (n:=3)).1 (callsIn_of_wp_marks Tryz.func10 rfl trivial ?_ rfl)
 simp only [Tryz.ntmps10,List.size_toArray,List.length_cons,List.length_nil,Nat.reduceAdd,Nat.reduceSub,Array.replicate_succ,Array.replicate_zero,List.push_toArray,List.append_toArray,List.nil_append,List.cons_append]
 refine wpIn_wide.2 ?_
 go_upto_region 1 with (fail)
 refine qai fun W hW => ?_
 have HB:=hid (show Below w.heap.size w W by rw [hW];go_grown)
 have HE:=hid (show qcj W w.heap.size f A c by show W.heap[w.heap.size]? = _;rw [hW];exact at_new _ _ _ rfl)
 have HSW:=hid (show W.heap.size=w.heap.size+1 by rw [hW];simp)
 clear hW
 have HF0:Hid (qcp W (· < w.heap.size+1) w.heap.size 0 f A c):=hid (qcj.hasF HE.out (Nat.lt_succ_self _) ((HA.out.keep (Keeps.of_below HB.out fun _ h=>h)).mono fun k hk _=>Nat.lt_succ_of_lt hk))
 have HLO:=hid (qi9 f w.heap.size 0 A c W HF0.out (HG.out.below HB.out HG.out.pos) (HK.out.below HB.out HK.out.pos))
 obtain ⟨lo,hlo⟩ : ∃ r,qau f=r:=⟨_,rfl⟩
 have HLB:=hid hlo
 rw [hlo] at HLO
 clear hlo
 cases lo
 ·have HZ:=hid (show qbh f = [] by unfold qbh;rw [HLB.out];rfl)
  go_wp2_with (go_at_call 42;(with_reducible refine HLO.out.mono ?_);rintro e W1 ⟨rfl,hb1⟩;have HB1:=hid hb1;clear hb1)
  refine qjd (ds := []) rfl (qg4.nil _) (v := .slice none 0 0) (fun w' hc' => ?_) (fun w' hc'=>⟨none,0,by rw [HZ.out];rfl,by rw [HZ.out];exact RdA.nil _ _ _ (by omega),(qaf HB.out HB1.out).trans (hc'.below (fun b hb h=>by cases h) (qaf HB.out HB1.out).size)⟩)
  simp [results,Tryz.results10,go_sem]
 ·have HZ:=hid (qgt HLB.out)
  have HSZ:=hid (show f.size≤400 from (qb7 HLB.out).1)
  go_upto_region 4 with (go_at_call 42;(with_reducible refine HLO.out.mono ?_);rintro e W1 ⟨rfl,hb1⟩;have HB1:=hid hb1;clear hb1)
  refine qai fun V hV => ?_
  have HOUT:=hid (show V.heap[W1.heap.size]? = some (.cells #[.slice none 0 0] 22 (0,0)) by rw [hV];exact at_new _ _ _ rfl)
  have hb2:Below W1.heap.size W1 V:=by rw [hV];go_grown
  have HBV:=hid (qaf HB1.out hb2)
  have HSV:=hid (show V.heap.size=W1.heap.size+1 by rw [hV];simp)
  clear hV hb2
  obtain ⟨ob,hob⟩ : ∃ x,W1.heap.size=x:=⟨_,rfl⟩
  have HOBS:=hid (show w.heap.size+1≤ob by rw [←hob];have:=HB1.out.size;have:=HSW.out;omega)
  rw [hob] at HOUT HSV ⊢
  clear hob
  go_wp2_with (first | (go_at_call 43;refine (qf1 _ V).mono ?_;rintro e w2 ⟨rfl,rfl⟩))
  refine qai fun W2 hW2 => ?_
  have hb2:Below V.heap.size V W2:=by rw [hW2];go_grown
  have HP2:=hid (show W2.cell? ⟨V.heap.size,0,none⟩=some (.pointer (some ⟨w.heap.size,0,none⟩)) by rw [hW2];exact qaa (at_new _ _ _ rfl) (i:=0) rfl)
  have HS2:=hid (show W2.heap.size=ob+2 by rw [hW2];simp;have:=HSV.out;omega)
  have HB2:=hid (qaf HB.out (qaf HBV.out hb2))
  have HO2:=hid ((hb2.block _ (lt_of_block HOUT.out)).trans HOUT.out)
  have HF2:=hid (HF0.out.keep (Keeps.of_below (qaf HBV.out hb2) fun k (hk:k < w.heap.size+1)=>by have:=HSW.out;omega))
  clear hW2 hb2
  refine qi6 f w.heap.size 0 V.heap.size (w.heap.size+1) A c (fun b=>b=ob∨W2.heap.size+4≤b)
   (fun k W' => ∃ X cx sl,W'.heap[ob]? = some (.cells #[.slice X (qc7 [] ((qaw f).take k)).length cx] 22 (0,0))∧qbm W' (W2.heap.size+4) X cx (qc7 [] ((qaw f).take k)) sl)
   rfl rfl HF2.out (by have:=HS2.out;have:=HOBS.out;omega) HP2.out ?hZ ?hI ⟨none,0,[],HO2.out,qbm.nil _ _⟩ ?a1 ?hassign ?hround ?hdone
  case hassign =>
   intro l p W K hK
   gi_wp2
   exact hK
  case hZ=>intro b hb;have:=HS2.out;have:=HOBS.out;rcases hb with h | h <;> exact ⟨by omega,by omega⟩
  case hI =>
   rintro k W3 W4 ⟨X,cx,sl,h1,h2⟩ hc
   exact ⟨X,cx,sl,hc.box h1 (by have:=HS2.out;omega),h2.chg hc fun k hk=>hk.2⟩
  case hround =>
   rintro l k W3 b' o' A3 c3 hs3 hc3 ⟨X,cx,sl,h1,h2⟩ hlen hf3 _
   obtain ⟨x,hx⟩ : ∃ x,x=(qaw f).getD k default:=⟨_,rfl⟩
   rw [←hx] at hf3
   obtain ⟨R,hR⟩ : ∃ R,R=qc7 [] ((qaw f).take k):=⟨_,rfl⟩
   rw [←hR] at h1 h2
   have HNX:=hid (show qc7 [] ((qaw f).take (k+1))=addP R x by rw [qam _ default hlen,qdq,gathP_one,hR,hx])
   have hxm:x∈qaw f:=by rw [hx];exact qax hlen
   have hxs:x.size≤400:=Nat.le_trans (qi8 hxm) HSZ.out
   have HRS:=hid (show ∀ y,y∈R→y.size≤1000000 from fun y hy=>by
    rw [hR,qfn] at hy
    rcases hy with hy | hy
    ·cases hy
    ·have:=qi8 (List.mem_of_mem_take hy);have:=HSZ.out;omega)
   have HRL:=hid (show R.length≤400 by
    have h3:=(qfo ((qaw f).take k) []).2
    have h4:=qgq f
    have:=HSZ.out
    rw [←hR,List.length_take] at h3
    simp at h3;omega)
   have HFR:=hid h2
   have HO3:=hid h1
   have HF3:=hid hf3
   have HXS:=hid hxs
   have hob:=lt_of_block h1
   have s0:=qaa h1 (i:=0) rfl
   have HFI:=hid (qhi R X cx R.length x b' o' A3 c3 W3 rfl (h2.rd (by have:=HRL.out;omega)) hf3 HRS.out (.inl fun _ h=>h.2))
   have hfn1:Fence.wide.fn 44:=trivial
   have hfd:Fence.wide.depth=none:=rfl
   obtain ⟨fz,hfz⟩ : ∃ fz,findF R x=fz:=⟨_,rfl⟩
   rw [hfz] at HFI
   by_cases hmx:x∈R
   ·have hz2 : ¬ fz < 0:=by rw [←hfz];unfold findF;rw [if_pos hmx];omega
    have HNX2:=hid (show qc7 [] ((qaw f).take (k+1))=R by rw [HNX.out];unfold addP;rw [if_pos hmx])
    clear hx hR hlen hxm hxs hfz hmx h1 h2 hf3
    gi_wp2_with (gi_at_call 44;(refine (CallsIn.inRound l (callsIn_wide.2 HFI.out)).mono ?_);rintro e W4 ⟨rfl,hb4⟩)
    refine ⟨Chg.of_new hb4.below,X,cx,sl,?_,?_⟩
    ·rw [HNX2.out];exact (hb4.below.block _ (lt_of_block HO3.out)).trans HO3.out
    ·rw [HNX2.out];exact HFR.out.chg (Chg.of_new (V:=fun _=>False) hb4.below) fun _ h=>h.elim
   ·have hz2:fz < 0:=by rw [←hfz];unfold findF;rw [if_neg hmx];omega
    have HNX2:=hid (show qc7 [] ((qaw f).take (k+1))=R ++ [x] by rw [HNX.out];unfold addP;rw [if_neg hmx])
    have HXM:=hid hxm
    clear hx hR hlen hxm hxs hfz hmx h1 h2 hf3
    gi_upto_region 7 with (gi_at_call 44;(refine (CallsIn.inRound l (callsIn_wide.2 HFI.out)).mono ?_);rintro e W4 ⟨rfl,hb4⟩;have HB4:=hid hb4.below;clear hb4)
    have HO4:=hid ((HB4.out.block _ (lt_of_block HO3.out)).trans HO3.out)
    have HF4:=hid (HF3.out.keep (Keeps.of_below HB4.out fun k (hk:k < w.heap.size+1)=>by have:=HOBS.out;omega))
    have HFR4:=hid (HFR.out.chg (Chg.of_new (V:=fun _=>False) HB4.out) fun _ h=>h.elim)
    have HS4:=hid (show W2.heap.size+4≤W4.heap.size from Nat.le_trans hs3 HB4.out.size)
    have HGE:=hid (show ∀ k,(Value.slice X R.length cx).ownBlock=some k→W2.heap.size+4≤k∧k < W4.heap.size from fun k hk=>HFR4.out.ge hk)
    have HCH:Hid (∀ W,Below W4.heap.size W4 W→Calls Tryz.prog 45 #[.pointer (some ⟨b',o',none⟩),.func (.func 46) #[] #[]] W fun e w' => ∃ A2 c2,e = .returned (.agg #[.int .i64 x.op,.string x.name,.int .i64 x.val,.int .i64 x.bound,.slice A2 x.args.length c2])∧RdA w' (Nw W4.heap.size w') x.args A2 c2∧Below W4.heap.size W4 w'∧Below W.heap.size W w'):=hid fun W hb=>by
     refine (changed_any (nodesval_F W) x (fun _ _=>trivial) (by have:=HXS.out;omega) _ b' o' A3 c3 W (Below.refl _ _) (HF4.out.keep (Keeps.of_below hb fun k (hk:k < w.heap.size+1)=>by have:=HOBS.out;have:=HS4.out;have:=HS2.out;omega))).mono ?_
     rintro e w' ⟨v,rfl,hb',A2,c2,rfl,ha2⟩
     rw [aged_self] at ha2 ⊢
     exact ⟨A2,c2,rfl,ha2.base hb.size,qaf hb hb',hb'⟩
    have c0:=qaa HO4.out (i:=0) rfl
    have HCELL:Hid (∀ W':World,Below W4.heap.size W4 W'→W'.cell? ⟨ob,0,none⟩=some (.slice X R.length cx)):=hid fun W' hb=>qaa ((hb.block _ (lt_of_block HO4.out)).trans HO4.out) (i:=0) rfl
    obtain ⟨i0,hti,hz0,hz1,hz2'⟩:=info_parts qb8
    clear s0 hz2
    refine qj8 (n:=6) (fun W':World=>W'.cell? ⟨ob,0,none⟩=some (.slice X R.length cx)) (by kernel_rfl) (by kernel_rfl) (fun h=>by obtain ⟨_,_,h⟩:=h;exact h) (by simp) (by kernel_rfl) (by kernel_rfl) c0 (fun hHeld => ?_)
    simp only [List.take_succ_cons,List.take_zero,List.length_cons,List.length_nil,Nat.reduceAdd,Nat.reduceSub]
    clear c0
    refine wpAnyH_take (i:=0) (v := ?_) rfl (by kernel_rfl) (by kernel_rfl) (by kernel_rfl) (fun _ _ _ h=>h) (Or.inl ⟨by rfl,?_⟩) (by assumption) ?_
    rotate_left
    ·intro w hSw;(try dsimp only at hSw);go_simp;(try (with_reducible rfl))
    try simp only [Act.put,List.setIfInBounds_toArray,List.set_cons_zero,List.set_cons_succ]
    refine wpAnyH_take (i:=1) (v := ?_) rfl (by kernel_rfl) (by kernel_rfl) (by kernel_rfl) (fun _ _ _ h=>h) (Or.inl ⟨by rfl,?_⟩) (by assumption) ?_
    rotate_left
    ·intro w hSw;(try dsimp only at hSw);go_simp;(try (with_reducible rfl))
    try simp only [Act.put,List.setIfInBounds_toArray,List.set_cons_zero,List.set_cons_succ]
    refine wpAnyH_take (i:=3) (v := ?_) rfl (by kernel_rfl) (by kernel_rfl) (by kernel_rfl) (fun _ _ _ h=>h) (Or.inl ⟨by rfl,?_⟩) (by assumption) ?_
    rotate_left
    ·intro w hSw;(try dsimp only at hSw);go_simp;(try (with_reducible rfl))
    try simp only [Act.put,List.setIfInBounds_toArray,List.set_cons_zero,List.set_cons_succ]
    refine wpAnyH_ready (rs := [2,4]) (by kernel_rfl) (by simp) (AllReadyH.cons rfl (fun K hK => ?_) (AllReadyH.cons rfl (fun K hK => ?_) AllReadyH.nil))
    ·go_simp
     (go_at_call 45;(with_reducible refine (HCH.out _ ?_).mono ?_);exact (Below.refl _ _).drew;rintro e V1 ⟨A2,c2,rfl,ha2,hb1,hb1'⟩;have HV1:=hid hb1;have HV1':=hid hb1';have HA2:=hid ha2;clear hb1 ha2 hb1')
     go_wp2_with fail
     refine hK.out _ _ ?_ (fun hHeld => ?_)
     ·exact HCELL.out _ HV1.out
     clear hK K
     try simp only [Act.put,List.setIfInBounds_toArray,List.set_cons_zero,List.set_cons_succ]
     refine wpAnyH_ready (rs := [4]) (by kernel_rfl) (by simp) (AllReadyH.cons rfl (fun K hK => ?_) AllReadyH.nil)
     go_simp
     refine hK.out _ _ ?_ (fun hHeld => ?_)
     ·exact HCELL.out _ (HV1.out.alloc HV1.out.size _)
     clear hK K
     try simp only [Act.put,List.setIfInBounds_toArray,List.set_cons_zero,List.set_cons_succ]
     refine qa6 (fun wA hwA hHeld => ?_) hHeld
     have hbA:Below V1.heap.size V1 wA:=by rw [hwA];exact (Below.refl _ _).alloc (Nat.le_refl _) _
     have hrA:Rd wA qbi 5 (some ⟨V1.heap.size,0,none⟩) 1 1 qgb:=by rw [hwA];exact Rd.fresh (D:=qbi) rfl trivial (by simp) (by omega)
     have HBA:=hid (qaf HV1.out hbA)
     have HA3:=hid (show RdA wA (Nw W4.heap.size wA) x.args A2 c2 from ((HA2.out.mono (E:=fun k=>Nw W4.heap.size V1 k∧k < V1.heap.size) fun k hk hl=>⟨hk,hl⟩).keep (Keeps.of_below hbA fun _ h=>h.2)).mono fun k hk _=>⟨hk.1.1,hk.1.2.of_eq (hbA.block k hk.2)⟩)
     have hfA:=HFR4.out.chg (Chg.of_new (V:=fun _=>False) HBA.out) fun _ h=>h.elim
     have HFA:=hid hfA
     have hoA:=hfA.own
     clear hwA hfA
     refine wpAnyH_ready (rs := [5]) (by kernel_rfl) (by simp) (AllReadyH.cons rfl (fun K hK => ?_) AllReadyH.nil)
     refine qat _ (by rfl) _ _ 22 (by rfl) (W2.heap.size+4) 24 i0 _ 5 64 Tryz.underlying22 hti hz0 hz1 hz2' rfl (by omega) (.slice X R.length cx) R.length _ (by rfl) hoA _ (some ⟨V1.heap.size,0,none⟩) 1 1 _ (by rfl) hrA (by simp [Value.oneCell',qgb]) (by have:=HRL.out;omega) (qa5 (by have:=HRL.out;omega)) (by have:=HBA.out.size;have:=HS4.out;omega) ?_
     intro A7 c7 w7 hown7 hg7 hat7
     obtain ⟨gb,rfl,hgb,hF7,hA7,hgl⟩:=app_zero HFA.out hown7 hg7 hat7 HA3.out (by have:=HS4.out;omega) (fun k hk=>(HGE.out k hk).2)
     have hne : ∀ k',(Value.slice X R.length cx).ownBlock=some k'→W2.heap.size+4≤k':=fun k' hk'=>(HGE.out k' hk').1
     have hO7:w7.heap[ob]? = some (.cells #[.slice X R.length cx] 22 (0,0)):=(hg7.block ob (Nat.lt_of_lt_of_le (lt_of_block HO4.out) HBA.out.size) (fun e=>by have:=hne _ e.symm;have:=HS2.out;omega)).trans ((HBA.out.block _ (lt_of_block HO4.out)).trans HO4.out)
     have HC7:=hid (show Chg (fun b=>b=ob∨W2.heap.size+4≤b) W3 w7 from (Chg.of_new (qaf HB4.out HBA.out)).trans ⟨hg7.os,hg7.tape,hg7.output,hg7.size,fun b hb hv=>hg7.block b hb (fun e=>hv (.inr (hne _ e.symm)))⟩)
     refine hK.out _ _ ?_ (fun hHeld => ?_)
     ·exact qaa hO7 (i:=0) rfl
     clear hK K
     try simp only [Act.put,List.setIfInBounds_toArray,List.set_cons_zero,List.set_cons_succ]
     obtain ⟨_,_,f',_,_,u0,u1,u2,u3,u4,v0,v1,v2,v3,v4,gl2,_⟩:=hF7.get (i:=R.length) (by simp)
     have z0:=qaa hO7 (i:=0) rfl
     have z1:=qad hO7 (i:=0)
     have z2:=lt_of_block hO7
     have hRl:(R.length:Int) < ((R.length+1:Nat):Int):=by omega
     have hRl2:(R.length:Int) < (R.length:Int)+1:=by omega
     have HF7:=hid hF7
     have HA7:=hid hA7
     have HO7:=hid hO7
     have HGB:=hid hgb
     have hog : ¬ ob=gb:=by have:=HS2.out;omega
     have hgo : ¬ gb=ob:=fun e=>hog e.symm
     clear hF7 hA7 hO7 hgb hown7 hg7 hat7 hne hoA hrA hHeld
     refine wpAnyH_done (by kernel_rfl) ?_ _
     intro ff
     refine ⟨fun _=>True,trivial,?_⟩
     simp only [List.length_cons,List.length_nil,Nat.reduceAdd,Nat.reduceSub]
     refine wpAnyH_take (i:=6) (v := ?_) rfl (by kernel_rfl) (by kernel_rfl) (by kernel_rfl) (fun _ _ _ h=>h) (Or.inl ⟨by rfl,?_⟩) trivial ?_
     rotate_left
     ·intro w hSw;(try dsimp only at hSw);go_simp;(try (with_reducible rfl))
     try simp only [Act.put,List.setIfInBounds_toArray,List.set_cons_zero,List.set_cons_succ]
     refine wpAnyH_ready (rs := [7,8]) (by kernel_rfl) (by simp) (AllReadyH.cons rfl (fun K hK => ?_) (AllReadyH.cons rfl (fun K hK => ?_) AllReadyH.nil))
     ·go_simp
      refine hK.out _ _ trivial (fun _ => ?_)
      clear hK K
      try simp only [Act.put,List.setIfInBounds_toArray,List.set_cons_zero,List.set_cons_succ]
      refine wpAnyH_ready (rs := [8]) (by kernel_rfl) (by simp) (AllReadyH.cons rfl (fun K hK => ?_) AllReadyH.nil)
      go_simp
      refine hK.out _ _ trivial (fun _ => ?_)
      clear hK K
      try simp only [Act.put,List.setIfInBounds_toArray,List.set_cons_zero,List.set_cons_succ]
      refine wpAnyH_done (by kernel_rfl) ?_ _
      have hen:=app_end1 (X:=X) (cx:=cx) HF7.out HFR.out.len HA7.out HGB.out HO7.out (by have:=HS2.out;omega)
      refine ⟨HC7.out.trans hen.2.2,some ⟨gb,0,none⟩,c7,_,by rw [HNX2.out];exact hen.1,by rw [HNX2.out];exact hen.2.1⟩
     ·go_simp
      refine hK.out _ _ trivial (fun _ => ?_)
      clear hK K
      try simp only [Act.put,List.setIfInBounds_toArray,List.set_cons_zero,List.set_cons_succ]
      refine wpAnyH_ready (rs := [7]) (by kernel_rfl) (by simp) (AllReadyH.cons rfl (fun K hK => ?_) AllReadyH.nil)
      go_simp
      refine hK.out _ _ trivial (fun _ => ?_)
      clear hK K
      try simp only [Act.put,List.setIfInBounds_toArray,List.set_cons_zero,List.set_cons_succ]
      refine wpAnyH_done (by kernel_rfl) ?_ _
      have hen:=app_end2 (X:=X) (cx:=cx) HF7.out HFR.out.len HA7.out HGB.out HO7.out (by have:=HS2.out;omega)
      refine ⟨HC7.out.trans hen.2.2,some ⟨gb,0,none⟩,c7,_,by rw [HNX2.out];exact hen.1,by rw [HNX2.out];exact hen.2.1⟩
    ·go_simp
     refine hK.out _ _ ?_ (fun hHeld => ?_)
     ·exact HCELL.out _ ((Below.refl _ _).drew.alloc (Nat.le_refl _) _)
     clear hK K
     try simp only [Act.put,List.setIfInBounds_toArray,List.set_cons_zero,List.set_cons_succ]
     refine qa6 (fun wB hwB hHeld => ?_) hHeld
     have hbB:Below W4.heap.size W4 wB:=by rw [hwB];exact (Below.refl _ _).drew.alloc (Nat.le_refl _) _
     have hzB:wB.heap[W4.heap.size]? = some (.cells #[.int .i64 0,.string ⟨#[]⟩,.int .i64 0,.int .i64 0,.slice none 0 0] 24 (0,0)):=by rw [hwB];exact at_new _ _ _ rfl
     have HBB:=hid hbB
     have HRB:=hid (show Rd wB qbi 5 (some ⟨W4.heap.size,0,none⟩) 1 1 qgb by rw [hwB];exact Rd.fresh (D:=qbi) rfl trivial (by simp) (by omega))
     have HZB:=hid hzB
     clear hwB hbB hzB
     refine wpAnyH_ready (rs := [2]) (by kernel_rfl) (by simp) (AllReadyH.cons rfl (fun K hK => ?_) AllReadyH.nil)
     go_simp
     (go_at_call 45;(with_reducible refine (HCH.out _ ?_).mono ?_);exact HBB.out;rintro e V1 ⟨A2,c2,rfl,ha2,hb1,hb1'⟩;have HV1:=hid hb1;have HV1':=hid hb1';have HA2:=hid ha2;clear hb1 ha2 hb1')
     go_wp2_with fail
     refine hK.out _ _ ?_ (fun hHeld => ?_)
     ·exact HCELL.out _ HV1.out
     clear hK K
     try simp only [Act.put,List.setIfInBounds_toArray,List.set_cons_zero,List.set_cons_succ]
     have hrA:Rd V1 qbi 5 (some ⟨W4.heap.size,0,none⟩) 1 1 qgb:=(HRB.out.old.keep (Keeps.of_below HV1'.out fun _ h=>h)).mono fun _ _ _=>trivial
     have HBA:=hid HV1.out
     have HA3:=hid HA2.out
     have hfA:=HFR4.out.chg (Chg.of_new (V:=fun _=>False) HBA.out) fun _ h=>h.elim
     have HFA:=hid hfA
     have hoA:=hfA.own
     clear hfA
     refine wpAnyH_ready (rs := [5]) (by kernel_rfl) (by simp) (AllReadyH.cons rfl (fun K hK => ?_) AllReadyH.nil)
     refine qat _ (by rfl) _ _ 22 (by rfl) (W2.heap.size+4) 24 i0 _ 5 64 Tryz.underlying22 hti hz0 hz1 hz2' rfl (by omega) (.slice X R.length cx) R.length _ (by rfl) hoA _ (some ⟨W4.heap.size,0,none⟩) 1 1 _ (by rfl) hrA (by simp [Value.oneCell',qgb]) (by have:=HRL.out;omega) (qa5 (by have:=HRL.out;omega)) (by have:=HBA.out.size;have:=HS4.out;omega) ?_
     intro A7 c7 w7 hown7 hg7 hat7
     obtain ⟨gb,rfl,hgb,hF7,hA7,hgl⟩:=app_zero HFA.out hown7 hg7 hat7 HA3.out (by have:=HS4.out;omega) (fun k hk=>(HGE.out k hk).2)
     have hne : ∀ k',(Value.slice X R.length cx).ownBlock=some k'→W2.heap.size+4≤k':=fun k' hk'=>(HGE.out k' hk').1
     have hO7:w7.heap[ob]? = some (.cells #[.slice X R.length cx] 22 (0,0)):=(hg7.block ob (Nat.lt_of_lt_of_le (lt_of_block HO4.out) HBA.out.size) (fun e=>by have:=hne _ e.symm;have:=HS2.out;omega)).trans ((HBA.out.block _ (lt_of_block HO4.out)).trans HO4.out)
     have HC7:=hid (show Chg (fun b=>b=ob∨W2.heap.size+4≤b) W3 w7 from (Chg.of_new (qaf HB4.out HBA.out)).trans ⟨hg7.os,hg7.tape,hg7.output,hg7.size,fun b hb hv=>hg7.block b hb (fun e=>hv (.inr (hne _ e.symm)))⟩)
     refine hK.out _ _ ?_ (fun hHeld => ?_)
     ·exact qaa hO7 (i:=0) rfl
     clear hK K
     try simp only [Act.put,List.setIfInBounds_toArray,List.set_cons_zero,List.set_cons_succ]
     obtain ⟨_,_,f',_,_,u0,u1,u2,u3,u4,v0,v1,v2,v3,v4,gl2,_⟩:=hF7.get (i:=R.length) (by simp)
     have z0:=qaa hO7 (i:=0) rfl
     have z1:=qad hO7 (i:=0)
     have z2:=lt_of_block hO7
     have hRl:(R.length:Int) < ((R.length+1:Nat):Int):=by omega
     have hRl2:(R.length:Int) < (R.length:Int)+1:=by omega
     have HF7:=hid hF7
     have HA7:=hid hA7
     have HO7:=hid hO7
     have HGB:=hid hgb
     have hog : ¬ ob=gb:=by have:=HS2.out;omega
     have hgo : ¬ gb=ob:=fun e=>hog e.symm
     clear hF7 hA7 hO7 hgb hown7 hg7 hat7 hne hoA hrA hHeld
     refine wpAnyH_done (by kernel_rfl) ?_ _
     intro ff
     refine ⟨fun _=>True,trivial,?_⟩
     simp only [List.length_cons,List.length_nil,Nat.reduceAdd,Nat.reduceSub]
     refine wpAnyH_take (i:=6) (v := ?_) rfl (by kernel_rfl) (by kernel_rfl) (by kernel_rfl) (fun _ _ _ h=>h) (Or.inl ⟨by rfl,?_⟩) trivial ?_
     rotate_left
     ·intro w hSw;(try dsimp only at hSw);go_simp;(try (with_reducible rfl))
     try simp only [Act.put,List.setIfInBounds_toArray,List.set_cons_zero,List.set_cons_succ]
     refine wpAnyH_ready (rs := [7,8]) (by kernel_rfl) (by simp) (AllReadyH.cons rfl (fun K hK => ?_) (AllReadyH.cons rfl (fun K hK => ?_) AllReadyH.nil))
     ·go_simp
      refine hK.out _ _ trivial (fun _ => ?_)
      clear hK K
      try simp only [Act.put,List.setIfInBounds_toArray,List.set_cons_zero,List.set_cons_succ]
      refine wpAnyH_ready (rs := [8]) (by kernel_rfl) (by simp) (AllReadyH.cons rfl (fun K hK => ?_) AllReadyH.nil)
      go_simp
      refine hK.out _ _ trivial (fun _ => ?_)
      clear hK K
      try simp only [Act.put,List.setIfInBounds_toArray,List.set_cons_zero,List.set_cons_succ]
      refine wpAnyH_done (by kernel_rfl) ?_ _
      have hen:=app_end1 (X:=X) (cx:=cx) HF7.out HFR.out.len HA7.out HGB.out HO7.out (by have:=HS2.out;omega)
      refine ⟨HC7.out.trans hen.2.2,some ⟨gb,0,none⟩,c7,_,by rw [HNX2.out];exact hen.1,by rw [HNX2.out];exact hen.2.1⟩
     ·go_simp
      refine hK.out _ _ trivial (fun _ => ?_)
      clear hK K
      try simp only [Act.put,List.setIfInBounds_toArray,List.set_cons_zero,List.set_cons_succ]
      refine wpAnyH_ready (rs := [7]) (by kernel_rfl) (by simp) (AllReadyH.cons rfl (fun K hK => ?_) AllReadyH.nil)
      go_simp
      refine hK.out _ _ trivial (fun _ => ?_)
      clear hK K
      try simp only [Act.put,List.setIfInBounds_toArray,List.set_cons_zero,List.set_cons_succ]
      refine wpAnyH_done (by kernel_rfl) ?_ _
      have hen:=app_end2 (X:=X) (cx:=cx) HF7.out HFR.out.len HA7.out HGB.out HO7.out (by have:=HS2.out;omega)
      refine ⟨HC7.out.trans hen.2.2,some ⟨gb,0,none⟩,c7,_,by rw [HNX2.out];exact hen.1,by rw [HNX2.out];exact hen.2.1⟩
  case hdone =>
   rintro W3 hc3 ⟨X,cx,sl,h1,h2⟩ hD3
   rw [List.take_length,←HZ.out] at h1 h2
   have HFR:=hid h2
   have HD3:=hid hD3
   have s0:=qaa h1 (i:=0) rfl
   have s1:=lt_of_block h1
   have HBW:=hid (HB2.out.trans (hc3.below (B:=w.heap.size) (fun b hb h=>by have:=HS2.out;have:=HOBS.out;rcases h with h | h <;> omega) (by have:=HS2.out;have:=HOBS.out;omega)))
   have HNL:=hid (show (qbh f).length≤400 by
    rw [HZ.out]
    have h3:=(qfo (qaw f) []).2
    have h4:=qgq f
    have:=HSZ.out
    simp at h3;omega)
   clear hc3 h2 hD3 h1
   dsimp only
   go_wp2_with fail
   refine qjd (ds := [W2.heap.size]) rfl ⟨by simp,fun D hD=>by rw [List.mem_singleton] at hD;subst hD;exact HD3.out⟩ (v := .slice X (qbh f).length cx) (fun w' hc' => ?_) (fun w' hc'=>⟨X,cx,rfl,?_,HBW.out.trans (hc'.below (fun b hb h=>by rw [List.mem_singleton] at h;have:=HS2.out;have:=HOBS.out;omega) HBW.out.size)⟩)
   ·simp [results,Tryz.results10,go_sem]
   ·have hrd:=(HFR.out.chg hc' (fun x hx=>by rw [List.mem_singleton] at hx;omega)).rd (by have:=HNL.out;omega)
    exact hrd.base (by have:=HS2.out;have:=HOBS.out;omega)
end Go.Proofs.YtdpbgcmfeajigaaGreatDoor
namespace Go.Proofs.YtdpbgcmfeajigaaGreatDoor
open Go.RowKit Go.Shelf
attribute [local go_sem] qab run_store_func Oper.semAt_some
theorem put1_any {F:Dom} (gs:List Fm) (A:Option Addr) (c n mem mb sb:Nat) (f:Fm) (fb fo:Nat) (A2:Option Addr) (c2:Nat) (w:World) (hn:n=gs.length) (h:RdA w (Cl w) gs A c) (hL:qf3 gs=true) (hmem:mem < 256) (hmb:w.cell? ⟨mb,0,none⟩=some (.int .i64 (mem:Int))) (hsb:w.cell? ⟨sb,0,none⟩=some (.slice A n c)) (hf:qcp w F fb fo f A2 c2) (hm:f∈gs) :
  Calls Tryz.prog 77 #[.pointer (some ⟨fb,fo,none⟩),.pointer (some ⟨mb,0,none⟩),.pointer (some ⟨sb,0,none⟩)] w fun e w'=>e = .returned (.int .i64 (bitV gs mem f))∧Below w.heap.size w w':=by
 have HA:=hid h
 have HF:=hid hf.old
 have HN:=hid hn
 have HL:=hid hL
 have hk:qge f gs < gs.length:=qf5.2 hm
 have hfi:findF gs f=(qge f gs:Int):=by unfold findF;rw [if_pos hm]
 have hn8:=(qcz hL).1
 obtain ⟨k,hke⟩ : ∃ k,qge f gs=k:=⟨_,rfl⟩
 rw [hke] at hk hfi
 obtain ⟨q,hq⟩ : ∃ q,mem / 2 ^ k=q:=⟨_,rfl⟩
 have hqi:(mem:Int) / 2 ^ k=(q:Int):=by
  rw [←hq];simp
 have hql:q≤mem:=by rw [←hq];exact Nat.div_le_self _ _
 have hb:=qj5 (a:=q) (by omega)
 have HS:=hid (saysB_eq gs mem f)
 rw [hke,hq] at HS
 obtain ⟨r,hr⟩ : ∃ r,q % 2=r:=⟨_,rfl⟩
 have hr2:r < 2:=by omega
 rw [hr] at hb HS
 have HSB:=hid (show bitV gs mem f=(r:Int) by
  unfold bitV
  rw [HS.out]
  by_cases e:r=1
  ·rw [e];rfl
  ·obtain rfl:r=0:=by omega
   rfl)
 have h0:(0:Int)≤(k:Int):=by omega
 have h1:(k:Int)≤64:=by omega
 have HFI:Hid (∀ W,Below w.heap.size w W→Calls Tryz.prog 44 #[.slice A n c,.pointer (some ⟨fb,fo,none⟩)] W fun e w'=>e = .returned (.int .i64 (k:Int))∧Below w.heap.size w w'):=hid fun W hb=>by
  refine (qhi gs A c n f fb fo A2 c2 W HN.out (HA.out.clBelow hb) (HF.out.keep (Keeps.of_below hb fun _ h=>h)) (fun g hg=>qex HL.out hg) (.inl fun _ h=>h)).mono ?_
  rintro e w' ⟨rfl,hb'⟩
  exact ⟨by rw [hfi],qaf hb hb'.below⟩
 have hmbl:=World.block_lt_of_cell? w _ hmb
 have hsbl:=World.block_lt_of_cell? w _ hsb
 have HMB:=hid hmb
 have HSB2:=hid hsb
 have HCELL:Hid (∀ W':World,Below w.heap.size w W'→W'.cell? ⟨mb,0,none⟩=some (.int .i64 (mem:Int))∧W'.cell? ⟨sb,0,none⟩=some (.slice A n c)):=hid fun W' hb =>
  ⟨(hb.cell (p:=⟨mb,0,none⟩) hmbl).trans HMB.out,(hb.cell (p:=⟨sb,0,none⟩) hsbl).trans HSB2.out⟩
 have HI0:=hid (Below.refl w.heap.size w)
 have HI1:=hid (show Below w.heap.size w w.drew from (Below.refl w.heap.size w).drew)
 have HI2:=hid (show ∀ i,Below w.heap.size w (w.drewN i) from fun i=>below_drewN (Below.refl w.heap.size w) i)
 obtain ⟨rv,hrv⟩ : ∃ rv,bitV gs mem f=rv:=⟨_,rfl⟩
 rw [hrv] at HSB ⊢
 have HRV:=hid HSB.out
 clear h hf hn hL hk hfi hn8 hm hke hq hql hr hr2 hrv HSB
 go_enter Tryz.func77,Tryz.ntmps77
 go_upto_region 1 with (fail)
 go_region_held3 (fun W':World=>W'.cell? ⟨mb,0,none⟩=some (.int .i64 (mem:Int))∧W'.cell? ⟨sb,0,none⟩=some (.slice A n c))
  (first | (with_reducible exact HCELL.out _ hI) | (go_keep;done))
  ((go_at_call 44;(with_reducible refine (HFI.out _ (by first | exact HI0.out | exact HI1.out | exact HI2.out _)).mono ?_);rintro e W9 ⟨rfl,hI⟩))
 all_goals
  have HI:=hid hI
  clear hI
  go_wp2_with fail
  go_ret
  exact ⟨by rw [HRV.out];rfl,HI.out⟩
theorem build_f0 (w:World):(Instr.build 24 #[]).run Tryz.prog w = .ok (.agg #[.int .i64 0,.string ⟨#[]⟩,.int .i64 0,.int .i64 0,.slice none 0 0]) w:=run_build w 24 _ _ (by kernel_rfl)
attribute [local go_sem] build_f0
theorem qh5.base {f:Fm} {w w1 w':World} {v:Value} (h:qh5 f w1 v w') (hb:Below w.heap.size w w1):qh5 f w v w':=by
 obtain ⟨hbl,A,c,e,ha⟩:=h
 exact ⟨qaf hb hbl,A,c,e,ha.base hb.size⟩
theorem put_top {D:Dom} (gs:List Fm) (A:Option Addr) (c n:Nat) (mem:Int) (f:Fm) (v:Value) (w:World) (hn:n=gs.length) (h:RdA w (Cl w) gs A c) (hL:qf3 gs=true) (hF:qbj w D v f) (hl:qau f=true) (hm : ∀ g,g∈qaw f→g∈gs) (hg:GF w) (hk:GK w) (hz:f.size≤1000000)
  (m:Nat) (hmem:mem=(m:Int)) (r:Bool) (hr:decide (m < 2 ^ n)=r) :
  Calls Tryz.prog 27 #[.slice A n c,.int .i64 mem,v] w fun e w' => ∃ u,e = .returned u∧qh5 (if r then putZ gs m f else qbs) w u w':=by
 have hmf : ∀ (fn:Fn) (first cap:Array Value) (w:World),(Instr.makeFunc fn first cap).run Tryz.prog w = .ok (.func fn first cap) w:=fun _ _ _ _=>rfl
 subst hmem
 obtain ⟨A2,c2,rfl,ha⟩:=hF
 have HA:=hid h
 have HN:=hid hn
 have HL:=hid hL
 have HA2:=hid ha.old
 have HLO:=hid hl
 have HM:=hid hm
 have HG:=hid hg
 have HK:=hid hk
 have HR:=hid hr
 have HZ:=hid hz
 have hn8:n≤8:=by rw [hn];exact (qcz hL).1
 have HN8:=hid hn8
 clear h hn hL ha hl hm hg hk hr hn8 hz
 go_enter Tryz.func27,Tryz.ntmps27
 go_upto_region 1 with (fail)
 refine qai fun U hU => ?_
 have HB:=hid (show Below w.heap.size w U by rw [hU];go_grown)
 have HE0:=hid (show U.heap[w.heap.size]? = some (.cells #[.slice A n c] 22 (0,0)) by rw [hU,qan _ _ _ (by simp <;> omega),qan _ _ _ (by simp <;> omega),qan _ _ _ (by simp)];exact at_new _ _ _ rfl)
 have HE1:=hid (show U.heap[w.heap.size+1]? = some (.cells #[.int .i64 (m:Int)] 3 (0,0)) by rw [hU,qan _ _ _ (by simp <;> omega),qan _ _ _ (by simp)];exact at_new _ _ _ (by simp))
 have HE2:=hid (show qcj U (w.heap.size+2) f A2 c2 by show U.heap[w.heap.size+2]? = _;rw [hU,qan _ _ _ (by simp)];exact at_new _ _ _ (by simp))
 have HE3:=hid (show OB U (w.heap.size+3) 0 ⟨#[]⟩ 0 0 none 0 0 by show U.heap[w.heap.size+3]? = _;rw [hU];exact at_new _ _ _ (by simp))
 clear hU
 have HIM:=hid (qgw (D:=Cl U) gs A c n (m:Int) U HN.out (HA.out.clBelow HB.out) (fun _ h=>h) HL.out (HG.out.below HB.out HG.out.pos) (HK.out.below HB.out HK.out.pos))
 have HRR:=hid (show (decide (0≤(m:Int)) && decide ((m:Int) < ((2 ^ n:Nat):Int)))=r by
  rw [decide_eq_true (by omega),Bool.true_and,←HR.out]
  exact decide_eq_decide.2 (by omega))
 rw [HRR.out] at HIM
 have s0:=qaa HE0.out (i:=0) rfl
 have s1:=qaa HE1.out (i:=0) rfl
 have s2:=lt_of_block HE0.out
 have s3:=lt_of_block HE1.out
 cases r
 ·go_upto_region 2 with (go_at_call 76;(with_reducible refine HIM.out.mono ?_);rintro e W1 ⟨rfl,hb1⟩;have HB1:=hid hb1;clear hb1 s0 s1 s2 s3)
  have hO1:=HE3.out.below HB1.out
  obtain ⟨z0,z1,z2,z3,z4,z5⟩:=hO1.cells
  have y0:=hO1.free 0
  have y1:=hO1.free 1
  have y2:=hO1.free 2
  have y3:=hO1.free 3
  have y4:=hO1.free 4
  have HO1:=hid hO1
  clear hO1
  go_wp2_with fail
  refine qag fun W9 hW9 => ?_
  have hO9:OB W9 (w.heap.size+3) 0 ⟨#[]⟩ 0 0 none 0 0:=by rw [hW9];exact qaq HO1.out
  have hC9:Chg (fun x=>x=w.heap.size+3) W1 W9:=by rw [hW9];exact qaj _ _ _ _ _ _ _
  clear hW9 z0 z1 z2 z3 z4 z5 y0 y1 y2 y3 y4
  obtain ⟨r0,r1,r2,r3,r4,r5⟩:=hO9.cells
  have hbw:=qaf HB.out HB1.out
  exact bodyPost_ret (v := .agg #[.int .i64 0,.string ⟨#[]⟩,.int .i64 0,.int .i64 0,.slice none 0 0]) (by simp [results,Tryz.results27,go_sem,r0,r1,r2,r3,r4]) rfl ⟨_,rfl,qh5.zero (hbw.trans (hC9.below (B:=w.heap.size) (fun x hx hv=>by have hv':x=w.heap.size+3:=hv;omega) hbw.size))⟩
 ·have HML:=hid (show m < 2 ^ n from of_decide_eq_true HR.out)
  have HM256:=hid (show m < 256 from Nat.lt_of_lt_of_le HML.out (pow_le8 HN8.out))
  have HHN:Hid (∀ W,Below U.heap.size U W→Calls Tryz.prog 65 #[.slice A n c,.pointer (some ⟨w.heap.size+2,0,none⟩)] W fun e w'=>e = .returned (.bool true)∧Below U.heap.size U w'):=hid fun W hb=>by
   have hbw:=qaf HB.out hb
   refine (qjz (E:=qbi) gs A c n f (w.heap.size+2) 0 A2 c2 W HN.out (HA.out.clBelow hbw) (fun _ h=>h) (fun f hf=>qex HL.out hf) (qcj.hasF (D:=qbi) (HE2.out.below hb) trivial ((HA2.out.keep (Keeps.of_below hbw fun _ h=>h)).mono fun _ _ _=>trivial)) HLO.out HM.out (HG.out.below hbw HG.out.pos) (HK.out.below hbw HK.out.pos)).mono ?_
   rintro e w' ⟨rfl,hb'⟩
   exact ⟨rfl,qaf hb hb'⟩
  go_upto_region 3 with (first
   | (go_at_call 76;(with_reducible refine HIM.out.mono ?_);rintro e W1 ⟨rfl,hb1⟩;have HB1:=hid hb1;clear s0 s1 s2 s3;have s0:=qaa ((hb1.block _ (lt_of_block HE0.out)).trans HE0.out) (i:=0) rfl;have s2:=lt_of_block ((hb1.block _ (lt_of_block HE0.out)).trans HE0.out);clear hb1)
   | (go_at_call 65;(with_reducible refine (HHN.out _ HB1.out).mono ?_);rintro e W2 ⟨rfl,hb2⟩;have HB2:=hid hb2;clear hb2 s0 s2))
  have HBW:=hid (qaf HB.out HB2.out)
  have HVF:=hid (show ValF 77 #[.pointer (some ⟨w.heap.size+1,0,none⟩),.pointer (some ⟨w.heap.size,0,none⟩)] (bitV gs m) (fun x=>x∈gs) W2 from
   ⟨enters_of Tryz.func77 (by kernel_rfl) rfl,fun D x b o A' c' W hx hb hfx=>put1_any gs A c n m (w.heap.size+1) w.heap.size x b o A' c' W HN.out (HA.out.clBelow (qaf HBW.out hb)) HL.out HM256.out
    (qaa (((qaf HB2.out hb).block _ (lt_of_block HE1.out)).trans HE1.out) (i:=0) rfl) (qaa (((qaf HB2.out hb).block _ (lt_of_block HE0.out)).trans HE0.out) (i:=0) rfl) hfx hx⟩)
  have HCH:=hid (changed_any HVF.out f HM.out HZ.out qbi (w.heap.size+2) 0 A2 c2 W2 (Below.refl _ _) (qcj.hasF (D:=qbi) (HE2.out.below HB2.out) trivial ((HA2.out.keep (Keeps.of_below HBW.out fun _ h=>h)).mono fun _ _ _=>trivial)))
  obtain ⟨g,hg⟩ : ∃ g,qde (bitV gs m) f=g:=⟨_,rfl⟩
  have HGE:=hid (show putZ gs m f=g from hg)
  rw [hg] at HCH
  clear hg
  go_wp2_with (go_at_call 45;(with_reducible refine HCH.out.mono ?_);rintro e W3 ⟨v3,rfl,hb3,A3,c3,rfl,ha3⟩;have HB3:=hid (qaf HBW.out hb3);have HA3:=hid ha3;have hO3:=(HE3.out.below HB2.out).below hb3;have HS3:=hid hb3.size;clear hb3 ha3;obtain ⟨z0,z1,z2,z3,z4,z5⟩:=hO3.cells;have y0:=hO3.free 0;have y1:=hO3.free 1;have y2:=hO3.free 2;have y3:=hO3.free 3;have y4:=hO3.free 4;have HO3:=hid hO3;clear hO3)
  refine qag fun W9 hW9 => ?_
  have hO9:OB W9 (w.heap.size+3) g.op g.name g.val g.bound A3 g.args.length c3:=by rw [hW9];exact qaq HO3.out
  have hC9:Chg (fun x=>x=w.heap.size+3) W3 W9:=by rw [hW9];exact qaj _ _ _ _ _ _ _
  clear hW9 z0 z1 z2 z3 z4 z5 y0 y1 y2 y3 y4
  obtain ⟨r0,r1,r2,r3,r4,r5⟩:=hO9.cells
  have hs2:=HB2.out.size
  have hs3:=lt_of_block HE3.out
  have hk:Keeps (Nw W2.heap.size W3) W3 W9:=hC9.keeps fun k _ hk hv=>by have hv':k=w.heap.size+3:=hv;have:=hk.1;omega
  refine bodyPost_ret (v := .agg #[.int .i64 g.op,.string g.name,.int .i64 g.val,.int .i64 g.bound,.slice A3 g.args.length c3]) (by simp [results,Tryz.results27,go_sem,r0,r1,r2,r3,r4]) rfl ⟨_,rfl,HB3.out.trans (hC9.below (B:=w.heap.size) (fun x hx hv=>by have hv':x=w.heap.size+3:=hv;omega) HB3.out.size),A3,c3,?_,?_⟩
  ·rw [HGE.out]
  ·rw [HGE.out]
   exact ((HA3.out.keep hk).mono fun k hk' _=>hk'.keep hk (fun _ h=>h)).base HBW.out.size
end Go.Proofs.YtdpbgcmfeajigaaGreatDoor
namespace Go.Proofs.YtdpbgcmfeajigaaGreatDoor
theorem looseB_ref (f:Fm):qau f=(decide (f.size≤400) && decide (f.depth≤60) && qcv f && qbp f && layL f):=by
 rw [Bool.eq_iff_iff]
 unfold qau layL
 simp only [Bool.and_eq_true,decide_eq_true_eq]
 rw [qb9,qga,coreA_split,qga]
 constructor
 ·rintro ⟨⟨a,b⟩,c,d,e⟩;exact ⟨⟨⟨⟨by omega,by omega⟩,c⟩,d⟩,e⟩
 ·rintro ⟨⟨⟨⟨a,b⟩,c⟩,d⟩,e⟩;exact ⟨⟨by omega,by omega⟩,c,d,e⟩
end Go.Proofs.YtdpbgcmfeajigaaGreatDoor
namespace Go.Proofs.YtdpbgcmfeajigaaGreatDoor
open Go.RowKit Go.Shelf
attribute [local go_sem] qab
def VF (w:World) (o:Int) (n:ByteArray) (v b:Int) (A:Option Addr) (k c:Nat) (f:Fm):Prop := ∃ gs,f = .mk o n v b gs∧k=gs.length∧RdA w qbi gs A c
section
variable {w w':World} {o:Int} {n:ByteArray} {v b:Int} {A:Option Addr} {k c:Nat} {f:Fm}
theorem VF.below (h:VF w o n v b A k c f) (hb:Below w.heap.size w w'):VF w' o n v b A k c f:=let ⟨gs,h1,h2,h3⟩:=h;⟨gs,h1,h2,h3.any hb⟩
theorem VF.rd (h:VF w o n v b A k c f):qbj w qbi (.agg #[.int .i64 o,.string n,.int .i64 v,.int .i64 b,.slice A k c]) f:=by
 obtain ⟨gs,rfl,rfl,h⟩:=h
 exact ⟨A,c,rfl,h⟩
theorem qbj.lit {D:Dom} {x:Value} {gs:List Fm} (h:qbj w D x f) (hf:f = .mk o n v b gs) (hk:gs.length=k) : ∃ A c,x = .agg #[.int .i64 o,.string n,.int .i64 v,.int .i64 b,.slice A k c]∧VF w o n v b A k c f:=by
 obtain ⟨A,c,rfl,h⟩:=h
 subst hf hk
 exact ⟨A,c,rfl,_,rfl,rfl,h.mono fun _ _ _=>trivial⟩
theorem qh5.lit {g:Fm} {x:Value} {gs:List Fm} (h:qh5 g w x w') (hf:g = .mk o n v b gs) (hk:gs.length=k) : ∃ A c,x = .agg #[.int .i64 o,.string n,.int .i64 v,.int .i64 b,.slice A k c]∧VF w' o n v b A k c g∧Below w.heap.size w w':=by
 obtain ⟨A,c,e,h2⟩:=h.2.lit hf hk
 exact ⟨A,c,e,h2,h.1⟩
section
variable {o2:Int} {n2:ByteArray} {v2 b2:Int} {A2:Option Addr} {k2 c2:Nat} {f2:Fm}
end
end
theorem RdS.get {w:World} {D:Dom} {A:Option Addr} {c k:Nat} {ss:List ByteArray} (h:RdS w D A c ss) (hk:k < ss.length) : ∃ b o x,A=some ⟨b,o,none⟩∧b < w.heap.size∧Hid (ss.getD k ⟨#[]⟩=x)∧w.cell? ⟨b,o+k,none⟩=some (.string x):=by
 obtain ⟨b,o,e,hb,hl,hc⟩:=h.2 (by omega)
 exact ⟨b,o,_,e,hl,hid rfl,hc k _ (by simp [hk])⟩
theorem RdS.below {w w':World} {D:Dom} {A:Option Addr} {c:Nat} {ss:List ByteArray} (h:RdS w D A c ss) (hb:Below w.heap.size w w'):RdS w' qbi A c ss:=(Rd.keep (Rd.old h) (Keeps.of_below hb fun _ h=>h)).mono fun _ _ _=>trivial
theorem RdS.len {w:World} {D:Dom} {A:Option Addr} {c:Nat} {ss:List ByteArray} (h:RdS w D A c ss):ss.length≤140737488355328:=h.1.2.1
end Go.Proofs.YtdpbgcmfeajigaaGreatDoor
namespace Go.Proofs.YtdpbgcmfeajigaaGreatDoor
open Go.RowKit Go.Shelf
attribute [local go_sem] qab run_store_func Oper.semAt_some
theorem qi2 (o:Int) (w:World):Calls Tryz.prog 13 #[.int .i64 o] w fun e w'=>e = .returned (.bool (qhd o))∧w'=w:=by
 by_cases h1:o=15
 ·subst h1
  go_enter Tryz.func13,Tryz.ntmps13
  go_wp2_with fail
  go_ret
  exact ⟨rfl,rfl⟩
 ·by_cases h2:o=16
  ·subst h2
   go_enter Tryz.func13,Tryz.ntmps13
   go_wp2_with fail
   go_ret
   exact ⟨rfl,rfl⟩
  ·by_cases h3:o=17
   ·subst h3
    go_enter Tryz.func13,Tryz.ntmps13
    go_wp2_with fail
    go_ret
    exact ⟨rfl,rfl⟩
   ·have d1:(o == 15)=false:=qbg h1
    have d2:(o == 16)=false:=qbg h2
    have d3:(o == 17)=false:=qbg h3
    have HR:=hid (show qhd o=false by
     cases h:qhd o
     ·rfl
     ·rcases qkp.1 h with h | h | h <;> contradiction)
    clear h1 h2 h3
    go_enter Tryz.func13,Tryz.ntmps13
    go_wp2_with fail
    go_ret
    exact ⟨by rw [HR.out];rfl,rfl⟩
structure PRow (w:World) (base:Nat) (A:Option Addr) (c:Nat) (gs:List Fm) (sl:List (Option Addr × Nat)):Prop where
 own:w.ownsRow base 24 5 (.slice A gs.length c) gs.length (qav gs sl)
 len:sl.length=gs.length
 arg : ∀ i,i < gs.length→RdA w (fun k=>(Value.slice A gs.length c).ownBlock≠some k) (gs.getD i default).args (sl.getD i (none,0)).1 (sl.getD i (none,0)).2
theorem RdA.kept {w w':World} {D:Dom} {l:List Fm} {A:Option Addr} {c:Nat} (h:RdA w D l A c) (hb:Below w.heap.size w w'):RdA w' D l A c :=
 ((h.mono (E:=fun k=>D k∧k < w.heap.size) fun k hk hl=>⟨hk,hl⟩).keep (Keeps.of_below hb fun _ h=>h.2)).mono fun k hk _=>hk.1
section
variable {w w':World} {base c:Nat} {A:Option Addr} {gs:List Fm} {sl:List (Option Addr × Nat)}
theorem PRow.nil (w:World) (base:Nat):PRow w base none 0 [] []:=⟨⟨rfl,.inl ⟨rfl,rfl⟩⟩,rfl,fun i h=>absurd h (Nat.not_lt_zero _)⟩
theorem PRow.ge (h:PRow w base A c gs sl) {k:Nat} (hk:(Value.slice A gs.length c).ownBlock=some k):base≤k∧k < w.heap.size:=by
 rcases h.own.2 with ⟨h0,_⟩ | ⟨g,cap,cur,hv,hb,hg,_⟩
 ·rw [h0] at hk;cases hk
 ·rw [hv] at hk
  injection hk with hk
  have:g=k:=hk
  subst this
  exact ⟨hb,lt_of_block hg⟩
theorem PRow.below (h:PRow w base A c gs sl) (hb:Below w.heap.size w w'):PRow w' base A c gs sl :=
 ⟨own_chg h.own (Chg.of_new (V:=fun _=>False) hb) fun _ _ h=>h,h.len,fun i hi=>(h.arg i hi).kept hb⟩
theorem PRow.rd (h:PRow w base A c gs sl) (hn:gs.length≤140737488355328):RdA w qbi gs A c:=by
 refine .mk gs A c sl h.len ?_ fun i hi=>(h.arg i hi).mono fun k hk _=>trivial
 rcases h.own.2 with ⟨hv,h0⟩ | ⟨g,cap,cur,hv,hb,hh,h1,h2,hsz,htk⟩
 ·injection hv with hA _ hc
  have:gs = []:=List.eq_nil_of_length_eq_zero h0
  subst this hc
  have hl:=h.len
  have:sl = []:=List.eq_nil_of_length_eq_zero hl
  subst this
  exact Rd.nil _ _ _ _ (by omega)
 ·injection hv with hA _ hc
  subst hA hc
  refine ⟨⟨h.own.1,hn,h1,h2⟩,fun hn=>⟨g,0,rfl,trivial,lt_of_block hh,fun j u hu => ?_⟩⟩
  rw [←htk,List.getElem?_take] at hu
  split at hu
  ·simp [World.cell?,hh];simpa using hu
  ·cases hu
theorem PRow.app {A':Option Addr} {c' n:Nat} {ms:List Fm} {sm:List (Option Addr × Nat)} (h:PRow w base A c gs sl) (hg:w.grownBy w' (Value.slice A gs.length c).ownBlock) (hn:n=(gs ++ ms).length)
  (hown:w'.ownsRow base 24 5 (.slice A' n c') n (qav gs sl ++ qav ms sm)) (hat:(Value.slice A' n c').ownBlock=(Value.slice A gs.length c).ownBlock∨(Value.slice A' n c').ownBlock=some w.heap.size) (hsm:sm.length=ms.length)
  (hms : ∀ i,i < ms.length→RdA w (fun k=>(Value.slice A gs.length c).ownBlock≠some k) (ms.getD i default).args (sm.getD i (none,0)).1 (sm.getD i (none,0)).2):PRow w' base A' c' (gs ++ ms) (sl ++ sm):=by
 subst hn
 have key : ∀ {l:List Fm} {B:Option Addr} {d:Nat},RdA w (fun k=>(Value.slice A gs.length c).ownBlock≠some k) l B d→RdA w' (fun k=>(Value.slice A' (gs ++ ms).length c').ownBlock≠some k) l B d:=fun h1=>by
  refine ((h1.mono (E:=fun k=>(Value.slice A gs.length c).ownBlock≠some k∧k < w.heap.size) fun k hk hl=>⟨hk,hl⟩).keep (w':=w') ⟨hg.size,fun k hk hl=>hg.block k hl (fun e=>hk.1 e.symm)⟩).mono fun k hk' _=>fun e => ?_
  rcases hat with hat | hat
  ·rw [hat] at e;exact hk'.1 e
  ·rw [hat] at e
   injection e with e
   have:=hk'.2
   omega
 refine ⟨by rw [qev h.len];exact hown,by rw [List.length_append,List.length_append,h.len,hsm],fun i hi => ?_⟩
 by_cases hl:i < gs.length
 ·have e1:(gs ++ ms).getD i default=gs.getD i default:=by simp [List.getD,List.getElem?_append_left hl]
  have e2:(sl ++ sm).getD i (none,0)=sl.getD i (none,0):=by simp [List.getD,List.getElem?_append_left (show i < sl.length by rw [h.len];exact hl)]
  rw [e1,e2]
  exact key (h.arg i hl)
 ·have hl2:i - gs.length < ms.length:=by rw [List.length_append] at hi;omega
  have e1:(gs ++ ms).getD i default=ms.getD (i - gs.length) default:=by simp [List.getD,List.getElem?_append_right (show gs.length≤i by omega)]
  have e2:(sl ++ sm).getD i (none,0)=sm.getD (i - gs.length) (none,0):=by simp [List.getD,List.getElem?_append_right (show sl.length≤i by rw [h.len];omega),h.len]
  rw [e1,e2]
  exact key (hms _ hl2)
end
def Later (w w':World) (A A':Option Addr) (n n' c c':Nat):Prop:=w.grownBy w' (Value.slice A n c).ownBlock∧((Value.slice A' n' c').ownBlock=(Value.slice A n c).ownBlock ∨ ∃ k,(Value.slice A' n' c').ownBlock=some k∧w.heap.size≤k)
theorem Later.refl (w:World) (A:Option Addr) (n c:Nat):Later w w A A n n c c:=⟨⟨rfl,rfl,rfl,Nat.le_refl _,fun _ _ _=>rfl⟩,.inl rfl⟩
theorem Later.of_below {w w':World} (hb:Below w.heap.size w w') (A:Option Addr) (n c:Nat):Later w w' A A n n c c:=⟨⟨hb.os,hb.tape,hb.output,hb.size,fun k hk _=>hb.block k hk⟩,.inl rfl⟩
theorem Later.trans {w w1 w2:World} {A A1 A2:Option Addr} {n n1 n2 c c1 c2:Nat} (h:Later w w1 A A1 n n1 c c1) (k:Later w1 w2 A1 A2 n1 n2 c1 c2):Later w w2 A A2 n n2 c c2:=by
 refine ⟨⟨k.1.os.trans h.1.os,k.1.tape.trans h.1.tape,k.1.output.trans h.1.output,Nat.le_trans h.1.size k.1.size,fun b hb hne => ?_⟩,?_⟩
 ·refine (k.1.block b (Nat.lt_of_lt_of_le hb h.1.size) (fun e => ?_)).trans (h.1.block b hb hne)
  rcases h.2 with h2 | ⟨x,h2,h3⟩
  ·rw [h2] at e;exact hne e
  ·rw [h2] at e
   injection e with e
   omega
 ·rcases k.2 with k2 | ⟨x,k2,k3⟩
  ·rcases h.2 with h2 | h2
   ·exact .inl (k2.trans h2)
   ·rw [k2];exact .inr h2
  ·exact .inr ⟨x,k2,Nat.le_trans h.1.size k3⟩
theorem Later.block {w w':World} {A A':Option Addr} {n n' c c':Nat} (h:Later w w' A A' n n' c c') {b:Nat} (hb:b < w.heap.size) (hn : ∀ k,(Value.slice A n c).ownBlock=some k→k≠b):w'.heap[b]? = w.heap[b]? :=
 h.1.block b hb fun e=>hn b e.symm rfl
theorem Later.below {w w':World} {A A':Option Addr} {n n' c c' base:Nat} (h:Later w w' A A' n n' c c') (hn : ∀ k,(Value.slice A n c).ownBlock=some k→base≤k) (hb:base≤w.heap.size):Below base w w' :=
 ⟨h.1.os,h.1.tape,h.1.output,h.1.size,fun b hl=>h.block (Nat.lt_of_lt_of_le hl hb) fun k hk e=>by have:=hn k hk;omega⟩
theorem qhc {D E:Dom} (gs:List Fm) (A:Option Addr) (c n:Nat) (g:Fm) (v:Value) (w:World) (hn:n=gs.length) (h:RdA w D gs A c) (h2:qbj w E v g) :
  Calls Tryz.prog 14 #[.slice A n c,v] w fun e w'=>e = .returned (.int .i64 (findF gs g))∧Below w.heap.size w w':=by
 subst hn
 obtain ⟨A2,c2,rfl,ha2⟩:=h2
 have HR:=hid h.old
 have HA2:=hid ha2.old
 have hgl:=h.len.1
 clear h ha2
 go_enter Tryz.func14,Tryz.ntmps14
 go_upto_region 1 with (fail)
 refine qai fun W hW => ?_
 have HB:=hid (show Below w.heap.size w W by rw [hW];go_grown)
 have HE:=hid (show qcj W w.heap.size g A2 c2 by show W.heap[w.heap.size]? = _;rw [hW];exact at_new _ _ _ rfl)
 clear hW
 go_wp2_with fail
 go_loopw [5] (fun r wr => ∃ k:Nat,k≤gs.length∧r = .int .i64 (k:Int)∧Below W.heap.size W wr∧(∀ j,j < k→gs.getD j default≠g)) (fun r _=>gs.length - (intOf r).toNat)
 case atStart=>exact ⟨0,Nat.zero_le _,rfl,by first | exact Below.refl _ _ | go_grown,fun j h=>absurd h (Nat.not_lt_zero _)⟩
 case round =>
  obtain ⟨i,hi,rfl,hb,hm⟩:=hrel
  have HBR:=hid hb
  have HBW:=hid (qaf HB.out hb)
  have HM:=hid hm
  clear hb hm
  by_cases hlt:i < gs.length
  ·have hii:(i:Int) < (gs.length:Int):=by omega
   obtain ⟨b1,o1,A',c',f,rfl,HX,hf⟩:=(HR.out.keep (Keeps.of_below HBW.out fun _ h=>h)).get hlt
   have HF:=hid hf
   have HCELL:Hid (∀ W':World,Below wr.heap.size wr W'→W'.cell? ⟨b1,o1+i * 5,none⟩=some (.int .i64 f.op)∧W'.cell? ⟨b1,o1+i * 5+1,none⟩=some (.string f.name)∧W'.cell? ⟨b1,o1+i * 5+2,none⟩=some (.int .i64 f.val)∧W'.cell? ⟨b1,o1+i * 5+3,none⟩=some (.int .i64 f.bound)∧W'.cell? ⟨b1,o1+i * 5+4,none⟩=some (.slice A' f.args.length c')∧W'.cell? ⟨w.heap.size,0,none⟩=some (.int .i64 g.op)∧W'.cell? ⟨w.heap.size,1,none⟩=some (.string g.name)∧W'.cell? ⟨w.heap.size,2,none⟩=some (.int .i64 g.val)∧W'.cell? ⟨w.heap.size,3,none⟩=some (.int .i64 g.bound)∧W'.cell? ⟨w.heap.size,4,none⟩=some (.slice A2 g.args.length c2)):=hid fun W' hb=>by
    have hq:=HF.out.keep (Keeps.of_below hb fun k (hk:k < w.heap.size)=>Nat.lt_of_lt_of_le hk HBW.out.size)
    have he:=((HE.out.below HBR.out).below hb).cells
    exact ⟨hq.c0,hq.c1,hq.c2,hq.c3,hq.c4,he.1,he.2.1,he.2.2.1,he.2.2.2.1,he.2.2.2.2.1⟩
   have HCALL:Hid (∀ W':World,Below wr.heap.size wr W'→Calls Tryz.prog 39 #[.agg #[.int .i64 f.op,.string f.name,.int .i64 f.val,.int .i64 f.bound,.slice A' f.args.length c'],.agg #[.int .i64 g.op,.string g.name,.int .i64 g.val,.int .i64 g.bound,.slice A2 g.args.length c2]] W' fun e w'=>e = .returned (.bool (decide (f.cmp g=0)))∧Below wr.heap.size wr w'):=hid fun W' hb=>by
    refine (rsame_any f g _ _ W' (qbj.cells5 (HF.out.keep (Keeps.of_below hb fun k (hk:k < w.heap.size)=>Nat.lt_of_lt_of_le hk HBW.out.size)).args) (qbj.cells5 (HA2.out.keep (Keeps.of_below (qaf HBW.out hb) fun _ h=>h)))).mono ?_
    rintro e w' ⟨rfl,hb'⟩
    exact ⟨rfl,qaf hb hb'⟩
   have HI0:=hid (Below.refl wr.heap.size wr)
   have HI1:=hid (show Below wr.heap.size wr wr.drew from (Below.refl wr.heap.size wr).drew)
   have HI2:=hid (show ∀ i,Below wr.heap.size wr (wr.drewN i) from fun i=>below_drewN (Below.refl wr.heap.size wr) i)
   obtain ⟨p0,p1,p2,p3,p4,r0,r1,r2,r3,r4⟩:=HCELL.out wr (Below.refl _ _)
   have hbl:=Nat.lt_of_lt_of_le hf.dom HBW.out.size
   have hwl:w.heap.size < wr.heap.size:=(HE.out.below HBR.out).cells.2.2.2.2.2
   have hi0:(0:Int)≤(i:Int):=by omega
   obtain ⟨r,hr⟩ : ∃ r,decide (f.cmp g=0)=r:=⟨_,rfl⟩
   have HRC:=hid hr
   rw [hr] at HCALL
   clear hf hr
   go_upto_region 4 with (fail)
   go_region_held3 (fun W':World=>W'.cell? ⟨b1,o1+i * 5,none⟩=some (.int .i64 f.op)∧W'.cell? ⟨b1,o1+i * 5+1,none⟩=some (.string f.name)∧W'.cell? ⟨b1,o1+i * 5+2,none⟩=some (.int .i64 f.val)∧W'.cell? ⟨b1,o1+i * 5+3,none⟩=some (.int .i64 f.bound)∧W'.cell? ⟨b1,o1+i * 5+4,none⟩=some (.slice A' f.args.length c')∧W'.cell? ⟨w.heap.size,0,none⟩=some (.int .i64 g.op)∧W'.cell? ⟨w.heap.size,1,none⟩=some (.string g.name)∧W'.cell? ⟨w.heap.size,2,none⟩=some (.int .i64 g.val)∧W'.cell? ⟨w.heap.size,3,none⟩=some (.int .i64 g.bound)∧W'.cell? ⟨w.heap.size,4,none⟩=some (.slice A2 g.args.length c2))
    (first | (with_reducible exact HCELL.out _ hI) | (go_keep;done))
    ((go_at_call 39;(with_reducible refine (HCALL.out _ (by first | exact HI0.out | exact HI1.out | exact HI2.out _)).mono ?_);rintro e W9 ⟨rfl,hI⟩))
   all_goals
    have HB9:=hid (qaf HBR.out hI)
    have HXX:=hid HX.out
    have HLT:=hid hlt
    clear p0 p1 p2 p3 p4 r0 r1 r2 r3 r4 HX hI hlt
    cases r
    ·go_wp2_with fail
     go_roundw
     case rel =>
      refine ⟨i+1,by have:=HLT.out;omega,by go_num,HB9.out,fun j hj => ?_⟩
      by_cases hji:j < i
      ·exact HM.out j hji
      ·obtain rfl:j=i:=by omega
       rw [HXX.out]
       intro e
       have:=of_decide_eq_false HRC.out
       exact this (qeu.2 e)
     case measure=>have:=HLT.out;simp [intOf];omega
    ·have HFF:=hid (findF_hit HLT.out (HXX.out.trans (qeu.1 (of_decide_eq_true HRC.out))) HM.out)
     go_wp2_with fail
     go_ret
     exact ⟨by rw [HFF.out];rfl,qaf HB.out HB9.out⟩
  ·have hii : ¬ (i:Int) < (gs.length:Int):=by omega
   have HFF:=hid (findF_none (gs:=gs) (g:=g) fun j hj=>HM.out j (by omega))
   clear hlt
   go_wp2_with fail
   go_ret
   exact ⟨by rw [HFF.out];rfl,HBW.out⟩
def GathSays (A:Option Addr) (c n base:Nat) (R:List Fm) (w:World) (e:Ending) (w':World):Prop :=
 ∃ (A':Option Addr) (c':Nat) (sl':List (Option Addr × Nat)),e = .returned (.slice A' R.length c')∧PRow w' base A' c' R sl'∧Later w w' A A' n R.length c c'
def GathC (f:Fm):Prop := ∀ (gs:List Fm) (A:Option Addr) (c n:Nat) (sl:List (Option Addr × Nat)) (base:Nat) (v:Value) (w:World),n=gs.length→PRow w base A c gs sl→qbj w (· < base) v f→base≤w.heap.size→gs.length+f.size≤1000000 →
 Calls Tryz.prog 53 #[.slice A n c,v] w (GathSays A c n base (qc7 gs (qaw f)) w)
theorem gathP_size (gs:List Fm) (f:Fm):(qc7 gs (qaw f)).length≤gs.length+f.size:=by
 have h1:=(qfo (qaw f) gs).2
 have h2:=qgq f
 omega
theorem gathPs_size (gs l:List Fm):(qc7 gs (qbb l)).length≤gs.length+sizes l:=by
 have h1:=(qfo (qbb l) gs).2
 have h2:=qi7 (l:=l) fun g _=>qgq g
 omega
theorem gathered_any (f:Fm):GathC f:=by
 refine Fm.ind1 (P:=fun f=>GathC f) ?_ f
 clear f
 intro f ih gs A c n sl base v w hn hP hF hbw hsz
 obtain ⟨A2,c2,rfl,ha2⟩:=hF
 have HIH:=hid ih
 have HP:=hid hP
 have HA2:=hid ha2
 have HN:=hid hn
 have HSZ:=hid hsz
 have HBW:=hid hbw
 have hgl:n≤1000000:=by omega
 have hal:=ha2.len.1
 obtain ⟨N,hNN⟩ : ∃ N,N=f.args.length:=⟨_,rfl⟩
 have HNN:=hid hNN
 have hNb:N≤1000000:=by have:=qdd f.args;rw [hNN];rw [Fm.size_eq] at hsz;omega
 clear ih hn hP ha2 hbw hsz hNN hal
 go_enter Tryz.func53,Tryz.ntmps53
 go_upto_region 1 with (fail)
 refine qai fun W hW => ?_
 have HB:=hid (show Below w.heap.size w W by rw [hW];go_grown)
 have HE:=hid (show qcj W w.heap.size f A2 c2 by show W.heap[w.heap.size]? = _;rw [hW];exact at_new _ _ _ rfl)
 clear hW
 go_wp2_with fail
 go_loopw [0,5] (fun s r wr => ∃ (k:Nat) (A':Option Addr) (c':Nat) (R:List Fm) (sl':List (Option Addr × Nat)),k≤N∧r = .int .i64 (k:Int)∧s = .slice A' R.length c'∧Hid (R=qc7 gs (qbb (f.args.take k)))∧PRow wr base A' c' R sl'∧Later W wr A A' n R.length c c') (fun _ r _=>N - (intOf r).toNat)
 case atStart=>exact ⟨0,A,c,gs,sl,Nat.zero_le _,rfl,by rw [←HN.out],rfl,HP.out.below HB.out,by rw [←HN.out];exact Later.refl _ _ _ _⟩
 case round =>
  obtain ⟨k,A',c',R,sl',hk,rfl,rfl,HRE,hpr,hla⟩:=hrel
  have HPR:=hid hpr
  have HLA:=hid hla
  have HGEW:=hid (show ∀ x,(Value.slice A n c).ownBlock=some x→base≤x∧x < w.heap.size from fun x hx=>by have:=HP.out.ge (k:=x) (by rw [←HN.out];exact hx);exact this)
  have HBR:=hid (show Below base W wr from hla.below (fun x hx=>(HGEW.out x hx).1) (Nat.le_trans HBW.out HB.out.size))
  have HER:=hid (show qcj wr w.heap.size f A2 c2 from (hla.block (lt_of_block HE.out) (fun x hx e=>by have:=(HGEW.out x hx).2;omega)).trans HE.out)
  obtain ⟨e0,e1,e2,e3,e4,e5⟩:=HER.out.cells
  have HA2r:=hid ((HA2.out.kept HB.out).keep (Keeps.of_below HBR.out fun _ h=>h))
  have HRL:=hid (show R.length+sizes (f.args.drop k)≤1000000 by
   have h1:=gathPs_size gs (f.args.take k)
   rw [←HRE.out] at h1
   have h2:sizes f.args=sizes (f.args.take k)+sizes (f.args.drop k):=by rw [←qck,List.take_append_drop]
   have h3:=HSZ.out
   rw [Fm.size_eq] at h3
   omega)
  have HWR:=hid (show base≤wr.heap.size from Nat.le_trans (Nat.le_trans HBW.out HB.out.size) HLA.out.1.size)
  rw [←HNN.out] at e4
  clear hpr hla
  by_cases hlt:k < N
  ·have hii:(k:Int) < (N:Int):=by omega
   have hi0:(0:Int)≤(k:Int):=by omega
   have hlf:k < f.args.length:=by rw [←HNN.out];exact hlt
   obtain ⟨b1,o1,A3,c3,g,rfl,HX,hg⟩:=HA2r.out.get hlf
   have hgm:g∈f.args:=by rw [←HX.out];exact qax hlf
   have hgs:R.length+g.size≤1000000:=by
    have h1:=HRL.out
    rw [List.drop_eq_getElem_cons hlf,sizes] at h1
    have h2:f.args[k]=g:=by have:=HX.out;simpa [List.getD,hlf] using this
    rw [h2] at h1
    omega
   have HNX:=hid (show qc7 gs (qbb (f.args.take (k+1)))=qc7 R (qaw g) by rw [qh0 hlf,qdq,←HRE.out,HX.out])
   have HC:=hid (HIH.out g hgm R A' c' R.length sl' base _ wr rfl HPR.out (qbj.cells5 hg.args) HWR.out hgs)
   obtain ⟨q1,q2,p0,p1,p2,p3,p4,_⟩:=hg
   have HLT:=hid hlt
   have HNX2:=hid HNX.out
   clear hk hlt hlf HX hgm hgs
   go_wp2_with (go_at_call 53;(with_reducible refine HC.out.mono ?_);rintro e W9 ⟨A5,c5,sl5,rfl,hp5,hl5⟩;have HP5:=hid hp5;have HL5:=hid hl5;clear hp5 hl5)
   go_roundw
   case rel=>exact ⟨k+1,A5,c5,_,sl5,by have:=HLT.out;omega,by go_num,rfl,HNX2.out.symm,HP5.out,HLA.out.trans HL5.out⟩
   case measure=>have:=HLT.out;simp [intOf];omega
  ·have hii : ¬ (k:Int) < (N:Int):=by omega
   have hkN:k=N:=by omega
   have HRF:=hid (show R=qc7 gs (qbb f.args) by rw [HRE.out,hkN,HNN.out,List.take_length])
   have HPE:=hid (show qc7 gs (qaw f)=if qhd f.op then addP R f else R by rw [qf0,qdq,←HRF.out];split <;> rfl)
   have hRl:R.length≤999999:=by
    have h1:=gathPs_size gs f.args
    rw [←HRF.out] at h1
    have h3:=HSZ.out
    rw [Fm.size_eq] at h3
    omega
   have HRD:=hid (HPR.out.rd (by omega))
   have HLW:=hid (show Later w wr A A' n R.length c c' from (Later.of_below HB.out A n c).trans HLA.out)
   have HLT9:=hid (qi2 f.op wr)
   have HFI:=hid (qhc R A' c' R.length f _ wr rfl HRD.out (qbj.cells5 HA2r.out))
   rw [←HNN.out] at HFI
   obtain ⟨rm,hrm⟩ : ∃ r,qhd f.op=r:=⟨_,rfl⟩
   rw [hrm] at HLT9 HPE
   clear hk hlt hkN hrm
   cases rm
   ·have HPF:=hid (show qc7 gs (qaw f)=R by rw [HPE.out];rfl)
    go_wp2_with (go_at_call 13;(with_reducible refine HLT9.out.mono ?_);rintro e W9 ⟨rfl,rfl⟩)
    go_ret
    exact ⟨A',c',sl',by rw [HPF.out];rfl,by rw [HPF.out];exact HPR.out,by rw [HPF.out];exact HLW.out⟩
   ·by_cases hm:f∈R
    ·have HPF:=hid (show qc7 gs (qaw f)=R by rw [HPE.out];show addP R f=R;unfold addP;rw [if_pos hm])
     obtain ⟨fz,hfz⟩ : ∃ z,findF R f=z:=⟨_,rfl⟩
     have hz : ¬ fz < 0:=by rw [←hfz];unfold findF;rw [if_pos hm];omega
     rw [hfz] at HFI
     clear hfz hm
     go_wp2_with (first
      | (go_at_call 13;(with_reducible refine HLT9.out.mono ?_);rintro e W9 ⟨rfl,rfl⟩)
      | (go_at_call 14;(with_reducible refine HFI.out.mono ?_);rintro e W8 ⟨rfl,hb8⟩;have HB8:=hid hb8;clear hb8))
     go_ret
     exact ⟨A',c',sl',by rw [HPF.out];rfl,by rw [HPF.out];exact HPR.out.below HB8.out,by rw [HPF.out];exact HLW.out.trans (Later.of_below HB8.out _ _ _)⟩
    ·have HPF:=hid (show qc7 gs (qaw f)=R ++ [f] by rw [HPE.out];show addP R f=R ++ [f];unfold addP;rw [if_neg hm])
     obtain ⟨fz,hfz⟩ : ∃ z,findF R f=z:=⟨_,rfl⟩
     have hz:fz < 0:=by rw [←hfz];unfold findF;rw [if_neg hm];omega
     rw [hfz] at HFI
     clear hfz hm
     obtain ⟨i0,hti,hz0,hz1,hz2⟩:=info_parts qb8
     go_upto_region 6 with (first
      | (go_at_call 13;(with_reducible refine HLT9.out.mono ?_);rintro e W9 ⟨rfl,rfl⟩)
      | (go_at_call 14;(with_reducible refine HFI.out.mono ?_);rintro e W8 ⟨rfl,hb8⟩;have HB8:=hid hb8;clear hb8 e0 e1 e2 e3 e4 e5))
     have HP8:=hid (HPR.out.below HB8.out)
     obtain ⟨e0,e1,e2,e3,e4,e5⟩:=(HER.out.below HB8.out).cells
     rw [←HNN.out] at e4
     have HA8:=hid (HA2r.out.kept HB8.out)
     have hba:base≤W8.heap.size+1:=by have:=HWR.out;have:=HB8.out.size;omega
     have hone : ∀ u ∈ [Value.int .i64 f.op,.string f.name,.int .i64 f.val,.int .i64 f.bound,.slice A2 N c2],u.oneCell'=true:=by simp [Value.oneCell']
     have HBA:=hid (fun o:Obj=>(Below.refl W8.heap.size W8).alloc (Nat.le_refl _) o)
     go_wp2_with (at_builtin;go_must (refine qcq _ rfl (.tmp 29) (.tmp 31) 22 rfl base 24 i0 _ 5 64 Tryz.underlying22 hti hz0 hz1 hz2 rfl (by omega) (.slice A' R.length c') R.length _ rfl (HP8.out.below (HBA.out _)).own _ (some ⟨W8.heap.size,0,none⟩) 1 1 _ rfl (Rd.fresh (D:=qbi) rfl trivial rfl (by omega)) hone (by omega) (qa5 (by omega)) (by simp;omega) ?_);intro A5 c5 w5 hown5 hg5 hat5;have HOWN5:=hid hown5;have HG5:=hid hg5;have HAT5:=hid hat5;clear hown5 hg5 hat5)
     go_ret
     have hP5:=PRow.app (n:=R.length+1) (ms := [f]) (sm := [(A2,c2)]) (HP8.out.below (HBA.out _)) HG5.out (by simp) (by
      have e:qav [f] [(A2,c2)] = [.int .i64 f.op,.string f.name,.int .i64 f.val,.int .i64 f.bound,.slice A2 N c2]:=by rw [HNN.out];rfl
      rw [e];exact HOWN5.out) HAT5.out rfl (fun i hi=>by
      have hi0:i=0:=by simpa using hi
      subst hi0
      refine (HA8.out.kept (HBA.out _)).mono ?_
      intro x hx _ e
      have h1:=(HP8.out.ge e).1
      have h2:x < base:=hx
      omega)
     refine ⟨A5,c5,sl' ++ [(A2,c2)],by rw [HPF.out,List.length_append];rfl,by rw [HPF.out];exact hP5,?_⟩
     rw [HPF.out,List.length_append]
     refine (HLW.out.trans (Later.of_below (HB8.out.trans ((HBA.out _).mono HB8.out.size)) _ _ _)).trans ⟨HG5.out,?_⟩
     rcases HAT5.out with h | h
     ·exact .inl h
     ·exact .inr ⟨_,h,Nat.le_refl _⟩
end Go.Proofs.YtdpbgcmfeajigaaGreatDoor
namespace Go.Proofs.YtdpbgcmfeajigaaGreatDoor
open Go.RowKit Go.Shelf
attribute [local go_sem] qab qdm
end Go.Proofs.YtdpbgcmfeajigaaGreatDoor
namespace Go.Proofs.YtdpbgcmfeajigaaGreatDoor
open Go.RowKit Go.Shelf
attribute [local go_sem] qab qdm
end Go.Proofs.YtdpbgcmfeajigaaGreatDoor
