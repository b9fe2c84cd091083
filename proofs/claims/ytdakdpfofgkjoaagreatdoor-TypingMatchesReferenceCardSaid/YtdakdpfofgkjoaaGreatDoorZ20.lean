/-
  Parts of a proof: LA LB HZ LT KA.
-/
import Derived.Test.YtdakdpfofgkjoaaGreatDoorZ18
import Derived.Test.YtdakdpfofgkjoaaGreatDoorZ19
import Derived.Test.YtdakdpfofgkjoaaGreatDoorZ10
set_option linter.unusedSimpArgs false
set_option linter.unusedVariables false
set_option maxHeartbeats 8000000
set_option maxRecDepth 100000
namespace Go.Proofs.YtdakdpfofgkjoaaGreatDoor
structure CanNode (f:Fm):Prop where
 bd:f.bound=0
 leaf:f.op=1∨f.op=2→f.args = []∧f.name=⟨#[]⟩∧f.val=0
 set:f.op=5∨f.op=6→qk5 f.args∧2≤f.args.length∧qky f.args=false∧f.name=⟨#[]⟩∧f.val=0 ∧ ∀ g,g∈f.args→g.op≠f.op∧g.op≠qdw f.op∧g.op≠qcu f.op
 next:f.op=8→isC (f.args.getD 0 default)=false
 til:f.op=9→isC (f.args.getD 1 default)=false∧(f.args.getD 0 default).op≠2
 rel:f.op=10→isC (f.args.getD 1 default)=false∧(f.args.getD 0 default).op≠1
inductive Can:Fm→Prop where
 | mk (f:Fm) (node:CanNode f) (args : ∀ g,g∈f.args→Can g):Can f
theorem Can.node {f:Fm} (h:Can f):CanNode f:=by cases h;assumption
theorem Can.arg {f:Fm} (h:Can f) : ∀ g,g∈f.args→Can g:=by cases h;assumption
theorem can_leaf {o:Int} (h:o=1∨o=2):Can (opF o []):=by
 refine .mk _ ⟨rfl,fun _=>⟨rfl,rfl,rfl⟩,fun e => ?_,fun e => ?_,fun e => ?_,fun e => ?_⟩ fun g hg=>by cases hg
 all_goals
  have e':=e
  simp only [opF,Fm.op] at e'
  omega
theorem unit_12 (op:Int):qdw op=1∨qdw op=2:=by unfold qdw;split <;> omega
theorem zero_12 (op:Int):qcu op=1∨qcu op=2:=by unfold qcu;split <;> omega
theorem qix {gs:List Fm} : qky gs=true ↔ ∃ x,x∈gs∧x.op=4∧x.args.getD 0 default∈gs:=by
 constructor
 ·intro h
  unfold qky at h
  have hn : ¬ qkb gs.length (fun i => !qiy gs i)=true:=by
   intro e;rw [e] at h;cases h
  rw [qd0] at hn
  have : ∃ i,i < gs.length∧qiy gs i=true:=by
   refine Classical.byContradiction fun hc=>hn fun j hj => ?_
   cases ho:qiy gs j
   ·rfl
   ·exact absurd ⟨j,hj,ho⟩ hc
  obtain ⟨i,hi,ho⟩:=this
  unfold qiy at ho
  rw [Bool.and_eq_true,decide_eq_true_eq,List.any_eq_true] at ho
  obtain ⟨h4,z,hz,he⟩:=ho
  have he:z=(gs.getD i default).args.getD 0 default:=qjd.1 (eq_of_beq he)
  exact ⟨_,qa1 hi,h4,by rw [←he];exact hz⟩
 ·rintro ⟨x,hx,h4,hm⟩
  obtain ⟨i,hi,e⟩:=List.getElem_of_mem hx
  have e2:gs.getD i default=x:=by rw [←e];simp [List.getD_eq_getElem?_getD,List.getElem?_eq_getElem hi]
  refine oppB_yes hi ?_
  unfold qiy
  rw [e2,decide_eq_true h4,Bool.true_and,List.any_eq_true]
  exact ⟨_,hm,by rw [qjd.2 rfl];rfl⟩
theorem oppB_mono {gs hs:List Fm} (h : ∀ x,x∈gs→x∈hs) (ho:qky gs=true):qky hs=true:=by
 obtain ⟨x,hx,h4,hm⟩:=qix.1 ho
 exact qix.2 ⟨x,h x hx,h4,h _ hm⟩
theorem flat_ops {op:Int} (hop:op=5∨op=6) {l:List Fm} (h : ∀ g,g∈l→Can g) (hz : ∀ g,g∈l→g.op≠qcu op) {x:Fm} (hx:x∈qbf op l):x.op≠op∧x.op≠qdw op∧x.op≠qcu op:=by
 unfold qbf at hx
 rw [List.mem_flatMap] at hx
 obtain ⟨g,hg,hx⟩:=hx
 unfold qfn at hx
 split at hx
 ·rename_i e
  have hs:=(h g hg).node.set (by rw [e];exact hop)
  have:=hs.2.2.2.2.2 x hx
  rw [e] at this
  exact this
 ·rename_i e
  split at hx
  ·cases hx
  ·rename_i e2
   rw [List.mem_singleton] at hx
   subst hx
   exact ⟨e,e2,hz _ hg⟩
theorem flat_can {op:Int} {l:List Fm} (h : ∀ g,g∈l→Can g) {x:Fm} (hx:x∈qbf op l):Can x:=by
 obtain ⟨g,hg,hh⟩:=flatZ_mem hx
 rcases hh with ⟨_,hh⟩ | rfl
 ·exact (h g hg).arg x hh
 ·exact h _ hg
theorem qep {op:Int} {l:List Fm} : (l.any fun x=>decide (x.op=qcu op))=true ↔ ∃ g,g∈l∧g.op=qcu op:=by
 rw [List.any_eq_true]
 exact ⟨fun ⟨g,hg,h⟩=>⟨g,hg,of_decide_eq_true h⟩,fun ⟨g,hg,h⟩=>⟨g,hg,decide_eq_true h⟩⟩
theorem joinZ_cases {op:Int} (hop:op=5∨op=6) {l:List Fm} (h : ∀ g,g∈l→Can g) :
  (((∃ g,g∈l∧g.op=qcu op)∨qky (qbf op l)=true)∧qbm op l=opF (qcu op) []) ∨
  ((∀ g,g∈l→g.op≠qcu op)∧qky (qbf op l)=false∧(∀ x,x∈qg1 (qbf op l)→x.op≠op∧x.op≠qdw op∧x.op≠qcu op) ∧
   ((qg1 (qbf op l) = []∧qbm op l=opF (qdw op) [])∨(∃ x,qg1 (qbf op l) = [x]∧qbm op l=x)∨(2≤(qg1 (qbf op l)).length∧qbm op l=opF op (qg1 (qbf op l))))):=by
 by_cases hz : ∃ g,g∈l∧g.op=qcu op
 ·refine .inl ⟨.inl hz,?_⟩
  unfold qbm
  rw [if_pos (qep.2 hz)]
 ·have hz' : ∀ g,g∈l→g.op≠qcu op:=fun g hg e=>hz ⟨g,hg,e⟩
  have hj:qbm op l=qic op (qg1 (qbf op l)):=by unfold qbm;rw [if_neg fun e=>hz (qep.1 e)]
  by_cases ho:qky (qbf op l)=true
  ·refine .inl ⟨.inr ho,?_⟩
   rw [hj]
   unfold qic
   rw [if_pos (oppB_mono (fun x hx=>(qc0 _ _).2 hx) ho)]
  ·have ho' : ¬ qky (qg1 (qbf op l))=true:=fun e=>ho (oppB_mono (fun x hx=>(qc0 _ _).1 hx) e)
   refine .inr ⟨hz',by simpa using ho,fun x hx=>flat_ops hop h hz' ((qc0 _ _).1 hx),?_⟩
   rw [hj]
   unfold qic
   rw [if_neg ho']
   rcases hS:qg1 (qbf op l) with _ | ⟨x,_ | ⟨y,s⟩⟩
   ·exact .inl ⟨rfl,rfl⟩
   ·exact .inr (.inl ⟨x,rfl,rfl⟩)
   ·exact .inr (.inr ⟨by simp,rfl⟩)
theorem joinZ_can {op:Int} (hop:op=5∨op=6) {l:List Fm} (h : ∀ g,g∈l→Can g):Can (qbm op l):=by
 rcases joinZ_cases hop h with ⟨_,e⟩ | ⟨hz,ho,hx,⟨_,e⟩ | ⟨x,hs,e⟩ | ⟨hl,e⟩⟩
 ·rw [e];exact can_leaf (zero_12 op)
 ·rw [e];exact can_leaf (unit_12 op)
 ·rw [e];exact flat_can h ((qc0 _ _).1 (by rw [hs];simp))
 ·rw [e]
  refine .mk _ ⟨rfl,fun h' => ?_,fun _=>⟨qhr _,hl,?_,rfl,rfl,hx⟩,fun e' => ?_,fun e' => ?_,fun e' => ?_⟩ fun g hg=>flat_can h ((qc0 _ _).1 hg)
  ·simp only [opF,Fm.op] at h';omega
  ·cases hb:qky (opF op (qg1 (qbf op l))).args
   ·rfl
   ·rw [oppB_mono (fun x hx=>(qc0 _ _).1 hx) hb] at ho;cases ho
  ·have e':op=8:=e';omega
  ·have e':op=9:=e';omega
  ·have e':op=10:=e';omega
theorem canonZ_can (f:Fm) : ∀ ins,allI qbg ins f→Can (qak f):=by
 induction f using Fm.ind with
 | h f ih =>
  intro ins h
  rw [qda]
  obtain ⟨h1,h2⟩:=qay.1 h
  obtain ⟨p1,p2,p3,p4⟩:=qdq h1
  obtain ⟨s1,s2,s3,s4,s5,s6,s7,s8⟩:=qbz p2
  have hcs : ∀ g,g∈f.args.map qak→Can g:=fun g hg=>by
   obtain ⟨x,hx,rfl⟩:=List.mem_map.1 hg
   exact ih x hx _ (h2 x hx)
  have hat : ∀ i,i < f.args.length→Can ((f.args.map qak).getD i default):=fun i hi=>hcs _ (qa1 (by simpa using hi))
  unfold qh0
  split
  ·rename_i hop;exact joinZ_can hop hcs
  ·rename_i hop
   split
   ·rename_i h8;rw [h8.1] at s2;exact hat 0 s2
   ·rename_i h8
    split
    ·rename_i h9;rw [h9.1] at s2;exact hat 1 s2
    ·rename_i h9
     split
     ·rename_i h10;rw [h10.1] at s2;exact hat 1 s2
     ·rename_i h10
      refine .mk _ ⟨rfl,fun e => ?_,fun e=>absurd e hop,fun e => ?_,fun e => ?_,fun e => ?_⟩ hcs
      ·have e:f.op=1∨f.op=2:=e
       have hm:(qah f.op).most=0:=by rcases e with e | e <;> rw [e] <;> rfl
       have hv:(qah f.op).val=0:=by rcases e with e | e <;> rw [e] <;> rfl
       have hn:(qah f.op).named=false:=by rcases e with e | e <;> rw [e] <;> rfl
       have ha:=no_arg hm p2
       refine ⟨by show f.args.map qak = [];rw [ha];rfl,?_,by show f.val=0;omega⟩
       show f.name=_
       unfold qeg at s8
       rw [hn] at s8
       exact empty_name s8
      ·have e:f.op=8:=e
       show isC ((f.args.map qak).getD 0 default)=false
       cases hc:isC ((f.args.map qak).getD 0 default)
       ·rfl
       ·exact absurd ⟨e,hc⟩ h8
      ·have e:f.op=9:=e
       show isC ((f.args.map qak).getD 1 default)=false∧((f.args.map qak).getD 0 default).op≠2
       refine ⟨?_,fun h'=>h9 ⟨e,.inr h'⟩⟩
       cases hc:isC ((f.args.map qak).getD 1 default)
       ·rfl
       ·exact absurd ⟨e,.inl hc⟩ h9
      ·have e:f.op=10:=e
       show isC ((f.args.map qak).getD 1 default)=false∧((f.args.map qak).getD 0 default).op≠1
       refine ⟨?_,fun h'=>h10 ⟨e,.inr h'⟩⟩
       cases hc:isC ((f.args.map qak).getD 1 default)
       ·rfl
       ·exact absurd ⟨e,.inl hc⟩ h10
theorem joinZ_congr {op:Int} {l m:List Fm} (hz:(∃ g,g∈l∧g.op=qcu op) ↔ (∃ g,g∈m∧g.op=qcu op)) (h : ∀ x,x∈qbf op l ↔ x∈qbf op m):qbm op l=qbm op m:=by
 have e:qg1 (qbf op l)=qg1 (qbf op m):=(qhr _).ext (qhr _) fun x=>by rw [qc0,qc0,h]
 unfold qbm
 rw [e]
 have:(l.any fun x=>decide (x.op=qcu op))=(m.any fun x=>decide (x.op=qcu op)):=by
  rw [Bool.eq_iff_iff,qep,qep,hz]
 rw [this]
theorem flatZ_one (op:Int) (x:Fm) (m:List Fm):qbf op (x :: m)=qfn op x ++ qbf op m:=by unfold qbf;rw [List.flatMap_cons]
theorem qj4 {op:Int} {l:List Fm} (h : ∀ g,g∈l→g.op≠op∧g.op≠qdw op):qbf op l=l:=by
 induction l with
 | nil=>rfl
 | cons x l ih =>
  have hx:=h x (by simp)
  rw [flatZ_one,ih fun g hg=>h g (by simp [hg])]
  unfold qfn
  rw [if_neg hx.1,if_neg hx.2]
  rfl
theorem setF_self {l:List Fm} (h:qk5 l):qg1 l=l:=(h.set fun _=>Iff.rfl).symm
theorem qhv {op:Int} (hop:op=5∨op=6) {f:Fm} (h:CanNode f) (ho:f.op=op):qbm op f.args=f:=by
 obtain ⟨h1,h2,h3,h4,h5,h6⟩:=h.set (by rw [ho];exact hop)
 rw [ho] at h6
 have e:qbf op f.args=f.args:=qj4 fun g hg=>⟨(h6 g hg).1,(h6 g hg).2.1⟩
 unfold qbm
 rw [if_neg,e,setF_self h1]
 ·unfold qic
  rw [if_neg (by rw [h3];exact Bool.false_ne_true)]
  have hf:opF op f.args=f:=by
   conv=>rhs;rw [←f.eta]
   rw [ho,h4,h5,h.bd];rfl
  rcases ha:f.args with _ | ⟨x,_ | ⟨y,s⟩⟩
  ·rw [ha] at h2;simp at h2
  ·rw [ha] at h2;simp at h2
  ·rw [ha] at hf;exact hf
 ·rw [qep]
  rintro ⟨g,hg,e⟩
  exact (h6 g hg).2.2 e
theorem Can.qak {f:Fm} (h:Can f):qak f=f:=by
 induction h with
 | mk f node args ih =>
  have ha:f.args.map Go.Proofs.YtdakdpfofgkjoaaGreatDoor.qak=f.args:=by
   conv=>rhs;rw [←List.map_id f.args]
   exact List.map_congr_left ih
  rw [qda,ha]
  unfold qh0
  split
  ·rename_i hop;exact qhv hop node rfl
  ·split
   ·rename_i h8;rw [node.next h8.1] at h8;cases h8.2
   ·split
    ·rename_i h9
     rcases h9.2 with e | e
     ·rw [(node.til h9.1).1] at e;cases e
     ·exact absurd e (node.til h9.1).2
    ·split
     ·rename_i h9
      rcases h9.2 with e | e
      ·rw [(node.rel h9.1).1] at e;cases e
      ·exact absurd e (node.rel h9.1).2
     ·conv=>rhs;rw [←f.eta]
      rw [node.bd]
theorem leaf_eq {f:Fm} (h:CanNode f) (ho:f.op=1∨f.op=2):f=opF f.op []:=by
 obtain ⟨h1,h2,h3⟩:=h.leaf ho
 conv=>lhs;rw [←f.eta]
 rw [h1,h2,h3,h.bd];rfl
theorem not_own_arg {c:Fm} (h4:c.op=4):c.args.getD 0 default≠c:=by
 intro e
 by_cases hl:0 < c.args.length
 ·have:=qgu hl
  rw [e] at this
  omega
 ·have:c.args.getD 0 default=default:=by simp [List.getD,List.getElem?_eq_none (Nat.le_of_not_lt hl)]
  rw [this] at e
  rw [←e] at h4
  cases h4
theorem joinZ_one {op:Int} (hop:op=5∨op=6) {c:Fm} (h:Can c):qbm op [c]=c:=by
 by_cases hz:c.op=qcu op
 ·unfold qbm
  rw [if_pos (qep.2 ⟨c,by simp,hz⟩),←hz]
  exact (leaf_eq h.node (by rw [hz];exact zero_12 op)).symm
 ·by_cases ho:c.op=op
  ·rw [←qhv hop h.node ho]
   refine joinZ_congr ⟨?_,?_⟩ fun x => ?_
   ·rintro ⟨g,hg,e⟩
    rw [List.mem_singleton] at hg
    subst hg
    rw [qhv hop h.node ho] at e
    exact absurd e hz
   ·rintro ⟨g,hg,e⟩
    have:=(h.node.set (by rw [ho];exact hop)).2.2.2.2.2 g hg
    rw [ho] at this
    exact absurd e this.2.2
   ·have h6:=(h.node.set (by rw [ho];exact hop)).2.2.2.2.2
    rw [ho] at h6
    rw [qj4 (l:=c.args) fun g hg=>⟨(h6 g hg).1,(h6 g hg).2.1⟩,qhv hop h.node ho,flatZ_one]
    unfold qfn qbf
    rw [if_pos ho]
    simp
  ·by_cases hu:c.op=qdw op
   ·have e:qbf op [c] = []:=by rw [flatZ_one];unfold qfn qbf;rw [if_neg ho,if_pos hu];rfl
    unfold qbm
    rw [if_neg,e]
    ·unfold qic
     show opF (qdw op) []=c
     rw [←hu]
     exact (leaf_eq h.node (by rw [hu];exact unit_12 op)).symm
    ·rw [qep]
     rintro ⟨g,hg,e'⟩
     rw [List.mem_singleton] at hg
     subst hg
     exact hz e'
   ·have e:qbf op [c] = [c]:=qj4 fun g hg=>by rw [List.mem_singleton] at hg;subst hg;exact ⟨ho,hu⟩
    unfold qbm
    rw [if_neg,e]
    ·have hs:qg1 [c] = [c]:=rfl
     rw [hs]
     unfold qic
     rw [if_neg]
     intro e
     obtain ⟨x,hx,h4,hm⟩:=qix.1 e
     rw [List.mem_singleton] at hx hm
     subst hx
     exact not_own_arg h4 hm
    ·rw [qep]
     rintro ⟨g,hg,e'⟩
     rw [List.mem_singleton] at hg
     subst hg
     exact hz e'
end Go.Proofs.YtdakdpfofgkjoaaGreatDoor
namespace Go.Proofs.YtdakdpfofgkjoaaGreatDoor
def qbq (op:Int) (l:List Fm):Fm:=if l.all qa3 then (if qa3 (qbm op (l.map qak)) then qbm op (l.map qak) else qbb) else qbb
theorem qcj {f:Fm} (h:qa3 f=true):f.size≤400∧f.depth≤60∧allI qbg false f:=by
 unfold qa3 at h
 rw [Bool.and_eq_true,qcb] at h
 exact ⟨by omega,by omega,h.2⟩
theorem qlc {f:Fm} (h1:f.size≤400) (h2:f.depth≤60) (h3:allI qbg false f):qa3 f=true:=by
 unfold qa3
 rw [Bool.and_eq_true,qcb]
 exact ⟨⟨by omega,by omega⟩,h3⟩
theorem loose_canon {f:Fm} (h:qa3 f=true):qa3 (qak f)=true:=by
 obtain ⟨h1,h2,h3⟩:=qcj h
 exact qlc (Nat.le_trans (qd4 f) h1) (Nat.le_trans (canonZ_depth f) h2) (qfk f _ h3 (many_ge (by omega)))
theorem qi1 {f:Fm} (h:qa3 f=true):Can (qak f):=canonZ_can f _ (qcj h).2.2
theorem conn_eq {op:Int} (hop:op=5∨op=6) {l:List Fm} (h : ∀ g,g∈l→qa3 g=true) (hs:sizes (l.map qak)≤399) (hd:depths (l.map qak)≤59):qbq op l=qbm op (l.map qak)∧qa3 (qbm op (l.map qak))=true:=by
 have hl:qa3 (qbm op (l.map qak))=true:=qlc (Nat.le_trans (joinZ_size _ _) (by omega)) (Nat.le_trans (joinZ_depth _ _) (by omega))
  (joinZ_bare hop (fun g hg=>by
   obtain ⟨x,hx,rfl⟩:=List.mem_map.1 hg
   exact (qcj (loose_canon (h x hx))).2.2) (many_ge (by omega)))
 refine ⟨?_,hl⟩
 unfold qbq
 rw [if_pos (List.all_eq_true.2 h),if_pos hl]
structure Low (c:Fm) (n d:Nat):Prop where
 can:Can c
 loose:qa3 c=true
 size:c.size≤n
 depth:c.depth≤d
theorem Low.mono {c:Fm} {n d n' d':Nat} (h:Low c n d) (h1:n≤n') (h2:d≤d'):Low c n' d':=⟨h.can,h.loose,Nat.le_trans h.size h1,Nat.le_trans h.depth h2⟩
end Go.Proofs.YtdakdpfofgkjoaaGreatDoor
namespace Go.Proofs.YtdakdpfofgkjoaaGreatDoor
open Go.RowKit Go.Shelf
attribute [local go_sem] qad qdg qbo run_store_func
theorem conn_not {op:Int} {l:List Fm} {i:Nat} (hi:i < l.length) (h:qa3 (l.getD i default)=false):qbq op l=qbb:=by
 unfold qbq
 rw [if_neg]
 rw [List.all_eq_true]
 intro ha
 rw [ha _ (qa1 hi)] at h
 cases h
theorem connect_any {D:Dom} {w:World} {A:Option Addr} {n c:Nat} {op:Int} {l:List Fm} (h:RdA w D l A c) (hn:n=l.length) (hop:op=5∨op=6) (hz:sizes l≤1000000) (hg:GF w) (hk:GK w) :
  Calls Tryz.prog 50 #[.int .i64 op,.slice A n c] w fun e w' => ∃ v,e = .returned v∧qin (qbq op l) w v w':=by
 subst hn
 have HL:=hid h.old
 have HG:=hid hg
 have HK:=hid hk
 have hal:=qbx l
 have hcp:=h.len
 have HSZ:=hid hz
 have hll:l.length≤1000000:=Nat.le_trans hal hz
 clear h hg hk hz hal
 go_enter Tryz.func50,Tryz.ntmps50
 go_upto_region 1 with (fail)
 refine qai fun W hW => ?_
 have HB:=hid (show Below w.heap.size w W by rw [hW];go_grown)
 have HR:=hid (show OB W w.heap.size 0 ⟨#[]⟩ 0 0 none 0 0 by rw [hW];exact at_new _ _ _ rfl)
 have HWS:=hid (show W.heap.size=w.heap.size+1 by rw [hW];simp)
 have HLW:=hid (HL.out.keep (Keeps.of_below HB.out fun _ h=>h))
 have HGW:=hid (HG.out.below HB.out HG.out.pos)
 have HKW:=hid (HK.out.below HB.out HK.out.pos)
 clear hW
 go_wp2_with fail
 go_loopw [9] (fun r wr => ∃ i:Nat,i≤l.length∧r = .int .i64 (i:Int)∧Below W.heap.size W wr∧(∀ j,j < i→qa3 (l.getD j default)=true)) (fun r _=>l.length - (intOf r).toNat)
 case atStart=>exact ⟨0,Nat.zero_le _,rfl,Below.refl _ _,fun j h=>absurd h (Nat.not_lt_zero _)⟩
 case round =>
  obtain ⟨i,hi,rfl,hbl,hall⟩:=hrel
  have HBL:=hid hbl
  have HALL:=hid hall
  have HLr:=hid (HLW.out.keep (Keeps.of_below HBL.out fun k hk=>by have:=HWS.out;omega))
  have HGr:=hid (HGW.out.below HBL.out (by have:=HGW.out.pos;omega))
  have HKr:=hid (HKW.out.below HBL.out (by have:=HKW.out.pos;omega))
  have HRr:=hid (HR.out.below HBL.out)
  clear hbl hall
  by_cases hlt:i < l.length
  ·have hii:(i:Int) < l.length:=by omega
   obtain ⟨b1,o1,A',c',f,rfl,HX,hf⟩:=HLr.out.get hlt
   have HXX:=hid HX.out
   have HLO:=hid (loose_any f b1 (o1+i * 5) A' c' wr hf HGr.out HKr.out)
   clear HX hf
   cases hv:qa3 f
   ·have HZ:=hid (conn_not (op:=op) hlt (by rw [HXX.out];exact hv))
    rw [hv] at HLO
    clear hv
    go_wp2_with (go_at_call 52;refine HLO.out.mono ?_;rintro e w2 ⟨rfl,hb2⟩;have hr:=HRr.out.below hb2;obtain ⟨r0,r1,r2,r3,r4,rl⟩:=hr.cells;have p0:=hr.free 0;have p1:=hr.free 1;have p2:=hr.free 2;have p3:=hr.free 3;have p4:=hr.free 4)
    refine qab fun WE hWE => ?_
    have hoE:OB WE w.heap.size 0 ⟨#[]⟩ 0 0 none 0 0:=by rw [hWE];exact qag hr
    have hb2w:Below W.heap.size W w2:=HBL.out.trans (hb2.mono HBL.out.size)
    have hcE:Chg (fun x=>x=w.heap.size) w2 WE:=by rw [hWE];exact qae _ _ _ _ _ _ _
    have hbE:Below w.heap.size w WE:=(HB.out.trans (hb2w.mono HB.out.size)).trans (hcE.below (B:=w.heap.size) (fun x hx h=>by omega) (Nat.le_trans HB.out.size hb2w.size))
    obtain ⟨y0,y1,y2,y3,y4,yl⟩:=hoE.cells
    clear hWE r0 r1 r2 r3 r4 p0 p1 p2 p3 p4
    rw [HZ.out]
    exact bodyPost_ret (v := .agg #[.int .i64 0,.string ⟨#[]⟩,.int .i64 0,.int .i64 0,.slice none 0 0]) (by simp [results,Tryz.results50,go_sem,y0,y1,y2,y3,y4]) rfl ⟨_,rfl,qin.zero hbE⟩
   ·have HV:=hid (show qa3 (l.getD i default)=true by rw [HXX.out];exact hv)
    rw [hv] at HLO
    clear hv
    go_wp2_with (go_at_call 52;refine HLO.out.mono ?_;rintro e w2 ⟨rfl,hb2⟩)
    go_roundw
    case rel=>exact ⟨i+1,by omega,by go_num,HBL.out.trans (hb2.mono HBL.out.size),fun j hj=>by
     rcases Nat.lt_succ_iff_lt_or_eq.1 hj with h | h
     ·exact HALL.out j h
     ·rw [h];exact HV.out⟩
    case measure=>simp [intOf];omega
  ·have hii : ¬ (i:Int) < l.length:=by omega
   have HALLL:=hid (show ∀ g,g∈l→qa3 g=true from fun g hg=>by
    obtain ⟨k,hk,e⟩:=List.getElem_of_mem hg
    have:=HALL.out k (by omega)
    have e2:l.getD k default=g:=by rw [←e];simp [List.getD_eq_getElem?_getD,List.getElem?_eq_getElem hk]
    rwa [e2] at this)
   have HBR:=hid (fun g hg=>by obtain ⟨x,hx,rfl⟩:=List.mem_map.1 hg;exact (qcj (loose_canon (HALLL.out x hx))).2.2 : ∀ g,g∈l.map qak→allI qbg false g)
   have HFB:=hid (qhw hop HBR.out)
   have HSC:=hid (show sizes (l.map qak)≤1000000 from Nat.le_trans (qcx fun x _=>qd4 x) HSZ.out)
   have HC:=hid (canons_any HLr.out rfl hll (fun g hg=>canon_any g _ (qcj (HALLL.out g hg)).2.2 (by have:=(qcj (HALLL.out g hg)).1;omega)))
   obtain ⟨g,hg⟩ : ∃ g,g=qbm op (l.map qak):=⟨_,rfl⟩
   have HGJ:=hid hg
   have HCON:=hid (show qbq op l=if qa3 g then g else qbb by
    unfold qbq
    rw [if_pos (List.all_eq_true.2 HALLL.out),←HGJ.out])
   clear hg
   go_upto_region 8 with (first | (go_at_call 80;refine HC.out.mono ?_;rintro e w2 ⟨A2,rfl,ha2,hb2⟩;have HB2:=hid hb2;have HJ:=hid (join_any (base:=wr.heap.size) (n:=l.length) ha2 (by simp) hop hb2.size HSC.out (fun x hx h4=>qjg (HFB.out x hx) h4) (fun x hx=>⟨_,qh2 qjh (HFB.out x hx)⟩));clear ha2) | (go_at_call 79;refine HJ.out.mono ?_;rw [←HGJ.out];rintro e w5 ⟨v,rfl,⟨A5,c5,rfl,ha5⟩,hb5⟩))
   refine qai fun W5 hW5 => ?_
   obtain ⟨ob,hob⟩ : ∃ ob,ob=w5.heap.size:=⟨_,rfl⟩
   rw [←hob]
   have HB52:=hid (hb5)
   have HB5r:=hid (show Below wr.heap.size wr W5 by rw [hW5];exact (HB2.out.trans (hb5.mono HB2.out.size)).alloc (Nat.le_trans HB2.out.size hb5.size) _)
   have HB5W:=hid (HBL.out.trans (HB5r.out.mono HBL.out.size))
   have HB5:=hid (HB.out.trans (HB5W.out.mono HB.out.size))
   have HO5:=hid (show OB W5 ob g.op g.name g.val g.bound A5 g.args.length c5 by rw [hW5];exact at_new _ _ _ hob)
   have HR5:=hid (HR.out.below HB5W.out)
   have HA5:=hid (show RdA W5 (Nw wr.heap.size W5) g.args A5 c5 from ha5.nw (V:=fun _=>False) (by rw [hW5];exact (Chg.refl _ w5).alloc _) fun _ h=>h.elim)
   have hobr:wr.heap.size≤ob:=by rw [hob];exact Nat.le_trans HB2.out.size hb5.size
   have hwr:=HBL.out.size
   have hws:=HWS.out
   have HWR:=hid (And.intro hwr hws)
   have hne1 : ¬ ob=w.heap.size:=by omega
   have hne2 : ¬ w.heap.size=ob:=by omega
   have HG5:=hid (HGW.out.below HB5W.out (by have:=HGW.out.pos;omega))
   have HK5:=hid (HKW.out.below HB5W.out (by have:=HKW.out.pos;omega))
   have HLO:=hid (loose_any g ob 0 A5 c5 W5 (qdd.hasF (D:=qbw) HO5.out trivial (HA5.out.mono fun _ _ _=>trivial)) HG5.out HK5.out)
   clear hW5 hob hb5 ha5 HC HJ hwr hws
   cases hv:qa3 g
   ·have HZ:=hid (show qbq op l=qbb by rw [HCON.out,hv];rfl)
    rw [hv] at HLO
    clear hv
    go_wp2_with (go_at_call 52;refine HLO.out.mono ?_;rintro e w6 ⟨rfl,hb6⟩;have HB6:=hid hb6;have hr:=HR5.out.below hb6;obtain ⟨r0,r1,r2,r3,r4,rl⟩:=hr.cells;have p0:=hr.free 0;have p1:=hr.free 1;have p2:=hr.free 2;have p3:=hr.free 3;have p4:=hr.free 4)
    refine qab fun WE hWE => ?_
    have hoE:OB WE w.heap.size 0 ⟨#[]⟩ 0 0 none 0 0:=by rw [hWE];exact qag hr
    have hcE:Chg (fun x=>x=w.heap.size) w6 WE:=by rw [hWE];exact qae _ _ _ _ _ _ _
    have hbE:Below w.heap.size w WE:=(HB5.out.trans (HB6.out.mono HB5.out.size)).trans (hcE.below (B:=w.heap.size) (fun x hx h=>by omega) (Nat.le_trans HB5.out.size HB6.out.size))
    obtain ⟨y0,y1,y2,y3,y4,yl⟩:=hoE.cells
    clear hWE r0 r1 r2 r3 r4 p0 p1 p2 p3 p4
    rw [HZ.out]
    exact bodyPost_ret (v := .agg #[.int .i64 0,.string ⟨#[]⟩,.int .i64 0,.int .i64 0,.slice none 0 0]) (by simp [results,Tryz.results50,go_sem,y0,y1,y2,y3,y4]) rfl ⟨_,rfl,qin.zero hbE⟩
   ·have HZ:=hid (show qbq op l=g by rw [HCON.out,hv];rfl)
    rw [hv] at HLO
    clear hv
    go_wp2_with (go_at_call 52;refine HLO.out.mono ?_;rintro e w6 ⟨rfl,hb6⟩;have HB6:=hid hb6;have HO6:=hid (HO5.out.below hb6);obtain ⟨z0,z1,z2,z3,z4,zl⟩:=HO6.out.cells;have hr:=HR5.out.below hb6;obtain ⟨r0,r1,r2,r3,r4,rl⟩:=hr.cells;have p0:=hr.free 0;have p1:=hr.free 1;have p2:=hr.free 2;have p3:=hr.free 3;have p4:=hr.free 4)
    refine qab fun WE hWE => ?_
    have hoE:OB WE w.heap.size g.op g.name g.val g.bound A5 g.args.length c5:=by rw [hWE];exact qag hr
    have hcE:Chg (fun x=>x=w.heap.size) w6 WE:=by rw [hWE];exact qae _ _ _ _ _ _ _
    have hbE:Below w.heap.size w WE:=(HB5.out.trans (HB6.out.mono HB5.out.size)).trans (hcE.below (B:=w.heap.size) (fun x hx h=>by omega) (Nat.le_trans HB5.out.size HB6.out.size))
    have hnew:qin (qbq op l) w (.agg #[.int .i64 g.op,.string g.name,.int .i64 g.val,.int .i64 g.bound,.slice A5 g.args.length c5]) WE:=by
     rw [HZ.out]
     have ha6:RdA w6 (Nw wr.heap.size w6) g.args A5 c5:=HA5.out.nw (Chg.of_new (V:=fun _=>False) HB6.out) fun _ h=>h.elim
     exact ⟨hbE,A5,c5,rfl,(ha6.nw hcE fun x h=>by have:x=w.heap.size:=h;have:=HWR.out;omega).base (by have:=HWR.out;omega)⟩
    obtain ⟨y0,y1,y2,y3,y4,yl⟩:=hoE.cells
    clear hWE r0 r1 r2 r3 r4 p0 p1 p2 p3 p4 z0 z1 z2 z3 z4
    exact bodyPost_ret (v := .agg #[.int .i64 g.op,.string g.name,.int .i64 g.val,.int .i64 g.bound,.slice A5 g.args.length c5]) (by simp [results,Tryz.results50,go_sem,y0,y1,y2,y3,y4]) rfl ⟨_,rfl,hnew⟩
theorem or_any {D:Dom} {w:World} {A:Option Addr} {n c:Nat} {l:List Fm} (h:RdA w D l A c) (hn:n=l.length) (hz:sizes l≤1000000) (hg:GF w) (hk:GK w) :
  Calls Tryz.prog 27 #[.slice A n c] w fun e w' => ∃ v,e = .returned v∧qin (qbq 6 l) w v w':=by
 subst hn
 have HL:=hid h.old
 have HG:=hid hg
 have HK:=hid hk
 clear h hg hk
 obtain ⟨g,hgg⟩ : ∃ g,qbq 6 l=g:=⟨_,rfl⟩
 have HGG:=hid hgg
 rw [hgg]
 clear hgg
 go_enter Tryz.func27,Tryz.ntmps27
 go_upto_region 1 with (fail)
 refine qai fun W hW => ?_
 have HB:=hid (show Below w.heap.size w W by rw [hW];go_grown)
 have HR:=hid (show OB W w.heap.size 0 ⟨#[]⟩ 0 0 none 0 0 by rw [hW];exact at_new _ _ _ rfl)
 have HWS:=hid (show W.heap.size=w.heap.size+1 by rw [hW];simp)
 have HC:=hid (connect_any (op:=6) (HL.out.keep (Keeps.of_below HB.out fun _ h=>h)) rfl (.inr rfl) hz (HG.out.below HB.out HG.out.pos) (HK.out.below HB.out HK.out.pos))
 clear hW
 rw [HGG.out] at HC
 go_wp2_with (go_at_call 50;(with_reducible refine HC.out.mono ?_);rintro e w5 ⟨v,rfl,hb5,A5,c5,rfl,ha5⟩;have HA5:=hid ha5;have HB5:=hid hb5;clear ha5;have hr:=HR.out.below hb5;obtain ⟨r0,r1,r2,r3,r4,rl⟩:=hr.cells;have p0:=hr.free 0;have p1:=hr.free 1;have p2:=hr.free 2;have p3:=hr.free 3;have p4:=hr.free 4)
 refine qab fun WE hWE => ?_
 have hoE:OB WE w.heap.size g.op g.name g.val g.bound A5 g.args.length c5:=by rw [hWE];exact qag hr
 have hcE:Chg (fun x=>x=w.heap.size) w5 WE:=by rw [hWE];exact qae _ _ _ _ _ _ _
 have hb5w:=HB.out.trans (HB5.out.mono HB.out.size)
 have hbE:Below w.heap.size w WE:=hb5w.trans (hcE.below (B:=w.heap.size) (fun x hx h=>by omega) hb5w.size)
 have hnew:qin g w (.agg #[.int .i64 g.op,.string g.name,.int .i64 g.val,.int .i64 g.bound,.slice A5 g.args.length c5]) WE :=
  ⟨hbE,A5,c5,rfl,(HA5.out.nw hcE fun x h=>by have:x=w.heap.size:=h;have:=HWS.out;omega).base HB.out.size⟩
 obtain ⟨y0,y1,y2,y3,y4,yl⟩:=hoE.cells
 clear hWE r0 r1 r2 r3 r4 p0 p1 p2 p3 p4
 exact bodyPost_ret (v := .agg #[.int .i64 g.op,.string g.name,.int .i64 g.val,.int .i64 g.bound,.slice A5 g.args.length c5]) (by simp [results,Tryz.results27,go_sem,y0,y1,y2,y3,y4]) rfl ⟨_,rfl,hnew⟩
end Go.Proofs.YtdakdpfofgkjoaaGreatDoor
namespace Go.Proofs.YtdakdpfofgkjoaaGreatDoor
def Bare (f:Fm):Prop := ∃ ins,allI qbg ins f
theorem Bare.arg {f g:Fm} (h:Bare f) (hg:g∈f.args):Bare g:=let ⟨_,h⟩:=h;⟨_,(qay.1 h).2 g hg⟩
theorem Bare.node {f:Fm} (h:Bare f):(qah f.op).loose=true∧qas f=true∧(f.op=4→(f.args.getD 0 default).op=3):=let ⟨_,h⟩:=h;let h:=qdq (qay.1 h).1;⟨h.1,h.2.1,h.2.2.2⟩
end Go.Proofs.YtdakdpfofgkjoaaGreatDoor
namespace Go.Proofs.YtdakdpfofgkjoaaGreatDoor
theorem qf5 {gs:List Fm} {i:Nat} (hi:i < gs.length):gs.getD i default∈gs:=by simp [List.getD,hi]
theorem allI_any {p:Fm→Bool} (f:Fm) : ∀ ins,allI (fun x=>p x.1) ins f ↔ allI (fun x=>p x.1) false f:=by
 induction f using Fm.ind with
 | h f ih =>
  intro ins
  rw [qay,qay]
  exact and_congr_right fun _=>⟨fun h g hg=>(ih g hg _).2 ((ih g hg _).1 (h g hg)),fun h g hg=>(ih g hg _).2 ((ih g hg _).1 (h g hg))⟩
theorem qji {l:List Fm} {P:Fm→Prop} : (∀ g,g∈l→P g) ↔ ∀ j,j < l.length→P (l.getD j default):=by
 constructor
 ·exact fun h j hj=>h _ (qf5 hj)
 ·intro h g hg
  obtain ⟨i,hi,rfl⟩:=List.getElem_of_mem hg
  have:=h i hi
  rwa [List.getD_eq_getElem?_getD,List.getElem?_eq_getElem hi] at this
theorem qd1 (p:Fm→Bool) (f:Fm):allB (fun x=>p x.1) f=(p f && qkb f.args.length fun i=>allB (fun x=>p x.1) (f.args.getD i default)):=by
 rw [Bool.eq_iff_iff,Bool.and_eq_true,qd0,qjj,qay]
 refine and_congr_right fun _ => ?_
 rw [qji]
 exact ⟨fun h j hj=>(allI_any _ _).1 (h j hj),fun h j hj=>(allI_any _ _).2 (h j hj)⟩
theorem qlg {o:Int} (h : ¬ isOp o=true):o < 1∨20≤o:=by
 unfold isOp at h
 simp at h
 omega
theorem formZ_not {o:Int} (h : ¬ isOp o=true):qah o=qcc:=by unfold qah;rw [if_neg h]
def qkx (o:Int):Bool:=decide (15≤o) && decide (o≤19)
def futO (o:Int):Bool:=decide (8≤o) && decide (o≤14)
def qkq (o:Int):Bool:=(decide (1≤o) && decide (o≤6)) || o == 8 || o == 9 || o == 10 || o == 15 || o == 16 || o == 17
theorem past_O (o:Int):(qah o).past=qkx o:=by
 by_cases h:isOp o=true
 ·rcases qdt h with rfl | rfl | rfl | rfl | rfl | rfl | rfl | rfl | rfl | rfl | rfl | rfl | rfl | rfl | rfl | rfl | rfl | rfl | rfl <;> rfl
 ·rw [formZ_not h]
  unfold qkx
  have:=qlg h
  show false=_
  symm
  simp
  omega
theorem fut_O (o:Int):(qah o).future=futO o:=by
 by_cases h:isOp o=true
 ·rcases qdt h with rfl | rfl | rfl | rfl | rfl | rfl | rfl | rfl | rfl | rfl | rfl | rfl | rfl | rfl | rfl | rfl | rfl | rfl | rfl <;> rfl
 ·rw [formZ_not h]
  unfold futO
  have:=qlg h
  show false=_
  symm
  simp
  omega
theorem loose_O (o:Int):(qah o).loose=qkq o:=by
 by_cases h:isOp o=true
 ·rcases qdt h with rfl | rfl | rfl | rfl | rfl | rfl | rfl | rfl | rfl | rfl | rfl | rfl | rfl | rfl | rfl | rfl | rfl | rfl | rfl <;> rfl
 ·rw [formZ_not h]
  unfold qkq
  have:=qlg h
  show false=_
  symm
  simp
  omega
def pastP (f:Fm):Bool := !futO f.op
def qk2 (f:Fm):Bool:=qkq f.op && notQ f
def qer (f:Fm):Bool:=allB (fun x=>pastP x.1) f
def qbu (f:Fm):Bool:=allB (fun x=>qas x.1) f
def qb8 (f:Fm):Bool:=allB (fun x=>qk2 x.1) f
theorem pastA_eq (f:Fm):qer f=allB qff f:=by
 unfold qer
 congr 1
 funext x
 unfold pastP qff
 rw [fut_O]
theorem lay_in (f:Fm):allI qj0 true f ↔ qer f=true:=by
 induction f using Fm.ind with
 | h f ih =>
  rw [qay]
  unfold qer
  rw [qd1,Bool.and_eq_true,qd0]
  have h1:qj0 (f,true)=pastP f:=by unfold qj0 pastP;rw [←fut_O];simp
  rw [h1]
  refine and_congr_right fun _ => ?_
  rw [qji]
  exact forall_congr' fun j=>forall_congr' fun hj=>ih _ (qf5 hj)
theorem lay_out (f:Fm):qer f=true→allI qj0 false f:=fun h=>by
 rw [pastA_eq] at h
 exact past_layered h
def layL (f:Fm):Bool:=allB qj0 f
theorem layL_flat (f:Fm):layL f=qkb f.args.length fun i=>layL (f.args.getD i default) && (!qkx f.op || qer (f.args.getD i default)):=by
 unfold layL
 rw [Bool.eq_iff_iff,qd0,qjj,qay]
 have h1:qj0 (f,false)=true:=by unfold qj0;simp
 rw [h1,qji,past_O]
 simp only [true_and,Bool.false_or]
 refine forall_congr' fun j=>forall_congr' fun hj => ?_
 rw [Bool.and_eq_true,Bool.or_eq_true]
 cases hp:qkx f.op
 ·simp [qjj]
 ·simp only [Bool.not_true,Bool.false_eq_true,false_or]
  rw [lay_in]
  exact ⟨fun h=>⟨lay_out _ h,h⟩,fun h=>h.2⟩
theorem coreA_split (f:Fm) : ∀ ins,allI qbg ins f ↔ qbu f=true∧qb8 f=true∧allI qj0 ins f:=by
 induction f using Fm.ind with
 | h f ih =>
  intro ins
  unfold qbu qb8
  rw [qay,qay,qd1,qd1,Bool.and_eq_true,Bool.and_eq_true,qd0,qd0]
  have hq:qbg (f,ins)=true ↔ qas f=true∧qk2 f=true∧qj0 (f,ins)=true:=by
   unfold qbg qk2 qj0
   rw [←loose_O]
   simp only [Bool.and_eq_true]
   constructor
   ·rintro ⟨⟨⟨a,b⟩,c⟩,d⟩;exact ⟨b,⟨a,d⟩,c⟩
   ·rintro ⟨b,⟨a,d⟩,c⟩;exact ⟨⟨⟨a,b⟩,c⟩,d⟩
  rw [hq,qji,qji]
  constructor
  ·rintro ⟨⟨a,b,c⟩,h⟩
   exact ⟨⟨a,fun j hj=>((ih _ (qf5 hj) _).1 (h j hj)).1⟩,⟨b,fun j hj=>((ih _ (qf5 hj) _).1 (h j hj)).2.1⟩,c,fun j hj=>((ih _ (qf5 hj) _).1 (h j hj)).2.2⟩
  ·rintro ⟨⟨a,h1⟩,⟨b,h2⟩,c,h3⟩
   exact ⟨⟨a,b,c⟩,fun j hj=>(ih _ (qf5 hj) _).2 ⟨h1 j hj,h2 j hj,h3 j hj⟩⟩
theorem shaped_notK {f:Fm} (h:qas f=true) (h4:f.op=4):0 < f.args.length:=by
 have:=(qbz h).2.1
 rw [h4] at this
 exact this
theorem core_arg {f:Fm} (h:qbu f=true) (h4:f.op=4):0 < f.args.length:=by
 unfold qbu at h
 rw [qd1,Bool.and_eq_true] at h
 exact shaped_notK h.1 h4
def qdz (o:Int):Int × Int × Bool :=
 if o=1∨o=2∨o=3 then (0,0,true)
 else if o=4∨o=8∨o=11∨o=12∨o=13∨o=14∨o=15∨o=18∨o=19 then (1,1,true)
 else if o=7∨o=9∨o=10∨o=16∨o=17 then (2,2,true)
 else if o=5∨o=6 then (2, -1,true)
 else (0,0,false)
theorem countZ_not {o:Int} (h : ¬ isOp o=true):qdz o=(0,0,false):=by
 have:=qlg h
 unfold qdz
 rw [if_neg (by omega),if_neg (by omega),if_neg (by omega),if_neg (by omega)]
end Go.Proofs.YtdakdpfofgkjoaaGreatDoor
