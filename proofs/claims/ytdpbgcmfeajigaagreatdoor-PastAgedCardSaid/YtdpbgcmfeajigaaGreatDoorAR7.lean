/-
  For all arguments, the law PastAged returns true, and its arguments read afterwards as before: the row, and its tied card. No condition.
-/
import Derived.Test.YtdpbgcmfeajigaaGreatDoorCards
import Derived.Test.YtdpbgcmfeajigaaGreatDoorTie
import Derived.SevenTiedAt
import Derived.Test.YtdpbgcmfeajigaaGreatDoorA37
set_option linter.unusedSimpArgs false
set_option linter.unusedVariables false
set_option maxRecDepth 100000
namespace Go.Proofs.YtdpbgcmfeajigaaGreatDoor
open Go Go.ChangeShapes Go.WideShapes Go.ChangeAt Go.RowKit Go.Deep
section
variable {H:Type}{c:TypeId×Value->H}{P:Program}{w:World}{b:Nat}{s:Nat->Bool}{k:Bool}{t t1 t2 t3 t4:TypeId}
theorem LJ {args:Array Value}{ds:List (DataW H)}{ps:List MemPlace}(h:DataW.TrodAll c P w b s k [t,t1,t2,t3,t4] args.toList ds ps):
  ∃v v1 v2 v3 v4 d d1 d2 d3 d4 p p1 p2 p3 p4,args=#[v,v1,v2,v3,v4]/\ds=[d,d1,d2,d3,d4]/\ps=p++p1++p2++p3++p4/\DataW.Trod c P w b s k t v d p/\DataW.Trod c P w b s k t1 v1 d1 p1/\DataW.Trod c P w b s k t2 v2 d2 p2/\DataW.Trod c P w b s k t3 v3 d3 p3/\DataW.Trod c P w b s k t4 v4 d4 p4:=by
 obtain⟨v,vs,d,es,p,q,ha,rfl,rfl,hd,hr⟩:=trodAll_cons h;obtain⟨v1,vs1,d1,es1,p1,q1,rfl,rfl,rfl,hd1,qeb⟩:=trodAll_cons hr;obtain⟨v2,vs2,d2,es2,p2,q2,rfl,rfl,rfl,hd2,qec⟩:=trodAll_cons qeb;obtain⟨v3,vs3,d3,es3,p3,q3,rfl,rfl,rfl,hd3,hb⟩:=trodAll_cons qec;obtain⟨v4,vs4,d4,es4,p4,q4,rfl,rfl,rfl,hd4,qee⟩:=trodAll_cons hb;obtain⟨rfl,rfl,rfl⟩:=trodAll_nil qee;exact⟨v,v1,v2,v3,v4,d,d1,d2,d3,d4,p,p1,p2,p3,p4,by cases args;simp_all,rfl,by simp,hd,hd1,hd2,hd3,hd4⟩
theorem O7 {v v1 v2 v3 v4:Value}{d d1 d2 d3 d4:DataW H}{p p1 p2 p3 p4:List MemPlace}(h:DataW.Trod c P w b s k t v d p)(h1:DataW.Trod c P w b s k t1 v1 d1 p1)(h2:DataW.Trod c P w b s k t2 v2 d2 p2)(h3:DataW.Trod c P w b s k t3 v3 d3 p3)(h4:DataW.Trod c P w b s k t4 v4 d4 p4):
  DataW.TrodAll c P w b s k [t,t1,t2,t3,t4] [v,v1,v2,v3,v4] [d,d1,d2,d3,d4] (p++(p1++(p2++(p3++p4)))):=⟨p,p1++(p2++(p3++p4)),h,⟨p1,p2++(p3++p4),h1,trodAll_mk3 h2 h3 h4,rfl⟩,rfl⟩
end
theorem Ep (os:Os)(s:os.Started)(H:Type)(enc:TypeId×Value->H):
  ReturnsInHanded {} Tryz.checked os 6 .any (λ w args=>(Rows.pastAgedSpec.pre enc Tryz.prog Tryz.f6 [] false w args/\laidMetH Tryz.prog Rows.pastAgedRow.laid w)/\sizedMet enc Tryz.prog Tryz.f6 (OpenSpec.ofChange Rows.pastAgedSpec) false w args)
   (Rows.pastAgedSpec.post enc Tryz.prog Tryz.f6 false true false false):=by
 refine returnsInHanded_of_change_and (C:=Tryz.checked) (X:=λ w _=>laidMetH Tryz.prog Rows.pastAgedRow.laid w) (λ _ _ _ hh h=>h.of_heap hh) ZJ s (by kernel_rfl) Tryz.func6
  (ChangeSpec.witness_shaped (enc:=enc) (C:=Tryz.checked) (os:=os) (X:=λ w _=>laidMetH Tryz.prog Rows.pastAgedRow.laid w) false (World.doorLaid Tryz.prog 38 os) #[.slice none 0 0,.agg #[.int .i64 0,.string ⟨#[]⟩,.int .i64 0,.int .i64 0,.slice none 0 0],.agg #[.slice none 0 0,.slice none 0 0],.int .u8 0,.int .u8 0] 8 rfl (World.shaped_of_RefB (by kernel_rfl) (by kernel_rfl)) (by kernel_rfl) (by kernel_rfl) (by kernel_rfl) (laidMetH_of_parts3 (fuel:=8) (laidMet_of_run' 8 (by kernel_rfl) (by kernel_rfl)) (by kernel_rfl) (by kernel_rfl))) ?_
 intro W base args ds gs _ hv hW _ hz hL _;have hq:(DataW.weightsEach Tryz.prog (Tryz.f6.params.toList++Rows.pastAgedSpec.plain.varTypes Tryz.prog) (ds++gs)).all (· <= reachBytes)=true:=hz;clear hz;have hw:∀(j:Nat) t v,Tryz.f6.params[j]?=some t->args[j]?=some v->Value.okWide Tryz.prog W .any base t v:=hv;have hW':=hW;obtain⟨p,q,hA0,hV,rfl,_,_⟩:=hW;have hA:DataW.TrodAll enc Tryz.prog W 0 (λ _=>true) true Tryz.f6.params.toList args.toList ds p:=hA0;rw[Tryz.params6]at hA hw hq;obtain⟨v0,v1,v2,v3,v4,d0,d1,d2,d3,d4,p0,p1,p2,p3,p4,rfl,rfl,rfl,h0,h1,h2,h3,h4⟩:=LJ hA;obtain⟨rfl,rfl⟩:=trodVars_none hV;clear hA0 hv;simp only[List.append_nil]at hW' hq
 have hlt:∀x∈p0++p1++p2++p3++p4,x.block<W.heap.size:=λ x hx=>by simpa using hW'.lt x hx
 obtain⟨aG,nG,eG,hvG⟩:=okWide_slice Tryz.underlying34 (hw 0 _ v0 rfl rfl);obtain⟨AS,cS,l,rfl,hl⟩:=qbP (by rw[hvG];rfl) h0 (AV hq (j:=0) rfl rfl);clear hvG;obtain⟨f,hf⟩:=qep (hw 1 _ v1 rfl rfl) h1 (AV hq (j:=1) rfl rfl);obtain⟨Wd,hWd⟩:=qeq (hw 2 _ v2 rfl rfl) h2 (AV hq (j:=2) rfl rfl);obtain⟨x,rfl,rfl,rfl,wx⟩:=open_int Tryz.underlying5 (hw 3 _ v3 rfl rfl) h3
 obtain⟨y,rfl,rfl,rfl,wy⟩:=open_int Tryz.underlying5 (hw 4 _ v4 rfl rfl) h4
 have hx:(0<=x/\x<=255)/\0<=y/\y<=255:=by
  have wz:=wx;have wu:=wy;simp[Lit.wf,IntKind.min,IntKind.max,IntKind.signed,IntKind.bits]at wz wu;omega
 obtain⟨hG,hK⟩:=of_laid hL;refine(La l AS cS l.length f v1 v2 Wd x y W rfl hl hf hWd hx.1.1 hx.1.2 hx.2.1 hx.2.2 hG hK).mono λ e W' ⟨he,hb⟩=>⟨_,he,?_⟩;refine Ie (pa:=(p0++(p1++(p2++([]++[]))))) (pv:=[]) hW' (λ _ _ _=>trodAll_mk1 (shut_bool Tryz.underlying4 true)) (λ sp hsp=>?_) (λ _ _=>rfl) (by simp) hb (ok_one (by kernel_rfl) rfl (okWide_bool_mk Tryz.underlying4 true));have hs:∀x∈(p0++(p1++(p2++([]++[])))),sp x.block=true:=λ x hx=>hsp x (by simpa using hx)
 exact O7 (xA F5 (by kernel_rfl) (of_decide_eq_true (by kernel_rfl)) h0 hb (λ x hx=>hlt x (by simp[hx])) (λ x hx=>hs x (by simp[hx]))) (xA F5 (by kernel_rfl) (of_decide_eq_true (by kernel_rfl)) h1 hb (λ x hx=>hlt x (by simp[hx])) (λ x hx=>hs x (by simp[hx]))) (xA F5 (by kernel_rfl) (of_decide_eq_true (by kernel_rfl)) h2 hb (λ x hx=>hlt x (by simp[hx])) (λ x hx=>hs x (by simp[hx]))) (shut_int Tryz.underlying5 wx) (shut_int Tryz.underlying5 wy)
theorem Gi:Rows.PastAgedSaid :=
 OpenClaim.holds_of_wide 6 Tryz.f6 rfl rfl rfl rfl rfl rfl rfl ⟨rfl,rfl,rfl,rfl,rfl⟩ rfl rfl rfl rfl rfl (by kernel_rfl) Tryz.func6 (by kernel_rfl)
  (of_decide_eq_true (by kernel_rfl)) (by unfold Func.isWrapper;first|(rw[if_pos (by decide +kernel)];kernel_rfl)|(rw[if_neg (by decide +kernel)];exact⟨rfl,rfl⟩))
  (λ os s H enc _=>Ep os s H enc)
theorem pastAged_card:Rows.PastAgedCardSaid :=
 Claim7.holds_tied_plain_at .later [] [.data,.data] true (true, "5c109be31299c626b1a24271a7c6a65248b160c758ae47dcfc48477c0cbf8ff3") false
  Gi (λ _ h=>by cases h) (by kernel_rfl) (λ _ h=>by cases h) pastAged_row_tie rfl ⟨rfl,rfl⟩ (by kernel_rfl) rfl
  (λ f fn hf hfn=>by
   obtain rfl:f=6:=Option.some.inj ((show Tryz.prog.funcNamed "foresight/foresightlaw09.PastAged" = some 6 by kernel_rfl).symm.trans hf) |>.symm
   obtain rfl:fn=Tryz.f6:=(Option.some.inj (Tryz.func6.symm.trans hfn)).symm
   exact⟨by kernel_rfl,λ j t ht=>by
    rw[Tryz.params6]at ht;have hm:t∈[34,24,37,5,5]:=by simpa using Array.mem_of_getElem? ht
    have hall:([34,24,37,5,5].all λ u => !Tryz.prog.wantsStandIn u)=true:=by kernel_rfl
    exact(show Tryz.prog.wantsStandIn t=false by simpa using List.all_eq_true.1 hall t hm)⟩)
  (by kernel_rfl)
end Go.Proofs.YtdpbgcmfeajigaaGreatDoor
