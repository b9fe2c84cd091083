/-
  For all arguments, the law PastTruth returns true, and its arguments read afterwards as before: the row, and its tied card. No condition.
-/
import Derived.Test.YtdpbgcmfeajigaaGreatDoorCards
import Derived.Test.YtdpbgcmfeajigaaGreatDoorTie
import Derived.SevenTiedAt
import Derived.Test.YtdpbgcmfeajigaaGreatDoorT37
import Derived.Test.YtdpbgcmfeajigaaGreatDoorT35
import Derived.Test.YtdpbgcmfeajigaaGreatDoorT24
set_option linter.unusedSimpArgs false
set_option linter.unusedVariables false
set_option maxRecDepth 100000
namespace Go.Proofs.YtdpbgcmfeajigaaGreatDoor
open Go Go.ChangeShapes Go.WideShapes Go.ChangeAt Go.RowKit Go.Deep
section
variable {H:Type}{enc:TypeId×Value->H}{P:Program}{w:World}{base:Nat}{spare:Nat->Bool}{held:Bool}{t t1 t2 t3:TypeId}
theorem trodAll_four {args:Array Value}{ds:List (DataW H)}{ps:List MemPlace}(h:DataW.TrodAll enc P w base spare held [t,t1,t2,t3] args.toList ds ps) :
  ∃v v1 v2 v3 d d1 d2 d3 p p1 p2 p3,args = #[v,v1,v2,v3]/\ds = [d,d1,d2,d3]/\ps=p++p1++p2++p3/\DataW.Trod enc P w base spare held t v d p/\DataW.Trod enc P w base spare held t1 v1 d1 p1/\DataW.Trod enc P w base spare held t2 v2 d2 p2/\DataW.Trod enc P w base spare held t3 v3 d3 p3:=by
 obtain⟨v,vs,d,es,p,q,hargs,rfl,rfl,hd,hrest⟩:=trodAll_cons h;obtain⟨v1,vs1,d1,es1,p1,q1,rfl,rfl,rfl,hd1,qdd⟩:=trodAll_cons hrest;obtain⟨v2,vs2,d2,es2,p2,q2,rfl,rfl,rfl,hd2,qde⟩:=trodAll_cons qdd;obtain⟨v3,vs3,d3,es3,p3,q3,rfl,rfl,rfl,hd3,hrest3⟩:=trodAll_cons qde;obtain⟨rfl,rfl,rfl⟩:=trodAll_nil hrest3;exact⟨v,v1,v2,v3,d,d1,d2,d3,p,p1,p2,p3,by cases args;simp_all,rfl,by simp,hd,hd1,hd2,hd3⟩
theorem trodAll_mk4 {v v1 v2 v3:Value}{d d1 d2 d3:DataW H}{p p1 p2 p3:List MemPlace}(h:DataW.Trod enc P w base spare held t v d p)(h1:DataW.Trod enc P w base spare held t1 v1 d1 p1)(h2:DataW.Trod enc P w base spare held t2 v2 d2 p2)(h3:DataW.Trod enc P w base spare held t3 v3 d3 p3) :
  DataW.TrodAll enc P w base spare held [t,t1,t2,t3] [v,v1,v2,v3] [d,d1,d2,d3] (p++(p1++(p2++p3))):=⟨p,p1++(p2++p3),h,trodAll_mk3 h1 h2 h3,rfl⟩
end
theorem H7 (os:Os)(args:Array Value):laidMetH Tryz.prog Rows.pastTruthRow.laid ((World.doorLaid Tryz.prog 38 os).forCall (fun _ _=>0) ⟨#[],args,[]⟩).memory :=
 laidMetH_of_parts3 (fuel:=8) (laidMet_of_run' 8 (by kernel_rfl) (by kernel_rfl)) (by kernel_rfl) (by kernel_rfl)
theorem CP (os:Os)(started:os.Started)(H:Type)(enc:TypeId×Value->H) :
  ReturnsInHanded {} Tryz.checked os 4 .any (fun w args=>(Rows.pastTruthSpec.pre enc Tryz.prog Tryz.f4 [] false w args/\laidMetH Tryz.prog Rows.pastTruthRow.laid w)/\sizedMet enc Tryz.prog Tryz.f4 (OpenSpec.ofChange Rows.pastTruthSpec) false w args)
   (Rows.pastTruthSpec.post enc Tryz.prog Tryz.f4 false true false false):=by
 refine returnsInHanded_of_change_and (C:=Tryz.checked) (X:=fun w _=>laidMetH Tryz.prog Rows.pastTruthRow.laid w) (fun _ _ _ hh h=>h.of_heap hh) YJ started (by kernel_rfl) Tryz.func4
  (ChangeSpec.witness_shaped (enc:=enc) (C:=Tryz.checked) (os:=os) (X:=fun w _=>laidMetH Tryz.prog Rows.pastTruthRow.laid w) false (World.doorLaid Tryz.prog 38 os) #[.slice none 0 0,.agg #[.int .i64 0,.string ⟨#[]⟩,.int .i64 0,.int .i64 0,.slice none 0 0],.agg #[.slice none 0 0,.slice none 0 0],.int .u8 0] 8 rfl (World.shaped_of_RefB (by kernel_rfl) (by kernel_rfl)) (by kernel_rfl) (by kernel_rfl) (by kernel_rfl) (H7 os _)) ?_
 intro W base args ds gs before hval0 hW _ hsz0 hL _;have hsz:(DataW.weightsEach Tryz.prog (Tryz.f4.params.toList++Rows.pastTruthSpec.plain.varTypes Tryz.prog) (ds++gs)).all (· <= reachBytes)=true:=hsz0;clear hsz0;have hval:∀(j:Nat) t v,Tryz.f4.params[j]?=some t->args[j]?=some v->Value.okWide Tryz.prog W .any base t v:=hval0;have hW':=hW;obtain⟨p,q,hA0,hV,rfl,_,_⟩:=hW;have hA:DataW.TrodAll enc Tryz.prog W 0 (fun _=>true) true Tryz.f4.params.toList args.toList ds p:=hA0;rw[Tryz.params4]at hA hval hsz;obtain⟨v0,v1,v2,v3,d0,d1,d2,d3,p0,p1,p2,p3,rfl,rfl,rfl,h0,h1,h2,h3⟩:=trodAll_four hA;obtain⟨rfl,rfl⟩:=trodVars_none hV;clear hA0 hval0;simp only[List.append_nil]at hW' hsz
 have hlt:∀x∈p0++p1++p2++p3,x.block<W.heap.size:=fun x hx=>by simpa using hW'.lt x hx
 obtain⟨aG,nG,eG,hvG⟩:=okWide_slice Tryz.underlying34 (hval 0 _ v0 rfl rfl);obtain⟨AS,cS,l,rfl,hl⟩:=qaQ (by rw[hvG];rfl) h0 (Aw hsz (j:=0) rfl rfl);clear hvG;obtain⟨f,hf⟩:=qdr (hval 1 _ v1 rfl rfl) h1 (Aw hsz (j:=1) rfl rfl);obtain⟨Wd,hWd⟩:=qds (hval 2 _ v2 rfl rfl) h2 (Aw hsz (j:=2) rfl rfl);obtain⟨x,rfl,rfl,rfl,wx⟩:=open_int Tryz.underlying5 (hval 3 _ v3 rfl rfl) h3
 have hx:0<=x/\x<=255:=by
  have wz:=wx;simp[Lit.wf,IntKind.min,IntKind.max,IntKind.signed,IntKind.bits]at wz;omega
 obtain⟨hG,hK⟩:=of_laid hL;refine(H8 l AS cS l.length f v1 v2 Wd x W rfl hl hf hWd hx.1 hx.2 hG hK).mono fun e W' ⟨he,hb⟩=>⟨_,he,?_⟩;refine Ia (pa:=(p0++(p1++(p2 ++ [])))) (pv := []) hW' (fun _ _ _=>trodAll_mk1 (shut_bool Tryz.underlying4 true)) (fun sp hsp=>?_) (fun _ _=>rfl) (by simp) hb (ok_one (by kernel_rfl) rfl (okWide_bool_mk Tryz.underlying4 true));have hs:∀x∈(p0++(p1++(p2 ++ []))),sp x.block=true:=fun x hx=>hsp x (by simpa using hx)
 exact trodAll_mk4 (wY F7 (by kernel_rfl) (of_decide_eq_true (by kernel_rfl)) h0 hb (fun x hx=>hlt x (by simp[hx])) (fun x hx=>hs x (by simp[hx]))) (wY F7 (by kernel_rfl) (of_decide_eq_true (by kernel_rfl)) h1 hb (fun x hx=>hlt x (by simp[hx])) (fun x hx=>hs x (by simp[hx]))) (wY F7 (by kernel_rfl) (of_decide_eq_true (by kernel_rfl)) h2 hb (fun x hx=>hlt x (by simp[hx])) (fun x hx=>hs x (by simp[hx]))) (shut_int Tryz.underlying5 wx)
theorem Em:Rows.PastTruthSaid :=
 OpenClaim.holds_of_wide 4 Tryz.f4 rfl rfl rfl rfl rfl rfl rfl ⟨rfl,rfl,rfl,rfl,rfl⟩ rfl rfl rfl rfl rfl (by kernel_rfl) Tryz.func4 (by kernel_rfl)
  (of_decide_eq_true (by kernel_rfl)) (by unfold Func.isWrapper;first|(rw[if_pos (by decide +kernel)];kernel_rfl)|(rw[if_neg (by decide +kernel)];exact⟨rfl,rfl⟩))
  (fun os started H enc _=>CP os started H enc)
theorem pastTruth_card:Rows.PastTruthCardSaid :=
 Claim7.holds_tied_plain_at .later [] [.data,.data] true (true, "5c109be31299c626b1a24271a7c6a65248b160c758ae47dcfc48477c0cbf8ff3") false
  Em (fun _ h=>by cases h) (by kernel_rfl) (fun _ h=>by cases h) pastTruth_row_tie rfl ⟨rfl,rfl⟩ (by kernel_rfl) rfl
  (fun f fn hf hfn=>by
   obtain rfl:f=4:=Option.some.inj ((show Tryz.prog.funcNamed "foresight/foresightlaw09.PastTruth" = some 4 by kernel_rfl).symm.trans hf) |>.symm
   obtain rfl:fn=Tryz.f4:=(Option.some.inj (Tryz.func4.symm.trans hfn)).symm
   exact⟨by kernel_rfl,fun j t ht=>by
    rw[Tryz.params4]at ht;have hm:t ∈ [34,24,37,5]:=by simpa using Array.mem_of_getElem? ht
    have hall:([34,24,37,5].all fun u => !Tryz.prog.wantsStandIn u)=true:=by kernel_rfl
    exact(show Tryz.prog.wantsStandIn t=false by simpa using List.all_eq_true.1 hall t hm)⟩)
  (by kernel_rfl)
end Go.Proofs.YtdpbgcmfeajigaaGreatDoor
