/-
  For all arguments, the law PastNodes returns true, and its arguments read afterwards as before: the row, and its tied card. No condition.
-/
import Derived.Test.YtdpbgcmfeajigaaGreatDoorCards
import Derived.Test.YtdpbgcmfeajigaaGreatDoorTie
import Derived.SevenTiedAt
import Derived.Test.YtdpbgcmfeajigaaGreatDoorZ34
import Derived.Test.YtdpbgcmfeajigaaGreatDoorZ24
set_option linter.unusedSimpArgs false
set_option linter.unusedVariables false
set_option maxRecDepth 100000
namespace Go.Proofs.YtdpbgcmfeajigaaGreatDoor
open Go Go.ChangeShapes Go.WideShapes Go.ChangeAt Go.RowKit Go.Deep
theorem pastNodes_met (os:Os) (args:Array Value):laidMetH Tryz.prog Rows.pastNodesRow.laid ((World.doorLaid Tryz.prog 38 os).forCall (fun _ _=>0) ⟨#[],args,[]⟩).memory :=
 laidMetH_of_parts3 (fuel:=8) (laidMet_of_run' 8 (by kernel_rfl) (by kernel_rfl)) (by kernel_rfl) (by kernel_rfl)
theorem qkd (os:Os) (started:os.Started) (H:Type) (enc:TypeId × Value→H) :
  ReturnsInHanded {} Tryz.checked os 3 .any (fun w args=>(Rows.pastNodesSpec.pre enc Tryz.prog Tryz.f3 [] false w args∧laidMetH Tryz.prog Rows.pastNodesRow.laid w)∧sizedMet enc Tryz.prog Tryz.f3 (OpenSpec.ofChange Rows.pastNodesSpec) false w args)
   (Rows.pastNodesSpec.post enc Tryz.prog Tryz.f3 false true false false):=by
 refine returnsInHanded_of_change_and (C:=Tryz.checked) (X:=fun w _=>laidMetH Tryz.prog Rows.pastNodesRow.laid w) (fun _ _ _ hh h=>h.of_heap hh) own_none started (by kernel_rfl) Tryz.func3
  (ChangeSpec.witness_shaped (enc:=enc) (C:=Tryz.checked) (os:=os) (X:=fun w _=>laidMetH Tryz.prog Rows.pastNodesRow.laid w) false (World.doorLaid Tryz.prog 38 os) #[.agg #[.int .i64 0,.string ⟨#[]⟩,.int .i64 0,.int .i64 0,.slice none 0 0],.int .u8 0] 8 rfl (World.shaped_of_RefB (by kernel_rfl) (by kernel_rfl)) (by kernel_rfl) (by kernel_rfl) (by kernel_rfl) (pastNodes_met os _)) ?_
 intro W base args ds gs before hval0 hW _ hsz0 hL _
 have hsz:(DataW.weightsEach Tryz.prog (Tryz.f3.params.toList ++ Rows.pastNodesSpec.plain.varTypes Tryz.prog) (ds ++ gs)).all (· ≤ reachBytes)=true:=hsz0
 clear hsz0
 have hval : ∀ (j:Nat) t v,Tryz.f3.params[j]? = some t→args[j]? = some v→Value.okWide Tryz.prog W .any base t v:=hval0
 have hW':=hW
 obtain ⟨p,q,hA0,hV,rfl,_,_⟩:=hW
 have hA:DataW.TrodAll enc Tryz.prog W 0 (fun _=>true) true Tryz.f3.params.toList args.toList ds p:=hA0
 rw [Tryz.params3] at hA hval hsz
 obtain ⟨v0,v1,d0,d1,p0,p1,rfl,rfl,rfl,h0,h1⟩:=trodAll_two hA
 obtain ⟨rfl,rfl⟩:=trodVars_none hV
 clear hA0 hval0
 simp only [List.append_nil] at hW' hsz
 have hlt : ∀ x∈p0 ++ p1,x.block < W.heap.size:=fun x hx=>by simpa using hW'.lt x hx
 obtain ⟨f,hf⟩:=open_F (hval 0 _ v0 rfl rfl) h0 (light_at hsz (j:=0) rfl rfl)
 obtain ⟨x,rfl,rfl,rfl,wx⟩:=open_int Tryz.underlying5 (hval 1 _ v1 rfl rfl) h1
 have hx:0≤x∧x≤255:=by
  have wy:=wx
  simp [Lit.wf,IntKind.min,IntKind.max,IntKind.signed,IntKind.bits] at wy
  omega
 obtain ⟨hG,hK⟩:=of_laid hL
 refine (pastnodes_law f v0 x W hf hx.1 hx.2 hG hK).mono fun e W' ⟨he,hb⟩=>⟨_,he,?_⟩
 refine post_of_below (pa:=(p0 ++ [])) (pv := []) hW' (fun _ _ _=>trodAll_mk1 (shut_bool Tryz.underlying4 true)) (fun sp hsp => ?_) (fun _ _=>rfl) (by simp) hb (ok_one (by kernel_rfl) rfl (okWide_bool_mk Tryz.underlying4 true))
 have hs : ∀ x∈(p0 ++ []),sp x.block=true:=fun x hx=>hsp x (by simpa using hx)
 exact trodAll_mk2 (reads_again laid_out (by kernel_rfl) (of_decide_eq_true (by kernel_rfl)) h0 hb (fun x hx=>hlt x (by simp [hx])) (fun x hx=>hs x (by simp [hx]))) (shut_int Tryz.underlying5 wx)
theorem pastNodes_holds:Rows.PastNodesSaid :=
 OpenClaim.holds_of_wide 3 Tryz.f3 rfl rfl rfl rfl rfl rfl rfl ⟨rfl,rfl,rfl,rfl,rfl⟩ rfl rfl rfl rfl rfl (by kernel_rfl) Tryz.func3 (by kernel_rfl)
  (of_decide_eq_true (by kernel_rfl)) (by unfold Func.isWrapper;first | (rw [if_pos (by decide +kernel)];kernel_rfl) | (rw [if_neg (by decide +kernel)];exact ⟨rfl,rfl⟩))
  (fun os started H enc _=>qkd os started H enc)
theorem pastNodes_card:Rows.PastNodesCardSaid :=
 Claim7.holds_tied_plain_at .later [] [.data,.data] true (true, "5c109be31299c626b1a24271a7c6a65248b160c758ae47dcfc48477c0cbf8ff3") false
  pastNodes_holds (fun _ h=>by cases h) (by kernel_rfl) (fun _ h=>by cases h) pastNodes_row_tie rfl ⟨rfl,rfl⟩ (by kernel_rfl) rfl
  (fun f fn hf hfn=>by
   obtain rfl:f=3:=Option.some.inj ((show Tryz.prog.funcNamed "foresight/foresightlaw09.PastNodes" = some 3 by kernel_rfl).symm.trans hf) |>.symm
   obtain rfl:fn=Tryz.f3:=(Option.some.inj (Tryz.func3.symm.trans hfn)).symm
   exact ⟨by kernel_rfl,fun j t ht=>by
    rw [Tryz.params3] at ht
    have hm:t ∈ [24,5]:=by simpa using Array.mem_of_getElem? ht
    have hall:([24,5].all fun u => !Tryz.prog.wantsStandIn u)=true:=by kernel_rfl
    exact (show Tryz.prog.wantsStandIn t=false by simpa using List.all_eq_true.1 hall t hm)⟩)
  (by kernel_rfl)
end Go.Proofs.YtdpbgcmfeajigaaGreatDoor
