/-
  Parts of a proof: XF XG XH XI.
-/
import Derived.Test.YtdakdpfofgkjoaaGreatDoorZ26
import Derived.Test.YtdakdpfofgkjoaaGreatDoorZ16
import Derived.Test.YtdakdpfofgkjoaaGreatDoorZ00
set_option linter.unusedSimpArgs false
set_option linter.unusedVariables false
set_option maxHeartbeats 8000000
set_option maxRecDepth 100000
namespace Go.Proofs.YtdakdpfofgkjoaaGreatDoor
open Go.RowKit Go.Shelf
attribute [local go_sem] qad qfl qdg qgc
theorem GF.nx {w w':World} (h:GF w) (hb:Below w.heap.size w w'):GF w':=h.below hb h.pos
theorem GK.nx {w w':World} (h:GK w) (hb:Below w.heap.size w w'):GK w':=h.below hb h.pos
theorem qac {w w' w'':World} (h:Below w.heap.size w w') (hb:Below w'.heap.size w' w''):Below w.heap.size w w'':=h.trans (hb.mono h.size)
theorem qdh {w u cur u':World} (_:Below w.heap.size w u) (h1:Below u.heap.size u cur) (h2:Below cur.heap.size cur u'):Below u.heap.size u u':=qac h1 h2
theorem RdG.below {w w':World} {D:Dom} {A:Option Addr} {c:Nat} {l:List Sg} (h:RdG w D A c l) (hb:Below w.heap.size w w'):RdG w' qbw A c l:=h.any hb
theorem RdR.below {w w':World} {D:Dom} {A:Option Addr} {c:Nat} {l:List Rq} (h:RdR w D A c l) (hb:Below w.heap.size w w'):RdR w' qbw A c l:=h.any hb
def VF (w:World) (o:Int) (n:ByteArray) (v b:Int) (A:Option Addr) (k c:Nat) (f:Fm):Prop := ∃ gs,f = .mk o n v b gs∧k=gs.length∧RdA w qbw gs A c
theorem VF.of {w:World} {D:Dom} {f:Fm} {A:Option Addr} {c:Nat} (h:RdA w D f.args A c):VF w f.op f.name f.val f.bound A f.args.length c f:=⟨f.args,f.eta.symm,rfl,h.mono fun _ _ _=>trivial⟩
section
variable {w w':World} {o:Int} {n:ByteArray} {v b:Int} {A:Option Addr} {k c:Nat} {f:Fm}
theorem VF.below (h:VF w o n v b A k c f) (hb:Below w.heap.size w w'):VF w' o n v b A k c f:=let ⟨gs,h1,h2,h3⟩:=h;⟨gs,h1,h2,h3.any hb⟩
theorem VF.rd (h:VF w o n v b A k c f):qby w qbw (.agg #[.int .i64 o,.string n,.int .i64 v,.int .i64 b,.slice A k c]) f:=by
 obtain ⟨gs,rfl,rfl,h⟩:=h
 exact ⟨A,c,rfl,h⟩
theorem qa4 {W:World} {kb:Nat} (h:VF W o n v b A k c f) (hk:W.heap[kb]? = some (.cells #[.int .i64 o,.string n,.int .i64 v,.int .i64 b,.slice A k c] 28 (0,0))):RdA W qbw [f] (some ⟨kb,0,none⟩) 1:=by
 obtain ⟨gs,rfl,rfl,h⟩:=h
 exact RdA.litAny (sl := [(A,c)]) hk rfl rfl rfl (by omega) fun i hi=>by
  obtain rfl:i=0:=by simpa using hi
  exact h
theorem qcq {W:World} {kb:Nat} {o2:Int} {n2:ByteArray} {v2 b2:Int} {A2:Option Addr} {k2 c2:Nat} {f2:Fm} (h:VF W o n v b A k c f) (h2:VF W o2 n2 v2 b2 A2 k2 c2 f2)
  (hk:W.heap[kb]? = some (.cells #[.int .i64 o,.string n,.int .i64 v,.int .i64 b,.slice A k c,.int .i64 o2,.string n2,.int .i64 v2,.int .i64 b2,.slice A2 k2 c2] 28 (0,0))):RdA W qbw [f,f2] (some ⟨kb,0,none⟩) 2:=by
 obtain ⟨gs,rfl,rfl,h⟩:=h
 obtain ⟨gs2,rfl,rfl,h2⟩:=h2
 exact RdA.litAny (sl := [(A,c),(A2,c2)]) hk rfl rfl rfl (by omega) fun i hi=>by
  have:i=0∨i=1:=by simp at hi;omega
  rcases this with rfl | rfl
  ·exact h
  ·exact h2
theorem qi6 (s:ByteArray) (x:Int) (w:World) :
  Calls Tryz.prog 25 #[.string s,.int .i64 x] w fun e w'=>e = .returned (.agg #[.int .i64 3,.string s,.int .i64 x,.int .i64 0,.slice none 0 0])∧VF w' 3 s x 0 none 0 0 (isF s x)∧Below w.heap.size w w':=by
 go_enter Tryz.func25,Tryz.ntmps25
 go_wp2_with fail
 refine qab fun W hW => ?_
 have hb:Below w.heap.size w W:=by rw [hW];go_grown
 have hc:W.heap[w.heap.size]? = some (.cells #[.int .i64 3,.string s,.int .i64 x,.int .i64 0,.slice none 0 0] 28 (0,0)):=by rw [hW];exact heap_alloc_new w _
 have r0:=qaa hc (i:=0) rfl
 have r1:=qaa hc (i:=1) rfl
 have r2:=qaa hc (i:=2) rfl
 have r3:=qaa hc (i:=3) rfl
 have r4:=qaa hc (i:=4) rfl
 clear hW
 exact bodyPost_ret (v := .agg #[.int .i64 3,.string s,.int .i64 x,.int .i64 0,.slice none 0 0]) (by simp [results,Tryz.results25,go_sem,r0,r1,r2,r3,r4]) rfl ⟨rfl,⟨[],rfl,rfl,RdA.nil _ _ _ (by omega)⟩,hb⟩
theorem qkm {w:World} {A:Option Addr} {k c:Nat} (o:Int) (gs:List Fm) (hk:k=gs.length) (h:RdA w qbw gs A c) :
  Calls Tryz.prog 19 #[.int .i64 o,.slice A k c] w fun e w'=>e = .returned (.agg #[.int .i64 o,.string ⟨#[]⟩,.int .i64 0,.int .i64 0,.slice A k c])∧VF w' o ⟨#[]⟩ 0 0 A k c (opF o gs)∧Below w.heap.size w w':=by
 have HH:=hid h
 have HK:=hid hk
 clear h hk
 go_enter Tryz.func19,Tryz.ntmps19
 go_wp2_with fail
 refine qab fun W hW => ?_
 have hb:Below w.heap.size w W:=by rw [hW];go_grown
 have hc:W.heap[w.heap.size]? = some (.cells #[.int .i64 o,.string ⟨#[]⟩,.int .i64 0,.int .i64 0,.slice A k c] 28 (0,0)):=by rw [hW];exact heap_alloc_new w _
 have r0:=qaa hc (i:=0) rfl
 have r1:=qaa hc (i:=1) rfl
 have r2:=qaa hc (i:=2) rfl
 have r3:=qaa hc (i:=3) rfl
 have r4:=qaa hc (i:=4) rfl
 clear hW
 exact bodyPost_ret (v := .agg #[.int .i64 o,.string ⟨#[]⟩,.int .i64 0,.int .i64 0,.slice A k c]) (by simp [results,Tryz.results19,go_sem,r0,r1,r2,r3,r4]) rfl ⟨rfl,⟨gs,rfl,HK.out,HH.out.any hb⟩,hb⟩
end
theorem VF.over {U U':World} {o:Int} {n:ByteArray} {v b:Int} {A:Option Addr} {k c r:Nat} {f:Fm} (h:VF U o n v b A k c f) (hz : ∃ ins,allI nzQ ins f) (hr:OB U r 0 ⟨#[]⟩ 0 0 none 0 0) (hc:Chg (fun x=>x=r) U U'):VF U' o n v b A k c f:=by
 obtain ⟨gs,rfl,rfl,h⟩:=h
 obtain ⟨ins,hz⟩:=hz
 refine ⟨gs,rfl,rfl,((h.avoid hr fun g hg=>⟨_,(qay.1 hz).2 g hg⟩).keep (hc.keeps fun k _ hk hv=>hk.2 hv)).mono fun _ _ _=>trivial⟩
theorem buildF_bnd (o b:Int) (A:Option Addr) (n c:Nat) (w:World):(Instr.build 28 #[(0,.int .i64 o),(3,.int .i64 b),(4,.slice A n c)]).run Tryz.prog w = .ok (.agg #[.int .i64 o,.string ⟨#[]⟩,.int .i64 0,.int .i64 b,.slice A n c]) w:=run_build w 28 _ _ (by kernel_rfl)
def sR:ByteArray:=⟨#[114]⟩
def sM:ByteArray:=⟨#[109]⟩
def sQ:ByteArray:=⟨#[113]⟩
def exL:List Sg := [⟨sR,true,2⟩,⟨sM,false,3⟩]
def respF (s:ByteArray) (x:Int):Fm:=opF 12 [opF 7 [isF sR 1,opF 11 [isF s x]]]
theorem build_sg3 (s:ByteArray) (q:Bool) (z:Int) (w:World):(Instr.build 75 #[(0,.string s),(1,.bool q),(2,.int .i64 z)]).run Tryz.prog w = .ok (.agg #[.string s,.bool q,.int .i64 z]) w:=run_build w 75 _ _ (by kernel_rfl)
theorem build_sg2 (s:ByteArray) (z:Int) (w:World):(Instr.build 75 #[(0,.string s),(2,.int .i64 z)]).run Tryz.prog w = .ok (.agg #[.string s,.bool false,.int .i64 z]) w:=run_build w 75 _ _ (by kernel_rfl)
attribute [local go_sem] build_sg3 build_sg2
theorem flatG_len (l:List Sg):(l.flatMap qfh).length=l.length * 3:=by
 induction l with
 | nil=>rfl
 | cons x l ih=>rw [List.flatMap_cons,List.length_append,ih,List.length_cons,Nat.add_mul,Nat.one_mul];show 3+_=_;omega
theorem rdG_lit {w:World} {kb n:Nat} {cs:Array Value} (l:List Sg) (h:w.heap[kb]? = some (.cells cs 75 (0,0))) (hcs:cs.toList=l.flatMap qfh) (hn:n=l.length) (hl:n≤1000000):RdG w qbw (some ⟨kb,0,none⟩) n l:=by
 subst hn
 refine ⟨⟨flatG_len l,by omega,Nat.le_refl _,by omega⟩,fun _=>⟨kb,0,rfl,trivial,lt_of_block h,fun j u hu => ?_⟩⟩
 rw [Nat.zero_add]
 refine qaa h ?_
 rw [←Array.getElem?_toList,hcs]
 exact hu
theorem example_lit (w:World) :
  Calls Tryz.prog 24 #[] w fun e w' => ∃ kb,e = .returned (.slice (some ⟨kb,0,none⟩) 2 2)∧RdG w' qbw (some ⟨kb,0,none⟩) 2 exL∧Below w.heap.size w w':=by
 go_enter Tryz.func24,Tryz.ntmps24
 go_wp2_with fail
 refine qab fun W hW => ?_
 have hb:Below w.heap.size w W:=by rw [hW];go_grown
 have hr:RdG W qbw (some ⟨w.heap.size,0,none⟩) 2 exL:=by
  refine rdG_lit exL (cs := #[.string sR,.bool true,.int .i64 2,.string sM,.bool false,.int .i64 3]) ?_ rfl rfl (by omega)
  rw [hW];exact heap_alloc_new w _
 clear hW
 go_ret
 exact ⟨_,rfl,hr,hb⟩
theorem qg5 (s:ByteArray) (x:Int) (w:World) :
  Calls Tryz.prog 26 #[.string s,.int .i64 x] w fun e w' => ∃ A c,e = .returned (.agg #[.int .i64 12,.string ⟨#[]⟩,.int .i64 0,.int .i64 0,.slice A 1 c])∧VF w' 12 ⟨#[]⟩ 0 0 A 1 c (respF s x)∧Below w.heap.size w w':=by
 go_enter Tryz.func26,Tryz.ntmps26
 go_upto_region 1 with (fail)
 refine qai fun W hW => ?_
 have HB:=hid (show Below w.heap.size w W by rw [hW];go_grown)
 have HO:=hid (show OB W w.heap.size 0 ⟨#[]⟩ 0 0 none 0 0 by rw [hW];exact at_new _ _ _ rfl)
 clear hW
 obtain ⟨rb,hrb⟩ : ∃ rb,rb=w.heap.size:=⟨_,rfl⟩
 have HRB:=hid (show w.heap.size≤rb by omega)
 rw [←hrb] at HO ⊢
 clear hrb
 go_wp2_with (first | (go_at_call 25;(with_reducible refine (qi6 ⟨#[114]⟩ 1 _).mono ?_);rintro e U ⟨rfl,hv,hb⟩;have hbu:=qdh HB.out (by first | exact Below.refl _ _ | go_grown) hb;replace HB:=hid (qac HB.out hbu);(try (replace HO:=hid (HO.out.below hbu)));(try (replace HV1:=hid (HV1.out.below hbu)));(try (replace HV2:=hid (HV2.out.below hbu)));(try (replace HV3:=hid (HV3.out.below hbu)));(try (replace HV4:=hid (HV4.out.below hbu)));(try (replace HV5:=hid (HV5.out.below hbu)));clear hbu hb;have HV1:=hid hv;clear hv) | (go_at_call 25;(with_reducible refine (qi6 s x _).mono ?_);rintro e U ⟨rfl,hv,hb⟩;have hbu:=qdh HB.out (by first | exact Below.refl _ _ | go_grown) hb;replace HB:=hid (qac HB.out hbu);(try (replace HO:=hid (HO.out.below hbu)));(try (replace HV1:=hid (HV1.out.below hbu)));(try (replace HV2:=hid (HV2.out.below hbu)));(try (replace HV3:=hid (HV3.out.below hbu)));(try (replace HV4:=hid (HV4.out.below hbu)));(try (replace HV5:=hid (HV5.out.below hbu)));clear hbu hb;have HV2:=hid hv;clear hv) | (go_at_call 19;(with_reducible refine (qkm 11 [isF s x] ?_ ?_).mono ?_);rfl;(first | exact qa4 (HV2.out.below (by first | exact Below.refl _ _ | go_grown)) (at_new _ _ _ rfl) | exact qa4 (HV2.out.below (by first | exact Below.refl _ _ | go_grown)) (at_new _ _ _ (by (simp;done))) | exact qa4 (HV2.out.below (by first | exact Below.refl _ _ | go_grown)) ((qaq _ _ _ (by (simp;done))).trans (at_new _ _ _ rfl)) | exact qa4 (HV2.out.below (by first | exact Below.refl _ _ | go_grown)) ((qaq _ _ _ (by (simp;done))).trans (at_new _ _ _ (by (simp;done)))));rintro e U ⟨rfl,hv,hb⟩;have hbu:=qdh HB.out (by first | exact Below.refl _ _ | go_grown) hb;replace HB:=hid (qac HB.out hbu);(try (replace HO:=hid (HO.out.below hbu)));(try (replace HV1:=hid (HV1.out.below hbu)));(try (replace HV2:=hid (HV2.out.below hbu)));(try (replace HV3:=hid (HV3.out.below hbu)));(try (replace HV4:=hid (HV4.out.below hbu)));(try (replace HV5:=hid (HV5.out.below hbu)));clear hbu hb;have HV3:=hid hv;clear hv) | (go_at_call 19;(with_reducible refine (qkm 7 [isF sR 1,opF 11 [isF s x]] ?_ ?_).mono ?_);rfl;(first | exact qcq (HV1.out.below (by first | exact Below.refl _ _ | go_grown)) (HV3.out.below (by first | exact Below.refl _ _ | go_grown)) (at_new _ _ _ rfl) | exact qcq (HV1.out.below (by first | exact Below.refl _ _ | go_grown)) (HV3.out.below (by first | exact Below.refl _ _ | go_grown)) (at_new _ _ _ (by (simp;done))) | exact qcq (HV1.out.below (by first | exact Below.refl _ _ | go_grown)) (HV3.out.below (by first | exact Below.refl _ _ | go_grown)) ((qaq _ _ _ (by (simp;done))).trans (at_new _ _ _ rfl)) | exact qcq (HV1.out.below (by first | exact Below.refl _ _ | go_grown)) (HV3.out.below (by first | exact Below.refl _ _ | go_grown)) ((qaq _ _ _ (by (simp;done))).trans (at_new _ _ _ (by (simp;done)))));rintro e U ⟨rfl,hv,hb⟩;have hbu:=qdh HB.out (by first | exact Below.refl _ _ | go_grown) hb;replace HB:=hid (qac HB.out hbu);(try (replace HO:=hid (HO.out.below hbu)));(try (replace HV1:=hid (HV1.out.below hbu)));(try (replace HV2:=hid (HV2.out.below hbu)));(try (replace HV3:=hid (HV3.out.below hbu)));(try (replace HV4:=hid (HV4.out.below hbu)));(try (replace HV5:=hid (HV5.out.below hbu)));clear hbu hb;have HV4:=hid hv;clear hv) | (go_at_call 19;(with_reducible refine (qkm 12 [opF 7 [isF sR 1,opF 11 [isF s x]]] ?_ ?_).mono ?_);rfl;(first | exact qa4 (HV4.out.below (by first | exact Below.refl _ _ | go_grown)) (at_new _ _ _ rfl) | exact qa4 (HV4.out.below (by first | exact Below.refl _ _ | go_grown)) (at_new _ _ _ (by (simp;done))) | exact qa4 (HV4.out.below (by first | exact Below.refl _ _ | go_grown)) ((qaq _ _ _ (by (simp;done))).trans (at_new _ _ _ rfl)) | exact qa4 (HV4.out.below (by first | exact Below.refl _ _ | go_grown)) ((qaq _ _ _ (by (simp;done))).trans (at_new _ _ _ (by (simp;done)))));rintro e U ⟨rfl,hv,hb⟩;have hbu:=qdh HB.out (by first | exact Below.refl _ _ | go_grown) hb;replace HB:=hid (qac HB.out hbu);(try (replace HO:=hid (HO.out.below hbu)));(try (replace HV1:=hid (HV1.out.below hbu)));(try (replace HV2:=hid (HV2.out.below hbu)));(try (replace HV3:=hid (HV3.out.below hbu)));(try (replace HV4:=hid (HV4.out.below hbu)));(try (replace HV5:=hid (HV5.out.below hbu)));clear hbu hb;have HV5:=hid hv;clear hv;obtain ⟨r0,r1,r2,r3,r4,r5⟩:=HO.out.cells;have q0:=HO.out.free 0;have q1:=HO.out.free 1;have q2:=HO.out.free 2;have q3:=HO.out.free 3;have q4:=HO.out.free 4))
 refine qab fun W9 hW9 => ?_
 obtain ⟨AZ,HV5',hO9⟩ : ∃ AZ,VF U 12 ⟨#[]⟩ 0 0 AZ 1 1 (respF s x)∧OB W9 rb 12 ⟨#[]⟩ 0 0 AZ 1 1:=⟨_,HV5.out,by rw [hW9];exact qag HO.out⟩
 have hC9:Chg (fun k=>k=rb) U W9:=by rw [hW9];exact qae U rb _ _ _ _ _
 have hv9:=HV5'.over ⟨false,rfl⟩ HO.out hC9
 have hb9:Below w.heap.size w W9:=HB.out.trans (hC9.below (B:=w.heap.size) (fun k hk e=>by have:=HRB.out;omega) HB.out.size)
 clear hW9 r0 r1 r2 r3 r4 r5 q0 q1 q2 q3 q4 hC9
 obtain ⟨r0,r1,r2,r3,r4,r5⟩:=hO9.cells
 exact bodyPost_ret (v := .agg #[.int .i64 12,.string ⟨#[]⟩,.int .i64 0,.int .i64 0,.slice AZ 1 1]) (by simp [results,Tryz.results26,go_sem,r0,r1,r2,r3,r4]) rfl ⟨AZ,1,rfl,hv9,hb9⟩
end Go.Proofs.YtdakdpfofgkjoaaGreatDoor
namespace Go.Proofs.YtdakdpfofgkjoaaGreatDoor
def sA:ByteArray:=⟨#[97]⟩
def sB:ByteArray:=⟨#[98]⟩
def sG:ByteArray:=⟨#[103]⟩
def sP:ByteArray:=⟨#[112]⟩
theorem name_r:nameB sR=true:=by unfold nameB;simp only [ByteArray.toList_eq];decide
theorem qkn:nameB sM=true:=by unfold nameB;simp only [ByteArray.toList_eq];decide
theorem name_q:nameB sQ=true:=by unfold nameB;simp only [ByteArray.toList_eq];decide
theorem name_a:nameB sA=true:=by unfold nameB;simp only [ByteArray.toList_eq];decide
theorem name_b:nameB sB=true:=by unfold nameB;simp only [ByteArray.toList_eq];decide
theorem name_p:nameB sP=true:=by unfold nameB;simp only [ByteArray.toList_eq];decide
def qjb:Fm := .mk 13 ⟨#[]⟩ 0 9 [.mk 13 ⟨#[]⟩ 0 9 [isF sR 1]]
def exMixed:Fm:=opF 12 [opF 7 [opF 18 [opF 11 [isF sR 1]],isF sM 0]]
theorem qe1:qcf exL=true:=by
 have h0:sgOk exL 0=true:=by
  unfold sgOk
  show (nameB sR && _ && _ && _)=true
  rw [name_r];rfl
 have h1:sgOk exL 1=true:=by
  unfold sgOk
  show (nameB sM && _ && _ && _)=true
  rw [qkn];rfl
 have h2:qkb exL.length (sgOk exL)=true:=allN_of fun j hj=>by
  have:j=0∨j=1:=by have hj:j < 2:=hj;omega
  rcases this with rfl | rfl
  ·exact h0
  ·exact h1
 unfold qcf
 rw [h2];rfl
theorem qib {o v b:Int} {l:List Fm} (h:(qah o).named=false):qas (.mk o ⟨#[]⟩ v b l)=(isOp o && decide ((qah o).least≤l.length) && decide (l.length≤(qah o).most) && decide (0≤v) && decide (v≤(qah o).val) && decide (0≤b) && decide (b≤(qah o).bound)):=by
 unfold qas
 show (_ && qeg (qah o) ⟨#[]⟩)=_
 rw [qko h,Bool.and_true]
 rfl
theorem shp_is {s:ByteArray} (hs:nameB s=true) {x:Int} (h0:0≤x) (h3:x≤3) (ins:Bool):allI qku ins (isF s x):=by
 refine qay.2 ⟨?_,fun g hg=>by cases hg⟩
 show qas (isF s x)=true
 exact shp_of (f:=isF s x) rfl (Nat.le_refl 0) (Nat.le_refl 0) h0 h3 (Int.le_refl 0) (Int.le_refl 0) (by show qeg (qah 3) s=true;unfold qeg;exact hs)
theorem allI_one {q:Fm × Bool→Bool} {ins:Bool} {o v b:Int} {n:ByteArray} {f:Fm} (h:q (.mk o n v b [f],ins)=true) (hf:allI q (ins || (qah o).past) f):allI q ins (.mk o n v b [f]):=qay.2 ⟨h,fun g hg=>by
 have:g=f:=List.mem_singleton.1 hg
 rw [this];exact hf⟩
theorem allI_two {q:Fm × Bool→Bool} {ins:Bool} {o v b:Int} {n:ByteArray} {f f2:Fm} (h:q (.mk o n v b [f,f2],ins)=true) (hf:allI q (ins || (qah o).past) f) (hf2:allI q (ins || (qah o).past) f2):allI q ins (.mk o n v b [f,f2]):=qay.2 ⟨h,fun g hg=>by
 have hg:g ∈ [f,f2]:=hg
 simp at hg
 rcases hg with rfl | rfl
 ·exact hf
 ·exact hf2⟩
theorem shp1 {ins:Bool} {o v b:Int} {f:Fm} (h:(qah o).named=false) (hs:(isOp o && decide ((qah o).least≤1) && decide (1≤(qah o).most) && decide (0≤v) && decide (v≤(qah o).val) && decide (0≤b) && decide (b≤(qah o).bound))=true) (hf:allI qku (ins || (qah o).past) f):allI qku ins (.mk o ⟨#[]⟩ v b [f]) :=
 allI_one (by show qas _=true;rw [qib h];exact hs) hf
theorem shp2 {ins:Bool} {o v b:Int} {f f2:Fm} (h:(qah o).named=false) (hs:(isOp o && decide ((qah o).least≤2) && decide (2≤(qah o).most) && decide (0≤v) && decide (v≤(qah o).val) && decide (0≤b) && decide (b≤(qah o).bound))=true) (hf:allI qku (ins || (qah o).past) f) (hf2:allI qku (ins || (qah o).past) f2):allI qku ins (.mk o ⟨#[]⟩ v b [f,f2]) :=
 allI_two (by show qas _=true;rw [qib h];exact hs) hf hf2
theorem qk8 {f:Fm} (h0:qa9 f 60 20=true) (h1:allI qku false f):qb5 f=true:=by unfold qb5;rw [h0];exact h1
theorem qhn {s:ByteArray} (hs:nameB s=true) {x:Int} (h0:0≤x) (h3:x≤3):qb5 (respF s x)=true :=
 qk8 rfl (shp1 rfl rfl (shp2 rfl rfl (shp_is name_r (by omega) (by omega) _) (shp1 rfl rfl (shp_is hs h0 h3 _))))
theorem ex_resp:qax exL (respF sM 2)=0:=by
 rw [formErr_zero]
 refine ⟨qe1,qhn qkn (by omega) (by omega),by kernel_rfl,?_⟩
 have hv:=qhn (s:=sM) (x:=2) qkn (by omega) (by omega)
 have hl:layB (respF sM 2)=true:=by kernel_rfl
 unfold qba
 rw [hv,hl]
 rfl
theorem err_of {l:List Sg} {f:Fm} {r:Int} (hv:qcf l=true) (hb:qb5 f=true) (he:qfi l (qdl false f)=r) (hr:r≠0):qax l f=r:=by
 unfold qax
 rw [hv,hb,he,if_pos rfl,if_pos rfl,if_neg hr]
theorem ex_resp3:qax exL (respF sM 3)=71:=err_of qe1 (qhn qkn (by omega) (by omega)) (by kernel_rfl) (by decide)
theorem ex_respQ:qax exL (respF sQ 0)=70:=err_of qe1 (qhn name_q (by omega) (by omega)) (by kernel_rfl) (by decide)
theorem ex_mixed:qax exL exMixed=72:=err_of qe1 (qk8 rfl (shp1 rfl rfl (shp2 rfl rfl (shp1 rfl rfl (shp1 rfl rfl (shp_is name_r (by omega) (by omega) _))) (shp_is qkn (by omega) (by omega) _)))) (by kernel_rfl) (by decide)
theorem ex_late:qax exL qjb=2:=by
 have hv:qb5 qjb=true:=qk8 rfl (shp1 rfl rfl (shp1 rfl rfl (shp_is name_r (by omega) (by omega) _)))
 have hl:layB qjb=true:=by kernel_rfl
 have he:qfi exL (qdl false qjb)=0:=by kernel_rfl
 have hk:(qba qjb).2=2:=by
  unfold qba
  rw [hv,hl]
  kernel_rfl
 unfold qax
 rw [qe1,hv,he,hk];rfl
theorem ex_nil:qax [] qjb=1:=rfl
theorem ex_zero:qax exL qbb=30:=by
 have hv:qb5 qbb=false:=by
  cases h:qb5 qbb
  ·rfl
  ·unfold qb5 at h
   rw [Bool.and_eq_true] at h
   have:=allB_root h.2
   exact absurd (show isOp 0=true from (qbz this).1) (by decide)
 unfold qax
 rw [qe1,hv];rfl
def exR3:List Rq := [⟨sP,sA,1,isF sR 0⟩,⟨sP,sA,2,isF sM 1⟩,⟨sP,sG,3,isF sM 1⟩]
def exR2:List Rq := [⟨sP,sA,1,isF sR 0⟩,⟨sP,sB,2,isF sM 1⟩]
theorem kern_is {s:ByteArray} (hs:nameB s=true) {x:Int} (h0:0≤x) (h3:x≤3):qb5 (isF s x)=true∧qba (isF s x)=(isF s x,0):=by
 have hv:=qk8 (f:=isF s x) rfl (shp_is hs h0 h3 _)
 refine ⟨hv,?_⟩
 unfold qba
 rw [hv]
 rfl
theorem err_is {s:ByteArray} (hs:nameB s=true) {x:Int} (h0:0≤x) (h3:x≤3) (he:qfi exL (qdl false (isF s x))=0):qax exL (isF s x)=0:=by
 unfold qax
 rw [qe1,(kern_is hs h0 h3).1,he,(kern_is hs h0 h3).2];rfl
theorem err_r0:qax exL (isF sR 0)=0:=err_is name_r (by omega) (by omega) (by kernel_rfl)
theorem err_m1:qax exL (isF sM 1)=0:=err_is qkn (by omega) (by omega) (by kernel_rfl)
theorem qk7 {n:ByteArray} (hn:nameB n=true) {k:Int} (hk:k=1∨k=2) (f:Fm):qde ⟨sP,n,k,f⟩=true:=by
 unfold qde
 show ((decide (k=1) || decide (k=2)) && nameB sP && nameB n)=true
 rw [name_p,hn]
 rcases hk with rfl | rfl <;> rfl
theorem ex_twice:qee exL exR3=(qbb,4):=by
 have h0:qb3 exL exR3 0=0:=by
  rw [qfe (by decide)]
  exact ⟨qk7 name_a (.inl rfl) _,Nat.zero_le _,err_r0⟩
 have h1:qb3 exL exR3 1=4:=by
  unfold qb3
  show (if qde ⟨sP,sA,2,isF sM 1⟩=true then (if qa7 sA [sA,sA,sG] < 1 then (4:Int) else _) else 1)=4
  rw [if_pos (qk7 name_a (.inr rfl) _),if_pos (by decide)]
 have hc : ∃ L,qcp exL exR3=(1,4) :: L:=by
  unfold qcp
  rw [qe1,if_pos rfl,if_pos (by decide)]
  show ∃ L,qc9 exL exR3 3=_
  rw [qb7,qb7,qb7,h0,h1]
  exact ⟨_,rfl⟩
 obtain ⟨L,hL⟩:=hc
 exact goalZ_err hL
theorem ex_good:Good exL exR2:=by
 refine ⟨qe1,by decide,fun r hr => ?_,fun r hr => ?_,?_⟩
 ·simp only [exR2,List.mem_cons,List.not_mem_nil,or_false] at hr
  rcases hr with rfl | rfl
  ·exact qk7 name_a (.inl rfl) _
  ·exact qk7 name_b (.inr rfl) _
 ·simp only [exR2,List.mem_cons,List.not_mem_nil,or_false] at hr
  rcases hr with rfl | rfl
  ·exact err_r0
  ·exact err_m1
 ·show [sA,sB].Nodup
  decide
theorem ex_check2:qcp exL exR2 = []:=check_nil.2 ex_good
theorem ex_check0:qcp [] [] = [(-1,1)]:=rfl
def exW:Fm:=qbq 6 [opF 4 [isF sR 0],isF sM 1]
theorem loose_is {s:ByteArray} (hs:nameB s=true) {x:Int} (h0:0≤x) (h3:x≤3):qa3 (isF s x)=true∧Can (isF s x)∧qa3 (opF 4 [isF s x])=true:=by
 have hb : ∀ ins,allI qbg ins (isF s x):=fun ins=>by
  refine qay.2 ⟨?_,fun g hg=>by cases hg⟩
  have:=(qay.1 (shp_is hs h0 h3 ins)).1
  exact qel rfl this (fun h=>by cases h) (fun h=>by cases h)
 have h1:qa3 (isF s x)=true:=qlc (by show 1≤400;omega) (by show 1≤60;omega) (hb _)
 have hc:qak (isF s x)=isF s x:=rfl
 refine ⟨h1,by rw [←hc];exact qi1 h1,qlc (by show 2≤400;omega) (by show 2≤60;omega) ?_⟩
 exact allI_one (qel (f:=opF 4 [isF s x]) rfl (by show qas (.mk 4 ⟨#[]⟩ 0 0 [isF s x])=true;rw [qib rfl];rfl) (fun h=>by cases h) (fun _=>rfl)) (hb _)
theorem ex_goal:qee exL exR2=(exW,0):=by
 have hr:=loose_is (s:=sR) (x:=0) name_r (by omega) (by omega)
 have hm:=loose_is (s:=sM) (x:=1) qkn (by omega) (by omega)
 have hp:qb4 exR2 = [opF 4 [isF sR 0]]:=by
  show [notZ (qba (isF sR 0)).1]=_
  rw [(kern_is name_r (by omega) (by omega)).2]
  unfold notZ
  rw [hr.1]
  rfl
 have hg:qbh exR2 = [isF sM 1]:=by
  show [(qba (isF sM 1)).1]=_
  rw [(kern_is qkn (by omega) (by omega)).2]
 have h5:qbq 5 (qbh exR2)=isF sM 1:=by rw [hg];exact connZ_one (.inl rfl) hm.1 hm.2.1
 have h6:qb4 exR2 ++ [qbq 5 (qbh exR2)] = [opF 4 [isF sR 0],isF sM 1]:=by rw [hp,h5];rfl
 have h7:(qbq 6 [opF 4 [isF sR 0],isF sM 1]).op≠0:=by
  have:=conn_eq (op:=6) (.inr rfl) (l := [opF 4 [isF sR 0],isF sM 1]) (fun g hg=>by
   simp only [List.mem_cons,List.not_mem_nil,or_false] at hg
   rcases hg with rfl | rfl
   ·exact hr.2.2
   ·exact hm.1) (by decide) (by decide)
  rw [this.1]
  exact loose_op this.2
 rw [goal_good ex_good,last_of (by rw [h5];decide) (by rw [h6];exact h7),h6]
 rfl
end Go.Proofs.YtdakdpfofgkjoaaGreatDoor
namespace Go.Proofs.YtdakdpfofgkjoaaGreatDoor
open Go.RowKit Go.Shelf
theorem build_rq (a b:ByteArray) (k o v bd:Int) (n:ByteArray) (A:Option Addr) (m c:Nat) (w:World):(Instr.build 54 #[(0,.string a),(1,.string b),(2,.int .i64 k),(3,.agg #[.int .i64 o,.string n,.int .i64 v,.int .i64 bd,.slice A m c])]).run Tryz.prog w = .ok (.agg #[.string a,.string b,.int .i64 k,.int .i64 o,.string n,.int .i64 v,.int .i64 bd,.slice A m c]) w:=run_build w 54 _ _ (by kernel_rfl)
theorem build_sp (A B:Option Addr) (n c m d:Nat) (w:World):(Instr.build 25 #[(0,.slice A n c),(1,.slice B m d)]).run Tryz.prog w = .ok (.agg #[.slice A n c,.slice B m d]) w:=run_build w 25 _ _ (by kernel_rfl)
theorem build_sp0 (w:World):(Instr.build 25 #[]).run Tryz.prog w = .ok (.agg #[.slice none 0 0,.slice none 0 0]) w:=run_build w 25 _ _ (by kernel_rfl)
attribute [local go_sem] qad qfl qdg qgc buildF_bnd qgt build_rq build_sp build_sp0
theorem RdG.belowD {w w':World} {D:Dom} {A:Option Addr} {c:Nat} {l:List Sg} (h:RdG w D A c l) (hb:Below w.heap.size w w'):RdG w' D A c l :=
 ((h.mono (E:=fun k=>D k∧k < w.heap.size) fun k hk hl=>⟨hk,hl⟩).keep (Keeps.of_below hb fun _ h=>h.2)).mono fun _ h _=>h.1
theorem rdR_lit {w:World} {kb n c:Nat} {cs:Array Value} (rs:List Rq) (tl:List Value) (h:w.heap[kb]? = some (.cells cs 54 (0,0))) (hcs:cs.toList=qft rs (rs.map fun _=>(none,0)) ++ tl) (hn:n=rs.length) (hl:n≤1000000) (hc:n≤c) (hc2:c≤1000000) (ha : ∀ r,r∈rs→r.f.args = []):RdR w qbw (some ⟨kb,0,none⟩) c rs:=by
 subst hn
 refine ⟨rs.map fun _=>(none,0),by simp,⟨⟨?_,by omega,hc,by omega⟩,fun _=>⟨kb,0,rfl,trivial,lt_of_block h,fun j u hu => ?_⟩⟩,fun i hi => ?_⟩
 ·clear h hcs hl hc ha
  induction rs with
  | nil=>rfl
  | cons x l ih =>
   show (qh6 x (none,0) ++ qft l (l.map fun _=>(none,0))).length=_
   rw [List.length_append,ih,List.length_cons,Nat.add_mul,Nat.one_mul]
   show 8+_=_
   omega
 ·rw [Nat.zero_add]
  refine qaa h ?_
  rw [←Array.getElem?_toList,hcs,List.getElem?_append_left]
  ·exact hu
  ·exact (List.getElem?_eq_some_iff.1 hu).1
 ·have e:(rs.getD i default).f.args = []:=ha _ (getD_mem hi)
  rw [e]
  have e2:(rs.map fun _=>((none:Option Addr),0)).getD i (none,0)=(none,0):=by simp [List.getD,hi]
  rw [e2]
  exact RdA.nil _ _ _ (by omega)
section
variable {w:World} {o:Int} {n:ByteArray} {v b:Int} {A:Option Addr} {k c:Nat} {f:Fm}
theorem qd3 {AS:Option Addr} {m cS:Nat} {D:Dom} {l:List Sg} (r:Int) (hr:qax l f=r) (h:VF w o n v b A k c f) (hl:RdG w D AS cS l) (hm:m=l.length) (hg:GF w) (hk:GK w) :
  Calls Tryz.prog 10 #[.slice AS m cS,.agg #[.int .i64 o,.string n,.int .i64 v,.int .i64 b,.slice A k c]] w fun e w'=>e = .returned (.int .i64 r)∧Below w.heap.size w w':=by
 rw [←hr];exact qia l AS cS m f _ w hm hl h.rd hg hk
theorem same_lit {o2:Int} {n2:ByteArray} {v2 b2:Int} {A2:Option Addr} {k2 c2:Nat} {f2:Fm} (r:Bool) (hr:decide (f.cmp f2=0)=r) (h:VF w o n v b A k c f) (h2:VF w o2 n2 v2 b2 A2 k2 c2 f2) :
  Calls Tryz.prog 15 #[.agg #[.int .i64 o,.string n,.int .i64 v,.int .i64 b,.slice A k c],.agg #[.int .i64 o2,.string n2,.int .i64 v2,.int .i64 b2,.slice A2 k2 c2]] w fun e w'=>e = .returned (.bool r)∧Below w.heap.size w w':=by
 rw [←hr];exact qiq f f2 _ _ w h.rd h2.rd
theorem or_lit {l:List Fm} (g:Fm) (hz:qbq 6 l=g) (h:RdA w qbw l A c) (hl:k=l.length) (hs:sizes l≤1000000) (hg:GF w) (hk:GK w) :
  Calls Tryz.prog 27 #[.slice A k c] w fun e w' => ∃ A' c',e = .returned (.agg #[.int .i64 g.op,.string g.name,.int .i64 g.val,.int .i64 g.bound,.slice A' g.args.length c'])∧VF w' g.op g.name g.val g.bound A' g.args.length c' g∧Below w.heap.size w w' :=
 (or_any h hl hs hg hk).mono fun e w' ⟨x,e1,hb,A',c',e2,h2⟩=>by
  rw [hz] at e2 h2
  exact ⟨A',c',by rw [e1,e2],VF.of h2,hb⟩
theorem goal_lit {D E:Dom} {l:List Sg} {rs:List Rq} {AS AR:Option Addr} {n m cS cR:Nat} (g:Fm) (r:Int) (hz:qee l rs=(g,r)) (hn:n=l.length) (hl:RdG w D AS cS l) (hm:m=rs.length) (hr:RdR w E AR cR rs) (hg:GF w) (hk:GK w) :
  Calls Tryz.prog 8 #[.agg #[.slice AS n cS,.slice AR m cR]] w fun e w' => ∃ A' c',e = .returned (.tuple #[.agg #[.int .i64 g.op,.string g.name,.int .i64 g.val,.int .i64 g.bound,.slice A' g.args.length c'],.int .i64 r])∧VF w' g.op g.name g.val g.bound A' g.args.length c' g∧Below w.heap.size w w' :=
 (goal_any l rs AS n cS AR m cR w hn hl hm hr hg hk).mono fun e w' ⟨A',c',e1,h1,hb⟩=>by
  rw [hz] at e1 h1
  exact ⟨A',c',e1,VF.of h1,hb⟩
theorem check_lit {D E:Dom} {l:List Sg} {rs:List Rq} {AS AR:Option Addr} {n m cS cR:Nat} (L:List (Int × Int)) (q:Nat) (hz:qcp l rs=L) (hq:L.length=q) (hn:n=l.length) (hl:RdG w D AS cS l) (hm:m=rs.length) (hr:RdR w E AR cR rs) (hg:GF w) (hk:GK w) :
  Calls Tryz.prog 13 #[.agg #[.slice AS n cS,.slice AR m cR]] w fun e w' => ∃ A' c',e = .returned (.slice A' q c')∧RdT w' qbw A' c' L∧Below w.heap.size w w' :=
 (check_any l rs AS n cS AR m cR w hn hl hm hr hg hk).mono fun e w' ⟨A',c',e1,h1,hb⟩=>by
  rw [hz] at e1 h1
  rw [hq] at e1
  exact ⟨A',c',e1,Rd.mono h1 fun _ _ _=>trivial,hb⟩
end
theorem head7_any (w:World) (hg:GF w) (hk:GK w) :
  Calls Tryz.prog 5 #[] w fun e w'=>e = .returned (.bool true)∧Below w.heap.size w w':=by
 have HG:=hid hg
 have HK:=hid hk
 have HG0:=hid hg
 have HK0:=hid hk
 have HB:=hid (Below.refl w.heap.size w)
 clear hg hk
 go_enter Tryz.func5,Tryz.ntmps5
 go_upto_region 2 with (go_at_call 24;(with_reducible refine (example_lit _).mono ?_);rintro e U ⟨kb,rfl,hv,hb⟩;have hbu:=qdh HB.out (by first | exact Below.refl _ _ | go_grown) hb;replace HG:=hid (HG.out.nx hbu);replace HK:=hid (HK.out.nx hbu);replace HB:=hid (qac HB.out hbu);clear hbu hb;have HX:=hid hv;clear hv)
 go_upto_region 3 with (go_at_call 25;(with_reducible refine (qi6 ⟨#[114]⟩ 1 _).mono ?_);rintro e U ⟨rfl,hv,hb⟩;have hbu:=qdh HB.out (by first | exact Below.refl _ _ | go_grown) hb;replace HG:=hid (HG.out.nx hbu);replace HK:=hid (HK.out.nx hbu);replace HB:=hid (qac HB.out hbu);replace HX:=hid (HX.out.belowD hbu);(try (replace HV1:=hid (HV1.out.below hbu)));clear hbu hb;have HV1:=hid hv;clear hv)
 refine qai fun W hW => ?_
 have hb:Below U.heap.size U W:=by rw [hW];go_grown
 have k1:W.heap[U.heap.size]? = some (.cells #[.int .i64 3,.string ⟨#[114]⟩,.int .i64 1,.int .i64 0,.slice none 0 0] 28 (0,0)):=by rw [hW,qaq _ _ _ (by simp;omega),qaq _ _ _ (by simp)];exact at_new _ _ _ rfl
 have k2:W.heap[U.heap.size+1]? = some (.cells #[.int .i64 13,.string ⟨#[]⟩,.int .i64 0,.int .i64 9,.slice (some ⟨U.heap.size,0,none⟩) 1 1] 28 (0,0)):=by rw [hW,qaq _ _ _ (by simp)];exact at_new _ _ _ (by simp)
 obtain ⟨A2,HF2,HO2⟩ : ∃ A2,Hid (VF W 13 ⟨#[]⟩ 0 9 A2 1 1 qjb)∧Hid (OB W (U.heap.size+1+1) 13 ⟨#[]⟩ 0 9 A2 1 1) :=
  ⟨some ⟨U.heap.size+1,0,none⟩,⟨_,rfl,rfl,qa4 (f := .mk 13 ⟨#[]⟩ 0 9 [isF sR 1]) ⟨[isF sR 1],rfl,rfl,qa4 (f:=isF sR 1) (HV1.out.below hb) k1⟩ k2⟩,by rw [hW];exact at_new _ _ _ (by simp)⟩
 have hbu:=hb
 replace HG:=hid (HG.out.nx hbu)
 replace HK:=hid (HK.out.nx hbu)
 replace HB:=hid (qac HB.out hbu)
 replace HX:=hid (HX.out.belowD hbu)
 clear hW hb hbu k1 k2 HV1
 obtain ⟨b2,hb2⟩ : ∃ b2,b2=U.heap.size+1+1:=⟨_,rfl⟩
 rw [←hb2] at HO2 ⊢
 clear hb2
 rename World=>W
 go_upto_region 4 with (first | (go_at_call 25;(with_reducible refine (qi6 ⟨#[114]⟩ 1 _).mono ?_);rintro e U ⟨rfl,hv,hb⟩;have hbu:=qdh HB.out (by first | exact Below.refl _ _ | go_grown) hb;replace HG:=hid (HG.out.nx hbu);replace HK:=hid (HK.out.nx hbu);replace HB:=hid (qac HB.out hbu);replace HX:=hid (HX.out.belowD hbu);(try (replace HF2:=hid (HF2.out.below hbu)));(try (replace HO2:=hid (HO2.out.below hbu)));(try (replace HM1:=hid (HM1.out.below hbu)));(try (replace HM2:=hid (HM2.out.below hbu)));(try (replace HM3:=hid (HM3.out.below hbu)));(try (replace HM4:=hid (HM4.out.below hbu)));(try (replace HM5:=hid (HM5.out.below hbu)));(try (replace HM6:=hid (HM6.out.below hbu)));clear hbu hb;have HM1:=hid hv;clear hv) | (go_at_call 19;(with_reducible refine (qkm 11 [isF sR 1] ?_ ?_).mono ?_);rfl;(first | exact qa4 (HM1.out.below (by first | exact Below.refl _ _ | go_grown)) (at_new _ _ _ rfl) | exact qa4 (HM1.out.below (by first | exact Below.refl _ _ | go_grown)) (at_new _ _ _ (by (simp;done))) | exact qa4 (HM1.out.below (by first | exact Below.refl _ _ | go_grown)) ((qaq _ _ _ (by (simp;done))).trans (at_new _ _ _ rfl)) | exact qa4 (HM1.out.below (by first | exact Below.refl _ _ | go_grown)) ((qaq _ _ _ (by (simp;done))).trans (at_new _ _ _ (by (simp;done)))));rintro e U ⟨rfl,hv,hb⟩;have hbu:=qdh HB.out (by first | exact Below.refl _ _ | go_grown) hb;replace HG:=hid (HG.out.nx hbu);replace HK:=hid (HK.out.nx hbu);replace HB:=hid (qac HB.out hbu);replace HX:=hid (HX.out.belowD hbu);(try (replace HF2:=hid (HF2.out.below hbu)));(try (replace HO2:=hid (HO2.out.below hbu)));(try (replace HM1:=hid (HM1.out.below hbu)));(try (replace HM2:=hid (HM2.out.below hbu)));(try (replace HM3:=hid (HM3.out.below hbu)));(try (replace HM4:=hid (HM4.out.below hbu)));(try (replace HM5:=hid (HM5.out.below hbu)));(try (replace HM6:=hid (HM6.out.below hbu)));clear hbu hb;have HM2:=hid hv;clear hv) | (go_at_call 19;(with_reducible refine (qkm 18 [opF 11 [isF sR 1]] ?_ ?_).mono ?_);rfl;(first | exact qa4 (HM2.out.below (by first | exact Below.refl _ _ | go_grown)) (at_new _ _ _ rfl) | exact qa4 (HM2.out.below (by first | exact Below.refl _ _ | go_grown)) (at_new _ _ _ (by (simp;done))) | exact qa4 (HM2.out.below (by first | exact Below.refl _ _ | go_grown)) ((qaq _ _ _ (by (simp;done))).trans (at_new _ _ _ rfl)) | exact qa4 (HM2.out.below (by first | exact Below.refl _ _ | go_grown)) ((qaq _ _ _ (by (simp;done))).trans (at_new _ _ _ (by (simp;done)))));rintro e U ⟨rfl,hv,hb⟩;have hbu:=qdh HB.out (by first | exact Below.refl _ _ | go_grown) hb;replace HG:=hid (HG.out.nx hbu);replace HK:=hid (HK.out.nx hbu);replace HB:=hid (qac HB.out hbu);replace HX:=hid (HX.out.belowD hbu);(try (replace HF2:=hid (HF2.out.below hbu)));(try (replace HO2:=hid (HO2.out.below hbu)));(try (replace HM1:=hid (HM1.out.below hbu)));(try (replace HM2:=hid (HM2.out.below hbu)));(try (replace HM3:=hid (HM3.out.below hbu)));(try (replace HM4:=hid (HM4.out.below hbu)));(try (replace HM5:=hid (HM5.out.below hbu)));(try (replace HM6:=hid (HM6.out.below hbu)));clear hbu hb;have HM3:=hid hv;clear hv) | (go_at_call 25;(with_reducible refine (qi6 ⟨#[109]⟩ 0 _).mono ?_);rintro e U ⟨rfl,hv,hb⟩;have hbu:=qdh HB.out (by first | exact Below.refl _ _ | go_grown) hb;replace HG:=hid (HG.out.nx hbu);replace HK:=hid (HK.out.nx hbu);replace HB:=hid (qac HB.out hbu);replace HX:=hid (HX.out.belowD hbu);(try (replace HF2:=hid (HF2.out.below hbu)));(try (replace HO2:=hid (HO2.out.below hbu)));(try (replace HM1:=hid (HM1.out.below hbu)));(try (replace HM2:=hid (HM2.out.below hbu)));(try (replace HM3:=hid (HM3.out.below hbu)));(try (replace HM4:=hid (HM4.out.below hbu)));(try (replace HM5:=hid (HM5.out.below hbu)));(try (replace HM6:=hid (HM6.out.below hbu)));clear hbu hb;have HM4:=hid hv;clear hv) | (go_at_call 19;(with_reducible refine (qkm 7 [opF 18 [opF 11 [isF sR 1]],isF sM 0] ?_ ?_).mono ?_);rfl;(first | exact qcq (HM3.out.below (by first | exact Below.refl _ _ | go_grown)) (HM4.out.below (by first | exact Below.refl _ _ | go_grown)) (at_new _ _ _ rfl) | exact qcq (HM3.out.below (by first | exact Below.refl _ _ | go_grown)) (HM4.out.below (by first | exact Below.refl _ _ | go_grown)) (at_new _ _ _ (by (simp;done))) | exact qcq (HM3.out.below (by first | exact Below.refl _ _ | go_grown)) (HM4.out.below (by first | exact Below.refl _ _ | go_grown)) ((qaq _ _ _ (by (simp;done))).trans (at_new _ _ _ rfl)) | exact qcq (HM3.out.below (by first | exact Below.refl _ _ | go_grown)) (HM4.out.below (by first | exact Below.refl _ _ | go_grown)) ((qaq _ _ _ (by (simp;done))).trans (at_new _ _ _ (by (simp;done)))));rintro e U ⟨rfl,hv,hb⟩;have hbu:=qdh HB.out (by first | exact Below.refl _ _ | go_grown) hb;replace HG:=hid (HG.out.nx hbu);replace HK:=hid (HK.out.nx hbu);replace HB:=hid (qac HB.out hbu);replace HX:=hid (HX.out.belowD hbu);(try (replace HF2:=hid (HF2.out.below hbu)));(try (replace HO2:=hid (HO2.out.below hbu)));(try (replace HM1:=hid (HM1.out.below hbu)));(try (replace HM2:=hid (HM2.out.below hbu)));(try (replace HM3:=hid (HM3.out.below hbu)));(try (replace HM4:=hid (HM4.out.below hbu)));(try (replace HM5:=hid (HM5.out.below hbu)));(try (replace HM6:=hid (HM6.out.below hbu)));clear hbu hb;have HM5:=hid hv;clear hv) | (go_at_call 19;(with_reducible refine (qkm 12 [opF 7 [opF 18 [opF 11 [isF sR 1]],isF sM 0]] ?_ ?_).mono ?_);rfl;(first | exact qa4 (HM5.out.below (by first | exact Below.refl _ _ | go_grown)) (at_new _ _ _ rfl) | exact qa4 (HM5.out.below (by first | exact Below.refl _ _ | go_grown)) (at_new _ _ _ (by (simp;done))) | exact qa4 (HM5.out.below (by first | exact Below.refl _ _ | go_grown)) ((qaq _ _ _ (by (simp;done))).trans (at_new _ _ _ rfl)) | exact qa4 (HM5.out.below (by first | exact Below.refl _ _ | go_grown)) ((qaq _ _ _ (by (simp;done))).trans (at_new _ _ _ (by (simp;done)))));rintro e U ⟨rfl,hv,hb⟩;have hbu:=qdh HB.out (by first | exact Below.refl _ _ | go_grown) hb;replace HG:=hid (HG.out.nx hbu);replace HK:=hid (HK.out.nx hbu);replace HB:=hid (qac HB.out hbu);replace HX:=hid (HX.out.belowD hbu);(try (replace HF2:=hid (HF2.out.below hbu)));(try (replace HO2:=hid (HO2.out.below hbu)));(try (replace HM1:=hid (HM1.out.below hbu)));(try (replace HM2:=hid (HM2.out.below hbu)));(try (replace HM3:=hid (HM3.out.below hbu)));(try (replace HM4:=hid (HM4.out.below hbu)));(try (replace HM5:=hid (HM5.out.below hbu)));(try (replace HM6:=hid (HM6.out.below hbu)));clear hbu hb;have HM6:=hid hv;clear hv))
 refine qai fun W hW => ?_
 have hb:Below U.heap.size U W:=by rw [hW];go_grown
 obtain ⟨A3,HF3,HO3⟩ : ∃ A3,Hid (VF W 12 ⟨#[]⟩ 0 0 A3 1 1 exMixed)∧Hid (OB W U.heap.size 12 ⟨#[]⟩ 0 0 A3 1 1):=⟨_,HM6.out.below hb,by rw [hW];exact at_new _ _ _ rfl⟩
 have hbu:=hb
 replace HG:=hid (HG.out.nx hbu)
 replace HK:=hid (HK.out.nx hbu)
 replace HB:=hid (qac HB.out hbu)
 replace HX:=hid (HX.out.belowD hbu)
 (try (replace HF2:=hid (HF2.out.below hbu)))
 (try (replace HO2:=hid (HO2.out.below hbu)))
 clear hW hb hbu HM1 HM2 HM3 HM4 HM5 HM6
 obtain ⟨b3,hb3⟩ : ∃ b3,b3=U.heap.size:=⟨_,rfl⟩
 rw [←hb3] at HO3 ⊢
 clear hb3
 rename World=>W
 obtain ⟨x0,x1,x2,x3,x4,x5⟩:=HO2.out.cells
 obtain ⟨y0,y1,y2,y3,y4,y5⟩:=HO3.out.cells
 go_upto_region 5 with (first | (go_at_call 26;(with_reducible refine (qg5 ⟨#[109]⟩ 2 _).mono ?_);rintro e U ⟨AHR1,cHR1,rfl,hv,hb⟩;have hbu:=qdh HB.out (by first | exact Below.refl _ _ | go_grown) hb;replace HG:=hid (HG.out.nx hbu);replace HK:=hid (HK.out.nx hbu);replace HB:=hid (qac HB.out hbu);replace HX:=hid (HX.out.belowD hbu);(try (replace HF2:=hid (HF2.out.below hbu)));(try (replace HO2:=hid (HO2.out.below hbu)));(try (replace HF3:=hid (HF3.out.below hbu)));(try (replace HO3:=hid (HO3.out.below hbu)));(try (replace HR1:=hid (HR1.out.below hbu)));(try (replace HR2:=hid (HR2.out.below hbu)));(try (replace HR3:=hid (HR3.out.below hbu)));clear hbu hb;have HR1:=hid hv;clear hv;clear x0 x1 x2 x3 x4 x5 y0 y1 y2 y3 y4 y5;obtain ⟨x0,x1,x2,x3,x4,x5⟩:=HO2.out.cells;obtain ⟨y0,y1,y2,y3,y4,y5⟩:=HO3.out.cells) | (go_at_call 10;(with_reducible refine (qd3 (D:=qbw) (f:=respF sM 2) (l:=exL) 0 ?_ ?_ ?_ ?_ ?_ ?_).mono ?_);exact ex_resp;(first | exact HR1.out | exact HR1.out.below (by go_grown));(first | exact HX.out | exact HX.out.below (by go_grown));rfl;(first | exact HG.out | exact HG.out.nx (by go_grown));(first | exact HK.out | exact HK.out.nx (by go_grown));rintro e U ⟨rfl,hb⟩;have hbu:=qdh HB.out (by first | exact Below.refl _ _ | go_grown) hb;replace HG:=hid (HG.out.nx hbu);replace HK:=hid (HK.out.nx hbu);replace HB:=hid (qac HB.out hbu);replace HX:=hid (HX.out.belowD hbu);(try (replace HF2:=hid (HF2.out.below hbu)));(try (replace HO2:=hid (HO2.out.below hbu)));(try (replace HF3:=hid (HF3.out.below hbu)));(try (replace HO3:=hid (HO3.out.below hbu)));(try (replace HR1:=hid (HR1.out.below hbu)));(try (replace HR2:=hid (HR2.out.below hbu)));(try (replace HR3:=hid (HR3.out.below hbu)));clear hbu hb;clear x0 x1 x2 x3 x4 x5 y0 y1 y2 y3 y4 y5;obtain ⟨x0,x1,x2,x3,x4,x5⟩:=HO2.out.cells;obtain ⟨y0,y1,y2,y3,y4,y5⟩:=HO3.out.cells) | (go_at_call 26;(with_reducible refine (qg5 ⟨#[109]⟩ 3 _).mono ?_);rintro e U ⟨AHR2,cHR2,rfl,hv,hb⟩;have hbu:=qdh HB.out (by first | exact Below.refl _ _ | go_grown) hb;replace HG:=hid (HG.out.nx hbu);replace HK:=hid (HK.out.nx hbu);replace HB:=hid (qac HB.out hbu);replace HX:=hid (HX.out.belowD hbu);(try (replace HF2:=hid (HF2.out.below hbu)));(try (replace HO2:=hid (HO2.out.below hbu)));(try (replace HF3:=hid (HF3.out.below hbu)));(try (replace HO3:=hid (HO3.out.below hbu)));(try (replace HR1:=hid (HR1.out.below hbu)));(try (replace HR2:=hid (HR2.out.below hbu)));(try (replace HR3:=hid (HR3.out.below hbu)));clear hbu hb;have HR2:=hid hv;clear hv;clear x0 x1 x2 x3 x4 x5 y0 y1 y2 y3 y4 y5;obtain ⟨x0,x1,x2,x3,x4,x5⟩:=HO2.out.cells;obtain ⟨y0,y1,y2,y3,y4,y5⟩:=HO3.out.cells) | (go_at_call 10;(with_reducible refine (qd3 (D:=qbw) (f:=respF sM 3) (l:=exL) 71 ?_ ?_ ?_ ?_ ?_ ?_).mono ?_);exact ex_resp3;(first | exact HR2.out | exact HR2.out.below (by go_grown));(first | exact HX.out | exact HX.out.below (by go_grown));rfl;(first | exact HG.out | exact HG.out.nx (by go_grown));(first | exact HK.out | exact HK.out.nx (by go_grown));rintro e U ⟨rfl,hb⟩;have hbu:=qdh HB.out (by first | exact Below.refl _ _ | go_grown) hb;replace HG:=hid (HG.out.nx hbu);replace HK:=hid (HK.out.nx hbu);replace HB:=hid (qac HB.out hbu);replace HX:=hid (HX.out.belowD hbu);(try (replace HF2:=hid (HF2.out.below hbu)));(try (replace HO2:=hid (HO2.out.below hbu)));(try (replace HF3:=hid (HF3.out.below hbu)));(try (replace HO3:=hid (HO3.out.below hbu)));(try (replace HR1:=hid (HR1.out.below hbu)));(try (replace HR2:=hid (HR2.out.below hbu)));(try (replace HR3:=hid (HR3.out.below hbu)));clear hbu hb;clear x0 x1 x2 x3 x4 x5 y0 y1 y2 y3 y4 y5;obtain ⟨x0,x1,x2,x3,x4,x5⟩:=HO2.out.cells;obtain ⟨y0,y1,y2,y3,y4,y5⟩:=HO3.out.cells) | (go_at_call 26;(with_reducible refine (qg5 ⟨#[113]⟩ 0 _).mono ?_);rintro e U ⟨AHR3,cHR3,rfl,hv,hb⟩;have hbu:=qdh HB.out (by first | exact Below.refl _ _ | go_grown) hb;replace HG:=hid (HG.out.nx hbu);replace HK:=hid (HK.out.nx hbu);replace HB:=hid (qac HB.out hbu);replace HX:=hid (HX.out.belowD hbu);(try (replace HF2:=hid (HF2.out.below hbu)));(try (replace HO2:=hid (HO2.out.below hbu)));(try (replace HF3:=hid (HF3.out.below hbu)));(try (replace HO3:=hid (HO3.out.below hbu)));(try (replace HR1:=hid (HR1.out.below hbu)));(try (replace HR2:=hid (HR2.out.below hbu)));(try (replace HR3:=hid (HR3.out.below hbu)));clear hbu hb;have HR3:=hid hv;clear hv;clear x0 x1 x2 x3 x4 x5 y0 y1 y2 y3 y4 y5;obtain ⟨x0,x1,x2,x3,x4,x5⟩:=HO2.out.cells;obtain ⟨y0,y1,y2,y3,y4,y5⟩:=HO3.out.cells) | (go_at_call 10;(with_reducible refine (qd3 (D:=qbw) (f:=respF sQ 0) (l:=exL) 70 ?_ ?_ ?_ ?_ ?_ ?_).mono ?_);exact ex_respQ;(first | exact HR3.out | exact HR3.out.below (by go_grown));(first | exact HX.out | exact HX.out.below (by go_grown));rfl;(first | exact HG.out | exact HG.out.nx (by go_grown));(first | exact HK.out | exact HK.out.nx (by go_grown));rintro e U ⟨rfl,hb⟩;have hbu:=qdh HB.out (by first | exact Below.refl _ _ | go_grown) hb;replace HG:=hid (HG.out.nx hbu);replace HK:=hid (HK.out.nx hbu);replace HB:=hid (qac HB.out hbu);replace HX:=hid (HX.out.belowD hbu);(try (replace HF2:=hid (HF2.out.below hbu)));(try (replace HO2:=hid (HO2.out.below hbu)));(try (replace HF3:=hid (HF3.out.below hbu)));(try (replace HO3:=hid (HO3.out.below hbu)));(try (replace HR1:=hid (HR1.out.below hbu)));(try (replace HR2:=hid (HR2.out.below hbu)));(try (replace HR3:=hid (HR3.out.below hbu)));clear hbu hb;clear x0 x1 x2 x3 x4 x5 y0 y1 y2 y3 y4 y5;obtain ⟨x0,x1,x2,x3,x4,x5⟩:=HO2.out.cells;obtain ⟨y0,y1,y2,y3,y4,y5⟩:=HO3.out.cells) | (go_at_call 10;(with_reducible refine (qd3 (D:=qbw) (f:=exMixed) (l:=exL) 72 ?_ ?_ ?_ ?_ ?_ ?_).mono ?_);exact ex_mixed;(first | exact HF3.out | exact HF3.out.below (by go_grown));(first | exact HX.out | exact HX.out.below (by go_grown));rfl;(first | exact HG.out | exact HG.out.nx (by go_grown));(first | exact HK.out | exact HK.out.nx (by go_grown));rintro e U ⟨rfl,hb⟩;have hbu:=qdh HB.out (by first | exact Below.refl _ _ | go_grown) hb;replace HG:=hid (HG.out.nx hbu);replace HK:=hid (HK.out.nx hbu);replace HB:=hid (qac HB.out hbu);replace HX:=hid (HX.out.belowD hbu);(try (replace HF2:=hid (HF2.out.below hbu)));(try (replace HO2:=hid (HO2.out.below hbu)));(try (replace HF3:=hid (HF3.out.below hbu)));(try (replace HO3:=hid (HO3.out.below hbu)));(try (replace HR1:=hid (HR1.out.below hbu)));(try (replace HR2:=hid (HR2.out.below hbu)));(try (replace HR3:=hid (HR3.out.below hbu)));clear hbu hb;clear x0 x1 x2 x3 x4 x5 y0 y1 y2 y3 y4 y5;obtain ⟨x0,x1,x2,x3,x4,x5⟩:=HO2.out.cells;obtain ⟨y0,y1,y2,y3,y4,y5⟩:=HO3.out.cells) | (go_at_call 10;(with_reducible refine (qd3 (D:=qbw) (f:=qjb) (l:=exL) 2 ?_ ?_ ?_ ?_ ?_ ?_).mono ?_);exact ex_late;(first | exact HF2.out | exact HF2.out.below (by go_grown));(first | exact HX.out | exact HX.out.below (by go_grown));rfl;(first | exact HG.out | exact HG.out.nx (by go_grown));(first | exact HK.out | exact HK.out.nx (by go_grown));rintro e U ⟨rfl,hb⟩;have hbu:=qdh HB.out (by first | exact Below.refl _ _ | go_grown) hb;replace HG:=hid (HG.out.nx hbu);replace HK:=hid (HK.out.nx hbu);replace HB:=hid (qac HB.out hbu);replace HX:=hid (HX.out.belowD hbu);(try (replace HF2:=hid (HF2.out.below hbu)));(try (replace HO2:=hid (HO2.out.below hbu)));(try (replace HF3:=hid (HF3.out.below hbu)));(try (replace HO3:=hid (HO3.out.below hbu)));(try (replace HR1:=hid (HR1.out.below hbu)));(try (replace HR2:=hid (HR2.out.below hbu)));(try (replace HR3:=hid (HR3.out.below hbu)));clear hbu hb;clear x0 x1 x2 x3 x4 x5 y0 y1 y2 y3 y4 y5;obtain ⟨x0,x1,x2,x3,x4,x5⟩:=HO2.out.cells;obtain ⟨y0,y1,y2,y3,y4,y5⟩:=HO3.out.cells) | (go_at_call 10;(with_reducible refine (qd3 (D:=qbw) (f:=qjb) (l := []) 1 ?_ ?_ ?_ ?_ ?_ ?_).mono ?_);exact ex_nil;(first | exact HF2.out | exact HF2.out.below (by go_grown));exact RdG.nil _ qbw none (by omega);rfl;(first | exact HG.out | exact HG.out.nx (by go_grown));(first | exact HK.out | exact HK.out.nx (by go_grown));rintro e U ⟨rfl,hb⟩;have hbu:=qdh HB.out (by first | exact Below.refl _ _ | go_grown) hb;replace HG:=hid (HG.out.nx hbu);replace HK:=hid (HK.out.nx hbu);replace HB:=hid (qac HB.out hbu);replace HX:=hid (HX.out.belowD hbu);(try (replace HF2:=hid (HF2.out.below hbu)));(try (replace HO2:=hid (HO2.out.below hbu)));(try (replace HF3:=hid (HF3.out.below hbu)));(try (replace HO3:=hid (HO3.out.below hbu)));(try (replace HR1:=hid (HR1.out.below hbu)));(try (replace HR2:=hid (HR2.out.below hbu)));(try (replace HR3:=hid (HR3.out.below hbu)));clear hbu hb;clear x0 x1 x2 x3 x4 x5 y0 y1 y2 y3 y4 y5;obtain ⟨x0,x1,x2,x3,x4,x5⟩:=HO2.out.cells;obtain ⟨y0,y1,y2,y3,y4,y5⟩:=HO3.out.cells) | (go_at_call 10;(with_reducible refine (qd3 (D:=qbw) (f:=qbb) (l:=exL) 30 ?_ ?_ ?_ ?_ ?_ ?_).mono ?_);exact ex_zero;exact ⟨[],rfl,rfl,RdA.nil _ _ _ (by omega)⟩;(first | exact HX.out | exact HX.out.below (by go_grown));rfl;(first | exact HG.out | exact HG.out.nx (by go_grown));(first | exact HK.out | exact HK.out.nx (by go_grown));rintro e U ⟨rfl,hb⟩;have hbu:=qdh HB.out (by first | exact Below.refl _ _ | go_grown) hb;replace HG:=hid (HG.out.nx hbu);replace HK:=hid (HK.out.nx hbu);replace HB:=hid (qac HB.out hbu);replace HX:=hid (HX.out.belowD hbu);(try (replace HF2:=hid (HF2.out.below hbu)));(try (replace HO2:=hid (HO2.out.below hbu)));(try (replace HF3:=hid (HF3.out.below hbu)));(try (replace HO3:=hid (HO3.out.below hbu)));(try (replace HR1:=hid (HR1.out.below hbu)));(try (replace HR2:=hid (HR2.out.below hbu)));(try (replace HR3:=hid (HR3.out.below hbu)));clear hbu hb;clear x0 x1 x2 x3 x4 x5 y0 y1 y2 y3 y4 y5;obtain ⟨x0,x1,x2,x3,x4,x5⟩:=HO2.out.cells;obtain ⟨y0,y1,y2,y3,y4,y5⟩:=HO3.out.cells))
 clear x0 x1 x2 x3 x4 x5 y0 y1 y2 y3 y4 y5
 (try clear HR1 HR2 HR3)
 (try clear HR1 HR2 HR3)
 clear HF2 HO2 HF3 HO3
 rename World=>W
 go_upto_region 6 with (first | (go_at_call 25;(with_reducible refine (qi6 ⟨#[114]⟩ 0 _).mono ?_);rintro e U ⟨rfl,hv,hb⟩;have hbu:=qdh HB.out (by first | exact Below.refl _ _ | go_grown) hb;replace HG:=hid (HG.out.nx hbu);replace HK:=hid (HK.out.nx hbu);replace HB:=hid (qac HB.out hbu);replace HX:=hid (HX.out.belowD hbu);clear hbu hb;clear hv) | (go_at_call 25;(with_reducible refine (qi6 ⟨#[109]⟩ 1 _).mono ?_);rintro e U ⟨rfl,hv,hb⟩;have hbu:=qdh HB.out (by first | exact Below.refl _ _ | go_grown) hb;replace HG:=hid (HG.out.nx hbu);replace HK:=hid (HK.out.nx hbu);replace HB:=hid (qac HB.out hbu);replace HX:=hid (HX.out.belowD hbu);clear hbu hb;clear hv))
 refine qai fun W hW => ?_
 have hb:Below U.heap.size U W:=by rw [hW];go_grown
 have HQ:=hid (show W.heap[U.heap.size]? = some (.cells #[.string ⟨#[112]⟩,.string ⟨#[97]⟩,.int .i64 1,.int .i64 3,.string ⟨#[114]⟩,.int .i64 0,.int .i64 0,.slice none 0 0,.string ⟨#[112]⟩,.string ⟨#[97]⟩,.int .i64 2,.int .i64 3,.string ⟨#[109]⟩,.int .i64 1,.int .i64 0,.slice none 0 0,.string ⟨#[112]⟩,.string ⟨#[103]⟩,.int .i64 3,.int .i64 3,.string ⟨#[109]⟩,.int .i64 1,.int .i64 0,.slice none 0 0] 54 (0,0)) by rw [hW,qaq _ _ _ (by simp)];exact at_new _ _ _ rfl)
 have HS:=hid (show qdb W (U.heap.size+1) (some ⟨kb,0,none⟩) 2 2 (some ⟨U.heap.size,0,none⟩) 3 3 by show W.heap[_]? = _;rw [hW];exact at_new _ _ _ (by simp))
 have HBU:=hid HB.out.size
 have HX5:=hid (show RdG W (· < U.heap.size) (some ⟨kb,0,none⟩) 2 exL from (HX.out.old).belowD hb)
 have hbu:=hb
 replace HG:=hid (HG.out.nx hbu)
 replace HK:=hid (HK.out.nx hbu)
 replace HB:=hid (qac HB.out hbu)
 clear hW hb hbu HX
 have HX:=HX5
 clear HX5
 obtain ⟨qb,hqb⟩ : ∃ qb,qb=U.heap.size:=⟨_,rfl⟩
 rw [←hqb] at HQ HS HX ⊢
 have HQB:=hid (show w.heap.size≤qb by rw [hqb];exact HBU.out)
 clear hqb
 rename World=>W
 have HRD:=hid (show RdR W qbw (some ⟨qb,0,none⟩) 3 exR3 from rdR_lit exR3 [] HQ.out rfl rfl (by decide) (by decide) (by decide) (fun r hr=>by simp only [exR3,List.mem_cons,List.not_mem_nil,or_false] at hr;rcases hr with rfl | rfl | rfl <;> rfl))
 obtain ⟨s0,s1,s2⟩:=HS.out.cells
 have HQ5:=HQ
 go_upto_region 7 with (go_at_call 8;(with_reducible refine (goal_lit (D:=(· < qb)) (E:=qbw) (l:=exL) (rs:=exR3) qbb 4 ?_ ?_ ?_ ?_ ?_ ?_ ?_).mono ?_);exact ex_twice;rfl;(first | exact HX.out | exact HX.out.below (by go_grown));rfl;(first | exact HRD.out | exact HRD.out.below (by go_grown));(first | exact HG.out | exact HG.out.nx (by go_grown));(first | exact HK.out | exact HK.out.nx (by go_grown));rintro e U ⟨A6,c6,rfl,hv,hb⟩;have hbu:=qdh HB.out (by first | exact Below.refl _ _ | go_grown) hb;replace HG:=hid (HG.out.nx hbu);replace HK:=hid (HK.out.nx hbu);replace HB:=hid (qac HB.out hbu);replace HX:=hid (HX.out.belowD hbu);(try (replace HS:=hid (HS.out.below hbu)));(try (replace HRD:=hid (HRD.out.below hbu)));replace HQ:=hid ((hbu.block _ (lt_of_block HQ.out)).trans HQ.out);clear hbu hb;clear hv;clear s0 s1 s2;obtain ⟨s0,s1,s2⟩:=HS.out.cells)
 refine qai fun W hW => ?_
 have hb:Below U.heap.size U W:=by rw [hW];go_grown
 have hbu:=hb
 replace HG:=hid (HG.out.nx hbu)
 replace HK:=hid (HK.out.nx hbu)
 replace HB:=hid (qac HB.out hbu)
 replace HX:=hid (HX.out.belowD hbu)
 (try (replace HS:=hid (HS.out.below hbu)))
 (try (replace HRD:=hid (HRD.out.below hbu)))
 replace HQ:=hid ((hbu.block _ (lt_of_block HQ.out)).trans HQ.out)
 clear hW hb hbu s0 s1 s2 HRD HQ5
 rename World=>W
 obtain ⟨s0,s1,s2⟩:=HS.out.cells
 have s3:=qal HS.out (i:=1)
 have q0:=qaa HQ.out (i:=9) rfl
 have q1:=qal HQ.out (i:=9)
 have q2:=lt_of_block HQ.out
 go_upto_region 9 with (fail)
 refine qai fun W2 hW => ?_
 have hC:Chg (fun k=>k=qb∨k=qb+1) W W2:=by
  rw [hW]
  exact ((Chg.refl _ _).set ⟨qb,9,none⟩ _ fun _ => .inl rfl).set ⟨qb+1,1,none⟩ _ fun _ => .inr rfl
 have hQ2:W2.heap[qb]? = some (.cells #[.string ⟨#[112]⟩,.string ⟨#[97]⟩,.int .i64 1,.int .i64 3,.string ⟨#[114]⟩,.int .i64 0,.int .i64 0,.slice none 0 0,.string ⟨#[112]⟩,.string ⟨#[98]⟩,.int .i64 2,.int .i64 3,.string ⟨#[109]⟩,.int .i64 1,.int .i64 0,.slice none 0 0,.string ⟨#[112]⟩,.string ⟨#[103]⟩,.int .i64 3,.int .i64 3,.string ⟨#[109]⟩,.int .i64 1,.int .i64 0,.slice none 0 0] 54 (0,0)):=by
  rw [hW,Below.heap_setCell _ _ _ _ (by show qb≠qb+1;omega),qam HQ.out];rfl
 have hS2:qdb W2 (qb+1) (some ⟨kb,0,none⟩) 2 2 (some ⟨qb,0,none⟩) 2 3:=by
  show W2.heap[_]? = _
  have h1:(W.setCell ⟨qb,9,none⟩ (.string ⟨#[98]⟩)).heap[qb+1]? = some (.cells #[.slice (some ⟨kb,0,none⟩) 2 2,.slice (some ⟨qb,0,none⟩) 3 3] 25 (0,0)):=(Below.heap_setCell _ _ _ _ (by show qb+1≠qb;omega)).trans HS.out
  rw [hW,qam h1];rfl
 have hB2:Below w.heap.size w W2:=HB.out.trans (hC.below (B:=w.heap.size) (fun k hk e=>by have:=HQB.out;omega) HB.out.size)
 have HX2:=hid (show RdG W2 (· < qb) (some ⟨kb,0,none⟩) 2 exL from HX.out.keep (hC.keeps fun k _ (hk:k < qb) e=>by omega))
 have HRD:=hid (show RdR W2 qbw (some ⟨qb,0,none⟩) 3 exR2 from rdR_lit (n:=2) exR2 [.string ⟨#[112]⟩,.string ⟨#[103]⟩,.int .i64 3,.int .i64 3,.string ⟨#[109]⟩,.int .i64 1,.int .i64 0,.slice none 0 0] hQ2 rfl rfl (by decide) (by decide) (by decide) (fun r hr=>by simp only [exR2,List.mem_cons,List.not_mem_nil,or_false] at hr;rcases hr with rfl | rfl <;> rfl))
 clear HX HS HQ HG HK HB s0 s1 s2 s3 q0 q1 q2 hC
 have HX:=HX2
 have HS:=hid hS2
 have HG:=hid (HG0.out.below hB2 HG0.out.pos)
 have HK:=hid (HK0.out.below hB2 HK0.out.pos)
 have HB:=hid hB2
 clear hS2 hB2 HX2 hW hQ2
 rename World=>W
 obtain ⟨s0,s1,s2⟩:=HS.out.cells
 go_upto_region 10 with (go_at_call 8;(with_reducible refine (goal_lit (D:=(· < qb)) (E:=qbw) (l:=exL) (rs:=exR2) exW 0 ?_ ?_ ?_ ?_ ?_ ?_ ?_).mono ?_);exact ex_goal;rfl;(first | exact HX.out | exact HX.out.below (by go_grown));rfl;(first | exact HRD.out | exact HRD.out.below (by go_grown));(first | exact HG.out | exact HG.out.nx (by go_grown));(first | exact HK.out | exact HK.out.nx (by go_grown));rintro e U ⟨A8,c8,rfl,hv,hb⟩;have hbu:=qdh HB.out (by first | exact Below.refl _ _ | go_grown) hb;replace HG:=hid (HG.out.nx hbu);replace HK:=hid (HK.out.nx hbu);replace HB:=hid (qac HB.out hbu);replace HX:=hid (HX.out.belowD hbu);(try (replace HS:=hid (HS.out.below hbu)));(try (replace HRD:=hid (HRD.out.below hbu)));(try (replace HF8:=hid (HF8.out.below hbu)));clear hbu hb;have HF8:=hid hv;clear hv;clear s0 s1 s2;obtain ⟨s0,s1,s2⟩:=HS.out.cells)
 refine qai fun W hW => ?_
 have hb:Below U.heap.size U W:=by rw [hW];go_grown
 have HO8:=hid (show OB W U.heap.size exW.op exW.name exW.val exW.bound A8 exW.args.length c8 by rw [hW];exact at_new _ _ _ rfl)
 have hbu:=hb
 replace HG:=hid (HG.out.nx hbu)
 replace HK:=hid (HK.out.nx hbu)
 replace HB:=hid (qac HB.out hbu)
 replace HX:=hid (HX.out.belowD hbu)
 (try (replace HS:=hid (HS.out.below hbu)))
 (try (replace HRD:=hid (HRD.out.below hbu)))
 (try (replace HF8:=hid (HF8.out.below hbu)))
 clear hW hb hbu s0 s1 s2
 obtain ⟨b8,hb8⟩ : ∃ b8,b8=U.heap.size:=⟨_,rfl⟩
 rw [←hb8] at HO8 ⊢
 clear hb8
 rename World=>W
 obtain ⟨s0,s1,s2⟩:=HS.out.cells
 go_upto_region 11 with (first | (go_at_call 25;(with_reducible refine (qi6 ⟨#[114]⟩ 0 _).mono ?_);rintro e U ⟨rfl,hv,hb⟩;have hbu:=qdh HB.out (by first | exact Below.refl _ _ | go_grown) hb;replace HG:=hid (HG.out.nx hbu);replace HK:=hid (HK.out.nx hbu);replace HB:=hid (qac HB.out hbu);replace HX:=hid (HX.out.belowD hbu);(try (replace HS:=hid (HS.out.below hbu)));(try (replace HRD:=hid (HRD.out.below hbu)));(try (replace HF8:=hid (HF8.out.below hbu)));(try (replace HO8:=hid (HO8.out.below hbu)));(try (replace HZ1:=hid (HZ1.out.below hbu)));(try (replace HZ2:=hid (HZ2.out.below hbu)));(try (replace HZ3:=hid (HZ3.out.below hbu)));(try (replace HF9:=hid (HF9.out.below hbu)));clear hbu hb;have HZ1:=hid hv;clear hv;clear s0 s1 s2;obtain ⟨s0,s1,s2⟩:=HS.out.cells) | (go_at_call 19;(with_reducible refine (qkm 4 [isF sR 0] ?_ ?_).mono ?_);rfl;(first | exact qa4 (HZ1.out.below (by first | exact Below.refl _ _ | go_grown)) (at_new _ _ _ rfl) | exact qa4 (HZ1.out.below (by first | exact Below.refl _ _ | go_grown)) (at_new _ _ _ (by (simp;done))) | exact qa4 (HZ1.out.below (by first | exact Below.refl _ _ | go_grown)) ((qaq _ _ _ (by (simp;done))).trans (at_new _ _ _ rfl)) | exact qa4 (HZ1.out.below (by first | exact Below.refl _ _ | go_grown)) ((qaq _ _ _ (by (simp;done))).trans (at_new _ _ _ (by (simp;done)))));rintro e U ⟨rfl,hv,hb⟩;have hbu:=qdh HB.out (by first | exact Below.refl _ _ | go_grown) hb;replace HG:=hid (HG.out.nx hbu);replace HK:=hid (HK.out.nx hbu);replace HB:=hid (qac HB.out hbu);replace HX:=hid (HX.out.belowD hbu);(try (replace HS:=hid (HS.out.below hbu)));(try (replace HRD:=hid (HRD.out.below hbu)));(try (replace HF8:=hid (HF8.out.below hbu)));(try (replace HO8:=hid (HO8.out.below hbu)));(try (replace HZ1:=hid (HZ1.out.below hbu)));(try (replace HZ2:=hid (HZ2.out.below hbu)));(try (replace HZ3:=hid (HZ3.out.below hbu)));(try (replace HF9:=hid (HF9.out.below hbu)));clear hbu hb;have HZ2:=hid hv;clear hv;clear s0 s1 s2;obtain ⟨s0,s1,s2⟩:=HS.out.cells) | (go_at_call 25;(with_reducible refine (qi6 ⟨#[109]⟩ 1 _).mono ?_);rintro e U ⟨rfl,hv,hb⟩;have hbu:=qdh HB.out (by first | exact Below.refl _ _ | go_grown) hb;replace HG:=hid (HG.out.nx hbu);replace HK:=hid (HK.out.nx hbu);replace HB:=hid (qac HB.out hbu);replace HX:=hid (HX.out.belowD hbu);(try (replace HS:=hid (HS.out.below hbu)));(try (replace HRD:=hid (HRD.out.below hbu)));(try (replace HF8:=hid (HF8.out.below hbu)));(try (replace HO8:=hid (HO8.out.below hbu)));(try (replace HZ1:=hid (HZ1.out.below hbu)));(try (replace HZ2:=hid (HZ2.out.below hbu)));(try (replace HZ3:=hid (HZ3.out.below hbu)));(try (replace HF9:=hid (HF9.out.below hbu)));clear hbu hb;have HZ3:=hid hv;clear hv;clear s0 s1 s2;obtain ⟨s0,s1,s2⟩:=HS.out.cells) | (go_at_call 27;(with_reducible refine (or_lit (l := [opF 4 [isF sR 0],isF sM 1]) exW ?_ ?_ ?_ ?_ ?_ ?_).mono ?_);rfl;(first | exact qcq (HZ2.out.below (by first | exact Below.refl _ _ | go_grown)) (HZ3.out.below (by first | exact Below.refl _ _ | go_grown)) (at_new _ _ _ rfl) | exact qcq (HZ2.out.below (by first | exact Below.refl _ _ | go_grown)) (HZ3.out.below (by first | exact Below.refl _ _ | go_grown)) (at_new _ _ _ (by (simp;done))) | exact qcq (HZ2.out.below (by first | exact Below.refl _ _ | go_grown)) (HZ3.out.below (by first | exact Below.refl _ _ | go_grown)) ((qaq _ _ _ (by (simp;done))).trans (at_new _ _ _ rfl)) | exact qcq (HZ2.out.below (by first | exact Below.refl _ _ | go_grown)) (HZ3.out.below (by first | exact Below.refl _ _ | go_grown)) ((qaq _ _ _ (by (simp;done))).trans (at_new _ _ _ (by (simp;done)))));rfl;decide;(first | exact HG.out | exact HG.out.nx (by go_grown));(first | exact HK.out | exact HK.out.nx (by go_grown));rintro e U ⟨A9,c9,rfl,hv,hb⟩;have hbu:=qdh HB.out (by first | exact Below.refl _ _ | go_grown) hb;replace HG:=hid (HG.out.nx hbu);replace HK:=hid (HK.out.nx hbu);replace HB:=hid (qac HB.out hbu);replace HX:=hid (HX.out.belowD hbu);(try (replace HS:=hid (HS.out.below hbu)));(try (replace HRD:=hid (HRD.out.below hbu)));(try (replace HF8:=hid (HF8.out.below hbu)));(try (replace HO8:=hid (HO8.out.below hbu)));(try (replace HZ1:=hid (HZ1.out.below hbu)));(try (replace HZ2:=hid (HZ2.out.below hbu)));(try (replace HZ3:=hid (HZ3.out.below hbu)));(try (replace HF9:=hid (HF9.out.below hbu)));clear hbu hb;have HF9:=hid hv;clear hv;clear s0 s1 s2;obtain ⟨s0,s1,s2⟩:=HS.out.cells))
 refine qai fun W hW => ?_
 have hb:Below U.heap.size U W:=by rw [hW];go_grown
 have HO9:=hid (show OB W U.heap.size exW.op exW.name exW.val exW.bound A9 exW.args.length c9 by rw [hW];exact at_new _ _ _ rfl)
 have hbu:=hb
 replace HG:=hid (HG.out.nx hbu)
 replace HK:=hid (HK.out.nx hbu)
 replace HB:=hid (qac HB.out hbu)
 replace HX:=hid (HX.out.belowD hbu)
 (try (replace HS:=hid (HS.out.below hbu)))
 (try (replace HRD:=hid (HRD.out.below hbu)))
 (try (replace HF8:=hid (HF8.out.below hbu)))
 (try (replace HO8:=hid (HO8.out.below hbu)))
 (try (replace HF9:=hid (HF9.out.below hbu)))
 clear hW hb hbu s0 s1 s2
 obtain ⟨b9,hb9⟩ : ∃ b9,b9=U.heap.size:=⟨_,rfl⟩
 rw [←hb9] at HO9 ⊢
 clear hb9
 rename World=>W
 obtain ⟨s0,s1,s2⟩:=HS.out.cells
 obtain ⟨x0,x1,x2,x3,x4,x5⟩:=HO8.out.cells
 obtain ⟨y0,y1,y2,y3,y4,y5⟩:=HO9.out.cells
 go_wp2_with (first | (go_at_call 15;(with_reducible refine (same_lit (f:=exW) (f2:=exW) true ?_ ?_ ?_).mono ?_);exact decide_eq_true (qe9 exW);(first | exact HF8.out | exact HF8.out.below (by go_grown));(first | exact HF9.out | exact HF9.out.below (by go_grown));rintro e U ⟨rfl,hb⟩;have hbu:=qdh HB.out (by first | exact Below.refl _ _ | go_grown) hb;replace HG:=hid (HG.out.nx hbu);replace HK:=hid (HK.out.nx hbu);replace HB:=hid (qac HB.out hbu);replace HX:=hid (HX.out.belowD hbu);(try (replace HS:=hid (HS.out.below hbu)));(try (replace HRD:=hid (HRD.out.below hbu)));(try (replace HF8:=hid (HF8.out.below hbu)));(try (replace HO8:=hid (HO8.out.below hbu)));(try (replace HF9:=hid (HF9.out.below hbu)));(try (replace HO9:=hid (HO9.out.below hbu)));clear hbu hb;clear s0 s1 s2;obtain ⟨s0,s1,s2⟩:=HS.out.cells;clear x0 x1 x2 x3 x4 x5 y0 y1 y2 y3 y4 y5;obtain ⟨x0,x1,x2,x3,x4,x5⟩:=HO8.out.cells;obtain ⟨y0,y1,y2,y3,y4,y5⟩:=HO9.out.cells) | (go_at_call 13;(with_reducible refine (check_lit (D:=(· < qb)) (E:=qbw) (l:=exL) (rs:=exR2) [] 0 ?_ ?_ ?_ ?_ ?_ ?_ ?_ ?_).mono ?_);exact ex_check2;rfl;rfl;(first | exact HX.out | exact HX.out.below (by go_grown));rfl;(first | exact HRD.out | exact HRD.out.below (by go_grown));(first | exact HG.out | exact HG.out.nx (by go_grown));(first | exact HK.out | exact HK.out.nx (by go_grown));rintro e U ⟨AC,cC,rfl,hv,hb⟩;have hbu:=qdh HB.out (by first | exact Below.refl _ _ | go_grown) hb;replace HG:=hid (HG.out.nx hbu);replace HK:=hid (HK.out.nx hbu);replace HB:=hid (qac HB.out hbu);replace HX:=hid (HX.out.belowD hbu);(try (replace HS:=hid (HS.out.below hbu)));(try (replace HRD:=hid (HRD.out.below hbu)));(try (replace HF8:=hid (HF8.out.below hbu)));(try (replace HO8:=hid (HO8.out.below hbu)));(try (replace HF9:=hid (HF9.out.below hbu)));(try (replace HO9:=hid (HO9.out.below hbu)));clear hbu hb;clear hv;clear s0 s1 s2;obtain ⟨s0,s1,s2⟩:=HS.out.cells;clear x0 x1 x2 x3 x4 x5 y0 y1 y2 y3 y4 y5;obtain ⟨x0,x1,x2,x3,x4,x5⟩:=HO8.out.cells;obtain ⟨y0,y1,y2,y3,y4,y5⟩:=HO9.out.cells) | (go_at_call 13;(with_reducible refine (check_lit (D:=qbw) (E:=qbw) (l := []) (rs := []) [(-1,1)] 1 ?_ ?_ ?_ ?_ ?_ ?_ ?_ ?_).mono ?_);exact ex_check0;rfl;rfl;exact RdG.nil _ qbw none (by omega);rfl;exact RdR.nil _ qbw none (by omega);(first | exact HG.out | exact HG.out.nx (by go_grown));(first | exact HK.out | exact HK.out.nx (by go_grown));rintro e U ⟨AC,cC,rfl,hv,hb⟩;have hbu:=qdh HB.out (by first | exact Below.refl _ _ | go_grown) hb;replace HG:=hid (HG.out.nx hbu);replace HK:=hid (HK.out.nx hbu);replace HB:=hid (qac HB.out hbu);replace HX:=hid (HX.out.belowD hbu);(try (replace HS:=hid (HS.out.below hbu)));(try (replace HRD:=hid (HRD.out.below hbu)));(try (replace HF8:=hid (HF8.out.below hbu)));(try (replace HO8:=hid (HO8.out.below hbu)));(try (replace HF9:=hid (HF9.out.below hbu)));(try (replace HO9:=hid (HO9.out.below hbu)));clear hbu hb;clear hv;clear s0 s1 s2;obtain ⟨s0,s1,s2⟩:=HS.out.cells;clear x0 x1 x2 x3 x4 x5 y0 y1 y2 y3 y4 y5;obtain ⟨x0,x1,x2,x3,x4,x5⟩:=HO8.out.cells;obtain ⟨y0,y1,y2,y3,y4,y5⟩:=HO9.out.cells))
 go_ret
 exact ⟨rfl,HB.out⟩
end Go.Proofs.YtdakdpfofgkjoaaGreatDoor
namespace Go.Proofs.YtdakdpfofgkjoaaGreatDoor
open Go.RowKit Go.Shelf
attribute [local go_sem] qad
def qgf (l:List Sg):Bool:=decide (l.length≤10) && qkb l.length fun i=>decide ((l.getD i default).name.size≤40)
def fewQ (r:Rq):Bool:=decide (r.name.size≤40) && decide (r.part.size≤40) && decide (r.f.size≤120)
def fewB (l:List Sg) (rs:List Rq):Bool:=qgf l && decide (rs.length≤20) && qkb rs.length fun i=>fewQ (rs.getD i default)
theorem ssmall_any {D:Dom} (l:List Sg) (A:Option Addr) (c n:Nat) (w:World) (hn:n=l.length) (h:RdG w D A c l) :
  Calls Tryz.prog 16 #[.slice A n c] w fun e w'=>e = .returned (.bool (qgf l))∧Below w.heap.size w w':=by
 subst hn
 have hlen:=h.len.1
 have HH:=hid h
 clear h
 by_cases h10:10 < l.length
 ·have hi10:10 < (l.length:Int):=by omega
  have HR:=hid (show qgf l=false by unfold qgf;rw [decide_eq_false (by omega)];rfl)
  go_enter Tryz.func16,Tryz.ntmps16
  go_wp2_with fail
  go_ret
  exact ⟨qaj HR.out.symm,Below.refl _ _⟩
 have H10:=hid (show l.length≤10 by omega)
 have hi10 : ¬ 10 < (l.length:Int):=by omega
 clear h10
 go_enter Tryz.func16,Tryz.ntmps16
 go_wp2_with fail
 go_loopw [3] (fun q wr => ∃ i:Nat,i≤l.length∧q = .int .i64 (i:Int)∧qkc w wr∧Hid (qck i fun i=>decide ((l.getD i default).name.size≤40))) (fun q _=>l.length - (intOf q).toNat)
 case atStart=>exact ⟨0,Nat.zero_le _,rfl,rfl,qck.zero _⟩
 case round =>
  obtain ⟨i,hi,rfl,hw,HS⟩:=hrel
  obtain rfl:w=wr:=hw.symm
  by_cases hlt:i < l.length
  ·have hii:(i:Int) < l.length:=by omega
   obtain ⟨b,o,t,rfl,hlb,HX,x0,x1,x2⟩:=HH.out.get hlt
   have HNAME:=hid (show (l.getD i default).name=t.name by rw [HX.out])
   clear HX
   by_cases h40:40 < t.name.size
   ·have hi40:40 < (t.name.size:Int):=by omega
    have HR:=hid (show qgf l=false by unfold qgf;rw [qa5 hlt (by rw [HNAME.out];exact decide_eq_false (by omega))];simp)
    clear h40
    go_wp2_with fail
    go_ret
    exact ⟨qaj HR.out.symm,Below.refl _ _⟩
   ·have hi40 : ¬ 40 < (t.name.size:Int):=by omega
    have HT:=hid (show decide ((l.getD i default).name.size≤40)=true by rw [HNAME.out];exact decide_eq_true (by omega))
    clear h40
    go_wp2_with fail
    go_roundw
    case rel=>exact ⟨i+1,by omega,by go_num,rfl,HS.out.succ HT.out⟩
    case measure=>simp [intOf];omega
  ·have hii : ¬ (i:Int) < l.length:=by omega
   have HR:=hid (show qgf l=true by unfold qgf;rw [decide_eq_true H10.out,HS.out.all (by omega)];rfl)
   go_wp2_with fail
   go_ret
   exact ⟨qaj HR.out.symm,Below.refl _ _⟩
theorem few_any {D E:Dom} (l:List Sg) (rs:List Rq) (AS:Option Addr) (n cS:Nat) (AR:Option Addr) (m cR:Nat) (w:World) (hn:n=l.length) (hl:RdG w D AS cS l) (hm:m=rs.length) (hr:RdR w E AR cR rs) :
  Calls Tryz.prog 6 #[.agg #[.slice AS n cS,.slice AR m cR]] w fun e w'=>e = .returned (.bool (fewB l rs))∧Below w.heap.size w w':=by
 subst hn hm
 have hlen:=hl.len.1
 have hlen2:=hr.len.1
 have HL:=hid hl.old
 have HR:=hid hr.old
 clear hl hr
 go_enter Tryz.func6,Tryz.ntmps6
 go_upto_region 1 with (fail)
 refine qai fun W hW => ?_
 have HB:=hid (show Below w.heap.size w W by rw [hW];go_grown)
 have HS:=hid (show qdb W w.heap.size AS l.length cS AR rs.length cR by show W.heap[_]? = _;rw [hW];exact at_new _ _ _ rfl)
 clear hW
 obtain ⟨s0,s1,s2⟩:=HS.out.cells
 have HSM:=hid (ssmall_any l AS cS l.length W rfl (HL.out.any HB.out))
 cases hsm:qgf l
 ·have HRR:=hid (show fewB l rs=false by unfold fewB;rw [hsm];rfl)
  rw [hsm] at HSM
  clear hsm
  go_wp2_with (go_at_call 16;(with_reducible refine HSM.out.mono ?_);rintro e V ⟨rfl,hbV⟩;have HBV:=hid hbV;clear hbV s0 s1 s2)
  go_ret
  exact ⟨qaj HRR.out.symm,HB.out.trans (HBV.out.mono HB.out.size)⟩
 have HSB:=hid hsm
 rw [hsm] at HSM
 clear hsm
 by_cases h20:20 < rs.length
 ·have hi20:20 < (rs.length:Int):=by omega
  have HRR:=hid (show fewB l rs=false by unfold fewB;rw [decide_eq_false (show ¬ rs.length≤20 by omega)];simp)
  go_wp2_with (go_at_call 16;(with_reducible refine HSM.out.mono ?_);rintro e V ⟨rfl,hbV⟩;have HBV:=hid hbV;obtain ⟨t0,t1,t2⟩:=(HS.out.below hbV).cells;clear hbV s0 s1 s2)
  go_ret
  exact ⟨qaj HRR.out.symm,HB.out.trans (HBV.out.mono HB.out.size)⟩
 have hi20 : ¬ 20 < (rs.length:Int):=by omega
 have H20:=hid (show rs.length≤20 by omega)
 clear h20
 go_upto_region 3 with (go_at_call 16;(with_reducible refine HSM.out.mono ?_);rintro e V ⟨rfl,hbV⟩;have HBV:=hid hbV;obtain ⟨t0,t1,t2⟩:=(HS.out.below hbV).cells;clear hbV s0 s1 s2)
 have HSV:=hid (HS.out.below HBV.out)
 have HBW:=hid (HB.out.trans (HBV.out.mono HB.out.size))
 clear t0 t1 t2
 go_wp2_with fail
 go_loopw [3] (fun q wr => ∃ i:Nat,i≤rs.length∧q = .int .i64 (i:Int)∧Hid (Below V.heap.size V wr)∧Hid (qck i fun i=>fewQ (rs.getD i default))) (fun q _=>rs.length - (intOf q).toNat)
 case atStart=>exact ⟨0,Nat.zero_le _,rfl,Below.refl _ _,qck.zero _⟩
 case round =>
  obtain ⟨i,hi,rfl,HBR,HSF⟩:=hrel
  have HSR:=hid (HSV.out.below HBR.out)
  obtain ⟨s0,s1,s2⟩:=HSR.out.cells
  have HBB:=hid (HBW.out.trans (HBR.out.mono HBW.out.size))
  by_cases hlt:i < rs.length
  ·have hii:(i:Int) < rs.length:=by omega
   have HLT:=hid hlt
   obtain ⟨b,o,A1,c1,r,rfl,HX,hr1⟩:=(HR.out.any HBB.out).get hlt
   have HQ:=hid (show fewQ (rs.getD i default)=fewQ r by rw [HX.out])
   clear HX
   have HFS:=hid (show Calls Tryz.prog 7 #[.agg #[.int .i64 r.f.op,.string r.f.name,.int .i64 r.f.val,.int .i64 r.f.bound,.slice A1 r.f.args.length c1],.int .i64 120] wr (fun e w'=>e = .returned (.bool (decide (r.f.size≤120)))∧Below wr.heap.size wr w') from qjo r.f _ 120 wr ⟨A1,c1,rfl,hr1.form.args⟩ (by omega))
   obtain ⟨_,hlb,n0,n1,_,n3,n4,n5,n6,n7,_⟩:=hr1
   by_cases h1:40 < r.name.size
   ·have hi1:40 < (r.name.size:Int):=by omega
    have HRR:=hid (show fewB l rs=false by unfold fewB;rw [qa5 hlt (by show fewQ (rs.getD i default)=false;rw [HQ.out];unfold fewQ;rw [decide_eq_false (by omega)];rfl)];simp)
    clear h1
    go_wp2_with fail
    go_ret
    exact ⟨qaj HRR.out.symm,HBB.out⟩
   have hi1 : ¬ 40 < (r.name.size:Int):=by omega
   by_cases h2:40 < r.part.size
   ·have hi2:40 < (r.part.size:Int):=by omega
    have HRR:=hid (show fewB l rs=false by unfold fewB;rw [qa5 hlt (by show fewQ (rs.getD i default)=false;rw [HQ.out];unfold fewQ;rw [decide_eq_false (show ¬ r.part.size≤40 by omega)];simp)];simp)
    clear h1 h2
    go_wp2_with fail
    go_ret
    exact ⟨qaj HRR.out.symm,HBB.out⟩
   have hi2 : ¬ 40 < (r.part.size:Int):=by omega
   cases h3:decide (r.f.size≤120)
   ·have HRR:=hid (show fewB l rs=false by unfold fewB;rw [qa5 hlt (by show fewQ (rs.getD i default)=false;rw [HQ.out];unfold fewQ;rw [h3];simp)];simp)
    rw [h3] at HFS
    clear h1 h2 h3
    go_wp2_with (go_at_call 7;(with_reducible refine HFS.out.mono ?_);rintro e V2 ⟨rfl,hb2⟩;have HB2:=hid hb2;clear hb2)
    go_ret
    exact ⟨qaj HRR.out.symm,HBB.out.trans (HB2.out.mono HBB.out.size)⟩
   ·have HT:=hid (show fewQ (rs.getD i default)=true by rw [HQ.out];unfold fewQ;rw [h3,decide_eq_true (by omega),decide_eq_true (by omega)];rfl)
    rw [h3] at HFS
    clear h1 h2 h3
    go_wp2_with (go_at_call 7;(with_reducible refine HFS.out.mono ?_);rintro e V2 ⟨rfl,hb2⟩;have HB2:=hid hb2;clear hb2)
    go_roundw
    case rel=>exact ⟨i+1,by have:=HLT.out;omega,by go_num,HBR.out.trans (HB2.out.mono HBR.out.size),HSF.out.succ HT.out⟩
    case measure=>have:=HLT.out;simp [intOf];omega
  ·have hii : ¬ (i:Int) < rs.length:=by omega
   have HRR:=hid (show fewB l rs=true by unfold fewB;rw [HSB.out,decide_eq_true H20.out,HSF.out.all (by omega)];rfl)
   go_wp2_with fail
   go_ret
   exact ⟨qaj HRR.out.symm,HBB.out⟩
end Go.Proofs.YtdakdpfofgkjoaaGreatDoor
