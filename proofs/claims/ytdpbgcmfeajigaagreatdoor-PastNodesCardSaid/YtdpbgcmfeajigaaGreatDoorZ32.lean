/-
  Parts of a proof: UY UZ QH QI.
-/
import Derived.Test.YtdpbgcmfeajigaaGreatDoorZ31
set_option linter.unusedSimpArgs false
set_option linter.unusedVariables false
set_option maxHeartbeats 8000000
set_option maxRecDepth 100000
namespace Go.Proofs.YtdpbgcmfeajigaaGreatDoor
open Go.RowKit Go.Shelf
attribute [local go_sem] qab run_store_func Oper.semAt_some
theorem looseR_eq (f:Fm):qe4 f=qau f:=(looseB_ref f).symm
theorem loose9_any {D:Dom} (f:Fm) (v:Value) (w:World) (h:qbj w D v f) (r:Bool) (hr:qau f=r):Calls Tryz.prog 11 #[v] w fun e w'=>e = .returned (.bool r)∧Below w.heap.size w w' :=
 rloose_r r (by rw [looseR_eq,hr]) h
theorem rhas9_any {D E:Dom} (gs:List Fm) (B:Option Addr) (d n:Nat) (f:Fm) (v:Value) (w:World) (hn:n=gs.length) (hgs:RdA w E gs B d) (h:qbj w D v f) (hm : ∀ g,g∈qaw f→g∈gs) (hz:f.size≤1000) :
  Calls Tryz.prog 15 #[.slice B n d,v] w fun e w'=>e = .returned (.bool true)∧Below w.heap.size w w':=by
 obtain ⟨A,c,rfl,ha⟩:=h
 have HA:=hid ha.old
 have HGS:=hid hgs.old
 have HN:=hid hn
 have HM:=hid hm
 have HZ:=hid hz
 clear ha hgs hn hm hz
 go_enter Tryz.func15,Tryz.ntmps15
 go_upto_region 1 with (fail)
 refine qai fun W hW => ?_
 have HB:=hid (show Below w.heap.size w W by rw [hW];go_grown)
 have HE:=hid (show qcj W w.heap.size f A c by show W.heap[w.heap.size]? = _;rw [hW];exact at_new _ _ _ rfl)
 clear hW
 obtain ⟨e0,e1,e2,e3,e4,e5⟩:=HE.out.cells
 have HGA:=hid (gathered_any f [] none 0 0 [] W.heap.size _ W rfl (PRow.nil _ _) (qbj.cells5 (((HA.out.keep (Keeps.of_below HB.out fun _ h=>h)).mono fun k hk hl=>hl))) (Nat.le_refl _) (by have:=HZ.out;simp;omega))
 obtain ⟨R,hR⟩ : ∃ R,qc7 [] (qaw f)=R:=⟨_,rfl⟩
 have HR:=hid hR
 have HRL:=hid (show R.length≤1000 by rw [←hR];have h1:=gathP_size [] f;have:=HZ.out;simp at h1;omega)
 rw [hR] at HGA
 clear hR
 go_upto_region 2 with (go_at_call 53;(with_reducible refine HGA.out.mono ?_);rintro e W2 ⟨A2,c2,sl2,rfl,hp2,hl2⟩;have HP2:=hid hp2;have HB2:=hid (qaf HB.out (hl2.below (fun k hk=>by cases hk) (Nat.le_refl _)));clear hp2 hl2 e0 e1 e2 e3 e4 e5)
 have HRD:=hid (HP2.out.rd (by have:=HRL.out;omega)).old
 go_wp2_with fail
 go_loopw [6] (fun r wr => ∃ k:Nat,k≤R.length∧r = .int .i64 (k:Int)∧Below W2.heap.size W2 wr) (fun r _=>R.length - (intOf r).toNat)
 case atStart=>exact ⟨0,Nat.zero_le _,rfl,by first | exact Below.refl _ _ | go_grown⟩
 case round =>
  obtain ⟨k,hk,rfl,hbl⟩:=hrel
  have HBL:=hid hbl
  have hRn:R.length≤1000:=HRL.out
  clear hbl
  by_cases hlt:k < R.length
  ·have hii:(k:Int) < (R.length:Int):=by omega
   have hi0:(0:Int)≤(k:Int):=by omega
   obtain ⟨b1,o1,A3,c3,g,rfl,HX,hg⟩:=(HRD.out.keep (Keeps.of_below HBL.out fun _ h=>h)).get hlt
   have hgm:g∈gs:=by
    have h1:g∈R:=by rw [←HX.out];exact qax hlt
    rw [←HR.out,qfn] at h1
    rcases h1 with h1 | h1
    ·cases h1
    ·exact HM.out g h1
   have HFI:=hid (qhc gs B d n g _ wr HN.out (HGS.out.keep (Keeps.of_below (qaf HB2.out HBL.out) fun _ h=>h)) (qbj.cells5 hg.args))
   obtain ⟨q1,q2,p0,p1,p2,p3,p4,_⟩:=hg
   obtain ⟨fz,hfz⟩ : ∃ z,findF gs g=z:=⟨_,rfl⟩
   have hz : ¬ fz < 0:=by rw [←hfz];unfold findF;rw [if_pos hgm];omega
   rw [hfz] at HFI
   have HLT:=hid hlt
   have hbl:=Nat.lt_of_lt_of_le q1 HBL.out.size
   clear hfz hgm HX hlt
   go_wp2_with (go_at_call 14;(with_reducible refine HFI.out.mono ?_);rintro e W9 ⟨rfl,hb9⟩;have HB9:=hid hb9;clear hb9)
   go_roundw
   case rel=>exact ⟨k+1,by have:=HLT.out;omega,by go_num,qaf HBL.out HB9.out⟩
   case measure=>have:=HLT.out;simp [intOf];omega
  ·have hii : ¬ (k:Int) < (R.length:Int):=by omega
   go_wp2_with fail
   go_ret
   exact ⟨rfl,qaf HB2.out HBL.out⟩
def fitQ (l:List Sg) (f:Fm):Bool:=if f.op=3 then decide (qdn l f.name < l.length) && decide (0≤f.val) && decide (f.val < (l.getD (qdn l f.name) default).size) else true
mutual
def fitAll (l:List Sg):Fm→Bool
 | .mk o n v b L=>fitQ l (.mk o n v b L) && qjo l L
def qjo (l:List Sg):List Fm→Bool
 | []=>true
 | f :: L=>fitAll l f && qjo l L
end
theorem fitAlls_iff {l:List Sg} : ∀ {L:List Fm},qjo l L=true ↔ ∀ g,g∈L→fitAll l g=true
 | []=>by simp [qjo]
 | f :: L=>by rw [qjo,Bool.and_eq_true,fitAlls_iff];simp
theorem fitAll_eq (l:List Sg) (f:Fm):fitAll l f=(fitQ l f && qjo l f.args):=by cases f;simp only [fitAll,Fm.args]
end Go.Proofs.YtdpbgcmfeajigaaGreatDoor
namespace Go.Proofs.YtdpbgcmfeajigaaGreatDoor
open Go.RowKit Go.Shelf
attribute [local go_sem] qab run_store_func Oper.semAt_some
end Go.Proofs.YtdpbgcmfeajigaaGreatDoor
namespace Go.Proofs.YtdpbgcmfeajigaaGreatDoor
open Go.RowKit Go.Shelf
attribute [local go_sem] qab run_store_func Oper.semAt_some
end Go.Proofs.YtdpbgcmfeajigaaGreatDoor
namespace Go.Proofs.YtdpbgcmfeajigaaGreatDoor
def sA:ByteArray:=⟨#[97]⟩
def sB:ByteArray:=⟨#[98]⟩
def eIs (s:ByteArray):Fm := .mk 3 s 1 0 []
def eS (v:Int):Fm := .mk 16 ⟨#[]⟩ v 0 [eIs sA,eIs sB]
def eY (v u:Int):Fm := .mk 15 ⟨#[]⟩ v 0 [eS u]
def eF (v u:Int):Fm := .mk 6 ⟨#[]⟩ 0 0 [eIs sA,eY v u]
def eT:Fm := .mk 15 ⟨#[]⟩ 1 0 [eIs sA]
def eL:List Sg := [⟨sA,true,2⟩,⟨sB,false,2⟩]
def eW:Las:=⟨[],[1]⟩
theorem e_loose:qau (eF 0 0)=true:=by decide +kernel
theorem e_nodes:qbh (eF 0 0) = [eS 0,eY 0 0]:=by decide +kernel
theorem qj1:qf3 [eS 0,eY 0 0]=true:=by decide +kernel
theorem e_listT:qf3 [eT]=true:=by decide +kernel
theorem e_valid:qce eL=true:=by decide +kernel
theorem e_letters:qbk eL=4:=by decide +kernel
theorem e_make1:makeZ eL [0,1]=2∧valsB eL [0,1]=true:=by decide +kernel
theorem e_make2:makeZ eL [1,0]=1∧valsB eL [1,0]=true:=by decide +kernel
theorem e_start:startZ [eS 0,eY 0 0]=0:=by decide +kernel
theorem e_next1:nextZ (sgN eL 2) [eS 0,eY 0 0] 0=3:=by decide +kernel
theorem e_next2:nextZ (sgN eL 1) [eS 0,eY 0 0] 3=3:=by decide +kernel
theorem e_next3:nextZ (sgN eL 0) [eS 0,eY 0 0] 3=0:=by decide +kernel
theorem e_next4:nextZ (sgN eL 0) [eT] 1=0:=by decide +kernel
theorem e_put:putZ [eS 0,eY 0 0] 3 (eF 0 0)=eF 1 1:=by decide +kernel
theorem e_now1:qej (sgN eL 0) (qbl [eS 0,eY 0 0] 3) (eY 0 0)=true:=by decide +kernel
theorem e_now2:qej (sgN eL 0) (qbl [eS 0,eY 0 0] 3) (eS 0)=false:=by decide +kernel
theorem e_now3:qej (sgN eL 1) (qbl [eS 0,eY 0 0] 1) (eS 0)=true:=by decide +kernel
theorem e_holds:holdsZ eL (eF 0 0) eW 0=true:=by decide +kernel
theorem e_word:qh6 4 eW=true:=by decide +kernel
end Go.Proofs.YtdpbgcmfeajigaaGreatDoor
