/-
  Parts of a proof: XM XN X3 X4 X5.
-/
import Derived.Test.YtdakdpfofgkjoaaGreatDoorZ22
import Derived.Test.YtdakdpfofgkjoaaGreatDoorZ00
import Derived.Test.YtdakdpfofgkjoaaGreatDoorZ10
import Derived.Shelf.Abstract
import Derived.Shelf.AbstractIn
import Derived.Test.YtdakdpfofgkjoaaGreatDoorZ06
set_option linter.unusedSimpArgs false
set_option linter.unusedVariables false
set_option maxHeartbeats 8000000
set_option maxRecDepth 100000
namespace Go.Proofs.YtdakdpfofgkjoaaGreatDoor
open Go.RowKit
def encS (s:ByteArray):Value := .string s
theorem strS_check (e:Bool) (w:World) (q:ByteArray):(Instr.checkKey e 10000 9 (encS q)).run Tryz.prog w = .ok () w:=by kernel_rfl
theorem strS_key:KeyT Tryz.prog 9 encS :=
 .of_now Tryz.underlying9 strS_check (fun a b=>by
  unfold encS
  simp only [Instr.sameNow]
  rw [show (a == b)=decide (a=b) from by rw [Bool.eq_iff_iff,Go.MapKept.bytes_beq,decide_eq_true_eq]]) (fun k=>by
  simp only [encS,Instr.sameBits]
  rw [Go.MapKept.bytes_beq])
def qdv (w:World) (mb:Nat) (L:List ByteArray) (k:Nat):Prop :=
 ∃ M:List (ByteArray × Value),qey encS w mb M ∧ ∀ s,qgn M s=if qa7 s L < k then some (.int .i64 (qa7 s L:Int)) else none
section
variable {w w':World} {mb k:Nat} {L:List ByteArray}
theorem qdv.lt (h:qdv w mb L k):mb < w.heap.size:=let ⟨_,h1,_⟩:=h;qey.lt h1
theorem qdv.of_block (h:qdv w mb L k) (hb:w'.heap[mb]? = w.heap[mb]?):qdv w' mb L k:=let ⟨M,h1,h2⟩:=h;⟨M,qey.of_block h1 hb,h2⟩
theorem qdv.new (w:World) (L:List ByteArray):qdv (w.alloc (.map #[] 0)) w.heap.size L 0:=⟨[],qey.new w,fun s=>by simp [qgn]⟩
theorem qdv.has (h:qdv w mb L k) (s:ByteArray):(Instr.lookup 99 (.map (some mb)) (.string s) true).run Tryz.prog w = .ok (.tuple #[.int .i64 (if qa7 s L < k then (qa7 s L:Int) else 0),.bool (decide (qa7 s L < k))]) w:=by
 obtain ⟨M,h1,h2⟩:=h
 have:=qkg strS_key (T:=99) (E:=3) (P:=Tryz.prog) (z := .int .i64 0) (by kernel_rfl) (by kernel_rfl) h1 s true
 rw [h2] at this
 show (Instr.lookup 99 (.map (some mb)) (encS s) true).run Tryz.prog w=_
 rw [this]
 by_cases hk:qa7 s L < k <;> simp [hk]
theorem qdv.look (h:qdv w mb L k) (s:ByteArray):(Instr.lookup 99 (.map (some mb)) (.string s) false).run Tryz.prog w = .ok (.int .i64 (if qa7 s L < k then (qa7 s L:Int) else 0)) w:=by
 obtain ⟨M,h1,h2⟩:=h
 have:=qkg strS_key (T:=99) (E:=3) (P:=Tryz.prog) (z := .int .i64 0) (by kernel_rfl) (by kernel_rfl) h1 s false
 rw [h2] at this
 show (Instr.lookup 99 (.map (some mb)) (encS s) false).run Tryz.prog w=_
 rw [this]
 by_cases hk:qa7 s L < k <;> simp [hk]
theorem qdv.put (h:qdv w mb L k) {s:ByteArray} (hs:L.getD k ⟨#[]⟩=s) (hk:k < L.length) (hn : ¬ qa7 s L < k) : ∃ w',(Instr.mapUpdate 99 (.map (some mb)) (.string s) (.int .i64 (k:Int))).run Tryz.prog w = .ok () w'∧qdv w' mb L (k+1)∧w.grownBy w' (some mb)∧w'.heap.size=w.heap.size:=by
 obtain ⟨M,h1,h2⟩:=h
 obtain ⟨w',e1,e2,e3,e4⟩:=run_update_b strS_key (T:=99) (E:=3) (P:=Tryz.prog) (by kernel_rfl) h1 s (.int .i64 (k:Int))
 have hf:qa7 s L=k:=by have:=qhe hk hs;omega
 refine ⟨w',e1,⟨_,e2,fun t => ?_⟩,e3,e4⟩
 rw [lookB_upd,h2]
 by_cases ht:t=s
 ·rw [if_pos ht,ht,hf,if_pos (by omega)]
 ·rw [if_neg ht]
  have hne:qa7 t L≠k:=fun e=>ht (by rw [←hs,←e];exact (qhf (by rw [e];exact hk)).symm)
  by_cases h3:qa7 t L < k
  ·rw [if_pos h3,if_pos (by omega)]
  ·rw [if_neg h3,if_neg (by omega)]
theorem qdv.skip (h:qdv w mb L k) {s:ByteArray} (hs:L.getD k ⟨#[]⟩=s) (hk:k < L.length) (hn:qa7 s L < k):qdv w mb L (k+1):=by
 obtain ⟨M,h1,h2⟩:=h
 refine ⟨M,h1,fun t => ?_⟩
 rw [h2]
 have hne:qa7 t L≠k:=fun e=>by
  have h3:L.getD k ⟨#[]⟩=t:=by rw [←e];exact qhf (by rw [e];exact hk)
  rw [hs] at h3
  subst h3
  omega
 by_cases h3:qa7 t L < k
 ·rw [if_pos h3,if_pos (by omega)]
 ·rw [if_neg h3,if_neg (by omega)]
end
end Go.Proofs.YtdakdpfofgkjoaaGreatDoor
namespace Go.Proofs.YtdakdpfofgkjoaaGreatDoor
open Go.RowKit
theorem qg8 {w:World} {base g size:Nat} {e:TypeId} (hb:base≤g) (h:w.heap[g]? = some (.cells #[] e (0,0))):w.ownsRow base e size (.slice (some ⟨g,0,none⟩) 0 0) 0 [] :=
 ⟨by simp,.inr ⟨g,0,#[],rfl,hb,h,Nat.le_refl _,by omega,by simp,by simp⟩⟩
theorem qdu {w:World} {base n size:Nat} {e:TypeId} {v:Value} {xs:List Value} (h:w.ownsRow base e size v n xs) {k:Nat} (hk:v.ownBlock=some k):base≤k∧k < w.heap.size:=by
 rcases h.2 with ⟨h0,_⟩ | ⟨g,cap,cur,hv,hb,hg,_⟩
 ·rw [h0] at hk;cases hk
 ·rw [hv] at hk
  injection hk with hk
  have:g=k:=hk
  subst this
  exact ⟨hb,lt_of_block hg⟩
structure QRow (w:World) (base:Nat) (A:Option Addr) (c:Nat) (rs:List Rq) (sl:List (Option Addr × Nat)):Prop where
 own:w.ownsRow base 54 8 (.slice A rs.length c) rs.length (qft rs sl)
 len:sl.length=rs.length
 arg : ∀ i,i < rs.length→RdA w (· < base) (rs.getD i default).f.args (sl.getD i (none,0)).1 (sl.getD i (none,0)).2
theorem cellsQ_append {gs ms:List Rq} {sl sm:List (Option Addr × Nat)} (h:sl.length=gs.length):qft (gs ++ ms) (sl ++ sm)=qft gs sl ++ qft ms sm:=by
 unfold qft
 rw [List.zip_append h.symm,List.flatMap_append]
section
variable {w w':World} {base c:Nat} {A:Option Addr} {rs:List Rq} {sl:List (Option Addr × Nat)}
theorem QRow.nil (w:World) (base:Nat):QRow w base none 0 [] []:=⟨⟨rfl,.inl ⟨rfl,rfl⟩⟩,rfl,fun i h=>absurd h (Nat.not_lt_zero _)⟩
theorem QRow.empty {w:World} {base g:Nat} (hb:base≤g) (h:w.heap[g]? = some (.cells #[] 54 (0,0))):QRow w base (some ⟨g,0,none⟩) 0 [] []:=⟨qg8 hb h,rfl,fun i h=>absurd h (Nat.not_lt_zero _)⟩
theorem QRow.below (h:QRow w base A c rs sl) (hb:Below w.heap.size w w'):QRow w' base A c rs sl :=
 ⟨own_below h.own hb,h.len,fun i hi=>((h.arg i hi).mono (E:=fun k=>k < base∧k < w.heap.size) fun k hk hl=>⟨hk,hl⟩).keep (Keeps.of_below hb fun _ h=>h.2) |>.mono fun _ h _=>h.1⟩
theorem QRow.rd (h:QRow w base A c rs sl) (hn:rs.length≤140737488355328):RdR w qbw A c rs :=
 ⟨sl,h.len,Rd.own h.own hn fun _ _=>trivial,fun i hi=>(h.arg i hi).mono fun _ _ _=>trivial⟩
theorem QRow.app {A':Option Addr} {c' n:Nat} {r:Rq} {s:Option Addr × Nat} (h:QRow w base A c rs sl) (hg:w.grownBy w' (Value.slice A rs.length c).ownBlock) (hn:n=(rs ++ [r]).length)
  (hown:w'.ownsRow base 54 8 (.slice A' n c') n (qft rs sl ++ qh6 r s)) (hr:RdA w (· < base) r.f.args s.1 s.2):QRow w' base A' c' (rs ++ [r]) (sl ++ [s]):=by
 subst hn
 have key : ∀ {l:List Fm} {B:Option Addr} {d:Nat},RdA w (· < base) l B d→RdA w' (· < base) l B d:=fun h1 =>
  h1.keep ⟨hg.size,fun k hk hl=>hg.block k hl fun e=>by have:=qdu h.own e.symm;omega⟩
 have e1:qft [r] [s]=qh6 r s:=by show qh6 r s ++ []=_;rw [List.append_nil]
 refine ⟨by rw [cellsQ_append h.len,e1];exact hown,by rw [List.length_append,List.length_append,h.len];rfl,fun i hi => ?_⟩
 by_cases hl:i < rs.length
 ·have e1:(rs ++ [r]).getD i default=rs.getD i default:=by simp [List.getD,List.getElem?_append_left hl]
  have e2:(sl ++ [s]).getD i (none,0)=sl.getD i (none,0):=by simp [List.getD,List.getElem?_append_left (show i < sl.length by rw [h.len];exact hl)]
  rw [e1,e2]
  exact key (h.arg i hl)
 ·have hi':i=rs.length:=by rw [List.length_append] at hi;simp at hi;omega
  subst hi'
  have e1:(rs ++ [r]).getD rs.length default=r:=by simp [List.getD]
  have e2:(sl ++ [s]).getD rs.length (none,0)=s:=by rw [←h.len];simp [List.getD]
  rw [e1,e2]
  exact key hr
end
def tcells (x:Int × Int):List Value := [.int .i64 x.1,.int .i64 x.2]
def RdT (w:World) (D:Dom) (A:Option Addr) (c:Nat) (l:List (Int × Int)):Prop:=Rd w D 2 A l.length c (l.flatMap tcells)
section
variable {D E:Dom} {w w':World} {A:Option Addr} {c:Nat} {l:List (Int × Int)}
theorem RdT.nil (w:World) (D:Dom) (A:Option Addr) {c:Nat} (hc:c≤9223372036854775807):RdT w D A c []:=Rd.nil w D 2 A hc
theorem RdT.any (h:RdT w D A c l) (hb:Below w.heap.size w w'):RdT w' qbw A c l:=((Rd.old h).keep (Keeps.of_below hb fun _ h=>h)).mono fun _ _ _=>trivial
theorem RdT.get {k:Nat} (h:RdT w D A c l) (hk:k < l.length) : ∃ b o x,A=some ⟨b,o,none⟩∧D b∧b < w.heap.size∧Hid (l.getD k (0,0)=x) ∧
  w.cell? ⟨b,o+k * 2,none⟩=some (.int .i64 x.1)∧w.cell? ⟨b,o+k * 2+1,none⟩=some (.int .i64 x.2):=by
 obtain ⟨b,o,e,hb,hl,hc⟩:=h.2 (by omega)
 have g : ∀ j u,j < 2→(tcells (l.getD k (0,0)))[j]? = some u→w.cell? ⟨b,o+(k * 2+j),none⟩=some u:=fun j u hj hu=>hc _ _ (by rw [qhx tcells (0,0) 2 (fun _=>rfl) l k j hk hj];exact hu)
 have g0:=g 0 _ (by omega) rfl
 have g1:=g 1 _ (by omega) rfl
 exact ⟨b,o,l.getD k (0,0),e,hb,hl,hid rfl,by simpa using g0,by simpa [Nat.add_assoc] using g1⟩
end
end Go.Proofs.YtdakdpfofgkjoaaGreatDoor
namespace Go.Proofs.YtdakdpfofgkjoaaGreatDoor
open Go.RowKit Go.Shelf
attribute [local go_sem] qad run_store_func
structure RoundsT (l:Nat) (L:List (Fm × Bool)) (Z:Dom) (B0 B1:Nat) (J:Nat→World→Prop) (X:World→Prop):Prop where
 z : ∀ b,Z b→B0≤b∧(b < B1∨B1+2≤b)
 keep : ∀ k W W',J k W→Chg (fun b=>B1≤b∧b < B1+2) W W'→J k W'
 keepX : ∀ W W',X W→Chg (fun b=>B1≤b∧b < B1+2) W W'→X W'
 step : ∀ k W b o A c,B1+2≤W.heap.size→J k W→k < L.length→qfc W (· < B0) b o (L.getD k default).1 A c →
  YieldAt Fence.wide 0 Tryz.prog l #[.pointer (some ⟨b,o,none⟩)] W fun e W'=>Chg Z W W'∧((e = .returned (.bool true)∧J (k+1) W')∨(e = .returned (.bool false)∧X W'))
structure VisT (w:World) (l yb vb:Nat):Prop where
 y:w.heap[yb]? = some (.cells #[.func (.yield l) #[] #[]] 82 (0,0))
 v:w.heap[vb]? = some (.cells #[.func (.func 62) #[] #[.pointer (some ⟨yb,0,none⟩),.pointer (some ⟨vb,0,none⟩)]] 82 (0,0))
theorem VisT.chg {w w':World} {l yb vb:Nat} {V:Dom} (h:VisT w l yb vb) (hc:Chg V w w') (hy : ¬ V yb) (hv : ¬ V vb):VisT w' l yb vb:=⟨hc.box h.y hy,hc.box h.v hv⟩
theorem visitT_any {l:Nat} {L:List (Fm × Bool)} {Z:Dom} {B0 B1:Nat} {J:Nat→World→Prop} {X:World→Prop} (hR:RoundsT l L Z B0 B1 J X) (yb vb:Nat) (hy:B1≤yb∧yb < B1+2) (hv:B1≤vb∧vb < B1+2) (hB:0 < B0) (f:Fm) : ∀ (ins:Bool) (b o:Nat) (A:Option Addr) (c:Nat) (k:Nat) (w:World) (hf:qfc w (· < B0) b o f A c) (hvb:VisT w l yb vb) (hs:B1+2≤w.heap.size) (hj:J k w) (hl:(L.drop k).take f.size=qdl ins f),
  Calls Tryz.prog 62 #[.pointer (some ⟨b,o,none⟩),.pointer (some ⟨yb,0,none⟩),.pointer (some ⟨vb,0,none⟩)] w (VisSays Z J X (k+f.size) w):=by
 refine Fm.induct (P:=fun f => ∀ (ins:Bool) (b o:Nat) (A:Option Addr) (c:Nat) (k:Nat) (w:World) (hf:qfc w (· < B0) b o f A c) (hvb:VisT w l yb vb) (hs:B1+2≤w.heap.size) (hj:J k w) (hl:(L.drop k).take f.size=qdl ins f),
  Calls Tryz.prog 62 #[.pointer (some ⟨b,o,none⟩),.pointer (some ⟨yb,0,none⟩),.pointer (some ⟨vb,0,none⟩)] w (VisSays Z J X (k+f.size) w)) ?_ f
 intro f ih ins b o A c k w hf hvb hs hj hl
 have HR:=hid hR
 have HIH:=hid ih
 have HSZ:=hid (Fm.size_eq f)
 have HH:=hid hf
 have HV:=hid hvb
 have HJ:=hid hj
 have HL:=hid hl
 have HNY:=hid (show ¬ Z yb from fun h=>by have:=hR.z _ h;omega)
 have HNV:=hid (show ¬ Z vb from fun h=>by have:=hR.z _ h;omega)
 have HKZ:Hid (∀ b,b < w.heap.size→b < B0 → ¬ Z b):=hid fun b _ h hz=>by have:=hR.z _ hz;omega
 have hal:=hf.args.len.1
 obtain ⟨hkL,hLk⟩:=qh8 hl
 obtain ⟨yf,yt,ya,yb',hyr,hR4⟩:=hR.step k w b o A c hs hj hkL (by rw [hLk];exact hf)
 obtain ⟨_,hlw,_,_,_,_,_,_⟩:=hf
 have y0:=qaa hvb.y (i:=0) rfl
 have HR4:=hid hR4
 clear hR ih hvb hj hl hkL hLk hR4
 go_enter Tryz.func62,Tryz.ntmps62
 go_upto_region 1 with (fail)
 refine (wpIn_wide (n:=1)).1 ?_
 gi_wp2
 refine HR4.out.mono ?_
 rintro e w4 ⟨hc4,(⟨rfl,hJ4⟩ | ⟨rfl,hX4⟩)⟩
 rotate_left
 ·have HC4:=hid hc4
  have HX4:=hid hX4
  clear hc4 hX4 y0 hyr
  gi_wp2
  go_wp2_with fail
  go_ret
  exact ⟨HC4.out,false,rfl,(fun h=>by cases h),fun _=>HX4.out⟩
 ·have HC8:=hid hc4
  have HJ8:=hid hJ4
  obtain ⟨_,hl4,c0,c1,c2,c3,c4,_⟩:=HH.out.keep (hc4.keeps HKZ.out)
  obtain ⟨ps,hps⟩ : ∃ ps,ps=(ins || (qah f.op).past):=⟨_,rfl⟩
  have HQ:=hid hps
  clear hc4 hJ4 y0 hyr c0 c1 c2 c3 hps
  gi_wp2
  go_wp2_with fail
  go_loopw [15] (fun q wr => ∃ i:Nat,i≤f.args.length∧q = .int .i64 (i:Int)∧Chg Z w wr∧J (k+1+sizes (f.args.take i)) wr) (fun q _=>f.args.length - (intOf q).toNat)
  case atStart=>exact ⟨0,Nat.zero_le _,rfl,HC8.out,by simpa [sizes] using HJ8.out⟩
  case round =>
   obtain ⟨i,hi,rfl,hc,hj⟩:=hrel
   have HCR:=hid hc
   have HJR:=hid hj
   obtain ⟨_,hlr,_,_,_,_,c4',ha'⟩:=HH.out.keep (hc.keeps HKZ.out)
   have HAR:=hid ha'
   have hvr:=HV.out.chg hc HNY.out HNV.out
   have HVR:=hid hvr
   have HSZR:=hid (Nat.le_trans hs hc.size)
   clear hc hj ha' hvr
   by_cases hli:i < f.args.length
   ·have hii:(i:Int) < f.args.length:=by omega
    obtain ⟨b1,o1,A1,c1,g,rfl,HX,hg⟩:=HAR.out.get hli
    have HSN:=hid (qfy f.args hli)
    have HLG:=hid (qgq HL.out hli HX.out)
    have HIG:=hid (HIH.out i hli)
    rw [HX.out] at HSN HIG
    rw [←HQ.out] at HLG
    have f0:=qaa HVR.out.v (i:=0) rfl
    have HCALL:Hid (∀ W',qao wr W'→Calls Tryz.prog 62 #[.pointer (some ⟨b1,o1+i * 5,none⟩),.pointer (some ⟨yb,0,none⟩),.pointer (some ⟨vb,0,none⟩)] W' fun e W9=>Chg Z wr W9 ∧ ∃ r,e = .returned (.bool r)∧(r=true→J (k+1+sizes (f.args.take (i+1))) W9)∧(r=false→X W9)):=hid fun W' hdw=>by
     have hbw:=hdw.below wr.heap.size
     have hcd:Chg (fun b=>B1≤b∧b < B1+2) wr W':=Chg.of_new hbw
     refine (HIG.out ps b1 (o1+i * 5) A1 c1 (k+1+sizes (f.args.take i)) W' (hg.keep hdw.keeps) ⟨(hbw.block _ (lt_of_block HVR.out.y)).trans HVR.out.y,(hbw.block _ (lt_of_block HVR.out.v)).trans HVR.out.v⟩ (Nat.le_trans HSZR.out hbw.size) (HR.out.keep _ _ _ HJR.out hcd) HLG.out).mono ?_
     rintro e w' ⟨hc,hx⟩
     rw [HSN.out,←Nat.add_assoc]
     exact ⟨(Chg.of_new (V:=Z) hbw).trans hc,hx⟩
    have HCELL:Hid (∀ W':World,Chg Z wr W'→W'.cell? ⟨vb,0,none⟩=some (.func (.func 62) #[] #[.pointer (some ⟨yb,0,none⟩),.pointer (some ⟨vb,0,none⟩)])∧W'.cell? ⟨b,o+4,none⟩=some (.slice (some ⟨b1,o1,none⟩) f.args.length c)):=hid fun W' hc =>
     ⟨qaa (HVR.out.chg hc HNY.out HNV.out).v (i:=0) rfl,(HH.out.keep ((HCR.out.trans hc).keeps HKZ.out)).c4⟩
    clear hg
    have HI1:=hid (show qao wr wr.drew from (qao.refl wr).drew)
    have HI2:=hid (fun i=>qao.n wr i)
    go_upto_region 6 with (fail)
    go_region_held3 (fun W':World=>W'.cell? ⟨vb,0,none⟩=some (.func (.func 62) #[] #[.pointer (some ⟨yb,0,none⟩),.pointer (some ⟨vb,0,none⟩)])∧W'.cell? ⟨b,o+4,none⟩=some (.slice (some ⟨b1,o1,none⟩) f.args.length c))
     (first | (with_reducible exact HCELL.out _ hI) | (go_keep;done))
     ((go_at_call 62;with_reducible refine (HCALL.out _ (by first | exact HI1.out | exact HI2.out _)).mono ?_;rintro e W9 ⟨hI,r,rfl,hJ,hX⟩))
    all_goals
     have HCI:=hid hI
     have HCJ:=hid hJ
     have HCX:=hid hX
     clear hI hJ hX f0 c4'
     cases r
     ·go_wp2_with fail
      go_ret
      exact ⟨HCR.out.trans HCI.out,false,rfl,(fun h=>by cases h),fun _=>HCX.out trivial⟩
     ·go_wp2_with fail
      go_roundw
      case rel=>exact ⟨i+1,by omega,by go_num,HCR.out.trans HCI.out,HCJ.out rfl⟩
      case measure=>simp [intOf];omega
   ·have hie:f.args.take i=f.args:=List.take_of_length_le (by omega)
    have hnl : ¬ (i:Int) < f.args.length:=by omega
    have HJE:=hid (show J (k+f.size) wr by have:=HJR.out;rw [hie] at this;rw [HSZ.out,←Nat.add_assoc];exact this)
    clear hie
    go_wp2_with fail
    go_ret
    exact ⟨HCR.out,true,rfl,(fun _=>HJE.out),fun h=>by cases h⟩
theorem nodesT1_any {l:Nat} {Z:Dom} {B0 B1:Nat} {J:Nat→World→Prop} {X:World→Prop} (f:Fm) (hR:RoundsT l (qdl false f) Z B0 B1 J X) (hB:0 < B0) (b o pb:Nat) (A:Option Addr) (c:Nat) (w:World)
  (hw:w.heap.size=B1) (hBB:B0≤B1) (hf:qfc w (· < B0) b o f A c) (hp:w.cell? ⟨pb,0,none⟩=some (.pointer (some ⟨b,o,none⟩))) (hj:J 0 w) :
  Calls Tryz.prog 61 #[.func (.yield l) #[] #[],.pointer (some ⟨pb,0,none⟩)] w fun e w'=>(∃ v,e = .returned v)∧Chg Z w w'∧(J f.size w'∨X w'):=by
 subst hw
 have HR:=hid hR
 have HH:=hid hf
 have HJ:=hid hj
 have hpl:pb < w.heap.size:=World.block_lt_of_cell? w _ hp
 clear hR hf hj
 go_enter Tryz.func61,Tryz.ntmps61
 go_upto_region 2 with (fail)
 refine qai fun W hW => ?_
 have hbw:Below w.heap.size w W:=by rw [hW];go_grown
 have e0:W.heap[w.heap.size]? = some (.cells #[.func (.yield l) #[] #[]] 82 (0,0)):=by
  rw [hW,qaq _ _ _ (by simp only [World.size_alloc];omega),at_new _ _ _ rfl]
 have e3:W.heap[w.heap.size+1]? = some (.cells #[.nilFunc] 82 (0,0)):=by
  rw [hW,at_new _ _ _ (by simp only [World.size_alloc])]
 have hws:W.heap.size=w.heap.size+2:=by rw [hW];simp only [World.size_alloc]
 have hpW:W.cell? ⟨pb,0,none⟩=some (.pointer (some ⟨b,o,none⟩)):=(hbw.cell (p:=⟨pb,0,none⟩) hpl).trans hp
 clear hW hp
 have z0:=qaa e3 (i:=0) rfl
 have z1:=qal e3 (i:=0)
 have z2:=lt_of_block e3
 have hplW:pb < W.heap.size:=by omega
 have HE0:=hid e0
 have HE3:=hid e3
 have HBW:=hid hbw
 have HWS:=hid hws
 have HPW:=hid hpW
 clear e0 e3 hbw hws hpW
 go_upto_region 3 with (fail)
 refine qai fun W3 hW => ?_
 have hvb3:VisT W3 l w.heap.size (w.heap.size+1):=by
  refine ⟨?_,?_⟩
  ·rw [hW,Below.heap_setCell _ _ _ _ (by simp only [];omega)];exact HE0.out
  ·rw [hW,qam HE3.out];rfl
 have hb3:Below w.heap.size w W3:=by
  rw [hW]
  exact HBW.out.trans ((Chg.set (V:=fun k=>k=w.heap.size+1) (Chg.refl _ W) _ _ fun _=>rfl).below (fun b hb=>by omega) HBW.out.size)
 have hs3:w.heap.size+2≤W3.heap.size:=by rw [hW];simp;have:=HWS.out;omega
 have hp3:W3.cell? ⟨pb,0,none⟩=some (.pointer (some ⟨b,o,none⟩)):=by
  rw [←HPW.out]
  have:=(Chg.set (V:=fun k=>k=w.heap.size+1) (Chg.refl _ W) (p:=⟨w.heap.size+1,0,none⟩) (u := .func (.func 62) #[] #[.pointer (some ⟨w.heap.size,0,none⟩),.pointer (some ⟨w.heap.size+1,0,none⟩)]) fun _=>rfl)
  rw [←hW] at this
  exact World.cell?_of_block (w:=W) (a:=⟨pb,0,none⟩) (this.block pb (by simpa using hplW) (by omega))
 have f0:=qaa hvb3.v (i:=0) rfl
 have HCALL:Hid (Calls Tryz.prog 62 #[.pointer (some ⟨b,o,none⟩),.pointer (some ⟨w.heap.size,0,none⟩),.pointer (some ⟨w.heap.size+1,0,none⟩)] W3 fun e W9=>Chg Z W3 W9 ∧ ∃ r,e = .returned (.bool r)∧(r=true→J (0+f.size) W9)∧(r=false→X W9)) :=
  hid (visitT_any HR.out w.heap.size (w.heap.size+1) (by omega) (by omega) hB f false b o A c 0 W3 (HH.out.keep (Keeps.of_below hb3 fun k (hk:k < B0)=>Nat.lt_of_lt_of_le hk hBB)) hvb3 hs3 (HR.out.keep _ _ _ HJ.out (Chg.of_new hb3)) (by rw [List.drop_zero,←qgk false f,List.take_length]))
 have HB3:=hid hb3
 clear hW hb3 hvb3 z0 z1 z2 HE0 HE3 HBW HWS HPW hplW
 go_wp2_with (first | (go_at_call 62;with_reducible refine HCALL.out.mono ?_;rintro e W9 ⟨hI,r,rfl,hJ,hX⟩))
 have hc9:=(Chg.of_new (V:=Z) HB3.out).trans hI
 go_end0
 refine ⟨⟨_,rfl⟩,hc9,?_⟩
 cases r
 ·exact .inr (hX rfl)
 ·have:=hJ rfl
  rw [Nat.zero_add] at this
  exact .inl this
end Go.Proofs.YtdakdpfofgkjoaaGreatDoor
namespace Go.Proofs.YtdakdpfofgkjoaaGreatDoor
open Go.RowKit Go.Shelf
attribute [local go_sem] qad run_store_func
theorem range_nodesT {g:Operand} {ps:Array Tmp} {assign body:Code} {Q:Exit→Act→World→Prop} {a:Act} {w:World} (f:Fm) (b o pb B0:Nat) (A:Option Addr) (c:Nat) (Z:Dom) (I:Nat→World→Prop) (Ix:Code→World→Prop)
  (hg:a.eval g = .func (.func 61) #[] #[.pointer (some ⟨pb,0,none⟩)]) (hps:ps.size=1)
  (hf:qfc w (· < B0) b o f A c) (hB:0 < B0) (hBw:B0≤w.heap.size) (hp:w.cell? ⟨pb,0,none⟩=some (.pointer (some ⟨b,o,none⟩)))
  (hZ : ∀ b,Z b→B0≤b∧(b < w.heap.size∨w.heap.size+4≤b))
  (hI : ∀ k W W',I k W→Chg (fun b=>w.heap.size≤b∧b < w.heap.size+4) W W'→I k W')
  (hIx : ∀ c W W',Ix c W→Chg (fun b=>w.heap.size≤b∧b < w.heap.size+4) W W'→Ix c W') (h0:I 0 w)
  (a₁ : Value→Act)
  (hassign : ∀ (l:Nat) (p:Value) (W:World) (K:Act→World→Prop),K (a₁ p) W →
   assign.wpIn (Fence.wide.inRound l) 0 Tryz.prog (Exit.then K (fun _ _ _=>False)) { tmps:=(ps.zip #[p]).foldl (fun t (p,v)=>t.setIfInBounds p v) a.tmps,defers := [] } W)
  (hround : ∀ (l k:Nat) (W:World) (b o:Nat) (A:Option Addr) (c:Nat),w.heap.size+4≤W.heap.size→Chg Z w W→I k W→k < (qdl false f).length→qfc W (· < B0) b o ((qdl false f).getD k default).1 A c →
   body.wpIn (Fence.wide.inRound l) 0 Tryz.prog (RndPost Z I Ix k W) (a₁ (.pointer (some ⟨b,o,none⟩))) W)
  (hdone : ∀ W,Chg Z w W→I f.size W→W.heap[w.heap.size]? = some (.deferred (some []))→Q .normal { a with defers := { target := .collected w.heap.size,args := #[] } :: a.defers } W)
  (hstop : ∀ c W,Chg Z w W→Ix c W→W.heap[w.heap.size]? = some (.deferred (some []))→c.wp Tryz.prog Q { a with defers := { target := .collected w.heap.size,args := #[] } :: a.defers } W) :
  (Code.rangeFunc g ps assign body).wp Tryz.prog Q a w:=by
 refine (wpIn_wide (n:=3)).1 (wpIn_rangeFunc fun fn _ => ?_)
 obtain ⟨rec,hrec⟩ : ∃ rec:LoopState→Option Code→Loop,rec=fun st pe => { state:=st,pending:=pe,fn,tmps:=a.tmps,params:=ps,assign,body,defers:=w.heap.size } := ⟨_,rfl⟩
 obtain ⟨W1,hW1⟩ : ∃ W1,(w.alloc (.deferred (some []))).alloc (.loop (rec .ready none))=W1:=⟨_,rfl⟩
 have hL1:W1.heap[w.heap.size+1]? = some (.loop (rec .ready none)):=by rw [←hW1];exact at_new _ _ _ (by simp)
 have hK1:W1.heap[w.heap.size]? = some (.deferred (some [])):=by rw [←hW1,qaq _ _ _ (by simp)];exact at_new _ _ _ rfl
 have hs1:W1.heap.size=w.heap.size+2:=by rw [←hW1];simp
 have hb1:Below w.heap.size w W1:=by rw [←hW1];exact ((Below.refl _ w).alloc (Nat.le_refl _) _).alloc (by simp) _
 refine ⟨w.heap.size+1,[{ target := .collected w.heap.size,args := #[] }],W1,{ target := .fn (.func 61) #[.pointer (some ⟨pb,0,none⟩)],args := #[.func (.yield (w.heap.size+1)) #[] #[]] },W1,61,
  #[.func (.yield (w.heap.size+1)) #[] #[]] ++ #[.pointer (some ⟨pb,0,none⟩)],W1,?_,?_,?_,?_,?_,?_⟩
 ·rw [←hW1,hrec];exact run_enterLoop_outer _ _ _ _ _
 ·simp only [resolve,hg]
  simp [go_sem]
 ·exact fun f' _=>trivial
 ·simp [invoke,go_sem,enters_of Tryz.func61 (by kernel_rfl) rfl]
 ·intro hd;simp [Fence.wide] at hd
 ·have own : ∀ W W':World,Chg (fun b=>w.heap.size+2≤b∧b < w.heap.size+4) W W'→Chg (fun b=>w.heap.size≤b∧b < w.heap.size+4) W W':=fun W W' h=>h.mono fun b _ hb=>⟨by omega,hb.2⟩
  have ownL : ∀ W W':World,Chg (fun b=>b=w.heap.size+1) W W'→Chg (fun b=>w.heap.size≤b∧b < w.heap.size+4) W W':=fun W W' h=>h.mono fun b _ hb=>by omega
  refine callsIn_wide.2 ((nodesT1_any (l:=w.heap.size+1) (Z:=fun b=>Z b∨b=w.heap.size+1) (B0:=B0) (B1:=w.heap.size+2)
   (J:=fun k W=>I k W∧Chg Z w W∧W.heap[w.heap.size+1]? = some (.loop (rec .ready none))∧W.heap[w.heap.size]? = some (.deferred (some [])))
   (X:=fun W => ∃ c,Ix c W∧Chg Z w W∧W.heap[w.heap.size+1]? = some (.loop (rec .done (some c)))∧W.heap[w.heap.size]? = some (.deferred (some [])))
   f ⟨?_,?_,?_,?_⟩ hB b o pb A c W1 hs1 (by omega) (hf.keep (Keeps.of_below hb1 fun k (hk:k < B0)=>by omega)) ?_ ⟨hI 0 w W1 h0 (Chg.of_new hb1),Chg.of_new hb1,hL1,hK1⟩).mono ?_)
  ·rintro b (hb | hb)
   ·have:=hZ b hb;exact ⟨this.1,by omega⟩
   ·omega
  ·rintro k W W' ⟨hi,hc,hl,hk⟩ hw
   exact ⟨hI k W W' hi (own _ _ hw),hc.trans' hw fun b _ hb=>by omega,hw.box hl (by omega),hw.box hk (by omega)⟩
  ·rintro W W' ⟨c,hi,hc,hl,hk⟩ hw
   exact ⟨c,hIx c W W' hi (own _ _ hw),hc.trans' hw fun b _ hb=>by omega,hw.box hl (by omega),hw.box hk (by omega)⟩
  ·rintro k W b o A c hsz ⟨hi,hc,hl,hk⟩ hlen hfw
   have hlt:w.heap.size+1 < W.heap.size:=lt_of_block hl
   have hy:=run_yield (P:=Tryz.prog) (args := #[.pointer (some ⟨b,o,none⟩)]) hl (by rw [hrec];exact hps.symm)
   rw [hrec] at hy
   refine ⟨fn,_,assign,body,hy,roundIn_of_wpIn trivial (hassign _ _ W _ ⟨_,run_beginRound hl (by rw [hrec]),?_⟩)⟩
   obtain ⟨Wb,hWb⟩ : ∃ Wb,Wb=W.putObj (w.heap.size+1) (.loop { rec .ready none with state := .busy }):=⟨_,rfl⟩
   rw [←hWb]
   have hcb:Chg (fun b=>b=w.heap.size+1) W Wb:=by rw [hWb];exact Chg.putObj _ _ _
   have hl2:Wb.heap[w.heap.size+1]? = some (.loop { rec .ready none with state := .busy }):=by rw [hWb];exact World.putObj_heap_same hlt
   have hk2:Wb.heap[w.heap.size]? = some (.deferred (some [])):=hcb.box hk (by omega)
   have hsb:W.heap.size≤Wb.heap.size:=hcb.size
   refine wpIn_mono (hround _ k Wb b o A c (by omega) (hc.trans' hcb fun b _ hb=>by omega) (hI _ _ _ hi (ownL _ _ hcb)) hlen (hfw.keep (hcb.keeps fun k _ (hk:k < B0)=>by omega))) ?_
   have fin : ∀ (jump:Option Code) (W3:World),Chg Z Wb W3 →
     (Instr.endRound (w.heap.size+1) jump).run Tryz.prog W3 = .ok (.bool jump.isNone) (W3.putObj (w.heap.size+1) (.loop (rec (if jump.isNone then .ready else .done) jump))) ∧
     Chg (fun b=>b=w.heap.size+1) W3 (W3.putObj (w.heap.size+1) (.loop (rec (if jump.isNone then .ready else .done) jump))) ∧
     Chg (fun b=>Z b∨b=w.heap.size+1) W (W3.putObj (w.heap.size+1) (.loop (rec (if jump.isNone then .ready else .done) jump))) ∧
     Chg Z w (W3.putObj (w.heap.size+1) (.loop (rec (if jump.isNone then .ready else .done) jump))) ∧
     (W3.putObj (w.heap.size+1) (.loop (rec (if jump.isNone then .ready else .done) jump))).heap[w.heap.size+1]? = some (.loop (rec (if jump.isNone then .ready else .done) jump)) ∧
     (W3.putObj (w.heap.size+1) (.loop (rec (if jump.isNone then .ready else .done) jump))).heap[w.heap.size]? = some (.deferred (some [])):=fun jump W3 hc3=>by
    have hl3:=hc3.box hl2 (fun h=>by have:=hZ _ h;omega)
    have hk3:=hc3.box hk2 (fun h=>by have:=hZ _ h;omega)
    have hcp:=Chg.putObj W3 (w.heap.size+1) (.loop (rec (if jump.isNone then .ready else .done) jump))
    have hr:=run_endRound (P:=Tryz.prog) jump hl3
    rw [hrec] at hr hcp ⊢
    refine ⟨hr,hcp,?_,?_,World.putObj_heap_same (lt_of_block hl3),hcp.box hk3 (by omega)⟩
    ·exact ((hcb.mono fun b _ hb => .inr hb).trans (hc3.mono fun b _ hb => .inl hb)).trans (hcp.mono fun b _ hb => .inr hb)
    ·exact ((hc.trans' hcb fun b _ hb=>by omega).trans hc3).trans' hcp fun b _ hb=>by omega
   rintro e a3 W3 hp
   cases e with
   | normal =>
    obtain ⟨hc3,hi3⟩:=hp
    obtain ⟨hr,hcp,hcW,hcw,hl4,hk4⟩:=fin none W3 hc3
    exact ⟨_,_,hr,hcW,.inl ⟨rfl,hI _ _ _ hi3 (ownL _ _ hcp),hcw,hl4,hk4⟩⟩
   | ret =>
    obtain ⟨hc3,hi3⟩:=hp
    obtain ⟨hr,hcp,hcW,hcw,hl4,hk4⟩:=fin (some .ret) W3 hc3
    exact ⟨_,_,hr,hcW,.inr ⟨rfl,_,hIx _ _ _ hi3 (ownL _ _ hcp),hcw,hl4,hk4⟩⟩
   | exit id =>
    obtain ⟨hc3,hi3⟩:=hp
    obtain ⟨hr,hcp,hcW,hcw,hl4,hk4⟩:=fin (some (.exit id)) W3 hc3
    exact ⟨_,_,hr,hcW,.inr ⟨rfl,_,hIx _ _ _ hi3 (ownL _ _ hcp),hcw,hl4,hk4⟩⟩
   | goto t =>
    obtain ⟨hc3,hi3⟩:=hp
    obtain ⟨hr,hcp,hcW,hcw,hl4,hk4⟩:=fin (some (.goto t)) W3 hc3
    exact ⟨_,_,hr,hcW,.inr ⟨rfl,_,hIx _ _ _ hi3 (ownL _ _ hcp),hcw,hl4,hk4⟩⟩
   | panic ch=>exact hp.elim
   | outgrown=>exact hp.elim
  ·exact (hb1.cell (p:=⟨pb,0,none⟩) (World.block_lt_of_cell? w _ hp)).trans hp
  ·rintro e W2 ⟨⟨v,rfl⟩,hc2,(⟨hi,hc,hl,hk⟩ | ⟨c,hi,hc,hl,hk⟩)⟩
   ·refine ⟨none,_,by have:=run_endLoop (P:=Tryz.prog) hl (by rw [hrec];simp);rw [hrec] at this;exact this,?_⟩
    have hcp:=Chg.putObj W2 (w.heap.size+1) (.loop { rec .ready none with state := .exhausted })
    rw [hrec] at hcp
    exact hdone _ (hc.trans' hcp fun b _ hb=>by omega) (hI _ _ _ hi (ownL _ _ hcp)) (hcp.box hk (by omega))
   ·refine ⟨some c,_,by have:=run_endLoop (P:=Tryz.prog) hl (by rw [hrec];simp);rw [hrec] at this;exact this,?_⟩
    have hcp:=Chg.putObj W2 (w.heap.size+1) (.loop { rec .done (some c) with state := .exhausted })
    rw [hrec] at hcp
    exact wpIn_wide.2 (hstop c _ (hc.trans' hcp fun b _ hb=>by omega) (hIx _ _ _ hi (ownL _ _ hcp)) (hcp.box hk (by omega)))
theorem nodesT_any (p:Option Addr) (w:World) :
  Calls Tryz.prog 37 #[.pointer p] w fun e w'=>e = .returned (.func (.func 61) #[] #[.pointer (some ⟨w.heap.size,0,none⟩)])∧w'=w.alloc (.cells #[.pointer p] 64):=by
 have hmf : ∀ (fn:Fn) (first cap:Array Value) (w:World),(Instr.makeFunc fn first cap).run Tryz.prog w = .ok (.func fn first cap) w:=fun _ _ _ _=>rfl
 go_enter Tryz.func37,Tryz.ntmps37
 go_wp2_with fail
 go_ret
 exact ⟨rfl,rfl⟩
end Go.Proofs.YtdakdpfofgkjoaaGreatDoor
namespace Go.Proofs.YtdakdpfofgkjoaaGreatDoor
open Go.RowKit
attribute [local go_sem] qad
theorem findZ_none {l:List Sg} {s:ByteArray} (h : ∀ j,j < l.length→(l.getD j default).name≠s):qfw l s = -1:=by
 unfold qfw
 rw [if_neg]
 have:=findN_ge (l:=l) (s:=s) (Nat.le_refl _) h
 omega
theorem findN_is {l:List Sg} {s:ByteArray} {i:Nat} (hi:i < l.length) (h:(l.getD i default).name=s) (hm : ∀ j,j < i→(l.getD j default).name≠s):qe7 l s=i:=by
 have h1:=findN_le hi h
 have h2:=findN_ge (Nat.le_of_lt hi) hm
 omega
theorem findZ_is {l:List Sg} {s:ByteArray} {i:Nat} (hi:i < l.length) (h:(l.getD i default).name=s) (hm : ∀ j,j < i→(l.getD j default).name≠s):qfw l s=(i:Int):=by
 unfold qfw
 rw [findN_is hi h hm,if_pos hi]
theorem qb6 {a b:Int} (h:a=b):(a == b)=true:=by rw [h];exact beq_self_eq_true b
theorem qar {a b:Int} (h:a≠b):(a == b)=false:=by
 cases h':a == b
 ·rfl
 ·exact absurd (by simpa using h') h
theorem bytes_ne {a b:ByteArray} (h:a≠b):(a.toList == b.toList)=false:=by
 cases hb:(a.toList == b.toList)
 ·rfl
 ·exact absurd (qgb.1 hb) h
theorem sfind_any {D:Dom} (l:List Sg) (s:ByteArray) (A:Option Addr) (c n:Nat) (w:World) (hn:n=l.length) (h:RdG w D A c l) :
  Calls Tryz.prog 18 #[.slice A n c,.string s] w fun e w'=>e = .returned (.int .i64 (qfw l s))∧Below w.heap.size w w':=by
 subst hn
 have hlen:=h.len.1
 have HH:=hid h
 clear h
 go_enter Tryz.func18,Tryz.ntmps18
 go_wp2_with fail
 go_loopw [8] (fun q wr => ∃ i:Nat,i≤l.length∧q = .int .i64 (i:Int)∧qkc w wr∧Hid (∀ j,j < i→(l.getD j default).name≠s)) (fun q _=>l.length - (intOf q).toNat)
 case atStart=>exact ⟨0,Nat.zero_le _,rfl,rfl,fun j h=>absurd h (Nat.not_lt_zero _)⟩
 case round =>
  obtain ⟨i,hi,rfl,hw,HALL⟩:=hrel
  obtain rfl:w=wr:=hw.symm
  by_cases hlt:i < l.length
  ·have hii:(i:Int) < l.length:=by omega
   obtain ⟨b,o,t,rfl,hlb,HX,x0,x1,x2⟩:=HH.out.get hlt
   have HNAME:=hid (show (l.getD i default).name=t.name by rw [HX.out])
   clear HX
   by_cases ht:t.name=s
   ·have d1:(t.name.toList == s.toList)=true:=qgb.2 ht
    have HR:=hid (findZ_is (s:=s) hlt (by rw [HNAME.out];exact ht) HALL.out)
    clear ht
    go_wp2_with fail
    go_ret
    exact ⟨qau HR.out.symm,Below.refl _ _⟩
   ·have d1:(t.name.toList == s.toList)=false:=bytes_ne ht
    have HNE:=hid ht
    clear ht
    go_wp2_with fail
    go_roundw
    case rel =>
     refine ⟨i+1,by omega,by go_num,rfl,fun j hj => ?_⟩
     by_cases e:j=i
     ·rw [e,HNAME.out];exact HNE.out
     ·exact HALL.out j (by omega)
    case measure=>simp [intOf];omega
  ·have hii : ¬ (i:Int) < l.length:=by omega
   have HR:=hid (findZ_none (s:=s) fun j hj=>HALL.out j (by omega))
   go_wp2_with fail
   go_ret
   exact ⟨qau HR.out.symm,Below.refl _ _⟩
theorem nodeErr_is3 {l:List Sg} {f:Fm} (h:f.op=3):qbn l f=if qe7 l f.name < l.length then (if (l.getD (qe7 l f.name) default).size≤f.val then 71 else 0) else 70:=by
 unfold qbn
 rw [if_pos h]
theorem nodeErr_isP {l:List Sg} {f:Fm} (h:15≤f.op∧f.op≤19):qbn l f=if f.args.all (allB qff) then 0 else 72:=by
 unfold qbn qez
 rw [if_neg (by omega),decide_eq_true h.1,decide_eq_true h.2];rfl
theorem nodeErr_no {l:List Sg} {f:Fm} (h3:f.op≠3) (h : ¬ (15≤f.op∧f.op≤19)):qbn l f=0:=by
 unfold qbn qez
 rw [if_neg h3,if_neg]
 rw [Bool.and_eq_true,decide_eq_true_eq,decide_eq_true_eq];exact h
theorem qh1 {l:List Fm} {q:Fm→Bool} (h : ∀ j,j < l.length→q (l.getD j default)=true):l.all q=true:=by
 rw [List.all_eq_true]
 intro x hx
 obtain ⟨i,hi,rfl⟩:=List.getElem_of_mem hx
 have:=h i hi
 simpa [List.getD,hi] using this
theorem qka {l:List Fm} {q:Fm→Bool} {i:Nat} (hi:i < l.length) (h:q (l.getD i default)=false):l.all q=false:=by
 rw [List.all_eq_false]
 exact ⟨l.getD i default,by simp [List.getD,hi],by rw [h];simp⟩
theorem nodeerr_any {D E:Dom} (l:List Sg) (A:Option Addr) (c n:Nat) (f:Fm) (b o:Nat) (A':Option Addr) (c':Nat) (w:World) (hn:n=l.length) (h:RdG w D A c l) (hf:qfc w E b o f A' c') (hg:GF w) (hd:f.depth≤5000) :
  Calls Tryz.prog 38 #[.slice A n c,.pointer (some ⟨b,o,none⟩)] w fun e w'=>e = .returned (.int .i64 (qbn l f))∧Below w.heap.size w w':=by
 subst hn
 have hlen:=h.len.1
 have HL:=hid h.old
 have HF:=hid hf.old
 have HG:=hid hg
 have HD:=hid hd
 obtain ⟨_,hlb,f0,f1,f2,f3,f4,_⟩:=hf
 clear h hg hd
 by_cases h3:f.op=3
 ·have d3:=qb6 h3
  have HR:=hid (nodeErr_is3 (l:=l) h3)
  clear h3
  by_cases hfn:qe7 l f.name < l.length
  ·have hz:qfw l f.name=((qe7 l f.name:Nat):Int):=by unfold qfw;rw [if_pos hfn]
   have hcall:=fun W (hb:Below w.heap.size w W)=>sfind_any l f.name A c l.length W rfl (HL.out.any hb)
   rw [hz] at hcall
   have HC:=hid hcall
   obtain ⟨k,hk⟩ : ∃ k,qe7 l f.name=k:=⟨_,rfl⟩
   rw [hk] at HC HR hfn
   clear hcall hz hk
   have hkl:(k:Int) < l.length:=by omega
   have hk0 : ¬ (k:Int) < 0:=by omega
   rw [if_pos hfn] at HR
   obtain ⟨bg,og,s,rfl,hlg,HX,g0,g1,g2⟩:=HL.out.get hfn
   have HSZ:=hid (show (l.getD k default).size=s.size by rw [HX.out])
   rw [HSZ.out] at HR
   clear HX
   by_cases hs:s.size≤f.val
   ·rw [if_pos hs] at HR
    have ds:decide (s.size≤f.val)=true:=decide_eq_true hs
    go_enter Tryz.func38,Tryz.ntmps38
    go_upto_region 6 with (go_at_call 18;(with_reducible refine (HC.out _ (by first | exact Below.refl _ _ | go_grown)).mono ?_);rintro e W2 ⟨rfl,hb2⟩;have k0:=(hb2.cell (p:=⟨bg,og+k * 3+2,none⟩) hlg).trans g2;have k2:=(hb2.cell (p:=⟨b,o+2,none⟩) hlb).trans f2;have hl2:=Nat.lt_of_lt_of_le hlg hb2.size;have hl3:=Nat.lt_of_lt_of_le hlb hb2.size;have HB2:=hid hb2;clear hb2 g0 g1 g2 f0 f1 f2 f3 f4 hlg hlb)
    go_quiet (fail)
    go_wp2_with fail
    go_ret
    exact ⟨qau HR.out.symm,below_drewN HB2.out _⟩
   ·rw [if_neg hs] at HR
    have ds:decide (s.size≤f.val)=false:=decide_eq_false hs
    go_enter Tryz.func38,Tryz.ntmps38
    go_upto_region 6 with (go_at_call 18;(with_reducible refine (HC.out _ (by first | exact Below.refl _ _ | go_grown)).mono ?_);rintro e W2 ⟨rfl,hb2⟩;have k0:=(hb2.cell (p:=⟨bg,og+k * 3+2,none⟩) hlg).trans g2;have k2:=(hb2.cell (p:=⟨b,o+2,none⟩) hlb).trans f2;have hl2:=Nat.lt_of_lt_of_le hlg hb2.size;have hl3:=Nat.lt_of_lt_of_le hlb hb2.size;have HB2:=hid hb2;clear hb2 g0 g1 g2 f0 f1 f2 f3 f4 hlg hlb)
    go_quiet (fail)
    go_wp2_with fail
    go_ret
    exact ⟨qau HR.out.symm,below_drewN HB2.out _⟩
  ·rw [if_neg hfn] at HR
   have hz:qfw l f.name = -1:=by unfold qfw;rw [if_neg hfn]
   have hcall:=fun W (hb:Below w.heap.size w W)=>sfind_any l f.name A c l.length W rfl (HL.out.any hb)
   rw [hz] at hcall
   have HC:=hid hcall
   clear hcall hz hfn
   go_enter Tryz.func38,Tryz.ntmps38
   go_wp2_with (go_at_call 18;(with_reducible refine (HC.out _ (by first | exact Below.refl _ _ | go_grown)).mono ?_);rintro e W2 ⟨rfl,hb2⟩;have HB2:=hid hb2;clear hb2)
   go_ret
   exact ⟨qau HR.out.symm,HB2.out⟩
 have d3:=qar h3
 by_cases hp:15≤f.op∧f.op≤19
 ·have HR:=hid (nodeErr_isP (l:=l) hp)
  have hcs:f.op=15∨f.op=16∨f.op=17∨f.op=18∨f.op=19:=by omega
  clear h3 hp
  rcases hcs with hop | hcs
  ·have e15:=qb6 (a:=f.op) (b:=15) (by omega)
   clear hop
   go_enter Tryz.func38,Tryz.ntmps38
   go_wp2_with fail
   go_loopw [42] (fun q wr => ∃ i:Nat,i≤f.args.length∧q = .int .i64 (i:Int)∧Hid (Below w.heap.size w wr)∧Hid (∀ j,j < i→allB qff (f.args.getD j default)=true)) (fun q _=>f.args.length - (intOf q).toNat)
   case atStart=>exact ⟨0,Nat.zero_le _,rfl,by first | exact Below.refl _ _ | go_grown,fun j h=>absurd h (Nat.not_lt_zero _)⟩
   case round =>
    obtain ⟨i,hi,rfl,HB,HALL⟩:=hrel
    have y4:=(HB.out.cell (p:=⟨b,o+4,none⟩) hlb).trans f4
    have HAR:=hid (HF.out.args.any HB.out)
    have hly:=Nat.lt_of_lt_of_le hlb HB.out.size
    have hal:=HAR.out.len.1
    by_cases hlt:i < f.args.length
    ·have hii:(i:Int) < f.args.length:=by omega
     obtain ⟨b1,o1,A1,c1,g,rfl,HX,hg1⟩:=HAR.out.get hlt
     have HPA:=hid (qiw g _ wr ⟨A1,c1,rfl,hg1.args⟩ (HG.out.below HB.out HG.out.pos) (by
      have h1:=qec hlt
      rw [HX.out] at h1
      have:=HD.out
      omega))
     obtain ⟨_,hl1,a0,a1,a2,a3,a4,_⟩:=hg1
     have HXX:=hid HX.out
     clear HX
     cases hq:allB qff g
     ·have HRR:=hid (show qbn l f=72 by rw [HR.out,qka hlt (by rw [HXX.out];exact hq)];rfl)
      rw [hq] at HPA
      clear hq
      go_wp2_with (go_at_call 63;(with_reducible refine HPA.out.mono ?_);rintro e W2 ⟨rfl,hb2⟩;have HB2:=hid (HB.out.trans (hb2.mono HB.out.size));clear hb2)
      go_ret
      exact ⟨qau HRR.out.symm,HB2.out⟩
     ·have HQ:=hid hq
      rw [hq] at HPA
      clear hq
      go_wp2_with (go_at_call 63;(with_reducible refine HPA.out.mono ?_);rintro e W2 ⟨rfl,hb2⟩;have HB2:=hid (HB.out.trans (hb2.mono HB.out.size));clear hb2)
      go_roundw
      case rel =>
       refine ⟨i+1,by omega,by go_num,HB2.out,fun j hj => ?_⟩
       by_cases e:j=i
       ·rw [e,HXX.out];exact HQ.out
       ·exact HALL.out j (by omega)
      case measure=>simp [intOf];omega
    ·have hii : ¬ (i:Int) < f.args.length:=by omega
     have HRR:=hid (show qbn l f=0 by rw [HR.out,qh1 fun j hj=>HALL.out j (by omega)];rfl)
     go_wp2_with fail
     go_ret
     exact ⟨qau HRR.out.symm,HB.out⟩
  rcases hcs with hop | hcs
  ·have e15:=qar (a:=f.op) (b:=15) (by omega)
   have e16:=qb6 (a:=f.op) (b:=16) (by omega)
   clear hop
   go_enter Tryz.func38,Tryz.ntmps38
   go_wp2_with fail
   go_loopw [42] (fun q wr => ∃ i:Nat,i≤f.args.length∧q = .int .i64 (i:Int)∧Hid (Below w.heap.size w wr)∧Hid (∀ j,j < i→allB qff (f.args.getD j default)=true)) (fun q _=>f.args.length - (intOf q).toNat)
   case atStart=>exact ⟨0,Nat.zero_le _,rfl,by first | exact Below.refl _ _ | go_grown,fun j h=>absurd h (Nat.not_lt_zero _)⟩
   case round =>
    obtain ⟨i,hi,rfl,HB,HALL⟩:=hrel
    have y4:=(HB.out.cell (p:=⟨b,o+4,none⟩) hlb).trans f4
    have HAR:=hid (HF.out.args.any HB.out)
    have hly:=Nat.lt_of_lt_of_le hlb HB.out.size
    have hal:=HAR.out.len.1
    by_cases hlt:i < f.args.length
    ·have hii:(i:Int) < f.args.length:=by omega
     obtain ⟨b1,o1,A1,c1,g,rfl,HX,hg1⟩:=HAR.out.get hlt
     have HPA:=hid (qiw g _ wr ⟨A1,c1,rfl,hg1.args⟩ (HG.out.below HB.out HG.out.pos) (by
      have h1:=qec hlt
      rw [HX.out] at h1
      have:=HD.out
      omega))
     obtain ⟨_,hl1,a0,a1,a2,a3,a4,_⟩:=hg1
     have HXX:=hid HX.out
     clear HX
     cases hq:allB qff g
     ·have HRR:=hid (show qbn l f=72 by rw [HR.out,qka hlt (by rw [HXX.out];exact hq)];rfl)
      rw [hq] at HPA
      clear hq
      go_wp2_with (go_at_call 63;(with_reducible refine HPA.out.mono ?_);rintro e W2 ⟨rfl,hb2⟩;have HB2:=hid (HB.out.trans (hb2.mono HB.out.size));clear hb2)
      go_ret
      exact ⟨qau HRR.out.symm,HB2.out⟩
     ·have HQ:=hid hq
      rw [hq] at HPA
      clear hq
      go_wp2_with (go_at_call 63;(with_reducible refine HPA.out.mono ?_);rintro e W2 ⟨rfl,hb2⟩;have HB2:=hid (HB.out.trans (hb2.mono HB.out.size));clear hb2)
      go_roundw
      case rel =>
       refine ⟨i+1,by omega,by go_num,HB2.out,fun j hj => ?_⟩
       by_cases e:j=i
       ·rw [e,HXX.out];exact HQ.out
       ·exact HALL.out j (by omega)
      case measure=>simp [intOf];omega
    ·have hii : ¬ (i:Int) < f.args.length:=by omega
     have HRR:=hid (show qbn l f=0 by rw [HR.out,qh1 fun j hj=>HALL.out j (by omega)];rfl)
     go_wp2_with fail
     go_ret
     exact ⟨qau HRR.out.symm,HB.out⟩
  rcases hcs with hop | hcs
  ·have e15:=qar (a:=f.op) (b:=15) (by omega)
   have e16:=qar (a:=f.op) (b:=16) (by omega)
   have e17:=qb6 (a:=f.op) (b:=17) (by omega)
   clear hop
   go_enter Tryz.func38,Tryz.ntmps38
   go_wp2_with fail
   go_loopw [42] (fun q wr => ∃ i:Nat,i≤f.args.length∧q = .int .i64 (i:Int)∧Hid (Below w.heap.size w wr)∧Hid (∀ j,j < i→allB qff (f.args.getD j default)=true)) (fun q _=>f.args.length - (intOf q).toNat)
   case atStart=>exact ⟨0,Nat.zero_le _,rfl,by first | exact Below.refl _ _ | go_grown,fun j h=>absurd h (Nat.not_lt_zero _)⟩
   case round =>
    obtain ⟨i,hi,rfl,HB,HALL⟩:=hrel
    have y4:=(HB.out.cell (p:=⟨b,o+4,none⟩) hlb).trans f4
    have HAR:=hid (HF.out.args.any HB.out)
    have hly:=Nat.lt_of_lt_of_le hlb HB.out.size
    have hal:=HAR.out.len.1
    by_cases hlt:i < f.args.length
    ·have hii:(i:Int) < f.args.length:=by omega
     obtain ⟨b1,o1,A1,c1,g,rfl,HX,hg1⟩:=HAR.out.get hlt
     have HPA:=hid (qiw g _ wr ⟨A1,c1,rfl,hg1.args⟩ (HG.out.below HB.out HG.out.pos) (by
      have h1:=qec hlt
      rw [HX.out] at h1
      have:=HD.out
      omega))
     obtain ⟨_,hl1,a0,a1,a2,a3,a4,_⟩:=hg1
     have HXX:=hid HX.out
     clear HX
     cases hq:allB qff g
     ·have HRR:=hid (show qbn l f=72 by rw [HR.out,qka hlt (by rw [HXX.out];exact hq)];rfl)
      rw [hq] at HPA
      clear hq
      go_wp2_with (go_at_call 63;(with_reducible refine HPA.out.mono ?_);rintro e W2 ⟨rfl,hb2⟩;have HB2:=hid (HB.out.trans (hb2.mono HB.out.size));clear hb2)
      go_ret
      exact ⟨qau HRR.out.symm,HB2.out⟩
     ·have HQ:=hid hq
      rw [hq] at HPA
      clear hq
      go_wp2_with (go_at_call 63;(with_reducible refine HPA.out.mono ?_);rintro e W2 ⟨rfl,hb2⟩;have HB2:=hid (HB.out.trans (hb2.mono HB.out.size));clear hb2)
      go_roundw
      case rel =>
       refine ⟨i+1,by omega,by go_num,HB2.out,fun j hj => ?_⟩
       by_cases e:j=i
       ·rw [e,HXX.out];exact HQ.out
       ·exact HALL.out j (by omega)
      case measure=>simp [intOf];omega
    ·have hii : ¬ (i:Int) < f.args.length:=by omega
     have HRR:=hid (show qbn l f=0 by rw [HR.out,qh1 fun j hj=>HALL.out j (by omega)];rfl)
     go_wp2_with fail
     go_ret
     exact ⟨qau HRR.out.symm,HB.out⟩
  rcases hcs with hop | hop
  ·have e15:=qar (a:=f.op) (b:=15) (by omega)
   have e16:=qar (a:=f.op) (b:=16) (by omega)
   have e17:=qar (a:=f.op) (b:=17) (by omega)
   have e18:=qb6 (a:=f.op) (b:=18) (by omega)
   clear hop
   go_enter Tryz.func38,Tryz.ntmps38
   go_wp2_with fail
   go_loopw [42] (fun q wr => ∃ i:Nat,i≤f.args.length∧q = .int .i64 (i:Int)∧Hid (Below w.heap.size w wr)∧Hid (∀ j,j < i→allB qff (f.args.getD j default)=true)) (fun q _=>f.args.length - (intOf q).toNat)
   case atStart=>exact ⟨0,Nat.zero_le _,rfl,by first | exact Below.refl _ _ | go_grown,fun j h=>absurd h (Nat.not_lt_zero _)⟩
   case round =>
    obtain ⟨i,hi,rfl,HB,HALL⟩:=hrel
    have y4:=(HB.out.cell (p:=⟨b,o+4,none⟩) hlb).trans f4
    have HAR:=hid (HF.out.args.any HB.out)
    have hly:=Nat.lt_of_lt_of_le hlb HB.out.size
    have hal:=HAR.out.len.1
    by_cases hlt:i < f.args.length
    ·have hii:(i:Int) < f.args.length:=by omega
     obtain ⟨b1,o1,A1,c1,g,rfl,HX,hg1⟩:=HAR.out.get hlt
     have HPA:=hid (qiw g _ wr ⟨A1,c1,rfl,hg1.args⟩ (HG.out.below HB.out HG.out.pos) (by
      have h1:=qec hlt
      rw [HX.out] at h1
      have:=HD.out
      omega))
     obtain ⟨_,hl1,a0,a1,a2,a3,a4,_⟩:=hg1
     have HXX:=hid HX.out
     clear HX
     cases hq:allB qff g
     ·have HRR:=hid (show qbn l f=72 by rw [HR.out,qka hlt (by rw [HXX.out];exact hq)];rfl)
      rw [hq] at HPA
      clear hq
      go_wp2_with (go_at_call 63;(with_reducible refine HPA.out.mono ?_);rintro e W2 ⟨rfl,hb2⟩;have HB2:=hid (HB.out.trans (hb2.mono HB.out.size));clear hb2)
      go_ret
      exact ⟨qau HRR.out.symm,HB2.out⟩
     ·have HQ:=hid hq
      rw [hq] at HPA
      clear hq
      go_wp2_with (go_at_call 63;(with_reducible refine HPA.out.mono ?_);rintro e W2 ⟨rfl,hb2⟩;have HB2:=hid (HB.out.trans (hb2.mono HB.out.size));clear hb2)
      go_roundw
      case rel =>
       refine ⟨i+1,by omega,by go_num,HB2.out,fun j hj => ?_⟩
       by_cases e:j=i
       ·rw [e,HXX.out];exact HQ.out
       ·exact HALL.out j (by omega)
      case measure=>simp [intOf];omega
    ·have hii : ¬ (i:Int) < f.args.length:=by omega
     have HRR:=hid (show qbn l f=0 by rw [HR.out,qh1 fun j hj=>HALL.out j (by omega)];rfl)
     go_wp2_with fail
     go_ret
     exact ⟨qau HRR.out.symm,HB.out⟩
  ·have e15:=qar (a:=f.op) (b:=15) (by omega)
   have e16:=qar (a:=f.op) (b:=16) (by omega)
   have e17:=qar (a:=f.op) (b:=17) (by omega)
   have e18:=qar (a:=f.op) (b:=18) (by omega)
   have e19:=qb6 (a:=f.op) (b:=19) (by omega)
   clear hop
   go_enter Tryz.func38,Tryz.ntmps38
   go_wp2_with fail
   go_loopw [42] (fun q wr => ∃ i:Nat,i≤f.args.length∧q = .int .i64 (i:Int)∧Hid (Below w.heap.size w wr)∧Hid (∀ j,j < i→allB qff (f.args.getD j default)=true)) (fun q _=>f.args.length - (intOf q).toNat)
   case atStart=>exact ⟨0,Nat.zero_le _,rfl,by first | exact Below.refl _ _ | go_grown,fun j h=>absurd h (Nat.not_lt_zero _)⟩
   case round =>
    obtain ⟨i,hi,rfl,HB,HALL⟩:=hrel
    have y4:=(HB.out.cell (p:=⟨b,o+4,none⟩) hlb).trans f4
    have HAR:=hid (HF.out.args.any HB.out)
    have hly:=Nat.lt_of_lt_of_le hlb HB.out.size
    have hal:=HAR.out.len.1
    by_cases hlt:i < f.args.length
    ·have hii:(i:Int) < f.args.length:=by omega
     obtain ⟨b1,o1,A1,c1,g,rfl,HX,hg1⟩:=HAR.out.get hlt
     have HPA:=hid (qiw g _ wr ⟨A1,c1,rfl,hg1.args⟩ (HG.out.below HB.out HG.out.pos) (by
      have h1:=qec hlt
      rw [HX.out] at h1
      have:=HD.out
      omega))
     obtain ⟨_,hl1,a0,a1,a2,a3,a4,_⟩:=hg1
     have HXX:=hid HX.out
     clear HX
     cases hq:allB qff g
     ·have HRR:=hid (show qbn l f=72 by rw [HR.out,qka hlt (by rw [HXX.out];exact hq)];rfl)
      rw [hq] at HPA
      clear hq
      go_wp2_with (go_at_call 63;(with_reducible refine HPA.out.mono ?_);rintro e W2 ⟨rfl,hb2⟩;have HB2:=hid (HB.out.trans (hb2.mono HB.out.size));clear hb2)
      go_ret
      exact ⟨qau HRR.out.symm,HB2.out⟩
     ·have HQ:=hid hq
      rw [hq] at HPA
      clear hq
      go_wp2_with (go_at_call 63;(with_reducible refine HPA.out.mono ?_);rintro e W2 ⟨rfl,hb2⟩;have HB2:=hid (HB.out.trans (hb2.mono HB.out.size));clear hb2)
      go_roundw
      case rel =>
       refine ⟨i+1,by omega,by go_num,HB2.out,fun j hj => ?_⟩
       by_cases e:j=i
       ·rw [e,HXX.out];exact HQ.out
       ·exact HALL.out j (by omega)
      case measure=>simp [intOf];omega
    ·have hii : ¬ (i:Int) < f.args.length:=by omega
     have HRR:=hid (show qbn l f=0 by rw [HR.out,qh1 fun j hj=>HALL.out j (by omega)];rfl)
     go_wp2_with fail
     go_ret
     exact ⟨qau HRR.out.symm,HB.out⟩
 ·have HR:=hid (nodeErr_no (l:=l) h3 hp)
  have e15:=qar (a:=f.op) (b:=15) (by omega)
  have e16:=qar (a:=f.op) (b:=16) (by omega)
  have e17:=qar (a:=f.op) (b:=17) (by omega)
  have e18:=qar (a:=f.op) (b:=18) (by omega)
  have e19:=qar (a:=f.op) (b:=19) (by omega)
  clear h3 hp
  go_enter Tryz.func38,Tryz.ntmps38
  go_wp2_with fail
  go_ret
  exact ⟨qau HR.out.symm,by first | exact Below.refl _ _ | go_grown⟩
end Go.Proofs.YtdakdpfofgkjoaaGreatDoor
