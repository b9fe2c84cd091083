/-
  Walk of head of layer 9.
-/
import Derived.Test.YtdpbgcmfeajigaaGreatDoorZ32
set_option linter.unusedSimpArgs false
set_option linter.unusedVariables false
set_option maxHeartbeats 8000000
set_option maxRecDepth 100000
namespace Go.Proofs.YtdpbgcmfeajigaaGreatDoor
open Go.RowKit Go.Shelf
theorem build_sgi (s:ByteArray) (b:Bool) (z:Int) (w:World):(Instr.build 103 #[(0,.string s),(1,.bool b),(2,.int .i64 z)]).run Tryz.prog w = .ok (.agg #[.string s,.bool b,.int .i64 z]) w:=run_build w 103 _ _ (by kernel_rfl)
theorem build_sgo (s:ByteArray) (z:Int) (w:World):(Instr.build 103 #[(0,.string s),(2,.int .i64 z)]).run Tryz.prog w = .ok (.agg #[.string s,.bool false,.int .i64 z]) w:=run_build w 103 _ _ (by kernel_rfl)
theorem build_lasl (A:Option Addr) (n c:Nat) (w:World):(Instr.build 37 #[(1,.slice A n c)]).run Tryz.prog w = .ok (.agg #[.slice none 0 0,.slice A n c]) w:=run_build w 37 _ _ (by kernel_rfl)
attribute [local go_sem] qab run_store_func build_sgi build_sgo build_lasl
theorem RdA.litCl {W:World} {k n:Nat} {gs:List Fm} {sl:List (Option Addr × Nat)} {cs:Array Value} (hk:W.heap[k]? = some (.cells cs 24 (0,0))) (hcs:cs.toList=qav gs sl) (hsl:sl.length=gs.length) (hn:n=gs.length) (hl:n≤1000000)
  (ha : ∀ i,i < gs.length→RdA W (Cl W) (gs.getD i default).args (sl.getD i (none,0)).1 (sl.getD i (none,0)).2):RdA W (Cl W) gs (some ⟨k,0,none⟩) n:=by
 refine (RdA.lit (base:=0) hk hcs hsl (Nat.zero_le _) hn hl fun i hi=>(ha i hi).mono fun x hx _=>⟨Nat.zero_le _,hx⟩).mono fun x hx _=>hx.2
theorem qis {W:World} {k:Nat} {f:Fm} {A:Option Addr} {c:Nat} (hk:W.heap[k]? = some (.cells #[.int .i64 f.op,.string f.name,.int .i64 f.val,.int .i64 f.bound,.slice A f.args.length c] 24 (0,0))) (ha:RdA W (Cl W) f.args A c):RdA W (Cl W) [f] (some ⟨k,0,none⟩) 1 :=
 RdA.litCl (sl := [(A,c)]) hk rfl rfl rfl (by omega) fun i hi=>by
  obtain rfl:i=0:=by simpa using hi
  exact ha
theorem cl_two {W:World} {k:Nat} {f g:Fm} {A B:Option Addr} {c d:Nat} (hk:W.heap[k]? = some (.cells #[.int .i64 f.op,.string f.name,.int .i64 f.val,.int .i64 f.bound,.slice A f.args.length c,.int .i64 g.op,.string g.name,.int .i64 g.val,.int .i64 g.bound,.slice B g.args.length d] 24 (0,0))) (ha:RdA W (Cl W) f.args A c) (hb:RdA W (Cl W) g.args B d):RdA W (Cl W) [f,g] (some ⟨k,0,none⟩) 2 :=
 RdA.litCl (sl := [(A,c),(B,d)]) hk rfl rfl rfl (by omega) fun i hi=>by
  have:i=0∨i=1:=by simp at hi;omega
  rcases this with rfl | rfl
  ·exact ha
  ·exact hb
theorem two_any (w:World):Calls Tryz.prog 33 #[] w fun e w' => ∃ b,e = .returned (.slice (some ⟨b,0,none⟩) 2 2)∧RdG w' qbi (some ⟨b,0,none⟩) 2 eL∧Below w.heap.size w w':=by
 go_enter Tryz.func33,Tryz.ntmps33
 go_wp2_with fail
 go_ret
 refine ⟨w.heap.size,rfl,?_,(Below.refl _ _).alloc (Nat.le_refl _) _⟩
 exact Rd.fresh (D:=qbi) (n:=2) (size:=3) rfl trivial rfl (by omega)
structure HdI (w W:World) (A:Option Addr):Prop where
 b:Below w.heap.size w W
 g:GF W
 k:GK W
 l:RdG W qbi A 2 eL
theorem HdI.nx {w W W':World} {A:Option Addr} (h:HdI w W A) (hb:Below W.heap.size W W'):HdI w W' A:=⟨qaf h.b hb,h.g.below hb h.g.pos,h.k.below hb h.k.pos,h.l.any hb⟩
structure HdF (W:World) (k:Nat) (f:Fm) (A:Option Addr) (c:Nat):Prop where
 o:OB W k f.op f.name f.val f.bound A f.args.length c
 a:RdA W (Cl W) f.args A c
theorem HdF.nx {W W':World} {k:Nat} {f:Fm} {A:Option Addr} {c:Nat} (h:HdF W k f A c) (hb:Below W.heap.size W W'):HdF W' k f A c:=⟨h.o.below hb,h.a.clBelow hb⟩
structure HdA (W:World) (k:Nat) (f:Fm) (A:Option Addr) (c:Nat):Prop where
 o:OB W k f.op f.name f.val f.bound A f.args.length c
 a:RdA W qbi f.args A c
theorem HdA.nx {W W':World} {k:Nat} {f:Fm} {A:Option Addr} {c:Nat} (h:HdA W k f A c) (hb:Below W.heap.size W W'):HdA W' k f A c:=⟨h.o.below hb,h.a.any hb⟩
theorem HdF.any {W:World} {k:Nat} {f:Fm} {A:Option Addr} {c:Nat} (h:HdF W k f A c):HdA W k f A c:=⟨h.o,h.a.mono fun _ _ _=>trivial⟩
theorem HdA.rd {W:World} {k:Nat} {f:Fm} {A:Option Addr} {c:Nat} (h:HdA W k f A c):qbj W qbi (.agg #[.int .i64 f.op,.string f.name,.int .i64 f.val,.int .i64 f.bound,.slice A f.args.length c]) f:=qbj.cells5 h.a
theorem HdA.stored {WE:World} {fb:Nat} {f:Fm} {A:Option Addr} {c:Nat} (ho:OB WE fb 0 ⟨#[]⟩ 0 0 none 0 0) (ha:RdA WE qbi f.args A c) (hn : ∀ g,g∈f.args → ∃ ins,allI nzQ ins g) :
  HdA (((((WE.setCell ⟨fb,0,none⟩ (.int .i64 f.op)).setCell ⟨fb,1,none⟩ (.string f.name)).setCell ⟨fb,2,none⟩ (.int .i64 f.val)).setCell ⟨fb,3,none⟩ (.int .i64 f.bound)).setCell ⟨fb,4,none⟩ (.slice A f.args.length c)) fb f A c :=
 ⟨qaq ho,((ha.avoid ho hn).keep ((qaj _ _ _ _ _ _ _).keeps fun x _ hx hv=>hx.2 hv)).mono fun _ _ _=>trivial⟩
theorem e_nzG : ∀ g,g∈(eF 1 1).args → ∃ ins,allI nzQ ins g:=fun g hg=>⟨false,by
 have h:((eF 1 1).args.all fun g=>(qdg false g).all nzQ)=true:=by decide +kernel
 exact List.all_eq_true.1 h g hg⟩
theorem e_nzF : ∀ g,g∈(eF 0 0).args → ∃ ins,allI nzQ ins g:=fun g hg=>⟨false,by
 have h:((eF 0 0).args.all fun g=>(qdg false g).all nzQ)=true:=by decide +kernel
 exact List.all_eq_true.1 h g hg⟩
section
variable {W:World} {AL:Option Addr} {A:Option Addr} {c:Nat} {gs:List Fm}
theorem nodes_e {k:Nat} {B:Option Addr} {d:Nat} (h:HdA W k (eF 0 0) B d) (hg:GF W) (hk:GK W) :
  Calls Tryz.prog 10 #[.agg #[.int .i64 (eF 0 0).op,.string (eF 0 0).name,.int .i64 (eF 0 0).val,.int .i64 (eF 0 0).bound,.slice B (eF 0 0).args.length d]] W fun e w' => ∃ A c,e = .returned (.slice A 2 c)∧RdA w' (Cl w') [eS 0,eY 0 0] A c∧Below W.heap.size W w':=by
 refine (nodes_top (eF 0 0) _ W h.rd hg hk).mono ?_
 rintro e w' ⟨A,c,rfl,ha,hb⟩
 rw [e_nodes] at ha ⊢
 exact ⟨A,c,rfl,ha.mono fun _ hk _=>hk.2,hb⟩
theorem start_e (h:RdA W (Cl W) [eS 0,eY 0 0] A c) (hg:GF W) (hk:GK W):Calls Tryz.prog 18 #[.slice A 2 c] W fun e w'=>e = .returned (.int .i64 0)∧Below W.heap.size W w':=by
 refine (start_any [eS 0,eY 0 0] A c 2 W rfl h (fun _ h=>h) qj1 hg hk).mono ?_
 rintro e w' ⟨rfl,hb⟩
 rw [e_start]
 exact ⟨rfl,hb⟩
theorem next_e {n:Nat} (mem' x r:Int) (mem z:Nat) (hm:mem'=(mem:Int)) (hr:r=(z:Int)) (hz:nextZ (sgN eL x) gs mem=z) (hL:qf3 gs=true) (hn:n=gs.length) (hmem:mem < 2 ^ n) (h0:0≤x) (h1:x < 4) (h:RdA W (Cl W) gs A c) (hl:RdG W qbi AL 2 eL) (hg:GF W) (hk:GK W) :
  Calls Tryz.prog 22 #[.slice AL 2 2,.slice A n c,.int .i64 mem',.int .i64 x] W fun e w'=>e = .returned (.int .i64 r)∧Below W.heap.size W w':=by
 subst hm hr
 refine (next_top eL AL 2 2 gs A c n mem x W rfl hl hn h hL hg hk hmem h0 (by rw [e_letters];exact h1)).mono ?_
 rintro e w' ⟨rfl,hb⟩
 rw [hz]
 exact ⟨rfl,hb⟩
theorem now_e {n k:Nat} {f:Fm} {B:Option Addr} {d:Nat} (mem' x:Int) (r:Bool) (mem:Nat) (hm:mem'=(mem:Int)) (hr:qej (sgN eL x) (qbl gs mem) f=r) (hL:qf3 gs=true) (hn:n=gs.length) (hmem:mem < 2 ^ n) (h0:0≤x) (h1:x < 4) (hlo:qau f=true) (hp:allB qci f=true) (hin : ∀ g,g∈qaw f→g∈gs) (hF:HdA W k f B d) (h:RdA W (Cl W) gs A c) (hl:RdG W qbi AL 2 eL) (hg:GF W) (hk:GK W) :
  Calls Tryz.prog 20 #[.slice AL 2 2,.slice A n c,.int .i64 mem',.int .i64 x,.agg #[.int .i64 f.op,.string f.name,.int .i64 f.val,.int .i64 f.bound,.slice B f.args.length d]] W fun e w'=>e = .returned (.bool r)∧Below W.heap.size W w':=by
 subst hm
 refine (now_top eL AL 2 2 gs A c n mem x f _ W rfl hl hn h hL hg hk hmem h0 (by rw [e_letters];exact h1) hF.rd hlo hp hin).mono ?_
 rintro e w' ⟨rfl,hb⟩
 rw [hr]
 exact ⟨rfl,hb⟩
theorem put_e {k:Nat} {B:Option Addr} {d:Nat} (mem':Int) (mem:Nat) (g:Fm) (hm:mem'=(mem:Int)) (hz:(if decide (mem < 4) then putZ [eS 0,eY 0 0] mem (eF 0 0) else qbs)=g) (hF:HdA W k (eF 0 0) B d) (h:RdA W (Cl W) [eS 0,eY 0 0] A c) (hg:GF W) (hk:GK W) :
  Calls Tryz.prog 27 #[.slice A 2 c,.int .i64 mem',.agg #[.int .i64 (eF 0 0).op,.string (eF 0 0).name,.int .i64 (eF 0 0).val,.int .i64 (eF 0 0).bound,.slice B (eF 0 0).args.length d]] W fun e w' => ∃ A c,e = .returned (.agg #[.int .i64 g.op,.string g.name,.int .i64 g.val,.int .i64 g.bound,.slice A g.args.length c])∧RdA w' qbi g.args A c∧Below W.heap.size W w':=by
 refine (put_top [eS 0,eY 0 0] A c 2 mem' (eF 0 0) _ W rfl h qj1 hF.rd e_loose (by decide +kernel) hg hk (by decide +kernel) mem hm (decide (mem < 4)) rfl).mono ?_
 rintro e w' ⟨v,rfl,hb,A',c',rfl,ha⟩
 rw [hz] at ha ⊢
 exact ⟨A',c',rfl,ha.mono fun _ _ _=>trivial,hb⟩
end
theorem rsamelist_eq {D E:Dom} (gs:List Fm) (A B:Option Addr) (n m c d:Nat) (w:World) (hn:n=gs.length) (hm:m=gs.length) (h:RdA w D gs A c) (h2:RdA w E gs B d) :
  Calls Tryz.prog 37 #[.slice A n c,.slice B m d] w fun e w'=>e = .returned (.bool true)∧Below w.heap.size w w':=by
 subst hn hm
 have HA:=hid h.old
 have HB:=hid h2.old
 have hgl:=h.len.1
 have d0:((gs.length:Int) != (gs.length:Int))=false:=by simp
 clear h h2
 go_enter Tryz.func37,Tryz.ntmps37
 go_wp2_with fail
 go_loopw [5] (fun r wr => ∃ k:Nat,k≤gs.length∧r = .int .i64 (k:Int)∧Below w.heap.size w wr) (fun r _=>gs.length - (intOf r).toNat)
 case atStart=>exact ⟨0,Nat.zero_le _,rfl,by first | exact Below.refl _ _ | go_grown⟩
 case round =>
  obtain ⟨i,hi,rfl,hb⟩:=hrel
  have HBL:=hid hb
  clear hb
  by_cases hlt:i < gs.length
  ·have hii:(i:Int) < (gs.length:Int):=by omega
   have hi0:(0:Int)≤(i:Int):=by omega
   obtain ⟨b1,o1,A',c',f,rfl,HX,hf⟩:=(HA.out.keep (Keeps.of_below HBL.out fun _ h=>h)).get hlt
   obtain ⟨b2,o2,B',d',g,rfl,HY,hg⟩:=(HB.out.keep (Keeps.of_below HBL.out fun _ h=>h)).get hlt
   obtain rfl:f=g:=HX.out.symm.trans HY.out
   have HF:=hid hf
   have HG:=hid hg
   have HCELL:Hid (∀ W':World,Below wr.heap.size wr W'→W'.cell? ⟨b1,o1+i * 5,none⟩=some (.int .i64 f.op)∧W'.cell? ⟨b1,o1+i * 5+1,none⟩=some (.string f.name)∧W'.cell? ⟨b1,o1+i * 5+2,none⟩=some (.int .i64 f.val)∧W'.cell? ⟨b1,o1+i * 5+3,none⟩=some (.int .i64 f.bound)∧W'.cell? ⟨b1,o1+i * 5+4,none⟩=some (.slice A' f.args.length c')∧W'.cell? ⟨b2,o2+i * 5,none⟩=some (.int .i64 f.op)∧W'.cell? ⟨b2,o2+i * 5+1,none⟩=some (.string f.name)∧W'.cell? ⟨b2,o2+i * 5+2,none⟩=some (.int .i64 f.val)∧W'.cell? ⟨b2,o2+i * 5+3,none⟩=some (.int .i64 f.bound)∧W'.cell? ⟨b2,o2+i * 5+4,none⟩=some (.slice B' f.args.length d')):=hid fun W' hb=>by
    have hq:=HF.out.keep (Keeps.of_below hb fun k (hk:k < w.heap.size)=>Nat.lt_of_lt_of_le hk HBL.out.size)
    have hr:=HG.out.keep (Keeps.of_below hb fun k (hk:k < w.heap.size)=>Nat.lt_of_lt_of_le hk HBL.out.size)
    exact ⟨hq.c0,hq.c1,hq.c2,hq.c3,hq.c4,hr.c0,hr.c1,hr.c2,hr.c3,hr.c4⟩
   have HCALL:Hid (∀ W':World,Below wr.heap.size wr W'→Calls Tryz.prog 39 #[.agg #[.int .i64 f.op,.string f.name,.int .i64 f.val,.int .i64 f.bound,.slice A' f.args.length c'],.agg #[.int .i64 f.op,.string f.name,.int .i64 f.val,.int .i64 f.bound,.slice B' f.args.length d']] W' fun e w'=>e = .returned (.bool true)∧Below wr.heap.size wr w'):=hid fun W' hb=>by
    refine (rsame_any f f _ _ W' (qbj.cells5 (HF.out.keep (Keeps.of_below hb fun k (hk:k < w.heap.size)=>Nat.lt_of_lt_of_le hk HBL.out.size)).args) (qbj.cells5 (HG.out.keep (Keeps.of_below hb fun k (hk:k < w.heap.size)=>Nat.lt_of_lt_of_le hk HBL.out.size)).args)).mono ?_
    rintro e w' ⟨rfl,hb'⟩
    exact ⟨by rw [decide_eq_true (qeu.2 rfl)],qaf hb hb'⟩
   have HI0:=hid (Below.refl wr.heap.size wr)
   have HI1:=hid (show Below wr.heap.size wr wr.drew from (Below.refl wr.heap.size wr).drew)
   have HI2:=hid (show ∀ i,Below wr.heap.size wr (wr.drewN i) from fun i=>below_drewN (Below.refl wr.heap.size wr) i)
   obtain ⟨p0,p1,p2,p3,p4,r0,r1,r2,r3,r4⟩:=HCELL.out wr (Below.refl _ _)
   have hb1:=Nat.lt_of_lt_of_le hf.dom HBL.out.size
   have hb2:=Nat.lt_of_lt_of_le hg.dom HBL.out.size
   have HLT:=hid hlt
   clear hf hg HX HY hlt
   go_upto_region 6 with (fail)
   go_region_held3 (fun W':World=>W'.cell? ⟨b1,o1+i * 5,none⟩=some (.int .i64 f.op)∧W'.cell? ⟨b1,o1+i * 5+1,none⟩=some (.string f.name)∧W'.cell? ⟨b1,o1+i * 5+2,none⟩=some (.int .i64 f.val)∧W'.cell? ⟨b1,o1+i * 5+3,none⟩=some (.int .i64 f.bound)∧W'.cell? ⟨b1,o1+i * 5+4,none⟩=some (.slice A' f.args.length c')∧W'.cell? ⟨b2,o2+i * 5,none⟩=some (.int .i64 f.op)∧W'.cell? ⟨b2,o2+i * 5+1,none⟩=some (.string f.name)∧W'.cell? ⟨b2,o2+i * 5+2,none⟩=some (.int .i64 f.val)∧W'.cell? ⟨b2,o2+i * 5+3,none⟩=some (.int .i64 f.bound)∧W'.cell? ⟨b2,o2+i * 5+4,none⟩=some (.slice B' f.args.length d'))
    (first | (with_reducible exact HCELL.out _ hI) | (go_keep;done))
    ((go_at_call 39;(with_reducible refine (HCALL.out _ (by first | exact HI0.out | exact HI1.out | exact HI2.out _)).mono ?_);rintro e W9 ⟨rfl,hI⟩))
   all_goals
    have HB9:=hid (qaf HBL.out hI)
    clear p0 p1 p2 p3 p4 r0 r1 r2 r3 r4 hI
    go_wp2_with fail
    go_roundw
    case rel=>exact ⟨i+1,by have:=HLT.out;omega,by go_num,HB9.out⟩
    case measure=>have:=HLT.out;simp [intOf];omega
  ·have hii : ¬ (i:Int) < (gs.length:Int):=by omega
   clear hlt
   go_wp2_with fail
   go_ret
   exact ⟨rfl,HBL.out⟩
theorem same_e {k m:Nat} {f:Fm} {A B:Option Addr} {c d:Nat} {W:World} (h:HdA W k f A c) (h2:HdA W m f B d) :
  Calls Tryz.prog 39 #[.agg #[.int .i64 f.op,.string f.name,.int .i64 f.val,.int .i64 f.bound,.slice A f.args.length c],.agg #[.int .i64 f.op,.string f.name,.int .i64 f.val,.int .i64 f.bound,.slice B f.args.length d]] W fun e w'=>e = .returned (.bool true)∧Below W.heap.size W w':=by
 refine (rsame_any f f _ _ W h.rd h2.rd).mono ?_
 rintro e w' ⟨rfl,hb⟩
 exact ⟨by rw [decide_eq_true (qeu.2 rfl)],hb⟩
theorem fit_know {l:List Sg} (f:Fm) (h:fitAll l f=true):KnowF l f:=by
 refine Fm.ind1 (P:=fun f=>fitAll l f=true→KnowF l f) ?_ f h
 clear h f
 intro f ih h
 rw [fitAll_eq,Bool.and_eq_true,fitAlls_iff] at h
 refine .mk ?_ fun g hg=>ih g hg (h.2 g hg)
 intro e
 have h1:=h.1
 unfold fitQ at h1
 rw [if_pos e] at h1
 simp only [Bool.and_eq_true,decide_eq_true_eq] at h1
 exact ⟨h1.1.1,h1.2⟩
theorem e_fit:fitAll eL (eF 0 0)=true:=by decide +kernel
theorem e_row:RowF eL (eF 0 0):=row_of _ (qh3 e_loose) (by decide +kernel) (fit_know _ e_fit)
theorem e_rdl {W:World} {kb:Nat} (h:W.heap[kb]? = some (.cells #[.int .i64 1] 3 (0,0))):RdL W qbi (.agg #[.slice none 0 0,.slice (some ⟨kb,0,none⟩) 1 1]) eW :=
 ⟨none,0,some ⟨kb,0,none⟩,1,rfl,RdI.nil _ _ _ (by omega),RdI.one (D:=qbi) trivial (qaa h (i:=0) rfl)⟩
theorem holds_e {W:World} {AL B:Option Addr} {d k kb:Nat} (hF:HdA W k (eF 0 0) B d) (h:W.heap[kb]? = some (.cells #[.int .i64 1] 3 (0,0))) (hl:RdG W qbi AL 2 eL) (hg:GF W) (hk:GK W) :
  Calls Tryz.prog 21 #[.slice AL 2 2,.agg #[.int .i64 (eF 0 0).op,.string (eF 0 0).name,.int .i64 (eF 0 0).val,.int .i64 (eF 0 0).bound,.slice B (eF 0 0).args.length d],.agg #[.slice none 0 0,.slice (some ⟨kb,0,none⟩) 1 1],.int .i64 0] W fun e w'=>e = .returned (.bool true)∧Below W.heap.size W w':=by
 have h1:=holds_any eL AL 2 2 (eF 0 0) eW _ _ 0 W rfl hl hF.rd (e_rdl h) hg hk e_row e_loose e_valid (by decide +kernel) (by rw [e_letters];exact e_word) (by omega)
 rw [e_holds] at h1
 exact h1
theorem word_e {W:World} {kb:Nat} (h:W.heap[kb]? = some (.cells #[.int .i64 1] 3 (0,0))) :
  Calls Tryz.prog 40 #[.int .i64 4,.agg #[.slice none 0 0,.slice (some ⟨kb,0,none⟩) 1 1]] W fun e w'=>e = .returned (.bool true)∧Below W.heap.size W w':=wvalid_r true e_word (e_rdl h)
theorem head9_any (w:World) (hg:GF w) (hk:GK w) :
  Calls Tryz.prog 8 #[] w fun e w'=>e = .returned (.bool true)∧Below w.heap.size w w':=by
 have HG:=hid hg
 have HK:=hid hk
 clear hg hk
 go_enter Tryz.func8,Tryz.ntmps8
 go_upto_region 2 with (go_at_call 33;(with_reducible refine (two_any _).mono ?_);rintro e W1 ⟨lb,rfl,hl,hb1⟩;have HI:=hid (show HdI w W1 (some ⟨lb,0,none⟩) from ⟨hb1,HG.out.below hb1 HG.out.pos,HK.out.below hb1 HK.out.pos,hl⟩);clear hl hb1)
 go_upto_region 3 with (first
  | (go_at_call 35;(with_reducible refine (qhz ⟨#[97]⟩ 1 _).mono ?_);rintro e U1 ⟨rfl,hb1⟩;have HB1:=hid hb1;clear hb1)
  | (go_at_call 35;(with_reducible refine (qhz ⟨#[98]⟩ 1 _).mono ?_);rintro e U2 ⟨rfl,hb2⟩;have HB2:=hid hb2;clear hb2)
  | (go_at_call 34;(with_reducible refine (qcw 16 0 _ 2 2 _).mono ?_);rintro e U3 ⟨rfl,hb3⟩;have HB3:=hid hb3;have hq:=(hb3.block _ (lt_of_block (at_new U2 _ _ rfl))).trans (at_new U2 _ _ rfl);have HQ:=hid hq;clear hb3 hq))
 refine qai fun W2 hW2 => ?_
 have hb:=(show Below U3.heap.size U3 W2 by rw [hW2];go_grown)
 have HF1:=hid (show ∃ A c,HdF W2 U3.heap.size (eS 0) A c from ⟨some ⟨U2.heap.size,0,none⟩,2,by show W2.heap[_]? = _;rw [hW2];exact at_new _ _ _ rfl,cl_two (f:=eIs sA) (g:=eIs sB) ((hb.block _ (lt_of_block HQ.out)).trans HQ.out) (RdA.nil _ _ _ (by omega)) (RdA.nil _ _ _ (by omega))⟩)
 replace HI:=hid (((HI.out.nx HB1.out).nx HB2.out).nx (((Below.refl U2.heap.size U2).alloc (Nat.le_refl _) _).trans (HB3.out.mono (by simp))) |>.nx hb)
 obtain ⟨sb,hsb⟩ : ∃ x,U3.heap.size=x:=⟨_,rfl⟩
 rw [hsb] at HF1 ⊢
 obtain ⟨A1,c1,hF1⟩:=HF1.out
 have HS:=hid hF1
 clear hW2 hb hsb HF1 hF1 HB1 HB2 HB3 HQ
 obtain ⟨x0,x1,x2,x3,x4,x5⟩:=HS.out.o.cells
 go_upto_region 4 with (go_at_call 34;(with_reducible refine (qcw 15 0 _ 1 1 _).mono ?_);rintro e U3 ⟨rfl,hb3⟩;have HB3:=hid hb3;have hq:=(hb3.block _ (lt_of_block (at_new W2 _ _ rfl))).trans (at_new W2 _ _ rfl);have HQ:=hid hq;clear hb3 hq)
 refine qai fun W3 hW3 => ?_
 have hb:=(show Below U3.heap.size U3 W3 by rw [hW3];go_grown)
 have HBW:=hid (show Below W2.heap.size W2 W3 from qaf (((Below.refl W2.heap.size W2).alloc (Nat.le_refl _) _).trans (HB3.out.mono (by simp))) hb)
 have HF1:=hid (show ∃ A c,HdF W3 U3.heap.size (eY 0 0) A c from ⟨some ⟨W2.heap.size,0,none⟩,1,by show W3.heap[_]? = _;rw [hW3];exact at_new _ _ _ rfl,qis (f:=eS 0) ((hb.block _ (lt_of_block HQ.out)).trans HQ.out) (HS.out.nx HBW.out).a⟩)
 replace HI:=hid (HI.out.nx HBW.out)
 replace HS:=hid (HS.out.nx HBW.out)
 obtain ⟨yb,hyb⟩ : ∃ x,U3.heap.size=x:=⟨_,rfl⟩
 rw [hyb] at HF1 ⊢
 obtain ⟨A2,c2,hF1⟩:=HF1.out
 have HY:=hid hF1
 clear hW3 hb hyb HF1 hF1 HB3 HQ HBW x0 x1 x2 x3 x4 x5
 rename_i K4 hK4
 refine qdr K4 [4,24,25,26] (fun us W' => ∃ (fb:Nat) (A:Option Addr) (c:Nat),us 4 = .pointer (some ⟨fb,0,none⟩)∧HdA W' fb (eF 0 0) A c∧Below W3.heap.size W3 W') ?_ ?_
 rotate_left
 ·clear hK4
  intro hTL
  have HTL:=hid hTL
  clear hTL
  obtain ⟨x0,x1,x2,x3,x4,x5⟩:=HY.out.o.cells
  refine qb5 (fun W':World=>W'.cell? ⟨yb,0,none⟩=some (.int .i64 (eY 0 0).op)∧W'.cell? ⟨yb,1,none⟩=some (.string (eY 0 0).name)∧W'.cell? ⟨yb,2,none⟩=some (.int .i64 (eY 0 0).val)∧W'.cell? ⟨yb,3,none⟩=some (.int .i64 (eY 0 0).bound)∧W'.cell? ⟨yb,4,none⟩=some (.slice A2 (eY 0 0).args.length c2)) (by kernel_rfl) (by kernel_rfl) (by kernel_rfl) ⟨x0,x1,x2,x3,x4⟩ (fun hHeld => ?_)
  simp only [List.dropLast_cons_cons,List.dropLast_singleton,List.getLast_cons_cons,List.getLast_singleton]
  clear x0 x1 x2 x3 x4 x5
  refine wpAnyH_take (i:=1) (v := ?_) rfl (by kernel_rfl) (by kernel_rfl) (by kernel_rfl) (fun _ _ _ h=>h) (Or.inl ⟨by rfl,?_⟩) (by assumption) ?_
  rotate_left
  ·intro w hSw;(try dsimp only at hSw);go_simp;(try (with_reducible rfl))
  try simp only [Act.put,List.setIfInBounds_toArray,List.set_cons_zero,List.set_cons_succ]
  refine wpAnyH_ready (rs := [0,3]) (by kernel_rfl) (by simp) (AllReadyH.cons rfl (fun K hK => ?_) (AllReadyH.cons rfl (fun K hK => ?_) AllReadyH.nil))
  ·go_simp
   (go_at_call 35;(with_reducible refine (qhz ⟨#[97]⟩ 1 _).mono ?_);rintro e V1 ⟨rfl,hb1⟩;have HV1:=hid (((Below.refl W3.heap.size W3).drew).trans (hb1.mono ((Below.refl W3.heap.size W3).drew).size));have HV1':=hid hb1;clear hb1)
   go_wp2_with fail
   refine hK.out _ _ ?_ (fun hHeld => ?_)
   ·exact ⟨(HY.out.nx (HV1.out)).o.cells.1,(HY.out.nx (HV1.out)).o.cells.2.1,(HY.out.nx (HV1.out)).o.cells.2.2.1,(HY.out.nx (HV1.out)).o.cells.2.2.2.1,(HY.out.nx (HV1.out)).o.cells.2.2.2.2.1⟩
   clear hK K
   try simp only [Act.put,List.setIfInBounds_toArray,List.set_cons_zero,List.set_cons_succ]
   refine wpAnyH_ready (rs := [2,3]) (by kernel_rfl) (by simp) (AllReadyH.cons rfl (fun K hK => ?_) (AllReadyH.cons rfl (fun K hK => ?_) AllReadyH.nil))
   ·go_simp
    (go_at_call 36;(with_reducible refine (qep 6 (eIs sA) (eY 0 0) _ _ _ ?_ ?_).mono ?_);exact ⟨none,0,rfl,RdA.nil _ _ _ (by omega)⟩;exact (HY.out.any.nx (HV1.out)).rd;rintro e V2 ⟨v,rfl,⟨A3,c3,rfl,ha3⟩,hb1⟩;have HA3:=hid ha3;have HV2:=hid ((HV1.out).trans (hb1.mono (HV1.out).size));have HV2':=hid hb1;clear hb1 ha3)
    go_wp2_with fail
    refine hK.out _ _ ?_ (fun hHeld => ?_)
    ·exact ⟨(HY.out.nx (HV2.out)).o.cells.1,(HY.out.nx (HV2.out)).o.cells.2.1,(HY.out.nx (HV2.out)).o.cells.2.2.1,(HY.out.nx (HV2.out)).o.cells.2.2.2.1,(HY.out.nx (HV2.out)).o.cells.2.2.2.2.1⟩
    clear hK K
    try simp only [Act.put,List.setIfInBounds_toArray,List.set_cons_zero,List.set_cons_succ]
    refine wpAnyH_ready (rs := [3]) (by kernel_rfl) (by simp) (AllReadyH.cons rfl (fun K hK => ?_) AllReadyH.nil)
    go_simp
    refine hK.out _ _ ?_ (fun hHeld => ?_)
    ·exact ⟨(HY.out.nx ((HV2.out).alloc (HV2.out).size _)).o.cells.1,(HY.out.nx ((HV2.out).alloc (HV2.out).size _)).o.cells.2.1,(HY.out.nx ((HV2.out).alloc (HV2.out).size _)).o.cells.2.2.1,(HY.out.nx ((HV2.out).alloc (HV2.out).size _)).o.cells.2.2.2.1,(HY.out.nx ((HV2.out).alloc (HV2.out).size _)).o.cells.2.2.2.2.1⟩
    clear hK K
    try simp only [Act.put,List.setIfInBounds_toArray,List.set_cons_zero,List.set_cons_succ]
    refine qa6 (fun VA hwA hHeld => ?_) hHeld
    have HOZ:=hid (show OB VA V2.heap.size 0 ⟨#[]⟩ 0 0 none 0 0 by show VA.heap[_]? = _;rw [hwA];exact at_new _ _ _ rfl)
    have HVA:=hid (show Below W3.heap.size W3 VA by rw [hwA];exact (HV2.out).alloc (HV2.out).size _)
    have HVA':=hid (show Below V2.heap.size V2 VA by rw [hwA];first | exact (Below.refl _ _).alloc (Nat.le_refl _) _ | exact (Below.refl _ _).drew.alloc (Nat.le_refl _) _)
    obtain ⟨fb,hfb⟩ : ∃ x,V2.heap.size=x:=⟨_,rfl⟩
    have HFB:=hid (show W3.heap.size≤fb by rw [←hfb];exact (HV2.out).size)
    rw [hfb] at HOZ ⊢
    clear hwA hfb
    have HOX:=hid (show OB VA fb 0 ⟨#[]⟩ 0 0 none 0 0 from HOZ.out)
    have HBX:=hid HVA.out
    have HAX:=hid (show RdA VA qbi (eF 0 0).args A3 c3 from HA3.out.any HVA'.out)
    obtain ⟨z0,z1,z2,z3,z4,z5⟩:=HOX.out.cells
    have y0:=HOX.out.free 0
    have y1:=HOX.out.free 1
    have y2:=HOX.out.free 2
    have y3:=HOX.out.free 3
    have y4:=HOX.out.free 4
    refine wpAnyH_done (by kernel_rfl) ?_ _
    unfold qeo
    go_simp
    go_wp2_with fail
    refine qak HTL.out ?_ ?_
    ·exact ⟨fb,A3,c3,rfl,HdA.stored (f:=eF 0 0) HOX.out HAX.out e_nzF,HBX.out.trans ((qaj _ _ _ _ _ _ _).below (fun x hx h=>by have h':x=fb:=h;have:=HFB.out;omega) HBX.out.size)⟩
    ·kernel_rfl
   ·go_simp
    refine hK.out _ _ ?_ (fun hHeld => ?_)
    ·exact ⟨(HY.out.nx ((HV1.out).alloc (HV1.out).size _)).o.cells.1,(HY.out.nx ((HV1.out).alloc (HV1.out).size _)).o.cells.2.1,(HY.out.nx ((HV1.out).alloc (HV1.out).size _)).o.cells.2.2.1,(HY.out.nx ((HV1.out).alloc (HV1.out).size _)).o.cells.2.2.2.1,(HY.out.nx ((HV1.out).alloc (HV1.out).size _)).o.cells.2.2.2.2.1⟩
    clear hK K
    try simp only [Act.put,List.setIfInBounds_toArray,List.set_cons_zero,List.set_cons_succ]
    refine qa6 (fun VA hwA hHeld => ?_) hHeld
    have HOZ:=hid (show OB VA V1.heap.size 0 ⟨#[]⟩ 0 0 none 0 0 by show VA.heap[_]? = _;rw [hwA];exact at_new _ _ _ rfl)
    have HVA:=hid (show Below W3.heap.size W3 VA by rw [hwA];exact (HV1.out).alloc (HV1.out).size _)
    have HVA':=hid (show Below V1.heap.size V1 VA by rw [hwA];first | exact (Below.refl _ _).alloc (Nat.le_refl _) _ | exact (Below.refl _ _).drew.alloc (Nat.le_refl _) _)
    obtain ⟨fb,hfb⟩ : ∃ x,V1.heap.size=x:=⟨_,rfl⟩
    have HFB:=hid (show W3.heap.size≤fb by rw [←hfb];exact (HV1.out).size)
    rw [hfb] at HOZ ⊢
    clear hwA hfb
    refine wpAnyH_ready (rs := [2]) (by kernel_rfl) (by simp) (AllReadyH.cons rfl (fun K hK => ?_) AllReadyH.nil)
    go_simp
    (go_at_call 36;(with_reducible refine (qep 6 (eIs sA) (eY 0 0) _ _ _ ?_ ?_).mono ?_);exact ⟨none,0,rfl,RdA.nil _ _ _ (by omega)⟩;exact (HY.out.any.nx (HVA.out)).rd;rintro e V2 ⟨v,rfl,⟨A3,c3,rfl,ha3⟩,hb1⟩;have HA3:=hid ha3;have HV2:=hid ((HVA.out).trans (hb1.mono (HVA.out).size));have HV2':=hid hb1;clear hb1 ha3)
    go_wp2_with fail
    refine hK.out _ _ ?_ (fun hHeld => ?_)
    ·exact ⟨(HY.out.nx (HV2.out)).o.cells.1,(HY.out.nx (HV2.out)).o.cells.2.1,(HY.out.nx (HV2.out)).o.cells.2.2.1,(HY.out.nx (HV2.out)).o.cells.2.2.2.1,(HY.out.nx (HV2.out)).o.cells.2.2.2.2.1⟩
    clear hK K
    try simp only [Act.put,List.setIfInBounds_toArray,List.set_cons_zero,List.set_cons_succ]
    have HOX:=hid (show OB V2 fb 0 ⟨#[]⟩ 0 0 none 0 0 from HOZ.out.below HV2'.out)
    have HBX:=hid HV2.out
    have HAX:=hid (show RdA V2 qbi (eF 0 0).args A3 c3 from HA3.out)
    obtain ⟨z0,z1,z2,z3,z4,z5⟩:=HOX.out.cells
    have y0:=HOX.out.free 0
    have y1:=HOX.out.free 1
    have y2:=HOX.out.free 2
    have y3:=HOX.out.free 3
    have y4:=HOX.out.free 4
    refine wpAnyH_done (by kernel_rfl) ?_ _
    unfold qeo
    go_simp
    go_wp2_with fail
    refine qak HTL.out ?_ ?_
    ·exact ⟨fb,A3,c3,rfl,HdA.stored (f:=eF 0 0) HOX.out HAX.out e_nzF,HBX.out.trans ((qaj _ _ _ _ _ _ _).below (fun x hx h=>by have h':x=fb:=h;have:=HFB.out;omega) HBX.out.size)⟩
    ·kernel_rfl
  ·go_simp
   refine hK.out _ _ ?_ (fun hHeld => ?_)
   ·exact ⟨(HY.out.nx (((Below.refl W3.heap.size W3).drew).alloc ((Below.refl W3.heap.size W3).drew).size _)).o.cells.1,(HY.out.nx (((Below.refl W3.heap.size W3).drew).alloc ((Below.refl W3.heap.size W3).drew).size _)).o.cells.2.1,(HY.out.nx (((Below.refl W3.heap.size W3).drew).alloc ((Below.refl W3.heap.size W3).drew).size _)).o.cells.2.2.1,(HY.out.nx (((Below.refl W3.heap.size W3).drew).alloc ((Below.refl W3.heap.size W3).drew).size _)).o.cells.2.2.2.1,(HY.out.nx (((Below.refl W3.heap.size W3).drew).alloc ((Below.refl W3.heap.size W3).drew).size _)).o.cells.2.2.2.2.1⟩
   clear hK K
   try simp only [Act.put,List.setIfInBounds_toArray,List.set_cons_zero,List.set_cons_succ]
   refine qa6 (fun VA hwA hHeld => ?_) hHeld
   have HOZ:=hid (show OB VA W3.heap.size 0 ⟨#[]⟩ 0 0 none 0 0 by show VA.heap[_]? = _;rw [hwA];exact at_new _ _ _ rfl)
   have HVA:=hid (show Below W3.heap.size W3 VA by rw [hwA];exact ((Below.refl W3.heap.size W3).drew).alloc ((Below.refl W3.heap.size W3).drew).size _)
   have HVA':=hid (show Below W3.heap.size W3 VA by rw [hwA];first | exact (Below.refl _ _).alloc (Nat.le_refl _) _ | exact (Below.refl _ _).drew.alloc (Nat.le_refl _) _)
   obtain ⟨fb,hfb⟩ : ∃ x,W3.heap.size=x:=⟨_,rfl⟩
   have HFB:=hid (show W3.heap.size≤fb by rw [←hfb];exact ((Below.refl W3.heap.size W3).drew).size)
   rw [hfb] at HOZ ⊢
   clear hwA hfb
   refine wpAnyH_ready (rs := [0]) (by kernel_rfl) (by simp) (AllReadyH.cons rfl (fun K hK => ?_) AllReadyH.nil)
   go_simp
   (go_at_call 35;(with_reducible refine (qhz ⟨#[97]⟩ 1 _).mono ?_);rintro e V1 ⟨rfl,hb1⟩;have HV1:=hid ((HVA.out).trans (hb1.mono (HVA.out).size));have HV1':=hid hb1;clear hb1)
   go_wp2_with fail
   refine hK.out _ _ ?_ (fun hHeld => ?_)
   ·exact ⟨(HY.out.nx (HV1.out)).o.cells.1,(HY.out.nx (HV1.out)).o.cells.2.1,(HY.out.nx (HV1.out)).o.cells.2.2.1,(HY.out.nx (HV1.out)).o.cells.2.2.2.1,(HY.out.nx (HV1.out)).o.cells.2.2.2.2.1⟩
   clear hK K
   try simp only [Act.put,List.setIfInBounds_toArray,List.set_cons_zero,List.set_cons_succ]
   refine wpAnyH_ready (rs := [2]) (by kernel_rfl) (by simp) (AllReadyH.cons rfl (fun K hK => ?_) AllReadyH.nil)
   go_simp
   (go_at_call 36;(with_reducible refine (qep 6 (eIs sA) (eY 0 0) _ _ _ ?_ ?_).mono ?_);exact ⟨none,0,rfl,RdA.nil _ _ _ (by omega)⟩;exact (HY.out.any.nx (HV1.out)).rd;rintro e V2 ⟨v,rfl,⟨A3,c3,rfl,ha3⟩,hb1⟩;have HA3:=hid ha3;have HV2:=hid ((HV1.out).trans (hb1.mono (HV1.out).size));have HV2':=hid hb1;clear hb1 ha3)
   go_wp2_with fail
   refine hK.out _ _ ?_ (fun hHeld => ?_)
   ·exact ⟨(HY.out.nx (HV2.out)).o.cells.1,(HY.out.nx (HV2.out)).o.cells.2.1,(HY.out.nx (HV2.out)).o.cells.2.2.1,(HY.out.nx (HV2.out)).o.cells.2.2.2.1,(HY.out.nx (HV2.out)).o.cells.2.2.2.2.1⟩
   clear hK K
   try simp only [Act.put,List.setIfInBounds_toArray,List.set_cons_zero,List.set_cons_succ]
   have HOX:=hid (show OB V2 fb 0 ⟨#[]⟩ 0 0 none 0 0 from (HOZ.out.below HV1'.out).below HV2'.out)
   have HBX:=hid HV2.out
   have HAX:=hid (show RdA V2 qbi (eF 0 0).args A3 c3 from HA3.out)
   obtain ⟨z0,z1,z2,z3,z4,z5⟩:=HOX.out.cells
   have y0:=HOX.out.free 0
   have y1:=HOX.out.free 1
   have y2:=HOX.out.free 2
   have y3:=HOX.out.free 3
   have y4:=HOX.out.free 4
   refine wpAnyH_done (by kernel_rfl) ?_ _
   unfold qeo
   go_simp
   go_wp2_with fail
   refine qak HTL.out ?_ ?_
   ·exact ⟨fb,A3,c3,rfl,HdA.stored (f:=eF 0 0) HOX.out HAX.out e_nzF,HBX.out.trans ((qaj _ _ _ _ _ _ _).below (fun x hx h=>by have h':x=fb:=h;have:=HFB.out;omega) HBX.out.size)⟩
   ·kernel_rfl
 ·rintro us W4 ⟨fb,A3,c3,hus,hF,hb⟩
  apply hK4
  simp only [qdu,Act.put,List.setIfInBounds_toArray,List.set_cons_zero,List.set_cons_succ]
  rw [hus]
  clear hK4 K4 hus
  replace HI:=hid (HI.out.nx hb)
  replace HS:=hid (HS.out.nx hb)
  replace HY:=hid (HY.out.nx hb)
  have HFM:=hid hF
  clear hF hb
  obtain ⟨x0,x1,x2,x3,x4,x5⟩:=HFM.out.o.cells
  go_upto_region 6 with (go_at_call 10;(with_reducible refine (nodes_e HFM.out HI.out.g HI.out.k).mono ?_);rintro e W5 ⟨A5,c5,rfl,ha,hb⟩;have HN:=hid ha;replace HI:=hid (HI.out.nx hb);replace HS:=hid (HS.out.nx hb);replace HY:=hid (HY.out.nx hb);replace HFM:=hid (HFM.out.nx hb);clear ha hb x0 x1 x2 x3 x4 x5)
  clear W4
  obtain ⟨x0,x1,x2,x3,x4,x5⟩:=HS.out.o.cells
  obtain ⟨y0,y1,y2,y3,y4,y5⟩:=HY.out.o.cells
  go_upto_region 8 with (go_at_call 37;(with_reducible refine (rsamelist_eq (D:=qbi) (E:=qbi) [eS 0,eY 0 0] _ _ 2 2 _ _ _ ?_ ?_ ?_ ?_).mono ?_);rfl;rfl;exact HN.out.any ((Below.refl _ _).alloc (Nat.le_refl _) _);exact (cl_two (f:=eS 0) (g:=eY 0 0) (at_new _ _ _ rfl) (HS.out.nx ((Below.refl _ _).alloc (Nat.le_refl _) _)).a (HY.out.nx ((Below.refl _ _).alloc (Nat.le_refl _) _)).a).mono fun _ _ _=>trivial;rintro e W6 ⟨rfl,hb1⟩;have hb:=qaf ((Below.refl W5.heap.size W5).alloc (Nat.le_refl _) _) hb1;replace HI:=hid (HI.out.nx hb);replace HS:=hid (HS.out.nx hb);replace HY:=hid (HY.out.nx hb);replace HFM:=hid (HFM.out.nx hb);replace HN:=hid (HN.out.clBelow hb);clear hb hb1 x0 x1 x2 x3 x4 x5 y0 y1 y2 y3 y4 y5)
  go_upto_region 9 with (go_at_call 38;(with_reducible refine (make_any (D:=qbi) (E:=qbi) eL [0,1] _ 2 2 _ 2 2 _ ?_ ?_ ?_ ?_ ?_ ?_ ?_).mono ?_);rfl;exact HI.out.l.any ((Below.refl _ _).alloc (Nat.le_refl _) _);rfl;exact Rd.fresh (D:=qbi) (n:=2) (size:=1) rfl trivial rfl (by omega);exact HI.out.k.below ((Below.refl _ _).alloc (Nat.le_refl _) _) HI.out.k.pos;exact e_valid;exact e_make1.2;rw [e_make1.1];rintro e W7 ⟨rfl,hb1⟩;have hb:=qaf ((Below.refl W6.heap.size W6).alloc (Nat.le_refl _) _) hb1;replace HI:=hid (HI.out.nx hb);replace HS:=hid (HS.out.nx hb);replace HY:=hid (HY.out.nx hb);replace HFM:=hid (HFM.out.nx hb);replace HN:=hid (HN.out.clBelow hb);clear hb hb1)
  go_upto_region 10 with (go_at_call 38;(with_reducible refine (make_any (D:=qbi) (E:=qbi) eL [1,0] _ 2 2 _ 2 2 _ ?_ ?_ ?_ ?_ ?_ ?_ ?_).mono ?_);rfl;exact HI.out.l.any ((Below.refl _ _).alloc (Nat.le_refl _) _);rfl;exact Rd.fresh (D:=qbi) (n:=2) (size:=1) rfl trivial rfl (by omega);exact HI.out.k.below ((Below.refl _ _).alloc (Nat.le_refl _) _) HI.out.k.pos;exact e_valid;exact e_make2.2;rw [e_make2.1];rintro e W8 ⟨rfl,hb1⟩;have hb:=qaf ((Below.refl W7.heap.size W7).alloc (Nat.le_refl _) _) hb1;replace HI:=hid (HI.out.nx hb);replace HS:=hid (HS.out.nx hb);replace HY:=hid (HY.out.nx hb);replace HFM:=hid (HFM.out.nx hb);replace HN:=hid (HN.out.clBelow hb);clear hb hb1)
  go_upto_region 11 with (first
   | (go_at_call 18;(with_reducible refine (start_e HN.out HI.out.g HI.out.k).mono ?_);rintro e W9 ⟨rfl,hb⟩;replace HI:=hid (HI.out.nx hb);replace HS:=hid (HS.out.nx hb);replace HY:=hid (HY.out.nx hb);replace HFM:=hid (HFM.out.nx hb);replace HN:=hid (HN.out.clBelow hb);clear hb)
   | (go_at_call 22;(with_reducible refine (next_e (gs := [eS 0,eY 0 0]) (n:=2) 0 2 3 0 3 ?_ ?_ e_next1 qj1 ?_ ?_ ?_ ?_ ?_ ?_ ?_ ?_).mono ?_);rfl;rfl;rfl;decide;decide;decide;exact HN.out;exact HI.out.l;exact HI.out.g;exact HI.out.k;rintro e W10 ⟨rfl,hb⟩;replace HI:=hid (HI.out.nx hb);replace HS:=hid (HS.out.nx hb);replace HY:=hid (HY.out.nx hb);replace HFM:=hid (HFM.out.nx hb);replace HN:=hid (HN.out.clBelow hb);clear hb))
  go_upto_region 12 with (go_at_call 22;(with_reducible refine (next_e (gs := [eS 0,eY 0 0]) (n:=2) 3 1 3 3 3 ?_ ?_ e_next2 qj1 ?_ ?_ ?_ ?_ ?_ ?_ ?_ ?_).mono ?_);rfl;rfl;rfl;decide;decide;decide;exact HN.out;exact HI.out.l;exact HI.out.g;exact HI.out.k;rintro e W11 ⟨rfl,hb⟩;replace HI:=hid (HI.out.nx hb);replace HS:=hid (HS.out.nx hb);replace HY:=hid (HY.out.nx hb);replace HFM:=hid (HFM.out.nx hb);replace HN:=hid (HN.out.clBelow hb);clear hb)
  go_upto_region 13 with (go_at_call 22;(with_reducible refine (next_e (gs := [eS 0,eY 0 0]) (n:=2) 3 0 0 3 0 ?_ ?_ e_next3 qj1 ?_ ?_ ?_ ?_ ?_ ?_ ?_ ?_).mono ?_);rfl;rfl;rfl;decide;decide;decide;exact HN.out;exact HI.out.l;exact HI.out.g;exact HI.out.k;rintro e W12 ⟨rfl,hb⟩;replace HI:=hid (HI.out.nx hb);replace HS:=hid (HS.out.nx hb);replace HY:=hid (HY.out.nx hb);replace HFM:=hid (HFM.out.nx hb);replace HN:=hid (HN.out.clBelow hb);clear hb)
  go_upto_region 14 with (first
   | (go_at_call 35;(with_reducible refine (qhz ⟨#[97]⟩ 1 _).mono ?_);rintro e U1 ⟨rfl,hb⟩;replace HI:=hid (HI.out.nx hb);replace HS:=hid (HS.out.nx hb);replace HY:=hid (HY.out.nx hb);replace HFM:=hid (HFM.out.nx hb);replace HN:=hid (HN.out.clBelow hb);clear hb)
   | (go_at_call 34;(with_reducible refine (qcw 15 1 _ 1 1 _).mono ?_);rintro e U2 ⟨rfl,hb1⟩;have hq:=(hb1.block _ (lt_of_block (at_new U1 _ _ rfl))).trans (at_new U1 _ _ rfl);have HQ:=hid hq;have hb:=qaf ((Below.refl U1.heap.size U1).alloc (Nat.le_refl _) _) hb1;replace HI:=hid (HI.out.nx hb);replace HS:=hid (HS.out.nx hb);replace HY:=hid (HY.out.nx hb);replace HFM:=hid (HFM.out.nx hb);replace HN:=hid (HN.out.clBelow hb);clear hb hb1 hq)
   | (go_at_call 22;(with_reducible refine (next_e (gs := [eT]) (n:=1) 1 0 0 1 0 ?_ ?_ e_next4 e_listT ?_ ?_ ?_ ?_ ?_ ?_ ?_ ?_).mono ?_);rfl;rfl;rfl;decide;decide;decide;exact qis (f:=eT) (at_new _ _ _ rfl) (qis (f:=eIs sA) (((Below.refl U2.heap.size U2).alloc (Nat.le_refl _) _).block _ (lt_of_block HQ.out) |>.trans HQ.out) (RdA.nil _ _ _ (by omega)));exact HI.out.l.any ((Below.refl _ _).alloc (Nat.le_refl _) _);exact HI.out.g.below ((Below.refl _ _).alloc (Nat.le_refl _) _) HI.out.g.pos;exact HI.out.k.below ((Below.refl _ _).alloc (Nat.le_refl _) _) HI.out.k.pos;rintro e W13 ⟨rfl,hb1⟩;have hb:=qaf ((Below.refl U2.heap.size U2).alloc (Nat.le_refl _) _) hb1;replace HI:=hid (HI.out.nx hb);replace HS:=hid (HS.out.nx hb);replace HY:=hid (HY.out.nx hb);replace HFM:=hid (HFM.out.nx hb);replace HN:=hid (HN.out.clBelow hb);clear hb hb1 HQ))
  obtain ⟨x0,x1,x2,x3,x4,x5⟩:=HFM.out.o.cells
  go_upto_region 15 with (go_at_call 27;(with_reducible refine (put_e 3 3 (eF 1 1) ?_ ?_ HFM.out HN.out HI.out.g HI.out.k).mono ?_);rfl;exact e_put;rintro e U3 ⟨A6,c6,rfl,ha,hb⟩;have HA6:=hid ha;replace HI:=hid (HI.out.nx hb);replace HS:=hid (HS.out.nx hb);replace HY:=hid (HY.out.nx hb);replace HFM:=hid (HFM.out.nx hb);replace HN:=hid (HN.out.clBelow hb);clear hb ha x0 x1 x2 x3 x4 x5)
  refine qai fun W14 hW14 => ?_
  have hb:=(show Below U3.heap.size U3 W14 by rw [hW14];go_grown)
  obtain ⟨pb,hpb⟩ : ∃ x,U3.heap.size=x:=⟨_,rfl⟩
  have HPU:=hid (show HdA W14 pb (eF 1 1) A6 c6 from ⟨by show W14.heap[_]? = _;rw [hW14,←hpb];exact at_new _ _ _ rfl,HA6.out.any hb⟩)
  rw [hpb]
  replace HI:=hid (HI.out.nx hb);replace HS:=hid (HS.out.nx hb);replace HY:=hid (HY.out.nx hb);replace HFM:=hid (HFM.out.nx hb);replace HN:=hid (HN.out.clBelow hb)
  clear hW14 hb hpb HA6
  rename_i K15 hK15
  refine qdr K15 (15 :: List.range' 76 7) (fun us W' => ∃ (wb:Nat) (A:Option Addr) (c:Nat),us 15 = .pointer (some ⟨wb,0,none⟩)∧HdA W' wb (eF 1 1) A c∧Below W14.heap.size W14 W') ?_ ?_
  rotate_left
  ·clear hK15
   intro hTL
   have HTL:=hid hTL
   clear hTL
   have s4:=HS.out.o.cells.2.2.2.2.1
   have s5:=HS.out.o.cells.2.2.2.2.2
   have HV:=hid (Below.refl W14.heap.size W14)
   refine qb5 (fun W':World=>W'.cell? ⟨sb,4,none⟩=some (.slice A1 (eS 0).args.length c1)) (by kernel_rfl) (by kernel_rfl) (by kernel_rfl) s4 (fun hHeld => ?_)
   simp only [List.dropLast_cons_cons,List.dropLast_singleton,List.getLast_cons_cons,List.getLast_singleton]
   clear s4
   refine wpAnyH_take (i:=1) (v := ?_) rfl (by kernel_rfl) (by kernel_rfl) (by kernel_rfl) (fun _ _ _ h=>h) (Or.inl ⟨by rfl,?_⟩) (by assumption) ?_
   rotate_left
   ·intro w hSw;(try dsimp only at hSw);go_simp;(try (with_reducible rfl))
   try simp only [Act.put,List.setIfInBounds_toArray,List.set_cons_zero,List.set_cons_succ]
   refine wpAnyH_take (i:=2) (v := ?_) rfl (by kernel_rfl) (by kernel_rfl) (by kernel_rfl) (fun _ _ _ h=>h) (Or.inl ⟨by rfl,?_⟩) (by assumption) ?_
   rotate_left
   ·intro w hSw;(try dsimp only at hSw);go_simp;(try (with_reducible rfl))
   try simp only [Act.put,List.setIfInBounds_toArray,List.set_cons_zero,List.set_cons_succ]
   refine qa6 (fun V0 hwA hHeld => ?_) hHeld
   have hb:Below W14.heap.size W14 V0:=by rw [hwA];exact (Below.refl _ _).drew
   clear hwA
   replace HI:=hid (HI.out.nx hb);replace HS:=hid (HS.out.nx hb);replace HY:=hid (HY.out.nx hb);replace HFM:=hid (HFM.out.nx hb);replace HN:=hid (HN.out.clBelow hb);replace HPU:=hid (HPU.out.nx hb);replace HV:=hid (qaf HV.out hb)
   clear hb
   refine wpAnyH_ready (rs := [0,7]) (by kernel_rfl) (by simp) (AllReadyH.cons rfl (fun K hK => ?_) (AllReadyH.cons rfl (fun K hK => ?_) AllReadyH.nil))
   ·go_simp
    (go_at_call 35;(with_reducible refine (qhz ⟨#[97]⟩ 1 _).mono ?_);rintro e Y1 ⟨rfl,hb⟩;replace HI:=hid (HI.out.nx hb);replace HS:=hid (HS.out.nx hb);replace HY:=hid (HY.out.nx hb);replace HFM:=hid (HFM.out.nx hb);replace HN:=hid (HN.out.clBelow hb);replace HPU:=hid (HPU.out.nx hb);replace HV:=hid (qaf HV.out hb);clear hb)
    go_wp2_with fail
    refine hK.out _ _ ?_ (fun hHeld => ?_)
    ·exact HS.out.o.cells.2.2.2.2.1
    clear hK K
    try simp only [Act.put,List.setIfInBounds_toArray,List.set_cons_zero,List.set_cons_succ]
    refine wpAnyH_ready (rs := [3,7]) (by kernel_rfl) (by simp) (AllReadyH.cons rfl (fun K hK => ?_) (AllReadyH.cons rfl (fun K hK => ?_) AllReadyH.nil))
    ·go_simp
     (go_at_call 34;(with_reducible refine (qcw 16 1 _ (eS 0).args.length c1 _).mono ?_);rintro e Y2 ⟨rfl,hb⟩;replace HI:=hid (HI.out.nx hb);replace HS:=hid (HS.out.nx hb);replace HY:=hid (HY.out.nx hb);replace HFM:=hid (HFM.out.nx hb);replace HN:=hid (HN.out.clBelow hb);replace HPU:=hid (HPU.out.nx hb);replace HV:=hid (qaf HV.out hb);clear hb)
     go_wp2_with fail
     refine hK.out _ _ ?_ (fun hHeld => ?_)
     ·exact HS.out.o.cells.2.2.2.2.1
     clear hK K
     try simp only [Act.put,List.setIfInBounds_toArray,List.set_cons_zero,List.set_cons_succ]
     refine wpAnyH_ready (rs := [4,7]) (by kernel_rfl) (by simp) (AllReadyH.cons rfl (fun K hK => ?_) (AllReadyH.cons rfl (fun K hK => ?_) AllReadyH.nil))
     ·have HVO:=hid HV.out.size
      go_simp
      refine hK.out _ _ ?_ (fun hHeld => ?_)
      ·exact (HS.out.nx ((Below.refl Y2.heap.size Y2).alloc (Nat.le_refl _) _)).o.cells.2.2.2.2.1
      clear hK K
      try simp only [Act.put,List.setIfInBounds_toArray,List.set_cons_zero,List.set_cons_succ]
      refine qa6 (fun Y3 hwA hHeld => ?_) hHeld
      have hb:Below Y2.heap.size Y2 Y3:=by rw [hwA];exact (Below.refl _ _).alloc (Nat.le_refl _) _
      have HQ:=hid (show Y3.heap[Y2.heap.size]? = some (.cells #[.int .i64 (eS 1).op,.string (eS 1).name,.int .i64 (eS 1).val,.int .i64 (eS 1).bound,.slice A1 (eS 1).args.length c1] 24 (0,0)) by show Y3.heap[_]? = _;rw [hwA];exact at_new _ _ _ rfl)
      replace HI:=hid (HI.out.nx hb);replace HS:=hid (HS.out.nx hb);replace HY:=hid (HY.out.nx hb);replace HFM:=hid (HFM.out.nx hb);replace HN:=hid (HN.out.clBelow hb);replace HPU:=hid (HPU.out.nx hb);replace HV:=hid (qaf HV.out hb)
      obtain ⟨zb,hzb⟩ : ∃ x,Y2.heap.size=x:=⟨_,rfl⟩
      have Hzb:=hid (show W14.heap.size≤zb by rw [←hzb];exact HVO.out)
      rw [hzb] at HQ ⊢
      clear hwA hb hzb HVO
      refine wpAnyH_ready (rs := [5,7]) (by kernel_rfl) (by simp) (AllReadyH.cons rfl (fun K hK => ?_) (AllReadyH.cons rfl (fun K hK => ?_) AllReadyH.nil))
      ·go_simp
       (go_at_call 34;(with_reducible refine (qcw 15 1 _ 1 1 _).mono ?_);rintro e Y4 ⟨rfl,hb⟩;replace HI:=hid (HI.out.nx hb);replace HS:=hid (HS.out.nx hb);replace HY:=hid (HY.out.nx hb);replace HFM:=hid (HFM.out.nx hb);replace HN:=hid (HN.out.clBelow hb);replace HPU:=hid (HPU.out.nx hb);replace HV:=hid (qaf HV.out hb);replace HQ:=hid ((hb.block _ (lt_of_block HQ.out)).trans HQ.out);clear hb)
       go_wp2_with fail
       refine hK.out _ _ ?_ (fun hHeld => ?_)
       ·exact HS.out.o.cells.2.2.2.2.1
       clear hK K
       try simp only [Act.put,List.setIfInBounds_toArray,List.set_cons_zero,List.set_cons_succ]
       refine wpAnyH_ready (rs := [6,7]) (by kernel_rfl) (by simp) (AllReadyH.cons rfl (fun K hK => ?_) (AllReadyH.cons rfl (fun K hK => ?_) AllReadyH.nil))
       ·go_simp
        (go_at_call 36;(with_reducible refine (qep 6 (eIs sA) (eY 1 1) _ _ _ ?_ ?_).mono ?_);exact ⟨none,0,rfl,RdA.nil _ _ _ (by omega)⟩;exact ⟨_,_,rfl,(qis (f:=eS 1) HQ.out HS.out.a).mono fun _ _ _=>trivial⟩;rintro e Y5 ⟨v,rfl,⟨A3,c3,rfl,ha3⟩,hb⟩;replace HI:=hid (HI.out.nx hb);replace HS:=hid (HS.out.nx hb);replace HY:=hid (HY.out.nx hb);replace HFM:=hid (HFM.out.nx hb);replace HN:=hid (HN.out.clBelow hb);replace HPU:=hid (HPU.out.nx hb);replace HV:=hid (qaf HV.out hb);replace HQ:=hid ((hb.block _ (lt_of_block HQ.out)).trans HQ.out);have HA3:=hid ha3;clear ha3;clear hb)
        go_wp2_with fail
        refine hK.out _ _ ?_ (fun hHeld => ?_)
        ·exact HS.out.o.cells.2.2.2.2.1
        clear hK K
        try simp only [Act.put,List.setIfInBounds_toArray,List.set_cons_zero,List.set_cons_succ]
        refine wpAnyH_ready (rs := [7]) (by kernel_rfl) (by simp) (AllReadyH.cons rfl (fun K hK => ?_) AllReadyH.nil)
        have HVO:=hid HV.out.size
        go_simp
        refine hK.out _ _ ?_ (fun hHeld => ?_)
        ·exact (HS.out.nx ((Below.refl Y5.heap.size Y5).alloc (Nat.le_refl _) _)).o.cells.2.2.2.2.1
        clear hK K
        try simp only [Act.put,List.setIfInBounds_toArray,List.set_cons_zero,List.set_cons_succ]
        refine qa6 (fun Y6 hwA hHeld => ?_) hHeld
        have hb:Below Y5.heap.size Y5 Y6:=by rw [hwA];exact (Below.refl _ _).alloc (Nat.le_refl _) _
        have HOZ:=hid (show OB Y6 Y5.heap.size 0 ⟨#[]⟩ 0 0 none 0 0 by show Y6.heap[_]? = _;rw [hwA];exact at_new _ _ _ rfl)
        replace HI:=hid (HI.out.nx hb);replace HS:=hid (HS.out.nx hb);replace HY:=hid (HY.out.nx hb);replace HFM:=hid (HFM.out.nx hb);replace HN:=hid (HN.out.clBelow hb);replace HPU:=hid (HPU.out.nx hb);replace HV:=hid (qaf HV.out hb);replace HQ:=hid ((hb.block _ (lt_of_block HQ.out)).trans HQ.out);replace HA3:=hid (HA3.out.any hb)
        obtain ⟨wb,hwb⟩ : ∃ x,Y5.heap.size=x:=⟨_,rfl⟩
        have Hwb:=hid (show W14.heap.size≤wb by rw [←hwb];exact HVO.out)
        rw [hwb] at HOZ ⊢
        clear hwA hb hwb HVO
        obtain ⟨z0,z1,z2,z3,z4,z5⟩:=HOZ.out.cells
        have y0:=HOZ.out.free 0
        have y1:=HOZ.out.free 1
        have y2:=HOZ.out.free 2
        have y3:=HOZ.out.free 3
        have y4:=HOZ.out.free 4
        refine wpAnyH_done (by kernel_rfl) ?_ _
        unfold qeo
        go_simp
        go_wp2_with fail
        refine qak HTL.out ?_ ?_
        ·exact ⟨wb,A3,c3,rfl,HdA.stored (f:=eF 1 1) HOZ.out HA3.out e_nzG,HV.out.trans ((qaj _ _ _ _ _ _ _).below (fun x hx h=>by have h':x=wb:=h;have:=Hwb.out;omega) HV.out.size)⟩
        ·kernel_rfl
       ·have HVO:=hid HV.out.size
        go_simp
        refine hK.out _ _ ?_ (fun hHeld => ?_)
        ·exact (HS.out.nx ((Below.refl Y4.heap.size Y4).alloc (Nat.le_refl _) _)).o.cells.2.2.2.2.1
        clear hK K
        try simp only [Act.put,List.setIfInBounds_toArray,List.set_cons_zero,List.set_cons_succ]
        refine qa6 (fun Y7 hwA hHeld => ?_) hHeld
        have hb:Below Y4.heap.size Y4 Y7:=by rw [hwA];exact (Below.refl _ _).alloc (Nat.le_refl _) _
        have HOZ:=hid (show OB Y7 Y4.heap.size 0 ⟨#[]⟩ 0 0 none 0 0 by show Y7.heap[_]? = _;rw [hwA];exact at_new _ _ _ rfl)
        replace HI:=hid (HI.out.nx hb);replace HS:=hid (HS.out.nx hb);replace HY:=hid (HY.out.nx hb);replace HFM:=hid (HFM.out.nx hb);replace HN:=hid (HN.out.clBelow hb);replace HPU:=hid (HPU.out.nx hb);replace HV:=hid (qaf HV.out hb);replace HQ:=hid ((hb.block _ (lt_of_block HQ.out)).trans HQ.out)
        obtain ⟨wb,hwb⟩ : ∃ x,Y4.heap.size=x:=⟨_,rfl⟩
        have Hwb:=hid (show W14.heap.size≤wb by rw [←hwb];exact HVO.out)
        rw [hwb] at HOZ ⊢
        clear hwA hb hwb HVO
        refine wpAnyH_ready (rs := [6]) (by kernel_rfl) (by simp) (AllReadyH.cons rfl (fun K hK => ?_) AllReadyH.nil)
        go_simp
        (go_at_call 36;(with_reducible refine (qep 6 (eIs sA) (eY 1 1) _ _ _ ?_ ?_).mono ?_);exact ⟨none,0,rfl,RdA.nil _ _ _ (by omega)⟩;exact ⟨_,_,rfl,(qis (f:=eS 1) HQ.out HS.out.a).mono fun _ _ _=>trivial⟩;rintro e Y8 ⟨v,rfl,⟨A3,c3,rfl,ha3⟩,hb⟩;replace HI:=hid (HI.out.nx hb);replace HS:=hid (HS.out.nx hb);replace HY:=hid (HY.out.nx hb);replace HFM:=hid (HFM.out.nx hb);replace HN:=hid (HN.out.clBelow hb);replace HPU:=hid (HPU.out.nx hb);replace HV:=hid (qaf HV.out hb);replace HQ:=hid ((hb.block _ (lt_of_block HQ.out)).trans HQ.out);replace HOZ:=hid (HOZ.out.below hb);have HA3:=hid ha3;clear ha3;clear hb)
        go_wp2_with fail
        refine hK.out _ _ ?_ (fun hHeld => ?_)
        ·exact HS.out.o.cells.2.2.2.2.1
        clear hK K
        try simp only [Act.put,List.setIfInBounds_toArray,List.set_cons_zero,List.set_cons_succ]
        obtain ⟨z0,z1,z2,z3,z4,z5⟩:=HOZ.out.cells
        have y0:=HOZ.out.free 0
        have y1:=HOZ.out.free 1
        have y2:=HOZ.out.free 2
        have y3:=HOZ.out.free 3
        have y4:=HOZ.out.free 4
        refine wpAnyH_done (by kernel_rfl) ?_ _
        unfold qeo
        go_simp
        go_wp2_with fail
        refine qak HTL.out ?_ ?_
        ·exact ⟨wb,A3,c3,rfl,HdA.stored (f:=eF 1 1) HOZ.out HA3.out e_nzG,HV.out.trans ((qaj _ _ _ _ _ _ _).below (fun x hx h=>by have h':x=wb:=h;have:=Hwb.out;omega) HV.out.size)⟩
        ·kernel_rfl
      ·have HVO:=hid HV.out.size
       go_simp
       refine hK.out _ _ ?_ (fun hHeld => ?_)
       ·exact (HS.out.nx ((Below.refl Y3.heap.size Y3).alloc (Nat.le_refl _) _)).o.cells.2.2.2.2.1
       clear hK K
       try simp only [Act.put,List.setIfInBounds_toArray,List.set_cons_zero,List.set_cons_succ]
       refine qa6 (fun Y9 hwA hHeld => ?_) hHeld
       have hb:Below Y3.heap.size Y3 Y9:=by rw [hwA];exact (Below.refl _ _).alloc (Nat.le_refl _) _
       have HOZ:=hid (show OB Y9 Y3.heap.size 0 ⟨#[]⟩ 0 0 none 0 0 by show Y9.heap[_]? = _;rw [hwA];exact at_new _ _ _ rfl)
       replace HI:=hid (HI.out.nx hb);replace HS:=hid (HS.out.nx hb);replace HY:=hid (HY.out.nx hb);replace HFM:=hid (HFM.out.nx hb);replace HN:=hid (HN.out.clBelow hb);replace HPU:=hid (HPU.out.nx hb);replace HV:=hid (qaf HV.out hb);replace HQ:=hid ((hb.block _ (lt_of_block HQ.out)).trans HQ.out)
       obtain ⟨wb,hwb⟩ : ∃ x,Y3.heap.size=x:=⟨_,rfl⟩
       have Hwb:=hid (show W14.heap.size≤wb by rw [←hwb];exact HVO.out)
       rw [hwb] at HOZ ⊢
       clear hwA hb hwb HVO
       refine wpAnyH_ready (rs := [5]) (by kernel_rfl) (by simp) (AllReadyH.cons rfl (fun K hK => ?_) AllReadyH.nil)
       go_simp
       (go_at_call 34;(with_reducible refine (qcw 15 1 _ 1 1 _).mono ?_);rintro e Y10 ⟨rfl,hb⟩;replace HI:=hid (HI.out.nx hb);replace HS:=hid (HS.out.nx hb);replace HY:=hid (HY.out.nx hb);replace HFM:=hid (HFM.out.nx hb);replace HN:=hid (HN.out.clBelow hb);replace HPU:=hid (HPU.out.nx hb);replace HV:=hid (qaf HV.out hb);replace HQ:=hid ((hb.block _ (lt_of_block HQ.out)).trans HQ.out);replace HOZ:=hid (HOZ.out.below hb);clear hb)
       go_wp2_with fail
       refine hK.out _ _ ?_ (fun hHeld => ?_)
       ·exact HS.out.o.cells.2.2.2.2.1
       clear hK K
       try simp only [Act.put,List.setIfInBounds_toArray,List.set_cons_zero,List.set_cons_succ]
       refine wpAnyH_ready (rs := [6]) (by kernel_rfl) (by simp) (AllReadyH.cons rfl (fun K hK => ?_) AllReadyH.nil)
       go_simp
       (go_at_call 36;(with_reducible refine (qep 6 (eIs sA) (eY 1 1) _ _ _ ?_ ?_).mono ?_);exact ⟨none,0,rfl,RdA.nil _ _ _ (by omega)⟩;exact ⟨_,_,rfl,(qis (f:=eS 1) HQ.out HS.out.a).mono fun _ _ _=>trivial⟩;rintro e Y11 ⟨v,rfl,⟨A3,c3,rfl,ha3⟩,hb⟩;replace HI:=hid (HI.out.nx hb);replace HS:=hid (HS.out.nx hb);replace HY:=hid (HY.out.nx hb);replace HFM:=hid (HFM.out.nx hb);replace HN:=hid (HN.out.clBelow hb);replace HPU:=hid (HPU.out.nx hb);replace HV:=hid (qaf HV.out hb);replace HQ:=hid ((hb.block _ (lt_of_block HQ.out)).trans HQ.out);replace HOZ:=hid (HOZ.out.below hb);have HA3:=hid ha3;clear ha3;clear hb)
       go_wp2_with fail
       refine hK.out _ _ ?_ (fun hHeld => ?_)
       ·exact HS.out.o.cells.2.2.2.2.1
       clear hK K
       try simp only [Act.put,List.setIfInBounds_toArray,List.set_cons_zero,List.set_cons_succ]
       obtain ⟨z0,z1,z2,z3,z4,z5⟩:=HOZ.out.cells
       have y0:=HOZ.out.free 0
       have y1:=HOZ.out.free 1
       have y2:=HOZ.out.free 2
       have y3:=HOZ.out.free 3
       have y4:=HOZ.out.free 4
       refine wpAnyH_done (by kernel_rfl) ?_ _
       unfold qeo
       go_simp
       go_wp2_with fail
       refine qak HTL.out ?_ ?_
       ·exact ⟨wb,A3,c3,rfl,HdA.stored (f:=eF 1 1) HOZ.out HA3.out e_nzG,HV.out.trans ((qaj _ _ _ _ _ _ _).below (fun x hx h=>by have h':x=wb:=h;have:=Hwb.out;omega) HV.out.size)⟩
       ·kernel_rfl
     ·have HVO:=hid HV.out.size
      go_simp
      refine hK.out _ _ ?_ (fun hHeld => ?_)
      ·exact (HS.out.nx ((Below.refl Y2.heap.size Y2).alloc (Nat.le_refl _) _)).o.cells.2.2.2.2.1
      clear hK K
      try simp only [Act.put,List.setIfInBounds_toArray,List.set_cons_zero,List.set_cons_succ]
      refine qa6 (fun Y12 hwA hHeld => ?_) hHeld
      have hb:Below Y2.heap.size Y2 Y12:=by rw [hwA];exact (Below.refl _ _).alloc (Nat.le_refl _) _
      have HOZ:=hid (show OB Y12 Y2.heap.size 0 ⟨#[]⟩ 0 0 none 0 0 by show Y12.heap[_]? = _;rw [hwA];exact at_new _ _ _ rfl)
      replace HI:=hid (HI.out.nx hb);replace HS:=hid (HS.out.nx hb);replace HY:=hid (HY.out.nx hb);replace HFM:=hid (HFM.out.nx hb);replace HN:=hid (HN.out.clBelow hb);replace HPU:=hid (HPU.out.nx hb);replace HV:=hid (qaf HV.out hb)
      obtain ⟨wb,hwb⟩ : ∃ x,Y2.heap.size=x:=⟨_,rfl⟩
      have Hwb:=hid (show W14.heap.size≤wb by rw [←hwb];exact HVO.out)
      rw [hwb] at HOZ ⊢
      clear hwA hb hwb HVO
      refine wpAnyH_ready (rs := [4]) (by kernel_rfl) (by simp) (AllReadyH.cons rfl (fun K hK => ?_) AllReadyH.nil)
      have HVO:=hid HV.out.size
      go_simp
      refine hK.out _ _ ?_ (fun hHeld => ?_)
      ·exact (HS.out.nx ((Below.refl Y12.heap.size Y12).alloc (Nat.le_refl _) _)).o.cells.2.2.2.2.1
      clear hK K
      try simp only [Act.put,List.setIfInBounds_toArray,List.set_cons_zero,List.set_cons_succ]
      refine qa6 (fun Y13 hwA hHeld => ?_) hHeld
      have hb:Below Y12.heap.size Y12 Y13:=by rw [hwA];exact (Below.refl _ _).alloc (Nat.le_refl _) _
      have HQ:=hid (show Y13.heap[Y12.heap.size]? = some (.cells #[.int .i64 (eS 1).op,.string (eS 1).name,.int .i64 (eS 1).val,.int .i64 (eS 1).bound,.slice A1 (eS 1).args.length c1] 24 (0,0)) by show Y13.heap[_]? = _;rw [hwA];exact at_new _ _ _ rfl)
      replace HI:=hid (HI.out.nx hb);replace HS:=hid (HS.out.nx hb);replace HY:=hid (HY.out.nx hb);replace HFM:=hid (HFM.out.nx hb);replace HN:=hid (HN.out.clBelow hb);replace HPU:=hid (HPU.out.nx hb);replace HV:=hid (qaf HV.out hb);replace HOZ:=hid (HOZ.out.below hb)
      obtain ⟨zb,hzb⟩ : ∃ x,Y12.heap.size=x:=⟨_,rfl⟩
      have Hzb:=hid (show W14.heap.size≤zb by rw [←hzb];exact HVO.out)
      rw [hzb] at HQ ⊢
      clear hwA hb hzb HVO
      refine wpAnyH_ready (rs := [5]) (by kernel_rfl) (by simp) (AllReadyH.cons rfl (fun K hK => ?_) AllReadyH.nil)
      go_simp
      (go_at_call 34;(with_reducible refine (qcw 15 1 _ 1 1 _).mono ?_);rintro e Y14 ⟨rfl,hb⟩;replace HI:=hid (HI.out.nx hb);replace HS:=hid (HS.out.nx hb);replace HY:=hid (HY.out.nx hb);replace HFM:=hid (HFM.out.nx hb);replace HN:=hid (HN.out.clBelow hb);replace HPU:=hid (HPU.out.nx hb);replace HV:=hid (qaf HV.out hb);replace HOZ:=hid (HOZ.out.below hb);replace HQ:=hid ((hb.block _ (lt_of_block HQ.out)).trans HQ.out);clear hb)
      go_wp2_with fail
      refine hK.out _ _ ?_ (fun hHeld => ?_)
      ·exact HS.out.o.cells.2.2.2.2.1
      clear hK K
      try simp only [Act.put,List.setIfInBounds_toArray,List.set_cons_zero,List.set_cons_succ]
      refine wpAnyH_ready (rs := [6]) (by kernel_rfl) (by simp) (AllReadyH.cons rfl (fun K hK => ?_) AllReadyH.nil)
      go_simp
      (go_at_call 36;(with_reducible refine (qep 6 (eIs sA) (eY 1 1) _ _ _ ?_ ?_).mono ?_);exact ⟨none,0,rfl,RdA.nil _ _ _ (by omega)⟩;exact ⟨_,_,rfl,(qis (f:=eS 1) HQ.out HS.out.a).mono fun _ _ _=>trivial⟩;rintro e Y15 ⟨v,rfl,⟨A3,c3,rfl,ha3⟩,hb⟩;replace HI:=hid (HI.out.nx hb);replace HS:=hid (HS.out.nx hb);replace HY:=hid (HY.out.nx hb);replace HFM:=hid (HFM.out.nx hb);replace HN:=hid (HN.out.clBelow hb);replace HPU:=hid (HPU.out.nx hb);replace HV:=hid (qaf HV.out hb);replace HOZ:=hid (HOZ.out.below hb);replace HQ:=hid ((hb.block _ (lt_of_block HQ.out)).trans HQ.out);have HA3:=hid ha3;clear ha3;clear hb)
      go_wp2_with fail
      refine hK.out _ _ ?_ (fun hHeld => ?_)
      ·exact HS.out.o.cells.2.2.2.2.1
      clear hK K
      try simp only [Act.put,List.setIfInBounds_toArray,List.set_cons_zero,List.set_cons_succ]
      obtain ⟨z0,z1,z2,z3,z4,z5⟩:=HOZ.out.cells
      have y0:=HOZ.out.free 0
      have y1:=HOZ.out.free 1
      have y2:=HOZ.out.free 2
      have y3:=HOZ.out.free 3
      have y4:=HOZ.out.free 4
      refine wpAnyH_done (by kernel_rfl) ?_ _
      unfold qeo
      go_simp
      go_wp2_with fail
      refine qak HTL.out ?_ ?_
      ·exact ⟨wb,A3,c3,rfl,HdA.stored (f:=eF 1 1) HOZ.out HA3.out e_nzG,HV.out.trans ((qaj _ _ _ _ _ _ _).below (fun x hx h=>by have h':x=wb:=h;have:=Hwb.out;omega) HV.out.size)⟩
      ·kernel_rfl
    ·have HVO:=hid HV.out.size
     go_simp
     refine hK.out _ _ ?_ (fun hHeld => ?_)
     ·exact (HS.out.nx ((Below.refl Y1.heap.size Y1).alloc (Nat.le_refl _) _)).o.cells.2.2.2.2.1
     clear hK K
     try simp only [Act.put,List.setIfInBounds_toArray,List.set_cons_zero,List.set_cons_succ]
     refine qa6 (fun Y16 hwA hHeld => ?_) hHeld
     have hb:Below Y1.heap.size Y1 Y16:=by rw [hwA];exact (Below.refl _ _).alloc (Nat.le_refl _) _
     have HOZ:=hid (show OB Y16 Y1.heap.size 0 ⟨#[]⟩ 0 0 none 0 0 by show Y16.heap[_]? = _;rw [hwA];exact at_new _ _ _ rfl)
     replace HI:=hid (HI.out.nx hb);replace HS:=hid (HS.out.nx hb);replace HY:=hid (HY.out.nx hb);replace HFM:=hid (HFM.out.nx hb);replace HN:=hid (HN.out.clBelow hb);replace HPU:=hid (HPU.out.nx hb);replace HV:=hid (qaf HV.out hb)
     obtain ⟨wb,hwb⟩ : ∃ x,Y1.heap.size=x:=⟨_,rfl⟩
     have Hwb:=hid (show W14.heap.size≤wb by rw [←hwb];exact HVO.out)
     rw [hwb] at HOZ ⊢
     clear hwA hb hwb HVO
     refine wpAnyH_ready (rs := [3]) (by kernel_rfl) (by simp) (AllReadyH.cons rfl (fun K hK => ?_) AllReadyH.nil)
     go_simp
     (go_at_call 34;(with_reducible refine (qcw 16 1 _ (eS 0).args.length c1 _).mono ?_);rintro e Y17 ⟨rfl,hb⟩;replace HI:=hid (HI.out.nx hb);replace HS:=hid (HS.out.nx hb);replace HY:=hid (HY.out.nx hb);replace HFM:=hid (HFM.out.nx hb);replace HN:=hid (HN.out.clBelow hb);replace HPU:=hid (HPU.out.nx hb);replace HV:=hid (qaf HV.out hb);replace HOZ:=hid (HOZ.out.below hb);clear hb)
     go_wp2_with fail
     refine hK.out _ _ ?_ (fun hHeld => ?_)
     ·exact HS.out.o.cells.2.2.2.2.1
     clear hK K
     try simp only [Act.put,List.setIfInBounds_toArray,List.set_cons_zero,List.set_cons_succ]
     refine wpAnyH_ready (rs := [4]) (by kernel_rfl) (by simp) (AllReadyH.cons rfl (fun K hK => ?_) AllReadyH.nil)
     have HVO:=hid HV.out.size
     go_simp
     refine hK.out _ _ ?_ (fun hHeld => ?_)
     ·exact (HS.out.nx ((Below.refl Y17.heap.size Y17).alloc (Nat.le_refl _) _)).o.cells.2.2.2.2.1
     clear hK K
     try simp only [Act.put,List.setIfInBounds_toArray,List.set_cons_zero,List.set_cons_succ]
     refine qa6 (fun Y18 hwA hHeld => ?_) hHeld
     have hb:Below Y17.heap.size Y17 Y18:=by rw [hwA];exact (Below.refl _ _).alloc (Nat.le_refl _) _
     have HQ:=hid (show Y18.heap[Y17.heap.size]? = some (.cells #[.int .i64 (eS 1).op,.string (eS 1).name,.int .i64 (eS 1).val,.int .i64 (eS 1).bound,.slice A1 (eS 1).args.length c1] 24 (0,0)) by show Y18.heap[_]? = _;rw [hwA];exact at_new _ _ _ rfl)
     replace HI:=hid (HI.out.nx hb);replace HS:=hid (HS.out.nx hb);replace HY:=hid (HY.out.nx hb);replace HFM:=hid (HFM.out.nx hb);replace HN:=hid (HN.out.clBelow hb);replace HPU:=hid (HPU.out.nx hb);replace HV:=hid (qaf HV.out hb);replace HOZ:=hid (HOZ.out.below hb)
     obtain ⟨zb,hzb⟩ : ∃ x,Y17.heap.size=x:=⟨_,rfl⟩
     have Hzb:=hid (show W14.heap.size≤zb by rw [←hzb];exact HVO.out)
     rw [hzb] at HQ ⊢
     clear hwA hb hzb HVO
     refine wpAnyH_ready (rs := [5]) (by kernel_rfl) (by simp) (AllReadyH.cons rfl (fun K hK => ?_) AllReadyH.nil)
     go_simp
     (go_at_call 34;(with_reducible refine (qcw 15 1 _ 1 1 _).mono ?_);rintro e Y19 ⟨rfl,hb⟩;replace HI:=hid (HI.out.nx hb);replace HS:=hid (HS.out.nx hb);replace HY:=hid (HY.out.nx hb);replace HFM:=hid (HFM.out.nx hb);replace HN:=hid (HN.out.clBelow hb);replace HPU:=hid (HPU.out.nx hb);replace HV:=hid (qaf HV.out hb);replace HOZ:=hid (HOZ.out.below hb);replace HQ:=hid ((hb.block _ (lt_of_block HQ.out)).trans HQ.out);clear hb)
     go_wp2_with fail
     refine hK.out _ _ ?_ (fun hHeld => ?_)
     ·exact HS.out.o.cells.2.2.2.2.1
     clear hK K
     try simp only [Act.put,List.setIfInBounds_toArray,List.set_cons_zero,List.set_cons_succ]
     refine wpAnyH_ready (rs := [6]) (by kernel_rfl) (by simp) (AllReadyH.cons rfl (fun K hK => ?_) AllReadyH.nil)
     go_simp
     (go_at_call 36;(with_reducible refine (qep 6 (eIs sA) (eY 1 1) _ _ _ ?_ ?_).mono ?_);exact ⟨none,0,rfl,RdA.nil _ _ _ (by omega)⟩;exact ⟨_,_,rfl,(qis (f:=eS 1) HQ.out HS.out.a).mono fun _ _ _=>trivial⟩;rintro e Y20 ⟨v,rfl,⟨A3,c3,rfl,ha3⟩,hb⟩;replace HI:=hid (HI.out.nx hb);replace HS:=hid (HS.out.nx hb);replace HY:=hid (HY.out.nx hb);replace HFM:=hid (HFM.out.nx hb);replace HN:=hid (HN.out.clBelow hb);replace HPU:=hid (HPU.out.nx hb);replace HV:=hid (qaf HV.out hb);replace HOZ:=hid (HOZ.out.below hb);replace HQ:=hid ((hb.block _ (lt_of_block HQ.out)).trans HQ.out);have HA3:=hid ha3;clear ha3;clear hb)
     go_wp2_with fail
     refine hK.out _ _ ?_ (fun hHeld => ?_)
     ·exact HS.out.o.cells.2.2.2.2.1
     clear hK K
     try simp only [Act.put,List.setIfInBounds_toArray,List.set_cons_zero,List.set_cons_succ]
     obtain ⟨z0,z1,z2,z3,z4,z5⟩:=HOZ.out.cells
     have y0:=HOZ.out.free 0
     have y1:=HOZ.out.free 1
     have y2:=HOZ.out.free 2
     have y3:=HOZ.out.free 3
     have y4:=HOZ.out.free 4
     refine wpAnyH_done (by kernel_rfl) ?_ _
     unfold qeo
     go_simp
     go_wp2_with fail
     refine qak HTL.out ?_ ?_
     ·exact ⟨wb,A3,c3,rfl,HdA.stored (f:=eF 1 1) HOZ.out HA3.out e_nzG,HV.out.trans ((qaj _ _ _ _ _ _ _).below (fun x hx h=>by have h':x=wb:=h;have:=Hwb.out;omega) HV.out.size)⟩
     ·kernel_rfl
   ·have HVO:=hid HV.out.size
    go_simp
    refine hK.out _ _ ?_ (fun hHeld => ?_)
    ·exact (HS.out.nx ((Below.refl V0.heap.size V0).alloc (Nat.le_refl _) _)).o.cells.2.2.2.2.1
    clear hK K
    try simp only [Act.put,List.setIfInBounds_toArray,List.set_cons_zero,List.set_cons_succ]
    refine qa6 (fun Y21 hwA hHeld => ?_) hHeld
    have hb:Below V0.heap.size V0 Y21:=by rw [hwA];exact (Below.refl _ _).alloc (Nat.le_refl _) _
    have HOZ:=hid (show OB Y21 V0.heap.size 0 ⟨#[]⟩ 0 0 none 0 0 by show Y21.heap[_]? = _;rw [hwA];exact at_new _ _ _ rfl)
    replace HI:=hid (HI.out.nx hb);replace HS:=hid (HS.out.nx hb);replace HY:=hid (HY.out.nx hb);replace HFM:=hid (HFM.out.nx hb);replace HN:=hid (HN.out.clBelow hb);replace HPU:=hid (HPU.out.nx hb);replace HV:=hid (qaf HV.out hb)
    obtain ⟨wb,hwb⟩ : ∃ x,V0.heap.size=x:=⟨_,rfl⟩
    have Hwb:=hid (show W14.heap.size≤wb by rw [←hwb];exact HVO.out)
    rw [hwb] at HOZ ⊢
    clear hwA hb hwb HVO
    refine wpAnyH_ready (rs := [0]) (by kernel_rfl) (by simp) (AllReadyH.cons rfl (fun K hK => ?_) AllReadyH.nil)
    go_simp
    (go_at_call 35;(with_reducible refine (qhz ⟨#[97]⟩ 1 _).mono ?_);rintro e Y22 ⟨rfl,hb⟩;replace HI:=hid (HI.out.nx hb);replace HS:=hid (HS.out.nx hb);replace HY:=hid (HY.out.nx hb);replace HFM:=hid (HFM.out.nx hb);replace HN:=hid (HN.out.clBelow hb);replace HPU:=hid (HPU.out.nx hb);replace HV:=hid (qaf HV.out hb);replace HOZ:=hid (HOZ.out.below hb);clear hb)
    go_wp2_with fail
    refine hK.out _ _ ?_ (fun hHeld => ?_)
    ·exact HS.out.o.cells.2.2.2.2.1
    clear hK K
    try simp only [Act.put,List.setIfInBounds_toArray,List.set_cons_zero,List.set_cons_succ]
    refine wpAnyH_ready (rs := [3]) (by kernel_rfl) (by simp) (AllReadyH.cons rfl (fun K hK => ?_) AllReadyH.nil)
    go_simp
    (go_at_call 34;(with_reducible refine (qcw 16 1 _ (eS 0).args.length c1 _).mono ?_);rintro e Y23 ⟨rfl,hb⟩;replace HI:=hid (HI.out.nx hb);replace HS:=hid (HS.out.nx hb);replace HY:=hid (HY.out.nx hb);replace HFM:=hid (HFM.out.nx hb);replace HN:=hid (HN.out.clBelow hb);replace HPU:=hid (HPU.out.nx hb);replace HV:=hid (qaf HV.out hb);replace HOZ:=hid (HOZ.out.below hb);clear hb)
    go_wp2_with fail
    refine hK.out _ _ ?_ (fun hHeld => ?_)
    ·exact HS.out.o.cells.2.2.2.2.1
    clear hK K
    try simp only [Act.put,List.setIfInBounds_toArray,List.set_cons_zero,List.set_cons_succ]
    refine wpAnyH_ready (rs := [4]) (by kernel_rfl) (by simp) (AllReadyH.cons rfl (fun K hK => ?_) AllReadyH.nil)
    have HVO:=hid HV.out.size
    go_simp
    refine hK.out _ _ ?_ (fun hHeld => ?_)
    ·exact (HS.out.nx ((Below.refl Y23.heap.size Y23).alloc (Nat.le_refl _) _)).o.cells.2.2.2.2.1
    clear hK K
    try simp only [Act.put,List.setIfInBounds_toArray,List.set_cons_zero,List.set_cons_succ]
    refine qa6 (fun Y24 hwA hHeld => ?_) hHeld
    have hb:Below Y23.heap.size Y23 Y24:=by rw [hwA];exact (Below.refl _ _).alloc (Nat.le_refl _) _
    have HQ:=hid (show Y24.heap[Y23.heap.size]? = some (.cells #[.int .i64 (eS 1).op,.string (eS 1).name,.int .i64 (eS 1).val,.int .i64 (eS 1).bound,.slice A1 (eS 1).args.length c1] 24 (0,0)) by show Y24.heap[_]? = _;rw [hwA];exact at_new _ _ _ rfl)
    replace HI:=hid (HI.out.nx hb);replace HS:=hid (HS.out.nx hb);replace HY:=hid (HY.out.nx hb);replace HFM:=hid (HFM.out.nx hb);replace HN:=hid (HN.out.clBelow hb);replace HPU:=hid (HPU.out.nx hb);replace HV:=hid (qaf HV.out hb);replace HOZ:=hid (HOZ.out.below hb)
    obtain ⟨zb,hzb⟩ : ∃ x,Y23.heap.size=x:=⟨_,rfl⟩
    have Hzb:=hid (show W14.heap.size≤zb by rw [←hzb];exact HVO.out)
    rw [hzb] at HQ ⊢
    clear hwA hb hzb HVO
    refine wpAnyH_ready (rs := [5]) (by kernel_rfl) (by simp) (AllReadyH.cons rfl (fun K hK => ?_) AllReadyH.nil)
    go_simp
    (go_at_call 34;(with_reducible refine (qcw 15 1 _ 1 1 _).mono ?_);rintro e Y25 ⟨rfl,hb⟩;replace HI:=hid (HI.out.nx hb);replace HS:=hid (HS.out.nx hb);replace HY:=hid (HY.out.nx hb);replace HFM:=hid (HFM.out.nx hb);replace HN:=hid (HN.out.clBelow hb);replace HPU:=hid (HPU.out.nx hb);replace HV:=hid (qaf HV.out hb);replace HOZ:=hid (HOZ.out.below hb);replace HQ:=hid ((hb.block _ (lt_of_block HQ.out)).trans HQ.out);clear hb)
    go_wp2_with fail
    refine hK.out _ _ ?_ (fun hHeld => ?_)
    ·exact HS.out.o.cells.2.2.2.2.1
    clear hK K
    try simp only [Act.put,List.setIfInBounds_toArray,List.set_cons_zero,List.set_cons_succ]
    refine wpAnyH_ready (rs := [6]) (by kernel_rfl) (by simp) (AllReadyH.cons rfl (fun K hK => ?_) AllReadyH.nil)
    go_simp
    (go_at_call 36;(with_reducible refine (qep 6 (eIs sA) (eY 1 1) _ _ _ ?_ ?_).mono ?_);exact ⟨none,0,rfl,RdA.nil _ _ _ (by omega)⟩;exact ⟨_,_,rfl,(qis (f:=eS 1) HQ.out HS.out.a).mono fun _ _ _=>trivial⟩;rintro e Y26 ⟨v,rfl,⟨A3,c3,rfl,ha3⟩,hb⟩;replace HI:=hid (HI.out.nx hb);replace HS:=hid (HS.out.nx hb);replace HY:=hid (HY.out.nx hb);replace HFM:=hid (HFM.out.nx hb);replace HN:=hid (HN.out.clBelow hb);replace HPU:=hid (HPU.out.nx hb);replace HV:=hid (qaf HV.out hb);replace HOZ:=hid (HOZ.out.below hb);replace HQ:=hid ((hb.block _ (lt_of_block HQ.out)).trans HQ.out);have HA3:=hid ha3;clear ha3;clear hb)
    go_wp2_with fail
    refine hK.out _ _ ?_ (fun hHeld => ?_)
    ·exact HS.out.o.cells.2.2.2.2.1
    clear hK K
    try simp only [Act.put,List.setIfInBounds_toArray,List.set_cons_zero,List.set_cons_succ]
    obtain ⟨z0,z1,z2,z3,z4,z5⟩:=HOZ.out.cells
    have y0:=HOZ.out.free 0
    have y1:=HOZ.out.free 1
    have y2:=HOZ.out.free 2
    have y3:=HOZ.out.free 3
    have y4:=HOZ.out.free 4
    refine wpAnyH_done (by kernel_rfl) ?_ _
    unfold qeo
    go_simp
    go_wp2_with fail
    refine qak HTL.out ?_ ?_
    ·exact ⟨wb,A3,c3,rfl,HdA.stored (f:=eF 1 1) HOZ.out HA3.out e_nzG,HV.out.trans ((qaj _ _ _ _ _ _ _).below (fun x hx h=>by have h':x=wb:=h;have:=Hwb.out;omega) HV.out.size)⟩
    ·kernel_rfl
  ·rintro us W15 ⟨wb,A7,c7,hus,hF,hb⟩
   apply hK15
   simp only [qdu,Act.put,List.setIfInBounds_toArray,List.set_cons_zero,List.set_cons_succ,List.range']
   rw [hus]
   clear hK15 K15 hus
   replace HI:=hid (HI.out.nx hb);replace HS:=hid (HS.out.nx hb);replace HY:=hid (HY.out.nx hb);replace HFM:=hid (HFM.out.nx hb);replace HN:=hid (HN.out.clBelow hb)
   replace HPU:=hid (HPU.out.nx hb)
   have HWA:=hid hF
   clear hF hb
   have hfo:=fieldF_op
   have hz0:(qbs.op == 0)=true:=rfl
   obtain ⟨sc0,sc1,sc2,sc3,sc4,sc5⟩:=HS.out.o.cells;obtain ⟨yc0,yc1,yc2,yc3,yc4,yc5⟩:=HY.out.o.cells;obtain ⟨fc0,fc1,fc2,fc3,fc4,fc5⟩:=HFM.out.o.cells;obtain ⟨pc0,pc1,pc2,pc3,pc4,pc5⟩:=HPU.out.o.cells;obtain ⟨qc0,qc1,qc2,qc3,qc4,qc5⟩:=HWA.out.o.cells
   go_wp2_with (first
    | (go_at_call 18;(with_reducible refine (start_e HN.out HI.out.g HI.out.k).mono ?_);rintro e Z1 ⟨rfl,hb⟩;clear sc0 sc1 sc2 sc3 sc4 sc5 yc0 yc1 yc2 yc3 yc4 yc5 fc0 fc1 fc2 fc3 fc4 fc5 pc0 pc1 pc2 pc3 pc4 pc5 qc0 qc1 qc2 qc3 qc4 qc5;replace HI:=hid (HI.out.nx hb);replace HS:=hid (HS.out.nx hb);replace HY:=hid (HY.out.nx hb);replace HFM:=hid (HFM.out.nx hb);replace HN:=hid (HN.out.clBelow hb);replace HPU:=hid (HPU.out.nx hb);replace HWA:=hid (HWA.out.nx hb);clear hb;obtain ⟨sc0,sc1,sc2,sc3,sc4,sc5⟩:=HS.out.o.cells;obtain ⟨yc0,yc1,yc2,yc3,yc4,yc5⟩:=HY.out.o.cells;obtain ⟨fc0,fc1,fc2,fc3,fc4,fc5⟩:=HFM.out.o.cells;obtain ⟨pc0,pc1,pc2,pc3,pc4,pc5⟩:=HPU.out.o.cells;obtain ⟨qc0,qc1,qc2,qc3,qc4,qc5⟩:=HWA.out.o.cells)
    | (go_at_call 20;(with_reducible refine (now_e (gs := [eS 0,eY 0 0]) (n:=2) (f:=eY 0 0) 3 0 true 3 ?_ e_now1 qj1 ?_ ?_ ?_ ?_ ?_ ?_ ?_ HY.out.any HN.out HI.out.l HI.out.g HI.out.k).mono ?_);rfl;rfl;decide;decide;decide;decide +kernel;decide +kernel;decide +kernel;rintro e Z2 ⟨rfl,hb⟩;clear sc0 sc1 sc2 sc3 sc4 sc5 yc0 yc1 yc2 yc3 yc4 yc5 fc0 fc1 fc2 fc3 fc4 fc5 pc0 pc1 pc2 pc3 pc4 pc5 qc0 qc1 qc2 qc3 qc4 qc5;replace HI:=hid (HI.out.nx hb);replace HS:=hid (HS.out.nx hb);replace HY:=hid (HY.out.nx hb);replace HFM:=hid (HFM.out.nx hb);replace HN:=hid (HN.out.clBelow hb);replace HPU:=hid (HPU.out.nx hb);replace HWA:=hid (HWA.out.nx hb);clear hb;obtain ⟨sc0,sc1,sc2,sc3,sc4,sc5⟩:=HS.out.o.cells;obtain ⟨yc0,yc1,yc2,yc3,yc4,yc5⟩:=HY.out.o.cells;obtain ⟨fc0,fc1,fc2,fc3,fc4,fc5⟩:=HFM.out.o.cells;obtain ⟨pc0,pc1,pc2,pc3,pc4,pc5⟩:=HPU.out.o.cells;obtain ⟨qc0,qc1,qc2,qc3,qc4,qc5⟩:=HWA.out.o.cells)
    | (go_at_call 20;(with_reducible refine (now_e (gs := [eS 0,eY 0 0]) (n:=2) (f:=eS 0) 3 0 false 3 ?_ e_now2 qj1 ?_ ?_ ?_ ?_ ?_ ?_ ?_ HS.out.any HN.out HI.out.l HI.out.g HI.out.k).mono ?_);rfl;rfl;decide;decide;decide;decide +kernel;decide +kernel;decide +kernel;rintro e Z3 ⟨rfl,hb⟩;clear sc0 sc1 sc2 sc3 sc4 sc5 yc0 yc1 yc2 yc3 yc4 yc5 fc0 fc1 fc2 fc3 fc4 fc5 pc0 pc1 pc2 pc3 pc4 pc5 qc0 qc1 qc2 qc3 qc4 qc5;replace HI:=hid (HI.out.nx hb);replace HS:=hid (HS.out.nx hb);replace HY:=hid (HY.out.nx hb);replace HFM:=hid (HFM.out.nx hb);replace HN:=hid (HN.out.clBelow hb);replace HPU:=hid (HPU.out.nx hb);replace HWA:=hid (HWA.out.nx hb);clear hb;obtain ⟨sc0,sc1,sc2,sc3,sc4,sc5⟩:=HS.out.o.cells;obtain ⟨yc0,yc1,yc2,yc3,yc4,yc5⟩:=HY.out.o.cells;obtain ⟨fc0,fc1,fc2,fc3,fc4,fc5⟩:=HFM.out.o.cells;obtain ⟨pc0,pc1,pc2,pc3,pc4,pc5⟩:=HPU.out.o.cells;obtain ⟨qc0,qc1,qc2,qc3,qc4,qc5⟩:=HWA.out.o.cells)
    | (go_at_call 20;(with_reducible refine (now_e (gs := [eS 0,eY 0 0]) (n:=2) (f:=eS 0) 1 1 true 1 ?_ e_now3 qj1 ?_ ?_ ?_ ?_ ?_ ?_ ?_ HS.out.any HN.out HI.out.l HI.out.g HI.out.k).mono ?_);rfl;rfl;decide;decide;decide;decide +kernel;decide +kernel;decide +kernel;rintro e Z4 ⟨rfl,hb⟩;clear sc0 sc1 sc2 sc3 sc4 sc5 yc0 yc1 yc2 yc3 yc4 yc5 fc0 fc1 fc2 fc3 fc4 fc5 pc0 pc1 pc2 pc3 pc4 pc5 qc0 qc1 qc2 qc3 qc4 qc5;replace HI:=hid (HI.out.nx hb);replace HS:=hid (HS.out.nx hb);replace HY:=hid (HY.out.nx hb);replace HFM:=hid (HFM.out.nx hb);replace HN:=hid (HN.out.clBelow hb);replace HPU:=hid (HPU.out.nx hb);replace HWA:=hid (HWA.out.nx hb);clear hb;obtain ⟨sc0,sc1,sc2,sc3,sc4,sc5⟩:=HS.out.o.cells;obtain ⟨yc0,yc1,yc2,yc3,yc4,yc5⟩:=HY.out.o.cells;obtain ⟨fc0,fc1,fc2,fc3,fc4,fc5⟩:=HFM.out.o.cells;obtain ⟨pc0,pc1,pc2,pc3,pc4,pc5⟩:=HPU.out.o.cells;obtain ⟨qc0,qc1,qc2,qc3,qc4,qc5⟩:=HWA.out.o.cells)
    | (go_at_call 39;(with_reducible refine (same_e HPU.out HWA.out).mono ?_);rintro e Z5 ⟨rfl,hb⟩;clear sc0 sc1 sc2 sc3 sc4 sc5 yc0 yc1 yc2 yc3 yc4 yc5 fc0 fc1 fc2 fc3 fc4 fc5 pc0 pc1 pc2 pc3 pc4 pc5 qc0 qc1 qc2 qc3 qc4 qc5;replace HI:=hid (HI.out.nx hb);replace HS:=hid (HS.out.nx hb);replace HY:=hid (HY.out.nx hb);replace HFM:=hid (HFM.out.nx hb);replace HN:=hid (HN.out.clBelow hb);replace HPU:=hid (HPU.out.nx hb);replace HWA:=hid (HWA.out.nx hb);clear hb;obtain ⟨sc0,sc1,sc2,sc3,sc4,sc5⟩:=HS.out.o.cells;obtain ⟨yc0,yc1,yc2,yc3,yc4,yc5⟩:=HY.out.o.cells;obtain ⟨fc0,fc1,fc2,fc3,fc4,fc5⟩:=HFM.out.o.cells;obtain ⟨pc0,pc1,pc2,pc3,pc4,pc5⟩:=HPU.out.o.cells;obtain ⟨qc0,qc1,qc2,qc3,qc4,qc5⟩:=HWA.out.o.cells)
    | (go_at_call 27;(with_reducible refine (put_e 4 4 qbs ?_ ?_ HFM.out HN.out HI.out.g HI.out.k).mono ?_);rfl;decide +kernel;rintro e Z6 ⟨A8,c8,rfl,_,hb⟩;clear sc0 sc1 sc2 sc3 sc4 sc5 yc0 yc1 yc2 yc3 yc4 yc5 fc0 fc1 fc2 fc3 fc4 fc5 pc0 pc1 pc2 pc3 pc4 pc5 qc0 qc1 qc2 qc3 qc4 qc5;replace HI:=hid (HI.out.nx hb);replace HS:=hid (HS.out.nx hb);replace HY:=hid (HY.out.nx hb);replace HFM:=hid (HFM.out.nx hb);replace HN:=hid (HN.out.clBelow hb);replace HPU:=hid (HPU.out.nx hb);replace HWA:=hid (HWA.out.nx hb);clear hb;obtain ⟨sc0,sc1,sc2,sc3,sc4,sc5⟩:=HS.out.o.cells;obtain ⟨yc0,yc1,yc2,yc3,yc4,yc5⟩:=HY.out.o.cells;obtain ⟨fc0,fc1,fc2,fc3,fc4,fc5⟩:=HFM.out.o.cells;obtain ⟨pc0,pc1,pc2,pc3,pc4,pc5⟩:=HPU.out.o.cells;obtain ⟨qc0,qc1,qc2,qc3,qc4,qc5⟩:=HWA.out.o.cells)
    | (go_at_call 21;(with_reducible refine (holds_e (k:=fb) (kb:=Z6.heap.size) ?_ ?_ ?_ ?_ ?_).mono ?_);exact HFM.out.nx ((Below.refl _ _).alloc (Nat.le_refl _) _);exact at_new _ _ _ rfl;exact HI.out.l.any ((Below.refl _ _).alloc (Nat.le_refl _) _);exact HI.out.g.below ((Below.refl _ _).alloc (Nat.le_refl _) _) HI.out.g.pos;exact HI.out.k.below ((Below.refl _ _).alloc (Nat.le_refl _) _) HI.out.k.pos;rintro e Z7 ⟨rfl,hb⟩;have hb:=qaf ((Below.refl Z6.heap.size Z6).alloc (Nat.le_refl _) _) hb;clear sc0 sc1 sc2 sc3 sc4 sc5 yc0 yc1 yc2 yc3 yc4 yc5 fc0 fc1 fc2 fc3 fc4 fc5 pc0 pc1 pc2 pc3 pc4 pc5 qc0 qc1 qc2 qc3 qc4 qc5;replace HI:=hid (HI.out.nx hb);replace HS:=hid (HS.out.nx hb);replace HY:=hid (HY.out.nx hb);replace HFM:=hid (HFM.out.nx hb);replace HN:=hid (HN.out.clBelow hb);replace HPU:=hid (HPU.out.nx hb);replace HWA:=hid (HWA.out.nx hb);clear hb;obtain ⟨sc0,sc1,sc2,sc3,sc4,sc5⟩:=HS.out.o.cells;obtain ⟨yc0,yc1,yc2,yc3,yc4,yc5⟩:=HY.out.o.cells;obtain ⟨fc0,fc1,fc2,fc3,fc4,fc5⟩:=HFM.out.o.cells;obtain ⟨pc0,pc1,pc2,pc3,pc4,pc5⟩:=HPU.out.o.cells;obtain ⟨qc0,qc1,qc2,qc3,qc4,qc5⟩:=HWA.out.o.cells)
    | (go_at_call 40;(with_reducible refine (word_e (kb:=Z7.heap.size) ?_).mono ?_);exact at_new _ _ _ rfl;rintro e Z8 ⟨rfl,hb⟩;have hb:=qaf ((Below.refl Z7.heap.size Z7).alloc (Nat.le_refl _) _) hb;clear sc0 sc1 sc2 sc3 sc4 sc5 yc0 yc1 yc2 yc3 yc4 yc5 fc0 fc1 fc2 fc3 fc4 fc5 pc0 pc1 pc2 pc3 pc4 pc5 qc0 qc1 qc2 qc3 qc4 qc5;replace HI:=hid (HI.out.nx hb);replace HS:=hid (HS.out.nx hb);replace HY:=hid (HY.out.nx hb);replace HFM:=hid (HFM.out.nx hb);replace HN:=hid (HN.out.clBelow hb);replace HPU:=hid (HPU.out.nx hb);replace HWA:=hid (HWA.out.nx hb);clear hb;obtain ⟨sc0,sc1,sc2,sc3,sc4,sc5⟩:=HS.out.o.cells;obtain ⟨yc0,yc1,yc2,yc3,yc4,yc5⟩:=HY.out.o.cells;obtain ⟨fc0,fc1,fc2,fc3,fc4,fc5⟩:=HFM.out.o.cells;obtain ⟨pc0,pc1,pc2,pc3,pc4,pc5⟩:=HPU.out.o.cells;obtain ⟨qc0,qc1,qc2,qc3,qc4,qc5⟩:=HWA.out.o.cells))
   go_ret
   exact ⟨rfl,HI.out.b⟩
end Go.Proofs.YtdpbgcmfeajigaaGreatDoor
