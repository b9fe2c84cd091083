/-
  Walk of head of layer 9.
-/
import Derived.Test.YtdpbgcmfeajigaaGreatDoorA32
set_option linter.unusedSimpArgs false
set_option linter.unusedVariables false
set_option maxHeartbeats 8000000
set_option maxRecDepth 100000
namespace Go.Proofs.YtdpbgcmfeajigaaGreatDoor
open Go.RowKit Go.Shelf
attribute [local go_sem] ak run_store_func
theorem bZ.qcI {W:World}{k n:Nat}{gs:List Fm}{sl:List (Option Addr×Nat)}{cs:Array Value}(hk:W.heap[k]?=some (.cells cs 24 (0,0)))(hcs:cs.toList=bQ gs sl)(hsl:sl.length=gs.length)(hn:n=gs.length)(hl:n<=1000000)
  (ha:∀i,i<gs.length->bZ W (Cl W) (gs.getD i default).args (sl.getD i (none,0)).1 (sl.getD i (none,0)).2):bZ W (Cl W) gs (some ⟨k,0,none⟩) n:=by
 refine(bZ.lit (base:=0) hk hcs hsl (Nat.zero_le _) hn hl λ i hi=>(ha i hi).mono λ x hx _=>⟨Nat.zero_le _,hx⟩).mono λ x hx _=>hx.2
theorem uT {W:World}{k:Nat}{f:Fm}{A:Option Addr}{c:Nat}(hk:W.heap[k]?=some (.cells #[.int .i64 f.op,.string f.name,.int .i64 f.val,.int .i64 f.bound,.slice A f.args.length c] 24 (0,0)))(ha:bZ W (Cl W) f.args A c):bZ W (Cl W) [f] (some ⟨k,0,none⟩) 1 :=
 bZ.qcI (sl := [(A,c)]) hk rfl rfl rfl (by omega) λ i hi=>by
  obtain rfl:i=0:=by simpa using hi
  exact ha
theorem Yq {W:World}{k:Nat}{f g:Fm}{A B:Option Addr}{c d:Nat}(hk:W.heap[k]?=some (.cells #[.int .i64 f.op,.string f.name,.int .i64 f.val,.int .i64 f.bound,.slice A f.args.length c,.int .i64 g.op,.string g.name,.int .i64 g.val,.int .i64 g.bound,.slice B g.args.length d] 24 (0,0)))(ha:bZ W (Cl W) f.args A c)(hb:bZ W (Cl W) g.args B d):bZ W (Cl W) [f,g] (some ⟨k,0,none⟩) 2 :=
 bZ.qcI (sl := [(A,c),(B,d)]) hk rfl rfl rfl (by omega) λ i hi=>by
  have:i=0\/i=1:=by simp at hi;omega
  rcases this with rfl|rfl
  ·exact ha
  ·exact hb
theorem two_any (w:World):Calls Tryz.prog 33 #[] w λ e w'=>∃b,e = .returned (.slice (some ⟨b,0,none⟩) 2 2)/\ng w' aW (some ⟨b,0,none⟩) 2 eL/\Below w.heap.size w w':=by
 go_enter Tryz.func33,Tryz.ntmps33
 go_wp2_with fail
 go_ret
 refine⟨w.heap.size,rfl,?_,(Below.refl _ _).alloc (Nat.le_refl _) _⟩;exact Rd.fresh (D:=aW) (n:=2) (size:=3) rfl trivial rfl (by omega)
structure HdI (w W:World) (A:Option Addr):Prop where
 b:Below w.heap.size w W
 g:GF W
 k:GK W
 l:ng W aW A 2 eL
theorem HdI.nx {w W W':World}{A:Option Addr}(h:HdI w W A)(hb:Below W.heap.size W W'):HdI w W' A:=⟨au h.b hb,h.g.below hb h.g.pos,h.k.below hb h.k.pos,h.l.any hb⟩
structure HdF (W:World) (k:Nat) (f:Fm) (A:Option Addr) (c:Nat):Prop where
 o:OB W k f.op f.name f.val f.bound A f.args.length c
 a:bZ W (Cl W) f.args A c
theorem HdF.nx {W W':World}{k:Nat}{f:Fm}{A:Option Addr}{c:Nat}(h:HdF W k f A c)(hb:Below W.heap.size W W'):HdF W' k f A c:=⟨h.o.below hb,h.a.aV hb⟩
structure Dp (W:World) (k:Nat) (f:Fm) (A:Option Addr) (c:Nat):Prop where
 o:OB W k f.op f.name f.val f.bound A f.args.length c
 a:bZ W aW f.args A c
theorem Dp.nx {W W':World}{k:Nat}{f:Fm}{A:Option Addr}{c:Nat}(h:Dp W k f A c)(hb:Below W.heap.size W W'):Dp W' k f A c:=⟨h.o.below hb,h.a.any hb⟩
theorem HdF.any {W:World}{k:Nat}{f:Fm}{A:Option Addr}{c:Nat}(h:HdF W k f A c):Dp W k f A c:=⟨h.o,h.a.mono λ _ _ _=>trivial⟩
theorem Dp.rd {W:World}{k:Nat}{f:Fm}{A:Option Addr}{c:Nat}(h:Dp W k f A c):bI W aW (.agg #[.int .i64 f.op,.string f.name,.int .i64 f.val,.int .i64 f.bound,.slice A f.args.length c]) f:=bI.cells5 h.a
theorem Dp.stored {WE:World}{fb:Nat}{f:Fm}{A:Option Addr}{c:Nat}(ho:OB WE fb 0 ⟨#[]⟩ 0 0 none 0 0)(ha:bZ WE aW f.args A c)(hn:∀g,g∈f.args->∃ins,allI Xu ins g) :
  Dp (((((WE.setCell ⟨fb,0,none⟩ (.int .i64 f.op)).setCell ⟨fb,1,none⟩ (.string f.name)).setCell ⟨fb,2,none⟩ (.int .i64 f.val)).setCell ⟨fb,3,none⟩ (.int .i64 f.bound)).setCell ⟨fb,4,none⟩ (.slice A f.args.length c)) fb f A c :=
 ⟨bF ho,((ha.avoid ho hn).keep ((aN _ _ _ _ _ _ _).keeps λ x _ hx hv=>hx.2 hv)).mono λ _ _ _=>trivial⟩
theorem IW:∀g,g∈(eF 1 1).args->∃ins,allI Xu ins g := λ g hg=>⟨false,by
 have h:((eF 1 1).args.all λ g=>(fA false g).all Xu)=true:=by decide +kernel
 exact List.all_eq_true.1 h g hg⟩
theorem YA:∀g,g∈(eF 0 0).args->∃ins,allI Xu ins g := λ g hg=>⟨false,by
 have h:((eF 0 0).args.all λ g=>(fA false g).all Xu)=true:=by decide +kernel
 exact List.all_eq_true.1 h g hg⟩
section
variable {W:World}{AL:Option Addr}{A:Option Addr}{c:Nat}{gs:List Fm}
theorem qbK {k:Nat}{B:Option Addr}{d:Nat}(h:Dp W k (eF 0 0) B d)(hg:GF W)(hk:GK W) :
  Calls Tryz.prog 10 #[.agg #[.int .i64 (eF 0 0).op,.string (eF 0 0).name,.int .i64 (eF 0 0).val,.int .i64 (eF 0 0).bound,.slice B (eF 0 0).args.length d]] W λ e w'=>∃A c,e = .returned (.slice A 2 c)/\bZ w' (Cl w') [eS 0,eY 0 0] A c/\Below W.heap.size W w':=by
 refine(Jq (eF 0 0) _ W h.rd hg hk).mono ?_;rintro e w' ⟨A,c,rfl,ha,hb⟩;rw[qbi]at ha⊢;exact⟨A,c,rfl,ha.mono λ _ hk _=>hk.2,hb⟩
theorem UA (h:bZ W (Cl W) [eS 0,eY 0 0] A c)(hg:GF W)(hk:GK W):Calls Tryz.prog 18 #[.slice A 2 c] W λ e w'=>e = .returned (.int .i64 0)/\Below W.heap.size W w':=by
 refine(JH [eS 0,eY 0 0] A c 2 W rfl h (λ _ h=>h) wR hg hk).mono ?_;rintro e w' ⟨rfl,hb⟩;rw[qbj];exact⟨rfl,hb⟩
theorem KO {n:Nat}(mem' x r:Int)(mem z:Nat)(hm:mem'=(mem:Int))(hr:r=(z:Int))(hz:rW (kL eL x) gs mem=z)(hL:lH gs=true)(hn:n=gs.length)(hmem:mem<2 ^ n)(h0:0<=x)(h1:x<4)(h:bZ W (Cl W) gs A c)(hl:ng W aW AL 2 eL)(hg:GF W)(hk:GK W) :
  Calls Tryz.prog 22 #[.slice AL 2 2,.slice A n c,.int .i64 mem',.int .i64 x] W λ e w'=>e = .returned (.int .i64 r)/\Below W.heap.size W w':=by
 subst hm hr;refine(Oh eL AL 2 2 gs A c n mem x W rfl hl hn h hL hg hk hmem h0 (by rw[BX];exact h1)).mono ?_;rintro e w' ⟨rfl,hb⟩;rw[hz];exact⟨rfl,hb⟩
theorem ZE {n k:Nat}{f:Fm}{B:Option Addr}{d:Nat}(mem' x:Int)(r:Bool)(mem:Nat)(hm:mem'=(mem:Int))(hr:fE (kL eL x) (bG gs mem) f=r)(hL:lH gs=true)(hn:n=gs.length)(hmem:mem<2 ^ n)(h0:0<=x)(h1:x<4)(hlo:bf f=true)(hp:allB iC f=true)(hin:∀g,g∈aY f->g∈gs)(hF:Dp W k f B d)(h:bZ W (Cl W) gs A c)(hl:ng W aW AL 2 eL)(hg:GF W)(hk:GK W) :
  Calls Tryz.prog 20 #[.slice AL 2 2,.slice A n c,.int .i64 mem',.int .i64 x,.agg #[.int .i64 f.op,.string f.name,.int .i64 f.val,.int .i64 f.bound,.slice B f.args.length d]] W λ e w'=>e = .returned (.bool r)/\Below W.heap.size W w':=by
 subst hm;refine(qbL eL AL 2 2 gs A c n mem x f _ W rfl hl hn h hL hg hk hmem h0 (by rw[BX];exact h1) hF.rd hlo hp hin).mono ?_;rintro e w' ⟨rfl,hb⟩;rw[hr];exact⟨rfl,hb⟩
theorem qcJ {k:Nat}{B:Option Addr}{d:Nat}(mem':Int)(mem:Nat)(g:Fm)(hm:mem'=(mem:Int))(hz:(if decide (mem<4)then qy [eS 0,eY 0 0] mem (eF 0 0)else dV)=g)(hF:Dp W k (eF 0 0) B d)(h:bZ W (Cl W) [eS 0,eY 0 0] A c)(hg:GF W)(hk:GK W) :
  Calls Tryz.prog 27 #[.slice A 2 c,.int .i64 mem',.agg #[.int .i64 (eF 0 0).op,.string (eF 0 0).name,.int .i64 (eF 0 0).val,.int .i64 (eF 0 0).bound,.slice B (eF 0 0).args.length d]] W λ e w'=>∃A c,e = .returned (.agg #[.int .i64 g.op,.string g.name,.int .i64 g.val,.int .i64 g.bound,.slice A g.args.length c])/\bZ w' aW g.args A c/\Below W.heap.size W w':=by
 refine(Uw [eS 0,eY 0 0] A c 2 mem' (eF 0 0) _ W rfl h wR hF.rd KC (by decide +kernel) hg hk (by decide +kernel) mem hm (decide (mem<4)) rfl).mono ?_;rintro e w' ⟨v,rfl,hb,A',c',rfl,ha⟩;rw[hz]at ha⊢;exact⟨A',c',rfl,ha.mono λ _ _ _=>trivial,hb⟩
end
theorem Lp {D E:Dom}(gs:List Fm)(A B:Option Addr)(n m c d:Nat)(w:World)(hn:n=gs.length)(hm:m=gs.length)(h:bZ w D gs A c)(h2:bZ w E gs B d) :
  Calls Tryz.prog 37 #[.slice A n c,.slice B m d] w λ e w'=>e = .returned (.bool true)/\Below w.heap.size w w':=by
 subst hn hm;have HA:=hid h.old;have HB:=hid h2.old;have hgl:=h.len.1;have d0:((gs.length:Int) !=(gs.length:Int))=false:=by simp
 clear h h2
 go_enter Tryz.func37,Tryz.ntmps37
 go_wp2_with fail
 go_loopw [5] (λ r wr=>∃k:Nat,k<=gs.length/\r = .int .i64 (k:Int)/\Below w.heap.size w wr) (λ r _=>gs.length-(intOf r).toNat)
 case atStart=>exact⟨0,Nat.zero_le _,rfl,by first|exact Below.refl _ _|go_grown⟩
 case round =>
  obtain⟨i,hi,rfl,hb⟩:=hrel;have bH:=hid hb;clear hb
  by_cases hlt:i<gs.length
  ·have hii:(i:Int)<(gs.length:Int):=by omega
   have hi0:(0:Int)<=(i:Int):=by omega
   obtain⟨b1,o1,A',c',f,rfl,HX,hf⟩:=(HA.out.keep (Keeps.of_below bH.out λ _ h=>h)).get hlt;obtain⟨b2,o2,B',d',g,rfl,HY,hg⟩:=(HB.out.keep (Keeps.of_below bH.out λ _ h=>h)).get hlt;obtain rfl:f=g:=HX.out.symm.trans HY.out;have HF:=hid hf;have HG:=hid hg
   have aI:Hid (∀W':World,Below wr.heap.size wr W'->W'.cell? ⟨b1,o1+i*5,none⟩=some (.int .i64 f.op)/\W'.cell? ⟨b1,o1+i*5+1,none⟩=some (.string f.name)/\W'.cell? ⟨b1,o1+i*5+2,none⟩=some (.int .i64 f.val)/\W'.cell? ⟨b1,o1+i*5+3,none⟩=some (.int .i64 f.bound)/\W'.cell? ⟨b1,o1+i*5+4,none⟩=some (.slice A' f.args.length c')/\W'.cell? ⟨b2,o2+i*5,none⟩=some (.int .i64 f.op)/\W'.cell? ⟨b2,o2+i*5+1,none⟩=some (.string f.name)/\W'.cell? ⟨b2,o2+i*5+2,none⟩=some (.int .i64 f.val)/\W'.cell? ⟨b2,o2+i*5+3,none⟩=some (.int .i64 f.bound)/\W'.cell? ⟨b2,o2+i*5+4,none⟩=some (.slice B' f.args.length d')):=hid λ W' hb=>by
    have hq:=HF.out.keep (Keeps.of_below hb λ k (hk:k<w.heap.size)=>Nat.lt_of_lt_of_le hk bH.out.size);have hr:=HG.out.keep (Keeps.of_below hb λ k (hk:k<w.heap.size)=>Nat.lt_of_lt_of_le hk bH.out.size);exact⟨hq.c0,hq.c1,hq.c2,hq.c3,hq.c4,hr.c0,hr.c1,hr.c2,hr.c3,hr.c4⟩
   have aX:Hid (∀W':World,Below wr.heap.size wr W'->Calls Tryz.prog 39 #[.agg #[.int .i64 f.op,.string f.name,.int .i64 f.val,.int .i64 f.bound,.slice A' f.args.length c'],.agg #[.int .i64 f.op,.string f.name,.int .i64 f.val,.int .i64 f.bound,.slice B' f.args.length d']] W' λ e w'=>e = .returned (.bool true)/\Below wr.heap.size wr w'):=hid λ W' hb=>by
    refine(CX f f _ _ W' (bI.cells5 (HF.out.keep (Keeps.of_below hb λ k (hk:k<w.heap.size)=>Nat.lt_of_lt_of_le hk bH.out.size)).args) (bI.cells5 (HG.out.keep (Keeps.of_below hb λ k (hk:k<w.heap.size)=>Nat.lt_of_lt_of_le hk bH.out.size)).args)).mono ?_;rintro e w' ⟨rfl,hb'⟩;exact⟨by rw[decide_eq_true (nC.2 rfl)],au hb hb'⟩
   have HI0:=hid (Below.refl wr.heap.size wr);have HI1:=hid (show Below wr.heap.size wr wr.drew from(Below.refl wr.heap.size wr).drew);have HI2:=hid (show∀i,Below wr.heap.size wr (wr.drewN i)from λ i=>below_drewN (Below.refl wr.heap.size wr) i);obtain⟨p0,p1,p2,p3,p4,r0,r1,r2,r3,r4⟩:=aI.out wr (Below.refl _ _);have hb1:=Nat.lt_of_lt_of_le hf.dom bH.out.size;have hb2:=Nat.lt_of_lt_of_le hg.dom bH.out.size;have dX:=hid hlt;clear hf hg HX HY hlt;go_upto_region 6 with(fail)
   go_region_held3 (λ W':World=>W'.cell? ⟨b1,o1+i*5,none⟩=some (.int .i64 f.op)/\W'.cell? ⟨b1,o1+i*5+1,none⟩=some (.string f.name)/\W'.cell? ⟨b1,o1+i*5+2,none⟩=some (.int .i64 f.val)/\W'.cell? ⟨b1,o1+i*5+3,none⟩=some (.int .i64 f.bound)/\W'.cell? ⟨b1,o1+i*5+4,none⟩=some (.slice A' f.args.length c')/\W'.cell? ⟨b2,o2+i*5,none⟩=some (.int .i64 f.op)/\W'.cell? ⟨b2,o2+i*5+1,none⟩=some (.string f.name)/\W'.cell? ⟨b2,o2+i*5+2,none⟩=some (.int .i64 f.val)/\W'.cell? ⟨b2,o2+i*5+3,none⟩=some (.int .i64 f.bound)/\W'.cell? ⟨b2,o2+i*5+4,none⟩=some (.slice B' f.args.length d'))
    (first|(with_reducible exact aI.out _ hI)|(go_keep;done))
    ((go_at_call 39;(with_reducible refine(aX.out _ (by first|exact HI0.out|exact HI1.out|exact HI2.out _)).mono ?_);rintro e W9 ⟨rfl,hI⟩))
   all_goals
    have rJ:=hid (au bH.out hI);clear p0 p1 p2 p3 p4 r0 r1 r2 r3 r4 hI;go_wp2_with fail
    go_roundw
    case rel=>exact⟨i+1,by have:=dX.out;omega,by go_num,rJ.out⟩
    case measure=>have:=dX.out;simp[intOf];omega
  ·have hii:¬(i:Int)<(gs.length:Int):=by omega
   clear hlt;go_wp2_with fail
   go_ret
   exact⟨rfl,bH.out⟩
theorem qeu {k m:Nat}{f:Fm}{A B:Option Addr}{c d:Nat}{W:World}(h:Dp W k f A c)(h2:Dp W m f B d) :
  Calls Tryz.prog 39 #[.agg #[.int .i64 f.op,.string f.name,.int .i64 f.val,.int .i64 f.bound,.slice A f.args.length c],.agg #[.int .i64 f.op,.string f.name,.int .i64 f.val,.int .i64 f.bound,.slice B f.args.length d]] W λ e w'=>e = .returned (.bool true)/\Below W.heap.size W w':=by
 refine(CX f f _ _ W h.rd h2.rd).mono ?_;rintro e w' ⟨rfl,hb⟩;exact⟨by rw[decide_eq_true (nC.2 rfl)],hb⟩
theorem NI {l:List Sg}(f:Fm)(h:fitAll l f=true):kP l f:=by
 refine Fm.pW (P := λ f=>fitAll l f=true->kP l f) ?_ f h;clear h f;intro f ih h;rw[I5,Bool.and_eq_true,mM]at h;refine .mk ?_ λ g hg=>ih g hg (h.2 g hg);intro e;have h1:=h.1;unfold NH at h1;rw[if_pos e]at h1;simp only[Bool.and_eq_true,decide_eq_true_eq]at h1;exact⟨h1.1.1,h1.2⟩
theorem qf3:fitAll eL (eF 0 0)=true:=by decide +kernel
theorem qf5:wC eL (eF 0 0):=row_of _ (iG KC) (by decide +kernel) (NI _ qf3)
theorem qcs {W:World}{kb:Nat}(h:W.heap[kb]?=some (.cells #[.int .i64 1] 3 (0,0))):yT W aW (.agg #[.slice none 0 0,.slice (some ⟨kb,0,none⟩) 1 1]) eW :=
 ⟨none,0,some ⟨kb,0,none⟩,1,rfl,jm.nil _ _ _ (by omega),jm.one (D:=aW) trivial (aj h (i:=0) rfl)⟩
theorem qbx {W:World}{AL B:Option Addr}{d k kb:Nat}(hF:Dp W k (eF 0 0) B d)(h:W.heap[kb]?=some (.cells #[.int .i64 1] 3 (0,0)))(hl:ng W aW AL 2 eL)(hg:GF W)(hk:GK W) :
  Calls Tryz.prog 21 #[.slice AL 2 2,.agg #[.int .i64 (eF 0 0).op,.string (eF 0 0).name,.int .i64 (eF 0 0).val,.int .i64 (eF 0 0).bound,.slice B (eF 0 0).args.length d],.agg #[.slice none 0 0,.slice (some ⟨kb,0,none⟩) 1 1],.int .i64 0] W λ e w'=>e = .returned (.bool true)/\Below W.heap.size W w':=by
 have h1:=uo eL AL 2 2 (eF 0 0) eW _ _ 0 W rfl hl hF.rd (qcs h) hg hk qf5 KC KD (by decide +kernel) (by rw[BX];exact YB) (by omega);rw[qbb]at h1;exact h1
theorem qev {W:World}{kb:Nat}(h:W.heap[kb]?=some (.cells #[.int .i64 1] 3 (0,0))) :
  Calls Tryz.prog 40 #[.int .i64 4,.agg #[.slice none 0 0,.slice (some ⟨kb,0,none⟩) 1 1]] W λ e w'=>e = .returned (.bool true)/\Below W.heap.size W w':=qaf true YB (qcs h)
theorem VD (w:World)(hg:GF w)(hk:GK w) :
  Calls Tryz.prog 8 #[] w λ e w'=>e = .returned (.bool true)/\Below w.heap.size w w':=by
 have HG:=hid hg;have HK:=hid hk;clear hg hk
 go_enter Tryz.func8,Tryz.ntmps8
 go_upto_region 2 with(go_at_call 33;(with_reducible refine(two_any _).mono ?_);rintro e W1 ⟨lb,rfl,hl,hb1⟩;have HI:=hid (show HdI w W1 (some ⟨lb,0,none⟩)from⟨hb1,HG.out.below hb1 HG.out.pos,HK.out.below hb1 HK.out.pos,hl⟩);clear hl hb1)
 go_upto_region 3 with(first
  | (go_at_call 35;(with_reducible refine(vG ⟨#[97]⟩ 1 _).mono ?_);rintro e U1 ⟨rfl,hb1⟩;have HB1:=hid hb1;clear hb1)
  | (go_at_call 35;(with_reducible refine(vG ⟨#[98]⟩ 1 _).mono ?_);rintro e U2 ⟨rfl,hb2⟩;have HB2:=hid hb2;clear hb2)
  | (go_at_call 34;(with_reducible refine(jA 16 0 _ 2 2 _).mono ?_);rintro e U3 ⟨rfl,hb3⟩;have HB3:=hid hb3;have hq:=(hb3.block _ (lt_of_block (at_new U2 _ _ rfl))).trans (at_new U2 _ _ rfl);have HQ:=hid hq;clear hb3 hq))
 refine aC λ W2 hW2=>?_;have hb:=(show Below U3.heap.size U3 W2 by rw[hW2];go_grown);have Qu:=hid (show∃A c,HdF W2 U3.heap.size (eS 0) A c from⟨some ⟨U2.heap.size,0,none⟩,2,by show W2.heap[_]?=_;rw[hW2];exact at_new _ _ _ rfl,Yq (f:=PI sA) (g:=PI sB) ((hb.block _ (lt_of_block HQ.out)).trans HQ.out) (bZ.nil _ _ _ (by omega)) (bZ.nil _ _ _ (by omega))⟩);replace HI:=hid (((HI.out.nx HB1.out).nx HB2.out).nx (((Below.refl U2.heap.size U2).alloc (Nat.le_refl _) _).trans (HB3.out.mono (by simp))) |>.nx hb);obtain⟨sb,hsb⟩:∃x,U3.heap.size=x:=⟨_,rfl⟩;rw[hsb]at Qu⊢;obtain⟨A1,c1,hF1⟩:=Qu.out;have HS:=hid hF1;clear hW2 hb hsb Qu hF1 HB1 HB2 HB3 HQ;obtain⟨x0,x1,x2,x3,x4,x5⟩:=HS.out.o.cells
 go_upto_region 4 with(go_at_call 34;(with_reducible refine(jA 15 0 _ 1 1 _).mono ?_);rintro e U3 ⟨rfl,hb3⟩;have HB3:=hid hb3;have hq:=(hb3.block _ (lt_of_block (at_new W2 _ _ rfl))).trans (at_new W2 _ _ rfl);have HQ:=hid hq;clear hb3 hq)
 refine aC λ W3 hW3=>?_;have hb:=(show Below U3.heap.size U3 W3 by rw[hW3];go_grown);have aT:=hid (show Below W2.heap.size W2 W3 from au (((Below.refl W2.heap.size W2).alloc (Nat.le_refl _) _).trans (HB3.out.mono (by simp))) hb);have Qu:=hid (show∃A c,HdF W3 U3.heap.size (eY 0 0) A c from⟨some ⟨W2.heap.size,0,none⟩,1,by show W3.heap[_]?=_;rw[hW3];exact at_new _ _ _ rfl,uT (f:=eS 0) ((hb.block _ (lt_of_block HQ.out)).trans HQ.out) (HS.out.nx aT.out).a⟩);replace HI:=hid (HI.out.nx aT.out);replace HS:=hid (HS.out.nx aT.out);obtain⟨yb,hyb⟩:∃x,U3.heap.size=x:=⟨_,rfl⟩;rw[hyb]at Qu⊢;obtain⟨A2,c2,hF1⟩:=Qu.out;have HY:=hid hF1;clear hW3 hb hyb Qu hF1 HB3 HQ aT x0 x1 x2 x3 x4 x5
 rename_i K4 hK4
 refine kF K4 [4,24,25,26] (λ us W'=>∃(fb:Nat) (A:Option Addr) (c:Nat),us 4 = .pointer (some ⟨fb,0,none⟩)/\Dp W' fb (eF 0 0) A c/\Below W3.heap.size W3 W') ?_ ?_
 rotate_left
 ·clear hK4
  intro hTL;have kH:=hid hTL;clear hTL;obtain⟨x0,x1,x2,x3,x4,x5⟩:=HY.out.o.cells;refine jC (λ W':World=>W'.cell? ⟨yb,0,none⟩=some (.int .i64 (eY 0 0).op)/\W'.cell? ⟨yb,1,none⟩=some (.string (eY 0 0).name)/\W'.cell? ⟨yb,2,none⟩=some (.int .i64 (eY 0 0).val)/\W'.cell? ⟨yb,3,none⟩=some (.int .i64 (eY 0 0).bound)/\W'.cell? ⟨yb,4,none⟩=some (.slice A2 (eY 0 0).args.length c2)) (by kernel_rfl) (by kernel_rfl) (by kernel_rfl) ⟨x0,x1,x2,x3,x4⟩ (λ hHeld=>?_);simp only[List.dropLast_cons_cons,List.dropLast_singleton,List.getLast_cons_cons,List.getLast_singleton];clear x0 x1 x2 x3 x4 x5;refine dS 1 ?_ rfl (by kernel_rfl) (λ _ _ _ h=>h) ?_ (by assumption) ?_
  rotate_left
  ·intro w hSw;(try dsimp only at hSw);go_simp;(try(with_reducible rfl))
  try simp only[Act.put,bn,bC,bD]
  refine wpAnyH_ready (rs := [0,3]) (by kernel_rfl) (by simp) (AllReadyH.cons rfl (λ K hK=>?_) (AllReadyH.cons rfl (λ K hK=>?_) AllReadyH.nil))
  ·go_simp
   (go_at_call 35;(with_reducible refine(vG ⟨#[97]⟩ 1 _).mono ?_);rintro e V1 ⟨rfl,hb1⟩;have sH:=hid (((Below.refl W3.heap.size W3).drew).trans (hb1.mono ((Below.refl W3.heap.size W3).drew).size));have X6:=hid hb1;clear hb1)
   go_wp2_with fail
   refine hK.out _ _ ?_ (λ hHeld=>?_)
   ·exact⟨(HY.out.nx (sH.out)).o.cells.1,(HY.out.nx (sH.out)).o.cells.2.1,(HY.out.nx (sH.out)).o.cells.2.2.1,(HY.out.nx (sH.out)).o.cells.2.2.2.1,(HY.out.nx (sH.out)).o.cells.2.2.2.2.1⟩
   clear hK K
   try simp only[Act.put,bn,bC,bD]
   refine wpAnyH_ready (rs := [2,3]) (by kernel_rfl) (by simp) (AllReadyH.cons rfl (λ K hK=>?_) (AllReadyH.cons rfl (λ K hK=>?_) AllReadyH.nil))
   ·go_simp
    (go_at_call 36;(with_reducible refine(nN 6 (PI sA) (eY 0 0) _ _ _ ?_ ?_).mono ?_);exact⟨none,0,rfl,bZ.nil _ _ _ (by omega)⟩;exact(HY.out.any.nx (sH.out)).rd;rintro e V2 ⟨v,rfl,⟨A3,c3,rfl,wJ⟩,hb1⟩;have pJ:=hid wJ;have yR:=hid ((sH.out).trans (hb1.mono (sH.out).size));have qaY:=hid hb1;clear hb1 wJ)
    go_wp2_with fail
    refine hK.out _ _ ?_ (λ hHeld=>?_)
    ·exact⟨(HY.out.nx (yR.out)).o.cells.1,(HY.out.nx (yR.out)).o.cells.2.1,(HY.out.nx (yR.out)).o.cells.2.2.1,(HY.out.nx (yR.out)).o.cells.2.2.2.1,(HY.out.nx (yR.out)).o.cells.2.2.2.2.1⟩
    clear hK K
    try simp only[Act.put,bn,bC,bD]
    refine lK 3 (by kernel_rfl) rfl λ K hK=>?_
    go_simp
    refine hK.out _ _ ?_ (λ hHeld=>?_)
    ·exact⟨(HY.out.nx ((yR.out).alloc (yR.out).size _)).o.cells.1,(HY.out.nx ((yR.out).alloc (yR.out).size _)).o.cells.2.1,(HY.out.nx ((yR.out).alloc (yR.out).size _)).o.cells.2.2.1,(HY.out.nx ((yR.out).alloc (yR.out).size _)).o.cells.2.2.2.1,(HY.out.nx ((yR.out).alloc (yR.out).size _)).o.cells.2.2.2.2.1⟩
    clear hK K
    try simp only[Act.put,bn,bC,bD]
    refine dR (λ VA hwA hHeld=>?_) hHeld;have iL:=hid (show OB VA V2.heap.size 0 ⟨#[]⟩ 0 0 none 0 0 by show VA.heap[_]?=_;rw[hwA];exact at_new _ _ _ rfl);have PE:=hid (show Below W3.heap.size W3 VA by rw[hwA];exact(yR.out).alloc (yR.out).size _);have qdF:=hid (show Below V2.heap.size V2 VA by rw[hwA];first|exact(Below.refl _ _).alloc (Nat.le_refl _) _|exact(Below.refl _ _).drew.alloc (Nat.le_refl _) _);obtain⟨fb,hfb⟩:∃x,V2.heap.size=x:=⟨_,rfl⟩;have UG:=hid (show W3.heap.size<=fb by rw[<-hfb];exact(yR.out).size);rw[hfb]at iL⊢;clear hwA hfb;have ET:=hid (show OB VA fb 0 ⟨#[]⟩ 0 0 none 0 0 from iL.out);have dW:=hid PE.out;have Pv:=hid (show bZ VA aW (eF 0 0).args A3 c3 from pJ.out.any qdF.out)
    obtain⟨z0,z1,z2,z3,z4,z5⟩:=ET.out.cells;have y0:=ET.out.free 0;have y1:=ET.out.free 1;have y2:=ET.out.free 2;have y3:=ET.out.free 3;have y4:=ET.out.free 4;refine wpAnyH_done (by kernel_rfl) ?_ _;unfold kZ
    go_simp
    go_wp2_with fail
    refine aO kH.out ?_ ?_
    ·exact⟨fb,A3,c3,rfl,Dp.stored (f:=eF 0 0) ET.out Pv.out YA,dW.out.trans ((aN _ _ _ _ _ _ _).below (λ x hx h=>by have h':x=fb:=h;have:=UG.out;omega) dW.out.size)⟩
    ·kernel_rfl
   ·go_simp
    refine hK.out _ _ ?_ (λ hHeld=>?_)
    ·exact⟨(HY.out.nx ((sH.out).alloc (sH.out).size _)).o.cells.1,(HY.out.nx ((sH.out).alloc (sH.out).size _)).o.cells.2.1,(HY.out.nx ((sH.out).alloc (sH.out).size _)).o.cells.2.2.1,(HY.out.nx ((sH.out).alloc (sH.out).size _)).o.cells.2.2.2.1,(HY.out.nx ((sH.out).alloc (sH.out).size _)).o.cells.2.2.2.2.1⟩
    clear hK K
    try simp only[Act.put,bn,bC,bD]
    refine dR (λ VA hwA hHeld=>?_) hHeld;have iL:=hid (show OB VA V1.heap.size 0 ⟨#[]⟩ 0 0 none 0 0 by show VA.heap[_]?=_;rw[hwA];exact at_new _ _ _ rfl);have PE:=hid (show Below W3.heap.size W3 VA by rw[hwA];exact(sH.out).alloc (sH.out).size _);have qdF:=hid (show Below V1.heap.size V1 VA by rw[hwA];first|exact(Below.refl _ _).alloc (Nat.le_refl _) _|exact(Below.refl _ _).drew.alloc (Nat.le_refl _) _);obtain⟨fb,hfb⟩:∃x,V1.heap.size=x:=⟨_,rfl⟩;have UG:=hid (show W3.heap.size<=fb by rw[<-hfb];exact(sH.out).size);rw[hfb]at iL⊢;clear hwA hfb;refine lK 2 (by kernel_rfl) rfl λ K hK=>?_
    go_simp
    (go_at_call 36;(with_reducible refine(nN 6 (PI sA) (eY 0 0) _ _ _ ?_ ?_).mono ?_);exact⟨none,0,rfl,bZ.nil _ _ _ (by omega)⟩;exact(HY.out.any.nx (PE.out)).rd;rintro e V2 ⟨v,rfl,⟨A3,c3,rfl,wJ⟩,hb1⟩;have pJ:=hid wJ;have yR:=hid ((PE.out).trans (hb1.mono (PE.out).size));have qaY:=hid hb1;clear hb1 wJ)
    go_wp2_with fail
    refine hK.out _ _ ?_ (λ hHeld=>?_)
    ·exact⟨(HY.out.nx (yR.out)).o.cells.1,(HY.out.nx (yR.out)).o.cells.2.1,(HY.out.nx (yR.out)).o.cells.2.2.1,(HY.out.nx (yR.out)).o.cells.2.2.2.1,(HY.out.nx (yR.out)).o.cells.2.2.2.2.1⟩
    clear hK K
    try simp only[Act.put,bn,bC,bD]
    have ET:=hid (show OB V2 fb 0 ⟨#[]⟩ 0 0 none 0 0 from iL.out.below qaY.out);have dW:=hid yR.out;have Pv:=hid (show bZ V2 aW (eF 0 0).args A3 c3 from pJ.out);obtain⟨z0,z1,z2,z3,z4,z5⟩:=ET.out.cells;have y0:=ET.out.free 0;have y1:=ET.out.free 1;have y2:=ET.out.free 2;have y3:=ET.out.free 3;have y4:=ET.out.free 4;refine wpAnyH_done (by kernel_rfl) ?_ _;unfold kZ
    go_simp
    go_wp2_with fail
    refine aO kH.out ?_ ?_
    ·exact⟨fb,A3,c3,rfl,Dp.stored (f:=eF 0 0) ET.out Pv.out YA,dW.out.trans ((aN _ _ _ _ _ _ _).below (λ x hx h=>by have h':x=fb:=h;have:=UG.out;omega) dW.out.size)⟩
    ·kernel_rfl
  ·go_simp
   refine hK.out _ _ ?_ (λ hHeld=>?_)
   ·exact⟨(HY.out.nx (((Below.refl W3.heap.size W3).drew).alloc ((Below.refl W3.heap.size W3).drew).size _)).o.cells.1,(HY.out.nx (((Below.refl W3.heap.size W3).drew).alloc ((Below.refl W3.heap.size W3).drew).size _)).o.cells.2.1,(HY.out.nx (((Below.refl W3.heap.size W3).drew).alloc ((Below.refl W3.heap.size W3).drew).size _)).o.cells.2.2.1,(HY.out.nx (((Below.refl W3.heap.size W3).drew).alloc ((Below.refl W3.heap.size W3).drew).size _)).o.cells.2.2.2.1,(HY.out.nx (((Below.refl W3.heap.size W3).drew).alloc ((Below.refl W3.heap.size W3).drew).size _)).o.cells.2.2.2.2.1⟩
   clear hK K
   try simp only[Act.put,bn,bC,bD]
   refine dR (λ VA hwA hHeld=>?_) hHeld;have iL:=hid (show OB VA W3.heap.size 0 ⟨#[]⟩ 0 0 none 0 0 by show VA.heap[_]?=_;rw[hwA];exact at_new _ _ _ rfl);have PE:=hid (show Below W3.heap.size W3 VA by rw[hwA];exact((Below.refl W3.heap.size W3).drew).alloc ((Below.refl W3.heap.size W3).drew).size _);have qdF:=hid (show Below W3.heap.size W3 VA by rw[hwA];first|exact(Below.refl _ _).alloc (Nat.le_refl _) _|exact(Below.refl _ _).drew.alloc (Nat.le_refl _) _);obtain⟨fb,hfb⟩:∃x,W3.heap.size=x:=⟨_,rfl⟩;have UG:=hid (show W3.heap.size<=fb by rw[<-hfb];exact((Below.refl W3.heap.size W3).drew).size);rw[hfb]at iL⊢;clear hwA hfb;refine lK 0 (by kernel_rfl) rfl λ K hK=>?_
   go_simp
   (go_at_call 35;(with_reducible refine(vG ⟨#[97]⟩ 1 _).mono ?_);rintro e V1 ⟨rfl,hb1⟩;have sH:=hid ((PE.out).trans (hb1.mono (PE.out).size));have X6:=hid hb1;clear hb1)
   go_wp2_with fail
   refine hK.out _ _ ?_ (λ hHeld=>?_)
   ·exact⟨(HY.out.nx (sH.out)).o.cells.1,(HY.out.nx (sH.out)).o.cells.2.1,(HY.out.nx (sH.out)).o.cells.2.2.1,(HY.out.nx (sH.out)).o.cells.2.2.2.1,(HY.out.nx (sH.out)).o.cells.2.2.2.2.1⟩
   clear hK K
   try simp only[Act.put,bn,bC,bD]
   refine lK 2 (by kernel_rfl) rfl λ K hK=>?_
   go_simp
   (go_at_call 36;(with_reducible refine(nN 6 (PI sA) (eY 0 0) _ _ _ ?_ ?_).mono ?_);exact⟨none,0,rfl,bZ.nil _ _ _ (by omega)⟩;exact(HY.out.any.nx (sH.out)).rd;rintro e V2 ⟨v,rfl,⟨A3,c3,rfl,wJ⟩,hb1⟩;have pJ:=hid wJ;have yR:=hid ((sH.out).trans (hb1.mono (sH.out).size));have qaY:=hid hb1;clear hb1 wJ)
   go_wp2_with fail
   refine hK.out _ _ ?_ (λ hHeld=>?_)
   ·exact⟨(HY.out.nx (yR.out)).o.cells.1,(HY.out.nx (yR.out)).o.cells.2.1,(HY.out.nx (yR.out)).o.cells.2.2.1,(HY.out.nx (yR.out)).o.cells.2.2.2.1,(HY.out.nx (yR.out)).o.cells.2.2.2.2.1⟩
   clear hK K
   try simp only[Act.put,bn,bC,bD]
   have ET:=hid (show OB V2 fb 0 ⟨#[]⟩ 0 0 none 0 0 from(iL.out.below X6.out).below qaY.out);have dW:=hid yR.out;have Pv:=hid (show bZ V2 aW (eF 0 0).args A3 c3 from pJ.out);obtain⟨z0,z1,z2,z3,z4,z5⟩:=ET.out.cells;have y0:=ET.out.free 0;have y1:=ET.out.free 1;have y2:=ET.out.free 2;have y3:=ET.out.free 3;have y4:=ET.out.free 4;refine wpAnyH_done (by kernel_rfl) ?_ _;unfold kZ
   go_simp
   go_wp2_with fail
   refine aO kH.out ?_ ?_
   ·exact⟨fb,A3,c3,rfl,Dp.stored (f:=eF 0 0) ET.out Pv.out YA,dW.out.trans ((aN _ _ _ _ _ _ _).below (λ x hx h=>by have h':x=fb:=h;have:=UG.out;omega) dW.out.size)⟩
   ·kernel_rfl
 ·rintro us W4 ⟨fb,A3,c3,hus,hF,hb⟩
  apply hK4;simp only[jL,Act.put,List.setIfInBounds_toArray,List.set_cons_zero,List.set_cons_succ];rw[hus];clear hK4 K4 hus;replace HI:=hid (HI.out.nx hb);replace HS:=hid (HS.out.nx hb);replace HY:=hid (HY.out.nx hb);have gG:=hid hF;clear hF hb;obtain⟨x0,x1,x2,x3,x4,x5⟩:=gG.out.o.cells;go_upto_region 6 with(go_at_call 10;(with_reducible refine(qbK gG.out HI.out.g HI.out.k).mono ?_);rintro e W5 ⟨A5,c5,rfl,ha,hb⟩;have HN:=hid ha;replace HI:=hid (HI.out.nx hb);replace HS:=hid (HS.out.nx hb);replace HY:=hid (HY.out.nx hb);replace gG:=hid (gG.out.nx hb);clear ha hb x0 x1 x2 x3 x4 x5)
  clear W4;obtain⟨x0,x1,x2,x3,x4,x5⟩:=HS.out.o.cells;obtain⟨y0,y1,y2,y3,y4,y5⟩:=HY.out.o.cells
  go_upto_region 8 with(go_at_call 37;(with_reducible refine(Lp (D:=aW) (E:=aW) [eS 0,eY 0 0] _ _ 2 2 _ _ _ ?_ ?_ ?_ ?_).mono ?_);rfl;rfl;exact HN.out.any ((Below.refl _ _).alloc (Nat.le_refl _) _);exact(Yq (f:=eS 0) (g:=eY 0 0) (at_new _ _ _ rfl) (HS.out.nx ((Below.refl _ _).alloc (Nat.le_refl _) _)).a (HY.out.nx ((Below.refl _ _).alloc (Nat.le_refl _) _)).a).mono λ _ _ _=>trivial;rintro e W6 ⟨rfl,hb1⟩;have hb:=au ((Below.refl W5.heap.size W5).alloc (Nat.le_refl _) _) hb1;replace HI:=hid (HI.out.nx hb);replace HS:=hid (HS.out.nx hb);replace HY:=hid (HY.out.nx hb);replace gG:=hid (gG.out.nx hb);replace HN:=hid (HN.out.aV hb);clear hb hb1 x0 x1 x2 x3 x4 x5 y0 y1 y2 y3 y4 y5)
  go_upto_region 9 with(go_at_call 38;(with_reducible refine(N8 (D:=aW) (E:=aW) eL [0,1] _ 2 2 _ 2 2 _ ?_ ?_ ?_ ?_ ?_ ?_ ?_).mono ?_);rfl;exact HI.out.l.any ((Below.refl _ _).alloc (Nat.le_refl _) _);rfl;exact Rd.fresh (D:=aW) (n:=2) (size:=1) rfl trivial rfl (by omega);exact HI.out.k.below ((Below.refl _ _).alloc (Nat.le_refl _) _) HI.out.k.pos;exact KD;exact Uc.2;rw[Uc.1];rintro e W7 ⟨rfl,hb1⟩;have hb:=au ((Below.refl W6.heap.size W6).alloc (Nat.le_refl _) _) hb1;replace HI:=hid (HI.out.nx hb);replace HS:=hid (HS.out.nx hb);replace HY:=hid (HY.out.nx hb);replace gG:=hid (gG.out.nx hb);replace HN:=hid (HN.out.aV hb);clear hb hb1)
  go_upto_region 10 with(go_at_call 38;(with_reducible refine(N8 (D:=aW) (E:=aW) eL [1,0] _ 2 2 _ 2 2 _ ?_ ?_ ?_ ?_ ?_ ?_ ?_).mono ?_);rfl;exact HI.out.l.any ((Below.refl _ _).alloc (Nat.le_refl _) _);rfl;exact Rd.fresh (D:=aW) (n:=2) (size:=1) rfl trivial rfl (by omega);exact HI.out.k.below ((Below.refl _ _).alloc (Nat.le_refl _) _) HI.out.k.pos;exact KD;exact Ud.2;rw[Ud.1];rintro e W8 ⟨rfl,hb1⟩;have hb:=au ((Below.refl W7.heap.size W7).alloc (Nat.le_refl _) _) hb1;replace HI:=hid (HI.out.nx hb);replace HS:=hid (HS.out.nx hb);replace HY:=hid (HY.out.nx hb);replace gG:=hid (gG.out.nx hb);replace HN:=hid (HN.out.aV hb);clear hb hb1)
  go_upto_region 11 with(first
   | (go_at_call 18;(with_reducible refine(UA HN.out HI.out.g HI.out.k).mono ?_);rintro e W9 ⟨rfl,hb⟩;replace HI:=hid (HI.out.nx hb);replace HS:=hid (HS.out.nx hb);replace HY:=hid (HY.out.nx hb);replace gG:=hid (gG.out.nx hb);replace HN:=hid (HN.out.aV hb);clear hb)
   | (go_at_call 22;(with_reducible refine(KO (gs := [eS 0,eY 0 0]) (n:=2) 0 2 3 0 3 ?_ ?_ qbe wR ?_ ?_ ?_ ?_ ?_ ?_ ?_ ?_).mono ?_);rfl;rfl;rfl;decide;decide;decide;exact HN.out;exact HI.out.l;exact HI.out.g;exact HI.out.k;rintro e Hq ⟨rfl,hb⟩;replace HI:=hid (HI.out.nx hb);replace HS:=hid (HS.out.nx hb);replace HY:=hid (HY.out.nx hb);replace gG:=hid (gG.out.nx hb);replace HN:=hid (HN.out.aV hb);clear hb))
  go_upto_region 12 with(go_at_call 22;(with_reducible refine(KO (gs := [eS 0,eY 0 0]) (n:=2) 3 1 3 3 3 ?_ ?_ qbf wR ?_ ?_ ?_ ?_ ?_ ?_ ?_ ?_).mono ?_);rfl;rfl;rfl;decide;decide;decide;exact HN.out;exact HI.out.l;exact HI.out.g;exact HI.out.k;rintro e W11 ⟨rfl,hb⟩;replace HI:=hid (HI.out.nx hb);replace HS:=hid (HS.out.nx hb);replace HY:=hid (HY.out.nx hb);replace gG:=hid (gG.out.nx hb);replace HN:=hid (HN.out.aV hb);clear hb)
  go_upto_region 13 with(go_at_call 22;(with_reducible refine(KO (gs := [eS 0,eY 0 0]) (n:=2) 3 0 0 3 0 ?_ ?_ qbg wR ?_ ?_ ?_ ?_ ?_ ?_ ?_ ?_).mono ?_);rfl;rfl;rfl;decide;decide;decide;exact HN.out;exact HI.out.l;exact HI.out.g;exact HI.out.k;rintro e W12 ⟨rfl,hb⟩;replace HI:=hid (HI.out.nx hb);replace HS:=hid (HS.out.nx hb);replace HY:=hid (HY.out.nx hb);replace gG:=hid (gG.out.nx hb);replace HN:=hid (HN.out.aV hb);clear hb)
  go_upto_region 14 with(first
   | (go_at_call 35;(with_reducible refine(vG ⟨#[97]⟩ 1 _).mono ?_);rintro e U1 ⟨rfl,hb⟩;replace HI:=hid (HI.out.nx hb);replace HS:=hid (HS.out.nx hb);replace HY:=hid (HY.out.nx hb);replace gG:=hid (gG.out.nx hb);replace HN:=hid (HN.out.aV hb);clear hb)
   | (go_at_call 34;(with_reducible refine(jA 15 1 _ 1 1 _).mono ?_);rintro e U2 ⟨rfl,hb1⟩;have hq:=(hb1.block _ (lt_of_block (at_new U1 _ _ rfl))).trans (at_new U1 _ _ rfl);have HQ:=hid hq;have hb:=au ((Below.refl U1.heap.size U1).alloc (Nat.le_refl _) _) hb1;replace HI:=hid (HI.out.nx hb);replace HS:=hid (HS.out.nx hb);replace HY:=hid (HY.out.nx hb);replace gG:=hid (gG.out.nx hb);replace HN:=hid (HN.out.aV hb);clear hb hb1 hq)
   | (go_at_call 22;(with_reducible refine(KO (gs := [eT]) (n:=1) 1 0 0 1 0 ?_ ?_ qbh qbc ?_ ?_ ?_ ?_ ?_ ?_ ?_ ?_).mono ?_);rfl;rfl;rfl;decide;decide;decide;exact uT (f:=eT) (at_new _ _ _ rfl) (uT (f:=PI sA) (((Below.refl U2.heap.size U2).alloc (Nat.le_refl _) _).block _ (lt_of_block HQ.out) |>.trans HQ.out) (bZ.nil _ _ _ (by omega)));exact HI.out.l.any ((Below.refl _ _).alloc (Nat.le_refl _) _);exact HI.out.g.below ((Below.refl _ _).alloc (Nat.le_refl _) _) HI.out.g.pos;exact HI.out.k.below ((Below.refl _ _).alloc (Nat.le_refl _) _) HI.out.k.pos;rintro e W13 ⟨rfl,hb1⟩;have hb:=au ((Below.refl U2.heap.size U2).alloc (Nat.le_refl _) _) hb1;replace HI:=hid (HI.out.nx hb);replace HS:=hid (HS.out.nx hb);replace HY:=hid (HY.out.nx hb);replace gG:=hid (gG.out.nx hb);replace HN:=hid (HN.out.aV hb);clear hb hb1 HQ))
  obtain⟨x0,x1,x2,x3,x4,x5⟩:=gG.out.o.cells;go_upto_region 15 with(go_at_call 27;(with_reducible refine(qcJ 3 3 (eF 1 1) ?_ ?_ gG.out HN.out HI.out.g HI.out.k).mono ?_);rfl;exact qf4;rintro e U3 ⟨A6,c6,rfl,ha,hb⟩;have HA6:=hid ha;replace HI:=hid (HI.out.nx hb);replace HS:=hid (HS.out.nx hb);replace HY:=hid (HY.out.nx hb);replace gG:=hid (gG.out.nx hb);replace HN:=hid (HN.out.aV hb);clear hb ha x0 x1 x2 x3 x4 x5)
  refine aC λ Ko qd4=>?_;have hb:=(show Below U3.heap.size U3 Ko by rw[qd4];go_grown);obtain⟨pb,hpb⟩:∃x,U3.heap.size=x:=⟨_,rfl⟩;have jD:=hid (show Dp Ko pb (eF 1 1) A6 c6 from⟨by show Ko.heap[_]?=_;rw[qd4,<-hpb];exact at_new _ _ _ rfl,HA6.out.any hb⟩);rw[hpb];replace HI:=hid (HI.out.nx hb);replace HS:=hid (HS.out.nx hb);replace HY:=hid (HY.out.nx hb);replace gG:=hid (gG.out.nx hb);replace HN:=hid (HN.out.aV hb);clear qd4 hb hpb HA6
  rename_i K15 KG
  refine kF K15 (15 :: List.range' 76 7) (λ us W'=>∃(wb:Nat) (A:Option Addr) (c:Nat),us 15 = .pointer (some ⟨wb,0,none⟩)/\Dp W' wb (eF 1 1) A c/\Below Ko.heap.size Ko W') ?_ ?_
  rotate_left
  ·clear KG
   intro hTL;have kH:=hid hTL;clear hTL;have s4:=HS.out.o.cells.2.2.2.2.1;have s5:=HS.out.o.cells.2.2.2.2.2;have HV:=hid (Below.refl Ko.heap.size Ko);refine jC (λ W':World=>W'.cell? ⟨sb,4,none⟩=some (.slice A1 (eS 0).args.length c1)) (by kernel_rfl) (by kernel_rfl) (by kernel_rfl) s4 (λ hHeld=>?_);simp only[List.dropLast_cons_cons,List.dropLast_singleton,List.getLast_cons_cons,List.getLast_singleton];clear s4;refine dS 1 ?_ rfl (by kernel_rfl) (λ _ _ _ h=>h) ?_ (by assumption) ?_
   rotate_left
   ·intro w hSw;(try dsimp only at hSw);go_simp;(try(with_reducible rfl))
   try simp only[Act.put,bn,bC,bD]
   refine dS 2 ?_ rfl (by kernel_rfl) (λ _ _ _ h=>h) ?_ (by assumption) ?_
   rotate_left
   ·intro w hSw;(try dsimp only at hSw);go_simp;(try(with_reducible rfl))
   try simp only[Act.put,bn,bC,bD]
   refine dR (λ V0 hwA hHeld=>?_) hHeld;have hb:Below Ko.heap.size Ko V0:=by rw[hwA];exact(Below.refl _ _).drew
   clear hwA;replace HI:=hid (HI.out.nx hb);replace HS:=hid (HS.out.nx hb);replace HY:=hid (HY.out.nx hb);replace gG:=hid (gG.out.nx hb);replace HN:=hid (HN.out.aV hb);replace jD:=hid (jD.out.nx hb);replace HV:=hid (au HV.out hb);clear hb;refine wpAnyH_ready (rs := [0,7]) (by kernel_rfl) (by simp) (AllReadyH.cons rfl (λ K hK=>?_) (AllReadyH.cons rfl (λ K hK=>?_) AllReadyH.nil))
   ·go_simp
    (go_at_call 35;(with_reducible refine(vG ⟨#[97]⟩ 1 _).mono ?_);rintro e Y1 ⟨rfl,hb⟩;replace HI:=hid (HI.out.nx hb);replace HS:=hid (HS.out.nx hb);replace HY:=hid (HY.out.nx hb);replace gG:=hid (gG.out.nx hb);replace HN:=hid (HN.out.aV hb);replace jD:=hid (jD.out.nx hb);replace HV:=hid (au HV.out hb);clear hb)
    go_wp2_with fail
    refine hK.out _ _ ?_ (λ hHeld=>?_)
    ·exact HS.out.o.cells.2.2.2.2.1
    clear hK K
    try simp only[Act.put,bn,bC,bD]
    refine wpAnyH_ready (rs := [3,7]) (by kernel_rfl) (by simp) (AllReadyH.cons rfl (λ K hK=>?_) (AllReadyH.cons rfl (λ K hK=>?_) AllReadyH.nil))
    ·go_simp
     (go_at_call 34;(with_reducible refine(jA 16 1 _ (eS 0).args.length c1 _).mono ?_);rintro e Y2 ⟨rfl,hb⟩;replace HI:=hid (HI.out.nx hb);replace HS:=hid (HS.out.nx hb);replace HY:=hid (HY.out.nx hb);replace gG:=hid (gG.out.nx hb);replace HN:=hid (HN.out.aV hb);replace jD:=hid (jD.out.nx hb);replace HV:=hid (au HV.out hb);clear hb)
     go_wp2_with fail
     refine hK.out _ _ ?_ (λ hHeld=>?_)
     ·exact HS.out.o.cells.2.2.2.2.1
     clear hK K
     try simp only[Act.put,bn,bC,bD]
     refine wpAnyH_ready (rs := [4,7]) (by kernel_rfl) (by simp) (AllReadyH.cons rfl (λ K hK=>?_) (AllReadyH.cons rfl (λ K hK=>?_) AllReadyH.nil))
     ·have zV:=hid HV.out.size
      go_simp
      refine hK.out _ _ ?_ (λ hHeld=>?_)
      ·exact(HS.out.nx ((Below.refl Y2.heap.size Y2).alloc (Nat.le_refl _) _)).o.cells.2.2.2.2.1
      clear hK K
      try simp only[Act.put,bn,bC,bD]
      refine dR (λ Y3 hwA hHeld=>?_) hHeld;have hb:Below Y2.heap.size Y2 Y3:=by rw[hwA];exact(Below.refl _ _).alloc (Nat.le_refl _) _
      have HQ:=hid (show Y3.heap[Y2.heap.size]?=some (.cells #[.int .i64 (eS 1).op,.string (eS 1).name,.int .i64 (eS 1).val,.int .i64 (eS 1).bound,.slice A1 (eS 1).args.length c1] 24 (0,0))by show Y3.heap[_]?=_;rw[hwA];exact at_new _ _ _ rfl);replace HI:=hid (HI.out.nx hb);replace HS:=hid (HS.out.nx hb);replace HY:=hid (HY.out.nx hb);replace gG:=hid (gG.out.nx hb);replace HN:=hid (HN.out.aV hb);replace jD:=hid (jD.out.nx hb);replace HV:=hid (au HV.out hb);obtain⟨zb,hzb⟩:∃x,Y2.heap.size=x:=⟨_,rfl⟩;have Hzb:=hid (show Ko.heap.size<=zb by rw[<-hzb];exact zV.out);rw[hzb]at HQ⊢;clear hwA hb hzb zV
      refine wpAnyH_ready (rs := [5,7]) (by kernel_rfl) (by simp) (AllReadyH.cons rfl (λ K hK=>?_) (AllReadyH.cons rfl (λ K hK=>?_) AllReadyH.nil))
      ·go_simp
       (go_at_call 34;(with_reducible refine(jA 15 1 _ 1 1 _).mono ?_);rintro e Y4 ⟨rfl,hb⟩;replace HI:=hid (HI.out.nx hb);replace HS:=hid (HS.out.nx hb);replace HY:=hid (HY.out.nx hb);replace gG:=hid (gG.out.nx hb);replace HN:=hid (HN.out.aV hb);replace jD:=hid (jD.out.nx hb);replace HV:=hid (au HV.out hb);replace HQ:=hid ((hb.block _ (lt_of_block HQ.out)).trans HQ.out);clear hb)
       go_wp2_with fail
       refine hK.out _ _ ?_ (λ hHeld=>?_)
       ·exact HS.out.o.cells.2.2.2.2.1
       clear hK K
       try simp only[Act.put,bn,bC,bD]
       refine wpAnyH_ready (rs := [6,7]) (by kernel_rfl) (by simp) (AllReadyH.cons rfl (λ K hK=>?_) (AllReadyH.cons rfl (λ K hK=>?_) AllReadyH.nil))
       ·go_simp
        (go_at_call 36;(with_reducible refine(nN 6 (PI sA) (eY 1 1) _ _ _ ?_ ?_).mono ?_);exact⟨none,0,rfl,bZ.nil _ _ _ (by omega)⟩;exact⟨_,_,rfl,(uT (f:=eS 1) HQ.out HS.out.a).mono λ _ _ _=>trivial⟩;rintro e Y5 ⟨v,rfl,⟨A3,c3,rfl,wJ⟩,hb⟩;replace HI:=hid (HI.out.nx hb);replace HS:=hid (HS.out.nx hb);replace HY:=hid (HY.out.nx hb);replace gG:=hid (gG.out.nx hb);replace HN:=hid (HN.out.aV hb);replace jD:=hid (jD.out.nx hb);replace HV:=hid (au HV.out hb);replace HQ:=hid ((hb.block _ (lt_of_block HQ.out)).trans HQ.out);have pJ:=hid wJ;clear wJ;clear hb)
        go_wp2_with fail
        refine hK.out _ _ ?_ (λ hHeld=>?_)
        ·exact HS.out.o.cells.2.2.2.2.1
        clear hK K
        try simp only[Act.put,bn,bC,bD]
        refine lK 7 (by kernel_rfl) rfl λ K hK=>?_;have zV:=hid HV.out.size
        go_simp
        refine hK.out _ _ ?_ (λ hHeld=>?_)
        ·exact(HS.out.nx ((Below.refl Y5.heap.size Y5).alloc (Nat.le_refl _) _)).o.cells.2.2.2.2.1
        clear hK K
        try simp only[Act.put,bn,bC,bD]
        refine dR (λ Y6 hwA hHeld=>?_) hHeld;have hb:Below Y5.heap.size Y5 Y6:=by rw[hwA];exact(Below.refl _ _).alloc (Nat.le_refl _) _
        have iL:=hid (show OB Y6 Y5.heap.size 0 ⟨#[]⟩ 0 0 none 0 0 by show Y6.heap[_]?=_;rw[hwA];exact at_new _ _ _ rfl);replace HI:=hid (HI.out.nx hb);replace HS:=hid (HS.out.nx hb);replace HY:=hid (HY.out.nx hb);replace gG:=hid (gG.out.nx hb);replace HN:=hid (HN.out.aV hb);replace jD:=hid (jD.out.nx hb);replace HV:=hid (au HV.out hb);replace HQ:=hid ((hb.block _ (lt_of_block HQ.out)).trans HQ.out);replace pJ:=hid (pJ.out.any hb);obtain⟨wb,hwb⟩:∃x,Y5.heap.size=x:=⟨_,rfl⟩;have X9:=hid (show Ko.heap.size<=wb by rw[<-hwb];exact zV.out);rw[hwb]at iL⊢;clear hwA hb hwb zV;obtain⟨z0,z1,z2,z3,z4,z5⟩:=iL.out.cells;have y0:=iL.out.free 0;have y1:=iL.out.free 1;have y2:=iL.out.free 2
        have y3:=iL.out.free 3;have y4:=iL.out.free 4;refine wpAnyH_done (by kernel_rfl) ?_ _;unfold kZ
        go_simp
        go_wp2_with fail
        refine aO kH.out ?_ ?_
        ·exact⟨wb,A3,c3,rfl,Dp.stored (f:=eF 1 1) iL.out pJ.out IW,HV.out.trans ((aN _ _ _ _ _ _ _).below (λ x hx h=>by have h':x=wb:=h;have:=X9.out;omega) HV.out.size)⟩
        ·kernel_rfl
       ·have zV:=hid HV.out.size
        go_simp
        refine hK.out _ _ ?_ (λ hHeld=>?_)
        ·exact(HS.out.nx ((Below.refl Y4.heap.size Y4).alloc (Nat.le_refl _) _)).o.cells.2.2.2.2.1
        clear hK K
        try simp only[Act.put,bn,bC,bD]
        refine dR (λ Y7 hwA hHeld=>?_) hHeld;have hb:Below Y4.heap.size Y4 Y7:=by rw[hwA];exact(Below.refl _ _).alloc (Nat.le_refl _) _
        have iL:=hid (show OB Y7 Y4.heap.size 0 ⟨#[]⟩ 0 0 none 0 0 by show Y7.heap[_]?=_;rw[hwA];exact at_new _ _ _ rfl);replace HI:=hid (HI.out.nx hb);replace HS:=hid (HS.out.nx hb);replace HY:=hid (HY.out.nx hb);replace gG:=hid (gG.out.nx hb);replace HN:=hid (HN.out.aV hb);replace jD:=hid (jD.out.nx hb);replace HV:=hid (au HV.out hb);replace HQ:=hid ((hb.block _ (lt_of_block HQ.out)).trans HQ.out);obtain⟨wb,hwb⟩:∃x,Y4.heap.size=x:=⟨_,rfl⟩;have X9:=hid (show Ko.heap.size<=wb by rw[<-hwb];exact zV.out);rw[hwb]at iL⊢;clear hwA hb hwb zV;refine lK 6 (by kernel_rfl) rfl λ K hK=>?_
        go_simp
        (go_at_call 36;(with_reducible refine(nN 6 (PI sA) (eY 1 1) _ _ _ ?_ ?_).mono ?_);exact⟨none,0,rfl,bZ.nil _ _ _ (by omega)⟩;exact⟨_,_,rfl,(uT (f:=eS 1) HQ.out HS.out.a).mono λ _ _ _=>trivial⟩;rintro e Y8 ⟨v,rfl,⟨A3,c3,rfl,wJ⟩,hb⟩;replace HI:=hid (HI.out.nx hb);replace HS:=hid (HS.out.nx hb);replace HY:=hid (HY.out.nx hb);replace gG:=hid (gG.out.nx hb);replace HN:=hid (HN.out.aV hb);replace jD:=hid (jD.out.nx hb);replace HV:=hid (au HV.out hb);replace HQ:=hid ((hb.block _ (lt_of_block HQ.out)).trans HQ.out);replace iL:=hid (iL.out.below hb);have pJ:=hid wJ;clear wJ;clear hb)
        go_wp2_with fail
        refine hK.out _ _ ?_ (λ hHeld=>?_)
        ·exact HS.out.o.cells.2.2.2.2.1
        clear hK K
        try simp only[Act.put,bn,bC,bD]
        obtain⟨z0,z1,z2,z3,z4,z5⟩:=iL.out.cells;have y0:=iL.out.free 0;have y1:=iL.out.free 1;have y2:=iL.out.free 2;have y3:=iL.out.free 3;have y4:=iL.out.free 4;refine wpAnyH_done (by kernel_rfl) ?_ _;unfold kZ
        go_simp
        go_wp2_with fail
        refine aO kH.out ?_ ?_
        ·exact⟨wb,A3,c3,rfl,Dp.stored (f:=eF 1 1) iL.out pJ.out IW,HV.out.trans ((aN _ _ _ _ _ _ _).below (λ x hx h=>by have h':x=wb:=h;have:=X9.out;omega) HV.out.size)⟩
        ·kernel_rfl
      ·have zV:=hid HV.out.size
       go_simp
       refine hK.out _ _ ?_ (λ hHeld=>?_)
       ·exact(HS.out.nx ((Below.refl Y3.heap.size Y3).alloc (Nat.le_refl _) _)).o.cells.2.2.2.2.1
       clear hK K
       try simp only[Act.put,bn,bC,bD]
       refine dR (λ Y9 hwA hHeld=>?_) hHeld;have hb:Below Y3.heap.size Y3 Y9:=by rw[hwA];exact(Below.refl _ _).alloc (Nat.le_refl _) _
       have iL:=hid (show OB Y9 Y3.heap.size 0 ⟨#[]⟩ 0 0 none 0 0 by show Y9.heap[_]?=_;rw[hwA];exact at_new _ _ _ rfl);replace HI:=hid (HI.out.nx hb);replace HS:=hid (HS.out.nx hb);replace HY:=hid (HY.out.nx hb);replace gG:=hid (gG.out.nx hb);replace HN:=hid (HN.out.aV hb);replace jD:=hid (jD.out.nx hb);replace HV:=hid (au HV.out hb);replace HQ:=hid ((hb.block _ (lt_of_block HQ.out)).trans HQ.out);obtain⟨wb,hwb⟩:∃x,Y3.heap.size=x:=⟨_,rfl⟩;have X9:=hid (show Ko.heap.size<=wb by rw[<-hwb];exact zV.out);rw[hwb]at iL⊢;clear hwA hb hwb zV;refine lK 5 (by kernel_rfl) rfl λ K hK=>?_
       go_simp
       (go_at_call 34;(with_reducible refine(jA 15 1 _ 1 1 _).mono ?_);rintro e Y10 ⟨rfl,hb⟩;replace HI:=hid (HI.out.nx hb);replace HS:=hid (HS.out.nx hb);replace HY:=hid (HY.out.nx hb);replace gG:=hid (gG.out.nx hb);replace HN:=hid (HN.out.aV hb);replace jD:=hid (jD.out.nx hb);replace HV:=hid (au HV.out hb);replace HQ:=hid ((hb.block _ (lt_of_block HQ.out)).trans HQ.out);replace iL:=hid (iL.out.below hb);clear hb)
       go_wp2_with fail
       refine hK.out _ _ ?_ (λ hHeld=>?_)
       ·exact HS.out.o.cells.2.2.2.2.1
       clear hK K
       try simp only[Act.put,bn,bC,bD]
       refine lK 6 (by kernel_rfl) rfl λ K hK=>?_
       go_simp
       (go_at_call 36;(with_reducible refine(nN 6 (PI sA) (eY 1 1) _ _ _ ?_ ?_).mono ?_);exact⟨none,0,rfl,bZ.nil _ _ _ (by omega)⟩;exact⟨_,_,rfl,(uT (f:=eS 1) HQ.out HS.out.a).mono λ _ _ _=>trivial⟩;rintro e Y11 ⟨v,rfl,⟨A3,c3,rfl,wJ⟩,hb⟩;replace HI:=hid (HI.out.nx hb);replace HS:=hid (HS.out.nx hb);replace HY:=hid (HY.out.nx hb);replace gG:=hid (gG.out.nx hb);replace HN:=hid (HN.out.aV hb);replace jD:=hid (jD.out.nx hb);replace HV:=hid (au HV.out hb);replace HQ:=hid ((hb.block _ (lt_of_block HQ.out)).trans HQ.out);replace iL:=hid (iL.out.below hb);have pJ:=hid wJ;clear wJ;clear hb)
       go_wp2_with fail
       refine hK.out _ _ ?_ (λ hHeld=>?_)
       ·exact HS.out.o.cells.2.2.2.2.1
       clear hK K
       try simp only[Act.put,bn,bC,bD]
       obtain⟨z0,z1,z2,z3,z4,z5⟩:=iL.out.cells;have y0:=iL.out.free 0;have y1:=iL.out.free 1;have y2:=iL.out.free 2;have y3:=iL.out.free 3;have y4:=iL.out.free 4;refine wpAnyH_done (by kernel_rfl) ?_ _;unfold kZ
       go_simp
       go_wp2_with fail
       refine aO kH.out ?_ ?_
       ·exact⟨wb,A3,c3,rfl,Dp.stored (f:=eF 1 1) iL.out pJ.out IW,HV.out.trans ((aN _ _ _ _ _ _ _).below (λ x hx h=>by have h':x=wb:=h;have:=X9.out;omega) HV.out.size)⟩
       ·kernel_rfl
     ·have zV:=hid HV.out.size
      go_simp
      refine hK.out _ _ ?_ (λ hHeld=>?_)
      ·exact(HS.out.nx ((Below.refl Y2.heap.size Y2).alloc (Nat.le_refl _) _)).o.cells.2.2.2.2.1
      clear hK K
      try simp only[Act.put,bn,bC,bD]
      refine dR (λ Y12 hwA hHeld=>?_) hHeld;have hb:Below Y2.heap.size Y2 Y12:=by rw[hwA];exact(Below.refl _ _).alloc (Nat.le_refl _) _
      have iL:=hid (show OB Y12 Y2.heap.size 0 ⟨#[]⟩ 0 0 none 0 0 by show Y12.heap[_]?=_;rw[hwA];exact at_new _ _ _ rfl);replace HI:=hid (HI.out.nx hb);replace HS:=hid (HS.out.nx hb);replace HY:=hid (HY.out.nx hb);replace gG:=hid (gG.out.nx hb);replace HN:=hid (HN.out.aV hb);replace jD:=hid (jD.out.nx hb);replace HV:=hid (au HV.out hb);obtain⟨wb,hwb⟩:∃x,Y2.heap.size=x:=⟨_,rfl⟩;have X9:=hid (show Ko.heap.size<=wb by rw[<-hwb];exact zV.out);rw[hwb]at iL⊢;clear hwA hb hwb zV;refine lK 4 (by kernel_rfl) rfl λ K hK=>?_;have zV:=hid HV.out.size
      go_simp
      refine hK.out _ _ ?_ (λ hHeld=>?_)
      ·exact(HS.out.nx ((Below.refl Y12.heap.size Y12).alloc (Nat.le_refl _) _)).o.cells.2.2.2.2.1
      clear hK K
      try simp only[Act.put,bn,bC,bD]
      refine dR (λ Y13 hwA hHeld=>?_) hHeld;have hb:Below Y12.heap.size Y12 Y13:=by rw[hwA];exact(Below.refl _ _).alloc (Nat.le_refl _) _
      have HQ:=hid (show Y13.heap[Y12.heap.size]?=some (.cells #[.int .i64 (eS 1).op,.string (eS 1).name,.int .i64 (eS 1).val,.int .i64 (eS 1).bound,.slice A1 (eS 1).args.length c1] 24 (0,0))by show Y13.heap[_]?=_;rw[hwA];exact at_new _ _ _ rfl);replace HI:=hid (HI.out.nx hb);replace HS:=hid (HS.out.nx hb);replace HY:=hid (HY.out.nx hb);replace gG:=hid (gG.out.nx hb);replace HN:=hid (HN.out.aV hb);replace jD:=hid (jD.out.nx hb);replace HV:=hid (au HV.out hb);replace iL:=hid (iL.out.below hb);obtain⟨zb,hzb⟩:∃x,Y12.heap.size=x:=⟨_,rfl⟩;have Hzb:=hid (show Ko.heap.size<=zb by rw[<-hzb];exact zV.out);rw[hzb]at HQ⊢;clear hwA hb hzb zV;refine lK 5 (by kernel_rfl) rfl λ K hK=>?_
      go_simp
      (go_at_call 34;(with_reducible refine(jA 15 1 _ 1 1 _).mono ?_);rintro e Y14 ⟨rfl,hb⟩;replace HI:=hid (HI.out.nx hb);replace HS:=hid (HS.out.nx hb);replace HY:=hid (HY.out.nx hb);replace gG:=hid (gG.out.nx hb);replace HN:=hid (HN.out.aV hb);replace jD:=hid (jD.out.nx hb);replace HV:=hid (au HV.out hb);replace iL:=hid (iL.out.below hb);replace HQ:=hid ((hb.block _ (lt_of_block HQ.out)).trans HQ.out);clear hb)
      go_wp2_with fail
      refine hK.out _ _ ?_ (λ hHeld=>?_)
      ·exact HS.out.o.cells.2.2.2.2.1
      clear hK K
      try simp only[Act.put,bn,bC,bD]
      refine lK 6 (by kernel_rfl) rfl λ K hK=>?_
      go_simp
      (go_at_call 36;(with_reducible refine(nN 6 (PI sA) (eY 1 1) _ _ _ ?_ ?_).mono ?_);exact⟨none,0,rfl,bZ.nil _ _ _ (by omega)⟩;exact⟨_,_,rfl,(uT (f:=eS 1) HQ.out HS.out.a).mono λ _ _ _=>trivial⟩;rintro e Y15 ⟨v,rfl,⟨A3,c3,rfl,wJ⟩,hb⟩;replace HI:=hid (HI.out.nx hb);replace HS:=hid (HS.out.nx hb);replace HY:=hid (HY.out.nx hb);replace gG:=hid (gG.out.nx hb);replace HN:=hid (HN.out.aV hb);replace jD:=hid (jD.out.nx hb);replace HV:=hid (au HV.out hb);replace iL:=hid (iL.out.below hb);replace HQ:=hid ((hb.block _ (lt_of_block HQ.out)).trans HQ.out);have pJ:=hid wJ;clear wJ;clear hb)
      go_wp2_with fail
      refine hK.out _ _ ?_ (λ hHeld=>?_)
      ·exact HS.out.o.cells.2.2.2.2.1
      clear hK K
      try simp only[Act.put,bn,bC,bD]
      obtain⟨z0,z1,z2,z3,z4,z5⟩:=iL.out.cells;have y0:=iL.out.free 0;have y1:=iL.out.free 1;have y2:=iL.out.free 2;have y3:=iL.out.free 3;have y4:=iL.out.free 4;refine wpAnyH_done (by kernel_rfl) ?_ _;unfold kZ
      go_simp
      go_wp2_with fail
      refine aO kH.out ?_ ?_
      ·exact⟨wb,A3,c3,rfl,Dp.stored (f:=eF 1 1) iL.out pJ.out IW,HV.out.trans ((aN _ _ _ _ _ _ _).below (λ x hx h=>by have h':x=wb:=h;have:=X9.out;omega) HV.out.size)⟩
      ·kernel_rfl
    ·have zV:=hid HV.out.size
     go_simp
     refine hK.out _ _ ?_ (λ hHeld=>?_)
     ·exact(HS.out.nx ((Below.refl Y1.heap.size Y1).alloc (Nat.le_refl _) _)).o.cells.2.2.2.2.1
     clear hK K
     try simp only[Act.put,bn,bC,bD]
     refine dR (λ Y16 hwA hHeld=>?_) hHeld;have hb:Below Y1.heap.size Y1 Y16:=by rw[hwA];exact(Below.refl _ _).alloc (Nat.le_refl _) _
     have iL:=hid (show OB Y16 Y1.heap.size 0 ⟨#[]⟩ 0 0 none 0 0 by show Y16.heap[_]?=_;rw[hwA];exact at_new _ _ _ rfl);replace HI:=hid (HI.out.nx hb);replace HS:=hid (HS.out.nx hb);replace HY:=hid (HY.out.nx hb);replace gG:=hid (gG.out.nx hb);replace HN:=hid (HN.out.aV hb);replace jD:=hid (jD.out.nx hb);replace HV:=hid (au HV.out hb);obtain⟨wb,hwb⟩:∃x,Y1.heap.size=x:=⟨_,rfl⟩;have X9:=hid (show Ko.heap.size<=wb by rw[<-hwb];exact zV.out);rw[hwb]at iL⊢;clear hwA hb hwb zV;refine lK 3 (by kernel_rfl) rfl λ K hK=>?_
     go_simp
     (go_at_call 34;(with_reducible refine(jA 16 1 _ (eS 0).args.length c1 _).mono ?_);rintro e Y17 ⟨rfl,hb⟩;replace HI:=hid (HI.out.nx hb);replace HS:=hid (HS.out.nx hb);replace HY:=hid (HY.out.nx hb);replace gG:=hid (gG.out.nx hb);replace HN:=hid (HN.out.aV hb);replace jD:=hid (jD.out.nx hb);replace HV:=hid (au HV.out hb);replace iL:=hid (iL.out.below hb);clear hb)
     go_wp2_with fail
     refine hK.out _ _ ?_ (λ hHeld=>?_)
     ·exact HS.out.o.cells.2.2.2.2.1
     clear hK K
     try simp only[Act.put,bn,bC,bD]
     refine lK 4 (by kernel_rfl) rfl λ K hK=>?_;have zV:=hid HV.out.size
     go_simp
     refine hK.out _ _ ?_ (λ hHeld=>?_)
     ·exact(HS.out.nx ((Below.refl Y17.heap.size Y17).alloc (Nat.le_refl _) _)).o.cells.2.2.2.2.1
     clear hK K
     try simp only[Act.put,bn,bC,bD]
     refine dR (λ Y18 hwA hHeld=>?_) hHeld;have hb:Below Y17.heap.size Y17 Y18:=by rw[hwA];exact(Below.refl _ _).alloc (Nat.le_refl _) _
     have HQ:=hid (show Y18.heap[Y17.heap.size]?=some (.cells #[.int .i64 (eS 1).op,.string (eS 1).name,.int .i64 (eS 1).val,.int .i64 (eS 1).bound,.slice A1 (eS 1).args.length c1] 24 (0,0))by show Y18.heap[_]?=_;rw[hwA];exact at_new _ _ _ rfl);replace HI:=hid (HI.out.nx hb);replace HS:=hid (HS.out.nx hb);replace HY:=hid (HY.out.nx hb);replace gG:=hid (gG.out.nx hb);replace HN:=hid (HN.out.aV hb);replace jD:=hid (jD.out.nx hb);replace HV:=hid (au HV.out hb);replace iL:=hid (iL.out.below hb);obtain⟨zb,hzb⟩:∃x,Y17.heap.size=x:=⟨_,rfl⟩;have Hzb:=hid (show Ko.heap.size<=zb by rw[<-hzb];exact zV.out);rw[hzb]at HQ⊢;clear hwA hb hzb zV;refine lK 5 (by kernel_rfl) rfl λ K hK=>?_
     go_simp
     (go_at_call 34;(with_reducible refine(jA 15 1 _ 1 1 _).mono ?_);rintro e Y19 ⟨rfl,hb⟩;replace HI:=hid (HI.out.nx hb);replace HS:=hid (HS.out.nx hb);replace HY:=hid (HY.out.nx hb);replace gG:=hid (gG.out.nx hb);replace HN:=hid (HN.out.aV hb);replace jD:=hid (jD.out.nx hb);replace HV:=hid (au HV.out hb);replace iL:=hid (iL.out.below hb);replace HQ:=hid ((hb.block _ (lt_of_block HQ.out)).trans HQ.out);clear hb)
     go_wp2_with fail
     refine hK.out _ _ ?_ (λ hHeld=>?_)
     ·exact HS.out.o.cells.2.2.2.2.1
     clear hK K
     try simp only[Act.put,bn,bC,bD]
     refine lK 6 (by kernel_rfl) rfl λ K hK=>?_
     go_simp
     (go_at_call 36;(with_reducible refine(nN 6 (PI sA) (eY 1 1) _ _ _ ?_ ?_).mono ?_);exact⟨none,0,rfl,bZ.nil _ _ _ (by omega)⟩;exact⟨_,_,rfl,(uT (f:=eS 1) HQ.out HS.out.a).mono λ _ _ _=>trivial⟩;rintro e Y20 ⟨v,rfl,⟨A3,c3,rfl,wJ⟩,hb⟩;replace HI:=hid (HI.out.nx hb);replace HS:=hid (HS.out.nx hb);replace HY:=hid (HY.out.nx hb);replace gG:=hid (gG.out.nx hb);replace HN:=hid (HN.out.aV hb);replace jD:=hid (jD.out.nx hb);replace HV:=hid (au HV.out hb);replace iL:=hid (iL.out.below hb);replace HQ:=hid ((hb.block _ (lt_of_block HQ.out)).trans HQ.out);have pJ:=hid wJ;clear wJ;clear hb)
     go_wp2_with fail
     refine hK.out _ _ ?_ (λ hHeld=>?_)
     ·exact HS.out.o.cells.2.2.2.2.1
     clear hK K
     try simp only[Act.put,bn,bC,bD]
     obtain⟨z0,z1,z2,z3,z4,z5⟩:=iL.out.cells;have y0:=iL.out.free 0;have y1:=iL.out.free 1;have y2:=iL.out.free 2;have y3:=iL.out.free 3;have y4:=iL.out.free 4;refine wpAnyH_done (by kernel_rfl) ?_ _;unfold kZ
     go_simp
     go_wp2_with fail
     refine aO kH.out ?_ ?_
     ·exact⟨wb,A3,c3,rfl,Dp.stored (f:=eF 1 1) iL.out pJ.out IW,HV.out.trans ((aN _ _ _ _ _ _ _).below (λ x hx h=>by have h':x=wb:=h;have:=X9.out;omega) HV.out.size)⟩
     ·kernel_rfl
   ·have zV:=hid HV.out.size
    go_simp
    refine hK.out _ _ ?_ (λ hHeld=>?_)
    ·exact(HS.out.nx ((Below.refl V0.heap.size V0).alloc (Nat.le_refl _) _)).o.cells.2.2.2.2.1
    clear hK K
    try simp only[Act.put,bn,bC,bD]
    refine dR (λ Y21 hwA hHeld=>?_) hHeld;have hb:Below V0.heap.size V0 Y21:=by rw[hwA];exact(Below.refl _ _).alloc (Nat.le_refl _) _
    have iL:=hid (show OB Y21 V0.heap.size 0 ⟨#[]⟩ 0 0 none 0 0 by show Y21.heap[_]?=_;rw[hwA];exact at_new _ _ _ rfl);replace HI:=hid (HI.out.nx hb);replace HS:=hid (HS.out.nx hb);replace HY:=hid (HY.out.nx hb);replace gG:=hid (gG.out.nx hb);replace HN:=hid (HN.out.aV hb);replace jD:=hid (jD.out.nx hb);replace HV:=hid (au HV.out hb);obtain⟨wb,hwb⟩:∃x,V0.heap.size=x:=⟨_,rfl⟩;have X9:=hid (show Ko.heap.size<=wb by rw[<-hwb];exact zV.out);rw[hwb]at iL⊢;clear hwA hb hwb zV;refine lK 0 (by kernel_rfl) rfl λ K hK=>?_
    go_simp
    (go_at_call 35;(with_reducible refine(vG ⟨#[97]⟩ 1 _).mono ?_);rintro e Y22 ⟨rfl,hb⟩;replace HI:=hid (HI.out.nx hb);replace HS:=hid (HS.out.nx hb);replace HY:=hid (HY.out.nx hb);replace gG:=hid (gG.out.nx hb);replace HN:=hid (HN.out.aV hb);replace jD:=hid (jD.out.nx hb);replace HV:=hid (au HV.out hb);replace iL:=hid (iL.out.below hb);clear hb)
    go_wp2_with fail
    refine hK.out _ _ ?_ (λ hHeld=>?_)
    ·exact HS.out.o.cells.2.2.2.2.1
    clear hK K
    try simp only[Act.put,bn,bC,bD]
    refine lK 3 (by kernel_rfl) rfl λ K hK=>?_
    go_simp
    (go_at_call 34;(with_reducible refine(jA 16 1 _ (eS 0).args.length c1 _).mono ?_);rintro e Y23 ⟨rfl,hb⟩;replace HI:=hid (HI.out.nx hb);replace HS:=hid (HS.out.nx hb);replace HY:=hid (HY.out.nx hb);replace gG:=hid (gG.out.nx hb);replace HN:=hid (HN.out.aV hb);replace jD:=hid (jD.out.nx hb);replace HV:=hid (au HV.out hb);replace iL:=hid (iL.out.below hb);clear hb)
    go_wp2_with fail
    refine hK.out _ _ ?_ (λ hHeld=>?_)
    ·exact HS.out.o.cells.2.2.2.2.1
    clear hK K
    try simp only[Act.put,bn,bC,bD]
    refine lK 4 (by kernel_rfl) rfl λ K hK=>?_;have zV:=hid HV.out.size
    go_simp
    refine hK.out _ _ ?_ (λ hHeld=>?_)
    ·exact(HS.out.nx ((Below.refl Y23.heap.size Y23).alloc (Nat.le_refl _) _)).o.cells.2.2.2.2.1
    clear hK K
    try simp only[Act.put,bn,bC,bD]
    refine dR (λ Y24 hwA hHeld=>?_) hHeld;have hb:Below Y23.heap.size Y23 Y24:=by rw[hwA];exact(Below.refl _ _).alloc (Nat.le_refl _) _
    have HQ:=hid (show Y24.heap[Y23.heap.size]?=some (.cells #[.int .i64 (eS 1).op,.string (eS 1).name,.int .i64 (eS 1).val,.int .i64 (eS 1).bound,.slice A1 (eS 1).args.length c1] 24 (0,0))by show Y24.heap[_]?=_;rw[hwA];exact at_new _ _ _ rfl);replace HI:=hid (HI.out.nx hb);replace HS:=hid (HS.out.nx hb);replace HY:=hid (HY.out.nx hb);replace gG:=hid (gG.out.nx hb);replace HN:=hid (HN.out.aV hb);replace jD:=hid (jD.out.nx hb);replace HV:=hid (au HV.out hb);replace iL:=hid (iL.out.below hb);obtain⟨zb,hzb⟩:∃x,Y23.heap.size=x:=⟨_,rfl⟩;have Hzb:=hid (show Ko.heap.size<=zb by rw[<-hzb];exact zV.out);rw[hzb]at HQ⊢;clear hwA hb hzb zV;refine lK 5 (by kernel_rfl) rfl λ K hK=>?_
    go_simp
    (go_at_call 34;(with_reducible refine(jA 15 1 _ 1 1 _).mono ?_);rintro e Y25 ⟨rfl,hb⟩;replace HI:=hid (HI.out.nx hb);replace HS:=hid (HS.out.nx hb);replace HY:=hid (HY.out.nx hb);replace gG:=hid (gG.out.nx hb);replace HN:=hid (HN.out.aV hb);replace jD:=hid (jD.out.nx hb);replace HV:=hid (au HV.out hb);replace iL:=hid (iL.out.below hb);replace HQ:=hid ((hb.block _ (lt_of_block HQ.out)).trans HQ.out);clear hb)
    go_wp2_with fail
    refine hK.out _ _ ?_ (λ hHeld=>?_)
    ·exact HS.out.o.cells.2.2.2.2.1
    clear hK K
    try simp only[Act.put,bn,bC,bD]
    refine lK 6 (by kernel_rfl) rfl λ K hK=>?_
    go_simp
    (go_at_call 36;(with_reducible refine(nN 6 (PI sA) (eY 1 1) _ _ _ ?_ ?_).mono ?_);exact⟨none,0,rfl,bZ.nil _ _ _ (by omega)⟩;exact⟨_,_,rfl,(uT (f:=eS 1) HQ.out HS.out.a).mono λ _ _ _=>trivial⟩;rintro e Y26 ⟨v,rfl,⟨A3,c3,rfl,wJ⟩,hb⟩;replace HI:=hid (HI.out.nx hb);replace HS:=hid (HS.out.nx hb);replace HY:=hid (HY.out.nx hb);replace gG:=hid (gG.out.nx hb);replace HN:=hid (HN.out.aV hb);replace jD:=hid (jD.out.nx hb);replace HV:=hid (au HV.out hb);replace iL:=hid (iL.out.below hb);replace HQ:=hid ((hb.block _ (lt_of_block HQ.out)).trans HQ.out);have pJ:=hid wJ;clear wJ;clear hb)
    go_wp2_with fail
    refine hK.out _ _ ?_ (λ hHeld=>?_)
    ·exact HS.out.o.cells.2.2.2.2.1
    clear hK K
    try simp only[Act.put,bn,bC,bD]
    obtain⟨z0,z1,z2,z3,z4,z5⟩:=iL.out.cells;have y0:=iL.out.free 0;have y1:=iL.out.free 1;have y2:=iL.out.free 2;have y3:=iL.out.free 3;have y4:=iL.out.free 4;refine wpAnyH_done (by kernel_rfl) ?_ _;unfold kZ
    go_simp
    go_wp2_with fail
    refine aO kH.out ?_ ?_
    ·exact⟨wb,A3,c3,rfl,Dp.stored (f:=eF 1 1) iL.out pJ.out IW,HV.out.trans ((aN _ _ _ _ _ _ _).below (λ x hx h=>by have h':x=wb:=h;have:=X9.out;omega) HV.out.size)⟩
    ·kernel_rfl
  ·rintro us W15 ⟨wb,A7,c7,hus,hF,hb⟩
   apply KG;simp only[jL,Act.put,List.setIfInBounds_toArray,List.set_cons_zero,List.set_cons_succ,List.range'];rw[hus];clear KG K15 hus;replace HI:=hid (HI.out.nx hb);replace HS:=hid (HS.out.nx hb);replace HY:=hid (HY.out.nx hb);replace gG:=hid (gG.out.nx hb);replace HN:=hid (HN.out.aV hb);replace jD:=hid (jD.out.nx hb);have Dn:=hid hF;clear hF hb;have hfo:=BZ;have hz0:(dV.op==0)=true:=rfl;obtain⟨sc0,P9,Qa,Qb,Qc,Qd⟩:=HS.out.o.cells;obtain⟨Qe,Qg,Qh,Qi,Qj,Qk⟩:=HY.out.o.cells;obtain⟨PK,PL,PN,PO,PU,PV⟩:=gG.out.o.cells;obtain⟨PX,pc1,pc2,PY,PZ,P7⟩:=jD.out.o.cells;obtain⟨P8,qc1,qc2,qc3,qc4,qc5⟩:=Dn.out.o.cells
   go_wp2_with (first
    | (go_at_call 18;(with_reducible refine(UA HN.out HI.out.g HI.out.k).mono ?_);rintro e Z1 ⟨rfl,hb⟩;clear sc0 P9 Qa Qb Qc Qd Qe Qg Qh Qi Qj Qk PK PL PN PO PU PV PX pc1 pc2 PY PZ P7 P8 qc1 qc2 qc3 qc4 qc5;replace HI:=hid (HI.out.nx hb);replace HS:=hid (HS.out.nx hb);replace HY:=hid (HY.out.nx hb);replace gG:=hid (gG.out.nx hb);replace HN:=hid (HN.out.aV hb);replace jD:=hid (jD.out.nx hb);replace Dn:=hid (Dn.out.nx hb);clear hb;obtain⟨sc0,P9,Qa,Qb,Qc,Qd⟩:=HS.out.o.cells;obtain⟨Qe,Qg,Qh,Qi,Qj,Qk⟩:=HY.out.o.cells;obtain⟨PK,PL,PN,PO,PU,PV⟩:=gG.out.o.cells;obtain⟨PX,pc1,pc2,PY,PZ,P7⟩:=jD.out.o.cells;obtain⟨P8,qc1,qc2,qc3,qc4,qc5⟩:=Dn.out.o.cells)
    | (go_at_call 20;(with_reducible refine(ZE (gs := [eS 0,eY 0 0]) (n:=2) (f:=eY 0 0) 3 0 true 3 ?_ qdR wR ?_ ?_ ?_ ?_ ?_ ?_ ?_ HY.out.any HN.out HI.out.l HI.out.g HI.out.k).mono ?_);rfl;rfl;decide;decide;decide;decide +kernel;decide +kernel;decide +kernel;rintro e Z2 ⟨rfl,hb⟩;clear sc0 P9 Qa Qb Qc Qd Qe Qg Qh Qi Qj Qk PK PL PN PO PU PV PX pc1 pc2 PY PZ P7 P8 qc1 qc2 qc3 qc4 qc5;replace HI:=hid (HI.out.nx hb);replace HS:=hid (HS.out.nx hb);replace HY:=hid (HY.out.nx hb);replace gG:=hid (gG.out.nx hb);replace HN:=hid (HN.out.aV hb);replace jD:=hid (jD.out.nx hb);replace Dn:=hid (Dn.out.nx hb);clear hb;obtain⟨sc0,P9,Qa,Qb,Qc,Qd⟩:=HS.out.o.cells;obtain⟨Qe,Qg,Qh,Qi,Qj,Qk⟩:=HY.out.o.cells;obtain⟨PK,PL,PN,PO,PU,PV⟩:=gG.out.o.cells;obtain⟨PX,pc1,pc2,PY,PZ,P7⟩:=jD.out.o.cells;obtain⟨P8,qc1,qc2,qc3,qc4,qc5⟩:=Dn.out.o.cells)
    | (go_at_call 20;(with_reducible refine(ZE (gs := [eS 0,eY 0 0]) (n:=2) (f:=eS 0) 3 0 false 3 ?_ qdS wR ?_ ?_ ?_ ?_ ?_ ?_ ?_ HS.out.any HN.out HI.out.l HI.out.g HI.out.k).mono ?_);rfl;rfl;decide;decide;decide;decide +kernel;decide +kernel;decide +kernel;rintro e Z3 ⟨rfl,hb⟩;clear sc0 P9 Qa Qb Qc Qd Qe Qg Qh Qi Qj Qk PK PL PN PO PU PV PX pc1 pc2 PY PZ P7 P8 qc1 qc2 qc3 qc4 qc5;replace HI:=hid (HI.out.nx hb);replace HS:=hid (HS.out.nx hb);replace HY:=hid (HY.out.nx hb);replace gG:=hid (gG.out.nx hb);replace HN:=hid (HN.out.aV hb);replace jD:=hid (jD.out.nx hb);replace Dn:=hid (Dn.out.nx hb);clear hb;obtain⟨sc0,P9,Qa,Qb,Qc,Qd⟩:=HS.out.o.cells;obtain⟨Qe,Qg,Qh,Qi,Qj,Qk⟩:=HY.out.o.cells;obtain⟨PK,PL,PN,PO,PU,PV⟩:=gG.out.o.cells;obtain⟨PX,pc1,pc2,PY,PZ,P7⟩:=jD.out.o.cells;obtain⟨P8,qc1,qc2,qc3,qc4,qc5⟩:=Dn.out.o.cells)
    | (go_at_call 20;(with_reducible refine(ZE (gs := [eS 0,eY 0 0]) (n:=2) (f:=eS 0) 1 1 true 1 ?_ qdT wR ?_ ?_ ?_ ?_ ?_ ?_ ?_ HS.out.any HN.out HI.out.l HI.out.g HI.out.k).mono ?_);rfl;rfl;decide;decide;decide;decide +kernel;decide +kernel;decide +kernel;rintro e Z4 ⟨rfl,hb⟩;clear sc0 P9 Qa Qb Qc Qd Qe Qg Qh Qi Qj Qk PK PL PN PO PU PV PX pc1 pc2 PY PZ P7 P8 qc1 qc2 qc3 qc4 qc5;replace HI:=hid (HI.out.nx hb);replace HS:=hid (HS.out.nx hb);replace HY:=hid (HY.out.nx hb);replace gG:=hid (gG.out.nx hb);replace HN:=hid (HN.out.aV hb);replace jD:=hid (jD.out.nx hb);replace Dn:=hid (Dn.out.nx hb);clear hb;obtain⟨sc0,P9,Qa,Qb,Qc,Qd⟩:=HS.out.o.cells;obtain⟨Qe,Qg,Qh,Qi,Qj,Qk⟩:=HY.out.o.cells;obtain⟨PK,PL,PN,PO,PU,PV⟩:=gG.out.o.cells;obtain⟨PX,pc1,pc2,PY,PZ,P7⟩:=jD.out.o.cells;obtain⟨P8,qc1,qc2,qc3,qc4,qc5⟩:=Dn.out.o.cells)
    | (go_at_call 39;(with_reducible refine(qeu jD.out Dn.out).mono ?_);rintro e Z5 ⟨rfl,hb⟩;clear sc0 P9 Qa Qb Qc Qd Qe Qg Qh Qi Qj Qk PK PL PN PO PU PV PX pc1 pc2 PY PZ P7 P8 qc1 qc2 qc3 qc4 qc5;replace HI:=hid (HI.out.nx hb);replace HS:=hid (HS.out.nx hb);replace HY:=hid (HY.out.nx hb);replace gG:=hid (gG.out.nx hb);replace HN:=hid (HN.out.aV hb);replace jD:=hid (jD.out.nx hb);replace Dn:=hid (Dn.out.nx hb);clear hb;obtain⟨sc0,P9,Qa,Qb,Qc,Qd⟩:=HS.out.o.cells;obtain⟨Qe,Qg,Qh,Qi,Qj,Qk⟩:=HY.out.o.cells;obtain⟨PK,PL,PN,PO,PU,PV⟩:=gG.out.o.cells;obtain⟨PX,pc1,pc2,PY,PZ,P7⟩:=jD.out.o.cells;obtain⟨P8,qc1,qc2,qc3,qc4,qc5⟩:=Dn.out.o.cells)
    | (go_at_call 27;(with_reducible refine(qcJ 4 4 dV ?_ ?_ gG.out HN.out HI.out.g HI.out.k).mono ?_);rfl;decide +kernel;rintro e Z6 ⟨A8,c8,rfl,_,hb⟩;clear sc0 P9 Qa Qb Qc Qd Qe Qg Qh Qi Qj Qk PK PL PN PO PU PV PX pc1 pc2 PY PZ P7 P8 qc1 qc2 qc3 qc4 qc5;replace HI:=hid (HI.out.nx hb);replace HS:=hid (HS.out.nx hb);replace HY:=hid (HY.out.nx hb);replace gG:=hid (gG.out.nx hb);replace HN:=hid (HN.out.aV hb);replace jD:=hid (jD.out.nx hb);replace Dn:=hid (Dn.out.nx hb);clear hb;obtain⟨sc0,P9,Qa,Qb,Qc,Qd⟩:=HS.out.o.cells;obtain⟨Qe,Qg,Qh,Qi,Qj,Qk⟩:=HY.out.o.cells;obtain⟨PK,PL,PN,PO,PU,PV⟩:=gG.out.o.cells;obtain⟨PX,pc1,pc2,PY,PZ,P7⟩:=jD.out.o.cells;obtain⟨P8,qc1,qc2,qc3,qc4,qc5⟩:=Dn.out.o.cells)
    | (go_at_call 21;(with_reducible refine(qbx (k:=fb) (kb:=Z6.heap.size) ?_ ?_ ?_ ?_ ?_).mono ?_);exact gG.out.nx ((Below.refl _ _).alloc (Nat.le_refl _) _);exact at_new _ _ _ rfl;exact HI.out.l.any ((Below.refl _ _).alloc (Nat.le_refl _) _);exact HI.out.g.below ((Below.refl _ _).alloc (Nat.le_refl _) _) HI.out.g.pos;exact HI.out.k.below ((Below.refl _ _).alloc (Nat.le_refl _) _) HI.out.k.pos;rintro e Z7 ⟨rfl,hb⟩;have hb:=au ((Below.refl Z6.heap.size Z6).alloc (Nat.le_refl _) _) hb;clear sc0 P9 Qa Qb Qc Qd Qe Qg Qh Qi Qj Qk PK PL PN PO PU PV PX pc1 pc2 PY PZ P7 P8 qc1 qc2 qc3 qc4 qc5;replace HI:=hid (HI.out.nx hb);replace HS:=hid (HS.out.nx hb);replace HY:=hid (HY.out.nx hb);replace gG:=hid (gG.out.nx hb);replace HN:=hid (HN.out.aV hb);replace jD:=hid (jD.out.nx hb);replace Dn:=hid (Dn.out.nx hb);clear hb;obtain⟨sc0,P9,Qa,Qb,Qc,Qd⟩:=HS.out.o.cells;obtain⟨Qe,Qg,Qh,Qi,Qj,Qk⟩:=HY.out.o.cells;obtain⟨PK,PL,PN,PO,PU,PV⟩:=gG.out.o.cells;obtain⟨PX,pc1,pc2,PY,PZ,P7⟩:=jD.out.o.cells;obtain⟨P8,qc1,qc2,qc3,qc4,qc5⟩:=Dn.out.o.cells)
    | (go_at_call 40;(with_reducible refine(qev (kb:=Z7.heap.size) ?_).mono ?_);exact at_new _ _ _ rfl;rintro e Z8 ⟨rfl,hb⟩;have hb:=au ((Below.refl Z7.heap.size Z7).alloc (Nat.le_refl _) _) hb;clear sc0 P9 Qa Qb Qc Qd Qe Qg Qh Qi Qj Qk PK PL PN PO PU PV PX pc1 pc2 PY PZ P7 P8 qc1 qc2 qc3 qc4 qc5;replace HI:=hid (HI.out.nx hb);replace HS:=hid (HS.out.nx hb);replace HY:=hid (HY.out.nx hb);replace gG:=hid (gG.out.nx hb);replace HN:=hid (HN.out.aV hb);replace jD:=hid (jD.out.nx hb);replace Dn:=hid (Dn.out.nx hb);clear hb;obtain⟨sc0,P9,Qa,Qb,Qc,Qd⟩:=HS.out.o.cells;obtain⟨Qe,Qg,Qh,Qi,Qj,Qk⟩:=HY.out.o.cells;obtain⟨PK,PL,PN,PO,PU,PV⟩:=gG.out.o.cells;obtain⟨PX,pc1,pc2,PY,PZ,P7⟩:=jD.out.o.cells;obtain⟨P8,qc1,qc2,qc3,qc4,qc5⟩:=Dn.out.o.cells))
   go_ret
   exact⟨rfl,HI.out.b⟩
end Go.Proofs.YtdpbgcmfeajigaaGreatDoor
