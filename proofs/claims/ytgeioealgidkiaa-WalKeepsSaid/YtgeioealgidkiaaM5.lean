/- Part 5 of 5 of what the proof stands on: the words, the laws of the walk, the walks, the plain laws; each section is one text. -/
import Derived.Test.YtgeioealgidkiaaM4
import Derived.Deep.Slices
import Derived.ChangeArms
import Derived.SizedLaws
section
open Go Go.RowKit Go.Proofs.YtgeioealgidkiaaW.PrintWords Go.Proofs.YtgeioealgidkiaaW.PrintMore
namespace Go.Proofs
open Go.Vel
set_option linter.unusedVariables false
set_option maxRecDepth 100000
set_option maxHeartbeats 4000000
attribute [local irreducible] gives wpList Code.wp
section
structure OpY where
 g:Nat
 A:Option Addr
 c:Nat
 m:Nat
def OpY.zero:OpY:=⟨0,none,0,0⟩
def OPN (gd k n:Nat)(s1:Dsk)(lf:Int)(B:List (List UInt8))(low:Nat)(nn:Bool)(y:OpY):Ast:=fun h=>∃(RV:List RecV) (hd E T:Nat) (s2:Dsk),(RV.length=y.m∧May B low nn (RV.map (·.2))∧Flat s2 n E T (RV.map (·.2)) hd∧1≤E∧E≤k+2∧T≤17*k∧s2.life=lf+1∧s2.left=spent s1.left∧y.m≤256∧∀x∈RV,1≤x.2.length∧x.2.length≤8364)∧stars [vec 31 1 (.slice y.A y.m y.c) y.m (RV.map (fun x:RecV=>x.1)),stars (RV.map recD),PLog y.g gd ⟨0,n,s2.life,E,E,T,hd,false⟩,PW gd s2] h
section
variable {F:Nat→Prop}{w0 w:World}{L:List Ast}{gd gp k n:Nat}{B:List (List UInt8)}{low:Nat}{nn:Bool}
theorem St.opn {s1:Dsk}{lf:Int}{y:OpY}(S:St F w0 w (OPN gd k n s1 lf B low nn y::L)):∃(RV:List RecV) (hd E T:Nat) (s2:Dsk),(RV.length=y.m∧May B low nn (RV.map (·.2))∧Flat s2 n E T (RV.map (·.2)) hd∧1≤E∧E≤k+2∧T≤17*k∧s2.life=lf+1∧s2.left=spent s1.left∧y.m≤256∧∀x∈RV,1≤x.2.length∧x.2.length≤8364)∧St F w0 w ([vec 31 1 (.slice y.A y.m y.c) y.m (RV.map (fun x:RecV=>x.1)),stars (RV.map recD),PLog y.g gd ⟨0,n,s2.life,E,E,T,hd,false⟩,PW gd s2]++L):=by
 obtain ⟨RV,S⟩:=St.ex S
 obtain ⟨hd,S⟩:=St.ex S
 obtain ⟨E,S⟩:=St.ex S
 obtain ⟨T,S⟩:=St.ex S
 obtain ⟨s2,S⟩:=St.ex S
 obtain ⟨h1,S⟩:=St.fact S
 exact ⟨RV,hd,E,T,s2,h1,S.flat⟩
theorem p_openY {x:Dsk}(P:PCut k n x B low nn)(hk:k≤70000){s1:Dsk}(hl1:s1.last=x.last)(hp1:s1.pend=[])(hz1:s1.left≠0)(hf1:s1.life=x.life)(S:St F w0 w (PW gd s1::L)):
  Calls Try.prog 61 #[pq gd,iv 0,iv (n:Nat)] w fun e w'=>∃y:OpY,e=.returned (.tuple #[.pointer (some ⟨y.g,0,none⟩),.slice y.A y.m y.c,iv 0])∧St F w0 w' (OPN gd k n s1 x.life B low nn y::L):=by
 refine (p_open P hk hl1 hp1 hz1 hf1 S).mono fun e w' hh=> ?_
 obtain ⟨gl,A,c,RV,hd,E,T,s2,he,h1,h2,h3,h4,h5,h6,h7,h8,h9,S2⟩:=hh
 exact ⟨⟨gl,A,c,RV.length⟩,he,(St.star (LA:=[_,_,_,_]) S2).map1 fun h hh=>⟨RV,hd,E,T,s2,⟨rfl,h1,h2,h3,h4,h5,h6,h7,h8,h9⟩,hh⟩⟩
theorem PCut.dead {x:Dsk}{l:Lg}(P:PCut k n x B low nn)(hlg:LgOk (n+2) l)(hok:DOk (x.fuseR 0)):(x.fuseR 0).left=0∧PInv (k+1) n (x.fuseR 0) l B low nn:=by
 obtain ⟨E,T,hc⟩:=P.cut
 have hn:=P.n0
 have hlf:=P.life
 obtain ⟨e1,e2⟩:=fuseR_same x 0
 have hz:(x.fuseR 0).left=0:=by unfold Dsk.fuseR;rw [if_neg (by rw [P.left];decide)];rfl
 have hp:(x.fuseR 0).pend=[]:=e2.trans P.pend
 refine ⟨hz,P.n0,by rw [e1];exact P.len,hok,by rw [fuseR_life];omega,hlg,by rw [hp];exact Nat.zero_le _,.inr ⟨hz,Sgl.nil hp,fun x' c'=>⟨E,T, ?_⟩⟩⟩
 have c2:=c'.fuse
 exact (hc.flat P.pend c2.pend om_ P.len fun j hj=>c2.free j (by rw [P.len];exact hj) (by rw [P.pend];intro y hy;cases hy)).next
theorem vec_cap {e:TypeId}{A:Option Addr}{m c:Nat}{vals:List Value}(S:St F w0 w L)(i:Nat)(hi:L[i]?=some (vec e 1 (.slice A m c) m vals)):m≤c:=by
 rcases (S.mem i hi).vec_cases with ⟨h1,h2,_⟩|⟨g,c',junk,h1,hc,_⟩
 ·omega
 ·cases h1;exact hc
def PBM (F:Nat→Prop)(w0:World)(gp k n:Nat)(c:Int):Ast:=fun h=>∃p:PBk,(PBok F w0 k n p∧PInv k n p.s p.l p.bs p.low p.nn∧(c<0→p.s.left= -1∧p.RV++p.XS=[]))∧stars (p.parts gp n) h
theorem St.pbm {c:Int}(S:St F w0 w (PBM F w0 gp k n c::L)):St F w0 w (PB F w0 gp k n::L):=S.map1 fun h hh=>by
 obtain ⟨p,⟨h1,h2,_⟩,h3⟩:=hh
 exact ⟨p,⟨h1,h2⟩,h3⟩
theorem St.pmo {c:Int}(S:St F w0 w (PBM F w0 gp k n c::L)):∃p:PBk,PBok F w0 k n p∧PInv k n p.s p.l p.bs p.low p.nn∧(c<0→p.s.left= -1∧p.RV++p.XS=[])∧St F w0 w (p.parts gp n++L):=by
 obtain ⟨p,S⟩:=St.ex S
 obtain ⟨⟨h1,h2,h3⟩,S⟩:=St.fact S
 exact ⟨p,h1,h2,h3,S.flat⟩
theorem St.pmc {p:PBk}{c:Int}(h1:PBok F w0 k n p)(h2:PInv k n p.s p.l p.bs p.low p.nn)(h3:c<0→p.s.left= -1∧p.RV++p.XS=[])(S:St F w0 w (p.parts gp n++L)):St F w0 w (PBM F w0 gp k n c::L):=(St.star S).map1 fun h hh=>⟨p,⟨h1,h2,h3⟩,hh⟩
theorem St.pbc1 {c:Int}{gl gb m:Nat}{v:Value}{RV:List RecV}{s:Dsk}{l:Lg}(hm:RV.length=m)(hb:∀x∈RV,1≤x.2.length∧x.2.length≤8364)(hl:m≤256)(hlo:low≤256+k)(hlf:l.life≤s.life)(hneg:c<0→s.left= -1∧RV=[])(hI:PInv k n s l (RV.map (·.2)) low nn)(S:St F w0 w (row gp #[.pointer (some ⟨gd,0,none⟩),.pointer (some ⟨gl,0,none⟩),.int .i64 (n:Nat),.pointer (some ⟨gb,0,none⟩)] 123::row gb #[v,.int .i64 (low:Nat),.bool nn] 121::vec 31 1 v m (RV.map (fun x:RecV=>x.1))::stars (RV.map recD)::PLog gl gd l::PW gd s::L)):St F w0 w (PBM F w0 gp k n c::L):=by
 subst hm
 have e:=List.append_nil RV
 refine St.pmc (p:=⟨gd,gl,gb,v,RV,[],s,l,low,nn⟩) ⟨fun x hx=>(by cases hx),hb,by show (RV++[]).length≤_;rw [e];omega,hlo,hlf⟩ (by show PInv k n s l ((RV++[]).map (fun x:RecV=>x.2)) low nn;rw [e];exact hI) (fun q=>⟨(hneg q).1,e.trans (hneg q).2⟩) ?_
 unfold PBk.parts
 simp only [e]
 exact S
end
theorem w_reopen {F:Nat→Prop}{w0 w:World}{L:List Ast}{gp k n:Nat}(S:St F w0 w (PC F w0 gp k n::L))(hk:k≤70000){c:Int}(hcm:c≤9223372036854775807):Calls Try.prog 121 #[.pointer (some ⟨gp,0,none⟩),.int .i64 c] w fun e w'=>e=.returned (.bool true)∧St F w0 w' (PBM F w0 gp (k+1) n c::L):=by
 obtain ⟨⟨gd,gl,gb,v,RV,XS,s,l,low,nn⟩,hb,hlg,hP,S⟩:=St.pco S
 have hlenB:(RV++XS).length≤256+k:=hb.len
 have hbr:∀x∈RV,1≤x.2.length∧x.2.length≤8364:=hb.rv
 have hbx:XOk F w0 XS:=hb.xs
 have hzl:s.left≠0:=by rw [hP.left];decide
 obtain ⟨A9,c9,hv9⟩:=St.vecV S 2 rfl
 have hv9:v=.slice A9 (RV++XS).length c9:=hv9
 subst hv9
 have hP:PCut k n s ((RV++XS).map (·.2)) low nn:=hP
 have hlg:LgOk (n+2) l:=hlg
 have hcap9:(RV++XS).length≤c9:=vec_cap S 2 rfl
 have hlow9:low≤1000000:=Nat.le_trans hb.lo om_
 by_cases hc0:c=0
 ·subst hc0
  have hz9:(s.fuseR 0).left=0:=by unfold Dsk.fuseR;rw [if_neg hzl];rfl
  have ha3:argsR (s.fuseR 0) 0 ((n:Nat):Int)=3:=by unfold argsR;rw [if_pos hz9]
  change St F w0 w (row gp #[pq gd,pq gl,nI_ n,pq gb] 123::row gb #[.slice A9 ((RV++XS).length) c9,nI_ low,.bool nn] 121::vec 31 1 (.slice A9 (RV++XS).length c9) (RV++XS).length ((RV++XS).map (fun x:RecV=>x.1))::stars (RV.map recD)::PLog gl gd l::PW gd s::L) at S
  refine eN (fr [pq gp,iv 0] 91) Try.func121 rfl (sR (pv fv (wER (pv (pq gp) (pv (pq gp) (pv (pq gp) (lR (pq gd) S 0 0 (pv (iv 0) (g_ (gv_call (args:=#[pq gd,iv 0]) rfl Try.func67 kr_ rfl rfl kr_ ?_))))))))))
  have S1:=St.pm 6 [5,0,1,2,3,4] S
  refine Calls.mono (pw_fuse (n:=0) om_ S1) ?_
  rintro _ w2 ⟨rfl,S3⟩
  refine ⟨_,rfl,(wE (nS (wp_region_phu (γ:=Unit) 15 [8] (fun (c_:Unit) (i_:Nat)=>(match i_ with|0=>pq gp|1=>pq gp|2=>pq gp|3=>pq gd|4=>pq gp|5=>pq gp|6=>po gp 2|7=>nI_ n|8=>.tuple #[pn,nS_,iv 3]|9=>.tuple #[pn,nS_,iv 3]|10=>pn|11=>nS_|12=>iv 3|13=>pn|14=>nS_|_=>undef:Value)) (fun (c_:Unit) (p_:Nat) (w_:World)=>(match p_ with|0=>St F w0 w_ (PW gd (s.fuseR 0)::row gp #[pq gd,pq gl,nI_ n,pq gb] 123::row gb #[.slice A9 ((RV++XS).length) c9,nI_ low,.bool nn] 121::vec 31 1 (.slice A9 (RV++XS).length c9) (RV++XS).length ((RV++XS).map (fun x:RecV=>x.1))::stars (RV.map recD)::PLog gl gd l::L)|_=>St F w0 w_ (PW gd (s.fuseR 0)::row gp #[pq gd,pq gl,nI_ n,pq gb] 123::row gb #[.slice A9 ((RV++XS).length) c9,nI_ low,.bool nn] 121::vec 31 1 (.slice A9 (RV++XS).length c9) (RV++XS).length ((RV++XS).map (fun x:RecV=>x.1))::stars (RV.map recD)::PLog gl gd l::L):Prop)) () kr_ kr_ kr_ kr_ (S3.drew) ?_ ?_ ?_)))⟩
  ·intro i_ c_ p_ vals_ w1 hi_ hiE_ hp_ hk_ hu_ hPh_ hd_
   rcases i_ with _|_|_|_|_|_|_|_|_|_|_|_|_|_|_|i_
   ·exact tG_ rfl hd_ (gV (pq gp) ⟨rfl,rfl⟩)
   ·exact tG_ rfl hd_ (gV (pq gp) ⟨rfl,rfl⟩)
   ·exact tG_ rfl hd_ (gV (pq gp) ⟨rfl,rfl⟩)
   ·rcases p_ with _|_|p_
    ·have S7:=St.id hPh_
     exact tG_ rfl hd_ (gL (pq gd) rfl (((S7.blk 1 rfl).cell 0).trans rfl) ⟨rfl,rfl⟩)
    ·exact absurd (hu_ 0 dc_ kr_) dc_
    ·exact absurd hp_ (by simp)
   ·exact tG_ rfl hd_ (gV (pq gp) ⟨rfl,rfl⟩)
   ·exact tG_ rfl hd_ (gV (pq gp) ⟨rfl,rfl⟩)
   ·exact tG_ rfl hd_ (gV (po gp 2) ⟨rfl,rfl⟩)
   ·rcases p_ with _|_|p_
    ·have S11:=St.id hPh_
     exact tG_ rfl hd_ (gL (nI_ n) rfl (((S11.blk 1 rfl).cell 2).trans rfl) ⟨rfl,rfl⟩)
    ·exact absurd (hu_ 0 dc_ kr_) dc_
    ·exact absurd hp_ (by simp)
   ·exact absurd hiE_ dc_
   ·exact tG_ rfl hd_ (gV (.tuple #[pn,nS_,iv 3]) ⟨rfl,rfl⟩)
   ·exact tG_ rfl hd_ (gV pn ⟨rfl,rfl⟩)
   ·exact tG_ rfl hd_ (gV (nS_) ⟨rfl,rfl⟩)
   ·exact tG_ rfl hd_ (gV (iv 3) ⟨rfl,rfl⟩)
   ·exact tG_ rfl hd_ (gV pn ⟨rfl,rfl⟩)
   ·exact tG_ rfl hd_ (gV (nS_) ⟨rfl,rfl⟩)
   ·exact absurd hi_ om_
  ·intro k_ c_ vals_ w1 hk_ hPh_ hd_
   rcases k_ with _|k_
   ·have S18:=St.id hPh_
    refine tG_ rfl hd_ (gv_call (args:=#[pq gd,iv 0,nI_ n]) rfl Try.func61 kr_ rfl rfl kr_ ?_)
    have hq0:=w_open_args (n:=((n:Nat):Int)) S18 (by rw [ha3];decide)
    rw [ha3] at hq0
    refine Calls.mono hq0 ?_
    rintro _ w19 ⟨rfl,S20⟩
    refine ⟨_,rfl,⟨(),rfl, ?_,S20⟩⟩
    intro i_ hi_ hne_ hdp_
    rcases i_ with _|_|_|_|_|_|_|_|_|_|_|_|_|_|_|i_
    ·rfl
    ·rfl
    ·rfl
    ·rfl
    ·rfl
    ·rfl
    ·rfl
    ·rfl
    ·exact absurd rfl hne_
    ·exact dN_ hdp_
    ·exact dN_ hdp_
    ·exact dN_ hdp_
    ·exact dN_ hdp_
    ·exact dN_ hdp_
    ·exact dN_ hdp_
    ·exact absurd hi_ om_
   ·exact absurd hk_ (by simp)
  ·intro c_ w1 hPh_
   have S21:=St.id hPh_
   refine (pv (iv 3) (wE (nS (sR (pv (iv 0) (dE 0 0 (fun _=>wE (nCT (sR (pv pn (pv tv (pv tv (pW (iv 3) ?_))))))) fun hd22=>False.elim (hd22 rfl)))))))
   refine wl_when kr_ (gv_eq (x:=3) (y:=3) kr_ (fun _=>pv tv (pv tv (pW (nS_) (pW (iv 0) (wl_when kr_ (gv_eq (x:=0) (y:=0) kr_ (fun _=>pv tv (pv tv (wE (then_n (rR (bA (.bool true) ?_)))))) (fun hd24=>False.elim (hd24 rfl)))))))) (fun hd23=>False.elim (hd23 rfl)))
   have S25:=St.pm 6 [1,2,3,4,5,0] S21
   have hok9:DOk (s.fuseR 0):=St.pw_ok (L:=[]) (S25.mem 5 rfl)
   exact ⟨rfl,St.pmc (p:=⟨gd,gl,gb,.slice A9 (RV++XS).length c9,RV,XS,s.fuseR 0,l,low,nn⟩) ⟨hbx,hbr,by show (RV++XS).length≤_;omega,by show low≤_;have:=hb.lo;have:low≤256+k:=this;omega,by show l.life≤(s.fuseR 0).life;rw [fuseR_life];exact hb.lf⟩ (hP.dead hlg hok9).2 (fun q=>absurd q dc_) S25⟩
 ·have hf9:=fuse_ne (x:=s) hzl hc0
  change St F w0 w (row gp #[pq gd,pq gl,nI_ n,pq gb] 123::row gb #[.slice A9 ((RV++XS).length) c9,nI_ low,.bool nn] 121::vec 31 1 (.slice A9 (RV++XS).length c9) (RV++XS).length ((RV++XS).map (fun x:RecV=>x.1))::stars (RV.map recD)::PLog gl gd l::PW gd s::L) at S
  refine eN (fr [pq gp,iv c] 91) Try.func121 rfl (sR (pv fv (wER (pv (pq gp) (pv (pq gp) (pv (pq gp) (lR (pq gd) S 0 0 (pv (iv c) (g_ (gv_call (args:=#[pq gd,iv c]) rfl Try.func67 kr_ rfl rfl kr_ ?_))))))))))
  have S1:=St.pm 6 [5,0,1,2,3,4] S
  refine Calls.mono (pw_fuse (n:=c) om_ S1) ?_
  rintro _ w2 ⟨rfl,S3⟩
  refine ⟨_,rfl,(wE (nS (wp_region_phu (γ:=OpY) 15 [8] (fun (c_:OpY) (i_:Nat)=>(match i_ with|0=>pq gp|1=>pq gp|2=>pq gp|3=>pq gd|4=>pq gp|5=>pq gp|6=>po gp 2|7=>nI_ n|8=>.tuple #[pq c_.g,.slice c_.A c_.m c_.c,iv 0]|9=>.tuple #[pq c_.g,.slice c_.A c_.m c_.c,iv 0]|10=>pq c_.g|11=>.slice c_.A c_.m c_.c|12=>iv 0|13=>pq c_.g|14=>.slice c_.A c_.m c_.c|_=>undef:Value)) (fun (c_:OpY) (p_:Nat) (w_:World)=>(match p_ with|0=>St F w0 w_ (PW gd (s.fuseR c)::row gp #[pq gd,pq gl,nI_ n,pq gb] 123::row gb #[.slice A9 ((RV++XS).length) c9,nI_ low,.bool nn] 121::vec 31 1 (.slice A9 (RV++XS).length c9) (RV++XS).length ((RV++XS).map (fun x:RecV=>x.1))::stars (RV.map recD)::PLog gl gd l::L)|_=>St F w0 w_ (OPN gd k n (s.fuseR c) s.life ((RV++XS).map (·.2)) low nn c_::row gp #[pq gd,pq gl,nI_ n,pq gb] 123::row gb #[.slice A9 ((RV++XS).length) c9,nI_ low,.bool nn] 121::vec 31 1 (.slice A9 (RV++XS).length c9) (RV++XS).length ((RV++XS).map (fun x:RecV=>x.1))::stars (RV.map recD)::PLog gl gd l::L):Prop)) (OpY.zero) kr_ kr_ kr_ kr_ (S3.drew) ?_ ?_ ?_)))⟩
  ·intro i_ c_ p_ vals_ w1 hi_ hiE_ hp_ hk_ hu_ hPh_ hd_
   rcases i_ with _|_|_|_|_|_|_|_|_|_|_|_|_|_|_|i_
   ·exact tG_ rfl hd_ (gV (pq gp) ⟨rfl,rfl⟩)
   ·exact tG_ rfl hd_ (gV (pq gp) ⟨rfl,rfl⟩)
   ·exact tG_ rfl hd_ (gV (pq gp) ⟨rfl,rfl⟩)
   ·rcases p_ with _|_|p_
    ·have S7:=St.id hPh_
     exact tG_ rfl hd_ (gL (pq gd) rfl (((S7.blk 1 rfl).cell 0).trans rfl) ⟨rfl,rfl⟩)
    ·exact absurd (hu_ 0 dc_ kr_) dc_
    ·exact absurd hp_ (by simp)
   ·exact tG_ rfl hd_ (gV (pq gp) ⟨rfl,rfl⟩)
   ·exact tG_ rfl hd_ (gV (pq gp) ⟨rfl,rfl⟩)
   ·exact tG_ rfl hd_ (gV (po gp 2) ⟨rfl,rfl⟩)
   ·rcases p_ with _|_|p_
    ·have S11:=St.id hPh_
     exact tG_ rfl hd_ (gL (nI_ n) rfl (((S11.blk 1 rfl).cell 2).trans rfl) ⟨rfl,rfl⟩)
    ·exact absurd (hu_ 0 dc_ kr_) dc_
    ·exact absurd hp_ (by simp)
   ·exact absurd hiE_ dc_
   ·exact tG_ rfl hd_ (gV (.tuple #[pq c_.g,.slice c_.A c_.m c_.c,iv 0]) ⟨rfl,rfl⟩)
   ·exact tG_ rfl hd_ (gV (pq c_.g) ⟨rfl,rfl⟩)
   ·exact tG_ rfl hd_ (gV (.slice c_.A c_.m c_.c) ⟨rfl,rfl⟩)
   ·exact tG_ rfl hd_ (gV (iv 0) ⟨rfl,rfl⟩)
   ·exact tG_ rfl hd_ (gV (pq c_.g) ⟨rfl,rfl⟩)
   ·exact tG_ rfl hd_ (gV (.slice c_.A c_.m c_.c) ⟨rfl,rfl⟩)
   ·exact absurd hi_ om_
  ·intro k_ c_ vals_ w1 hk_ hPh_ hd_
   rcases k_ with _|k_
   ·have S18:=St.id hPh_
    refine tG_ rfl hd_ (gv_call (args:=#[pq gd,iv 0,nI_ n]) rfl Try.func61 kr_ rfl rfl kr_ (Calls.mono (p_openY hP hk (s1:=s.fuseR c) (fuseR_same s c).1 ((fuseR_same s c).2.trans hP.pend) hf9.1 (fuseR_life s c) S18) ?_))
    rintro _ w19 ⟨m21,rfl,S20⟩
    refine ⟨_,rfl,⟨(m21),rfl, ?_,S20⟩⟩
    intro i_ hi_ hne_ hdp_
    rcases i_ with _|_|_|_|_|_|_|_|_|_|_|_|_|_|_|i_
    ·rfl
    ·rfl
    ·rfl
    ·rfl
    ·rfl
    ·rfl
    ·rfl
    ·rfl
    ·exact absurd rfl hne_
    ·exact dN_ hdp_
    ·exact dN_ hdp_
    ·exact dN_ hdp_
    ·exact dN_ hdp_
    ·exact dN_ hdp_
    ·exact dN_ hdp_
    ·exact absurd hi_ om_
   ·exact absurd hk_ (by simp)
  ·intro c_ w1 hPh_
   have S22:=St.id hPh_
   refine (pv (iv 0) (wE (nS (sR ?_))))
   obtain ⟨RV2,hd2,E2,T2,s2,⟨hm2,hmay2,hfl2,he1,he2,ht2,hlf2,hle2,hm256,hb2⟩,S23⟩:=St.opn S22
   change St F w0 w1 (vec 31 1 (.slice c_.A c_.m c_.c) c_.m (RV2.map (fun x:RecV=>x.1))::stars (RV2.map recD)::PLog c_.g gd ⟨0,n,s2.life,E2,E2,T2,hd2,false⟩::PW gd s2::row gp #[pq gd,pq gl,nI_ n,pq gb] 123::row gb #[.slice A9 ((RV++XS).length) c9,nI_ low,.bool nn] 121::vec 31 1 (.slice A9 (RV++XS).length c9) (RV++XS).length ((RV++XS).map (fun x:RecV=>x.1))::stars (RV.map recD)::PLog gl gd l::L) at S23
   refine pv (iv c) (dE c 0 (fun hd24=>False.elim (hc0 hd24)) fun _=>wE (nCF (wp_skip (nS (sR (pv (pq c_.g) (pv fv (pv fv (pW (iv 0) (wl_when kr_ (gv_ne (x:=0) (y:=0) kr_ (fun hd25=>False.elim (hd25 rfl)) (fun _=>pv fv (pv fv ?_)))))))))))))
   refine pW (pq gp) (pW (pq gp) (pW (po gp 3) (wl_when kr_ (gv_ldR (v:=pq gb) rfl kr_ kr_ (((S23.blk 4 rfl).cell 3).trans rfl) (pW (.slice c_.A c_.m c_.c) (wl_when kr_ (gv_call (args:=#[pq gb,.slice c_.A c_.m c_.c]) rfl Try.func146 kr_ rfl rfl kr_ ?_)))))))
   have S26:=St.pm 9 [5,0,1,2,3,4,6,7,8] S23
   refine Calls.mono (w_may (LB:=RV++XS) (told:=RV2) S26 (rol_own S26 1 2 (by rw [hm2];rfl) rfl hb2) (rol_pb S26 6 7 rfl rfl hbr hbx) hm2.symm hmay2 om_ hcap9 hlow9) ?_
   rintro _ w27 ⟨rfl,S28⟩
   refine ⟨_,rfl,(pW (.bool false) (pv fv (wE (nCF (wp_skip (nSR (pv (pq gp) (pv (pq c_.g) (pv (pq gp) (pv (po gp 1) (sS S28 5 rfl 1 (pq c_.g) fun w29 S30=>wER (pv (pq gp) ?_))))))))))))⟩
   refine pv (.slice c_.A c_.m c_.c) (pv (.slice c_.A c_.m c_.c) (pv (iv (c_.m:Nat)) (pv (.agg #[.slice c_.A c_.m c_.c,iv (c_.m:Nat),fv]) (nB rfl (.agg #[.slice c_.A c_.m c_.c,iv (c_.m:Nat),.bool false]) S30 fun g31 w32 hg33 S34=>pv (pq gp) (pv (po gp 3) (sS S34 6 rfl 3 (pq g31) fun w35 S36=>wER (pv (pq c_.g) (g_ (gv_call (args:=#[pq c_.g]) rfl Try.func71 kr_ rfl rfl kr_ ?_)))))))))
   have S37:=St.pm 10 [4,5,0,1,2,3,6,7,8,9] S36
   refine Calls.mono (p_start hfl2 he1 he2 ht2 hk (by rw [hlf2];have:=hP.life;omega) S37) ?_
   rintro _ w38 ⟨s3,l3,hl33,(⟨rfl,hI3,hm3,S39⟩|⟨rfl,hlq,hI3,S39⟩)⟩
   ·refine ⟨_,rfl,(pv (iv 0) (wE (nS (sR (pv (iv 0) (dE 0 0 (fun _=>wE (nCT (sR (pv (pq gp) (pv (.agg #[nS_,iv 0,fv]) (nB rfl (.agg #[nS_,iv 0,.bool false]) S39 fun g41 w42 hg43 S44=>pv (pq gp) ?_)))))) fun hd40=>False.elim (hd40 rfl)))))))⟩
    refine pv (po gp 3) (sS S44 7 rfl 3 (pq g41) fun w45 S46=>wE (nSR (pv tv (wE (then_n (rR (bA (.bool true) ?_)))))))
    have S47:=St.pm 11 [7,0,1,2] S46
    have S48:St F w0 w45 (stars ((([]:List RecV)).map recD)::row gp #[pq gd,pq c_.g,nI_ n,pq g41] 123::row g41 #[nS_,iv 0,.bool false] 121::PLog c_.g gd l3::PW gd s3::L):=St.star_nil S47
    have S49:St F w0 w45 (vec 31 1 (nS_) 0 ((([]:List RecV)).map (fun x:RecV=>x.1))::stars ((([]:List RecV)).map recD)::row gp #[pq gd,pq c_.g,nI_ n,pq g41] 123::row g41 #[nS_,iv 0,.bool false] 121::PLog c_.g gd l3::PW gd s3::L):=St.vec_nil S48
    have S50:=St.pm 6 [2,3,0,1,4,5] S49
    exact ⟨rfl,St.pbc1 (RV:=[]) rfl (fun x hx=>(by cases hx)) (Nat.zero_le _) (Nat.zero_le _) om_ (fun q=>⟨hm3 (by rw [hle2,hf9.2.1 q];rfl),rfl⟩) hI3 S50⟩
   ·refine ⟨_,rfl, ?_⟩
    have hc3:0<c∧c<3:=by
     rw [hle2] at hlq;unfold spent at hlq
     by_cases hcn:c<0
     ·have h9:=hf9.2.1 hcn;rw [h9,if_neg dc_] at hlq;omega
     ·have h9:=hf9.2.2 om_;rw [h9,if_pos om_] at hlq;omega
    refine pv (iv 3) (wE (nS (sR (pv (iv 3) (dE 3 0 (fun hd51=>False.elim om_) fun _=>wE (nCF (wp_skip (nSR (pv (pq gp) (pv (pq gp) (pv (po gp 3) (lR (pq g31) S39 6 3 ?_))))))))))))
    refine pv (pq g31) (pv (po g31 2) (sS S39 2 rfl 2 (.bool true) fun w52 S53=>wE (nSR (pv (iv 3) (dE 3 3 (fun _=>pv tv (pW (iv c) (wl_when kr_ (gv_dec (p:=(c:Int)>0) kr_ (fun _=>pv tv (pv tv (pW (iv c) (wl_when kr_ (gv_dec (p:=(c:Int)<3) kr_ (fun _=> ?_) (fun hd56=>False.elim om_)))))) (fun hd55=>False.elim om_))))) fun hd54=>False.elim (hd54 rfl))))))
    refine pv tv (pv tv (wE (then_n (wp_ret (bA (.bool true) ?_)))))
    have S57:=St.pm 10 [6,2,4,5,0,1] S53
    have hI4:PInv (k+1) n s3 l3 (RV2.map (·.2)) c_.m true:=by have h:=hI3;rw [List.length_map,hm2] at h;exact h
    exact ⟨rfl,St.pbc1 hm2 hb2 hm256 om_ om_ (fun q=>by omega) hI4 S57⟩
def PA (F:Nat→Prop)(w0:World)(gp k n:Nat):Ast:=fun h=>∃b:Bool,match b with|true=>PB F w0 gp k n h|false=>PBX F w0 gp k n h
theorem St.pa1 {F:Nat→Prop}{w0 w:World}{L:List Ast}{gp k n:Nat}(S:St F w0 w (PB F w0 gp k n::L)):St F w0 w (PA F w0 gp k n::L):=S.map1 fun h hh=>⟨true,hh⟩
theorem St.pa2 {F:Nat→Prop}{w0 w:World}{L:List Ast}{gp k n:Nat}(S:St F w0 w (PBX F w0 gp k n::L)):St F w0 w (PA F w0 gp k n::L):=S.map1 fun h hh=>⟨false,hh⟩
theorem St.pao {F:Nat→Prop}{w0 w:World}{L:List Ast}{gp k n:Nat}(S:St F w0 w (PA F w0 gp k n::L)):St F w0 w (PB F w0 gp k n::L)∨St F w0 w (PBX F w0 gp k n::L):=by
 obtain ⟨b,S⟩:=St.ex S
 cases b
 ·exact .inr S
 ·exact .inl S
def PAM (F:Nat→Prop)(w0:World)(gp k n:Nat)(c:Int):Ast:=fun h=>∃b:Bool,match b with|true=>PBM F w0 gp k n c h|false=>c=0∧PBX F w0 gp k n h
theorem St.pam1 {F:Nat→Prop}{w0 w:World}{L:List Ast}{gp k n:Nat}{c:Int}(S:St F w0 w (PBM F w0 gp k n c::L)):St F w0 w (PAM F w0 gp k n c::L):=S.map1 fun h hh=>⟨true,hh⟩
theorem St.pam2 {F:Nat→Prop}{w0 w:World}{L:List Ast}{gp k n:Nat}{c:Int}(hc:c=0)(S:St F w0 w (PBX F w0 gp k n::L)):St F w0 w (PAM F w0 gp k n c::L):=S.map1 fun h hh=>⟨false,hc,hh⟩
theorem St.pamo {F:Nat→Prop}{w0 w:World}{L:List Ast}{gp k n:Nat}{c:Int}(S:St F w0 w (PAM F w0 gp k n c::L)):St F w0 w (PBM F w0 gp k n c::L)∨(c=0∧St F w0 w (PBX F w0 gp k n::L)):=by
 obtain ⟨b,S⟩:=St.ex S
 cases b
 ·obtain ⟨h,S⟩:=St.fact (A:=PBX F w0 gp k n) S
  exact .inr ⟨h,S⟩
 ·exact .inl S
theorem St.pama {F:Nat→Prop}{w0 w:World}{L:List Ast}{gp k n:Nat}{c:Int}(S:St F w0 w (PAM F w0 gp k n c::L)):St F w0 w (PA F w0 gp k n::L):=by
 rcases St.pamo S with S|⟨_,S⟩
 ·exact St.pa1 (St.pbm S)
 ·exact St.pa2 S
theorem w_reopenX {F:Nat→Prop}{w0 w:World}{L:List Ast}{gp k n:Nat}(S:St F w0 w (PCX F w0 gp k n::L))(hk:k≤70000){c:Int}(hcm:c≤9223372036854775807):Calls Try.prog 121 #[.pointer (some ⟨gp,0,none⟩),.int .i64 c] w fun e w'=>e=.returned (.bool true)∧St F w0 w' (PAM F w0 gp (k+1) n c::L):=by
 obtain ⟨⟨gd,gl,gb,v,RV,XS,s,l,low,nn⟩,gd1,s1,hbx,hbr,hbl,hP,hD,S⟩:=St.pyo S
 obtain ⟨A9,c9,hv9⟩:=St.vecV S 2 rfl
 have hv9:v=.slice A9 (RV++XS).length c9:=hv9
 subst hv9
 have hP:PCut k n s ((RV++XS).map (·.2)) low nn:=hP
 have hD:DeadL n s1 l:=hD
 have hbx:XOk F w0 XS:=hbx
 have hbr:∀x∈RV,1≤x.2.length∧x.2.length≤8364:=hbr
 have hbl:(RV++XS).length≤256+k∧low≤256+k:=hbl
 have hlenB:=hbl.1
 have hzl:s.left≠0:=by rw [hP.left];decide
 have hcap9:(RV++XS).length≤c9:=vec_cap S 2 rfl
 have hlow9:low≤1000000:=by omega
 by_cases hc0:c=0
 ·subst hc0
  have hz9:(s.fuseR 0).left=0:=by unfold Dsk.fuseR;rw [if_neg hzl];rfl
  have ha3:argsR (s.fuseR 0) 0 ((n:Nat):Int)=3:=by unfold argsR;rw [if_pos hz9]
  change St F w0 w (row gp #[pq gd,pq gl,nI_ n,pq gb] 123::row gb #[.slice A9 ((RV++XS).length) c9,nI_ low,.bool nn] 121::vec 31 1 (.slice A9 (RV++XS).length c9) (RV++XS).length ((RV++XS).map (fun x:RecV=>x.1))::stars (RV.map recD)::PLog gl gd1 l::PW gd s::PW gd1 s1::L) at S
  refine eN (fr [pq gp,iv 0] 91) Try.func121 rfl (sR (pv fv (wER (pv (pq gp) (pv (pq gp) (pv (pq gp) (lR (pq gd) S 0 0 (pv (iv 0) (g_ (gv_call (args:=#[pq gd,iv 0]) rfl Try.func67 kr_ rfl rfl kr_ ?_))))))))))
  have S1:=St.pm 7 [5,0,1,2,3,4,6] S
  refine Calls.mono (pw_fuse (n:=0) om_ S1) ?_
  rintro _ w2 ⟨rfl,S3⟩
  refine ⟨_,rfl,(wE (nS (wp_region_phu (γ:=Unit) 15 [8] (fun (c_:Unit) (i_:Nat)=>(match i_ with|0=>pq gp|1=>pq gp|2=>pq gp|3=>pq gd|4=>pq gp|5=>pq gp|6=>po gp 2|7=>nI_ n|8=>.tuple #[pn,nS_,iv 3]|9=>.tuple #[pn,nS_,iv 3]|10=>pn|11=>nS_|12=>iv 3|13=>pn|14=>nS_|_=>undef:Value)) (fun (c_:Unit) (p_:Nat) (w_:World)=>(match p_ with|0=>St F w0 w_ (PW gd (s.fuseR 0)::row gp #[pq gd,pq gl,nI_ n,pq gb] 123::row gb #[.slice A9 ((RV++XS).length) c9,nI_ low,.bool nn] 121::vec 31 1 (.slice A9 (RV++XS).length c9) (RV++XS).length ((RV++XS).map (fun x:RecV=>x.1))::stars (RV.map recD)::PLog gl gd1 l::PW gd1 s1::L)|_=>St F w0 w_ (PW gd (s.fuseR 0)::row gp #[pq gd,pq gl,nI_ n,pq gb] 123::row gb #[.slice A9 ((RV++XS).length) c9,nI_ low,.bool nn] 121::vec 31 1 (.slice A9 (RV++XS).length c9) (RV++XS).length ((RV++XS).map (fun x:RecV=>x.1))::stars (RV.map recD)::PLog gl gd1 l::PW gd1 s1::L):Prop)) () kr_ kr_ kr_ kr_ (S3.drew) ?_ ?_ ?_)))⟩
  ·intro i_ c_ p_ vals_ w1 hi_ hiE_ hp_ hk_ hu_ hPh_ hd_
   rcases i_ with _|_|_|_|_|_|_|_|_|_|_|_|_|_|_|i_
   ·exact tG_ rfl hd_ (gV (pq gp) ⟨rfl,rfl⟩)
   ·exact tG_ rfl hd_ (gV (pq gp) ⟨rfl,rfl⟩)
   ·exact tG_ rfl hd_ (gV (pq gp) ⟨rfl,rfl⟩)
   ·rcases p_ with _|_|p_
    ·have S7:=St.id hPh_
     exact tG_ rfl hd_ (gL (pq gd) rfl (((S7.blk 1 rfl).cell 0).trans rfl) ⟨rfl,rfl⟩)
    ·exact absurd (hu_ 0 dc_ kr_) dc_
    ·exact absurd hp_ (by simp)
   ·exact tG_ rfl hd_ (gV (pq gp) ⟨rfl,rfl⟩)
   ·exact tG_ rfl hd_ (gV (pq gp) ⟨rfl,rfl⟩)
   ·exact tG_ rfl hd_ (gV (po gp 2) ⟨rfl,rfl⟩)
   ·rcases p_ with _|_|p_
    ·have S11:=St.id hPh_
     exact tG_ rfl hd_ (gL (nI_ n) rfl (((S11.blk 1 rfl).cell 2).trans rfl) ⟨rfl,rfl⟩)
    ·exact absurd (hu_ 0 dc_ kr_) dc_
    ·exact absurd hp_ (by simp)
   ·exact absurd hiE_ dc_
   ·exact tG_ rfl hd_ (gV (.tuple #[pn,nS_,iv 3]) ⟨rfl,rfl⟩)
   ·exact tG_ rfl hd_ (gV pn ⟨rfl,rfl⟩)
   ·exact tG_ rfl hd_ (gV (nS_) ⟨rfl,rfl⟩)
   ·exact tG_ rfl hd_ (gV (iv 3) ⟨rfl,rfl⟩)
   ·exact tG_ rfl hd_ (gV pn ⟨rfl,rfl⟩)
   ·exact tG_ rfl hd_ (gV (nS_) ⟨rfl,rfl⟩)
   ·exact absurd hi_ om_
  ·intro k_ c_ vals_ w1 hk_ hPh_ hd_
   rcases k_ with _|k_
   ·have S18:=St.id hPh_
    refine tG_ rfl hd_ (gv_call (args:=#[pq gd,iv 0,nI_ n]) rfl Try.func61 kr_ rfl rfl kr_ ?_)
    have hq0:=w_open_args (n:=((n:Nat):Int)) S18 (by rw [ha3];decide)
    rw [ha3] at hq0
    refine Calls.mono hq0 ?_
    rintro _ w19 ⟨rfl,S20⟩
    refine ⟨_,rfl,⟨(),rfl, ?_,S20⟩⟩
    intro i_ hi_ hne_ hdp_
    rcases i_ with _|_|_|_|_|_|_|_|_|_|_|_|_|_|_|i_
    ·rfl
    ·rfl
    ·rfl
    ·rfl
    ·rfl
    ·rfl
    ·rfl
    ·rfl
    ·exact absurd rfl hne_
    ·exact dN_ hdp_
    ·exact dN_ hdp_
    ·exact dN_ hdp_
    ·exact dN_ hdp_
    ·exact dN_ hdp_
    ·exact dN_ hdp_
    ·exact absurd hi_ om_
   ·exact absurd hk_ (by simp)
  ·intro c_ w1 hPh_
   have S21:=St.id hPh_
   refine (pv (iv 3) (wE (nS (sR (pv (iv 0) (dE 0 0 (fun _=>wE (nCT (sR (pv pn (pv tv (pv tv (pW (iv 3) ?_))))))) fun hd22=>False.elim (hd22 rfl)))))))
   refine wl_when kr_ (gv_eq (x:=3) (y:=3) kr_ (fun _=>pv tv (pv tv (pW (nS_) (pW (iv 0) (wl_when kr_ (gv_eq (x:=0) (y:=0) kr_ (fun _=>pv tv (pv tv (wE (then_n (rR (bA (.bool true) ?_)))))) (fun hd24=>False.elim (hd24 rfl)))))))) (fun hd23=>False.elim (hd23 rfl)))
   have S25:=St.pm 7 [1,2,3,4,5,0,6] S21
   have hok9:DOk (s.fuseR 0):=St.pw_ok (L:=[]) (S25.mem 5 rfl)
   have hI9:=hP.dead hD.lg hok9
   exact ⟨rfl,St.pam2 rfl (St.pxc (p:=⟨gd,gl,gb,.slice A9 (RV++XS).length c9,RV,XS,s.fuseR 0,l,low,nn⟩) hbx hbr ⟨by show (RV++XS).length≤_;omega,by show low≤_;omega⟩ hI9.2 hI9.1 hD S25)⟩
 ·have hf9:=fuse_ne (x:=s) hzl hc0
  change St F w0 w (row gp #[pq gd,pq gl,nI_ n,pq gb] 123::row gb #[.slice A9 ((RV++XS).length) c9,nI_ low,.bool nn] 121::vec 31 1 (.slice A9 (RV++XS).length c9) (RV++XS).length ((RV++XS).map (fun x:RecV=>x.1))::stars (RV.map recD)::PLog gl gd1 l::PW gd s::PW gd1 s1::L) at S
  refine eN (fr [pq gp,iv c] 91) Try.func121 rfl (sR (pv fv (wER (pv (pq gp) (pv (pq gp) (pv (pq gp) (lR (pq gd) S 0 0 (pv (iv c) (g_ (gv_call (args:=#[pq gd,iv c]) rfl Try.func67 kr_ rfl rfl kr_ ?_))))))))))
  have S1:=St.pm 7 [5,0,1,2,3,4,6] S
  refine Calls.mono (pw_fuse (n:=c) om_ S1) ?_
  rintro _ w2 ⟨rfl,S3⟩
  refine ⟨_,rfl,(wE (nS (wp_region_phu (γ:=OpY) 15 [8] (fun (c_:OpY) (i_:Nat)=>(match i_ with|0=>pq gp|1=>pq gp|2=>pq gp|3=>pq gd|4=>pq gp|5=>pq gp|6=>po gp 2|7=>nI_ n|8=>.tuple #[pq c_.g,.slice c_.A c_.m c_.c,iv 0]|9=>.tuple #[pq c_.g,.slice c_.A c_.m c_.c,iv 0]|10=>pq c_.g|11=>.slice c_.A c_.m c_.c|12=>iv 0|13=>pq c_.g|14=>.slice c_.A c_.m c_.c|_=>undef:Value)) (fun (c_:OpY) (p_:Nat) (w_:World)=>(match p_ with|0=>St F w0 w_ (PW gd (s.fuseR c)::row gp #[pq gd,pq gl,nI_ n,pq gb] 123::row gb #[.slice A9 ((RV++XS).length) c9,nI_ low,.bool nn] 121::vec 31 1 (.slice A9 (RV++XS).length c9) (RV++XS).length ((RV++XS).map (fun x:RecV=>x.1))::stars (RV.map recD)::PLog gl gd1 l::PW gd1 s1::L)|_=>St F w0 w_ (OPN gd k n (s.fuseR c) s.life ((RV++XS).map (·.2)) low nn c_::row gp #[pq gd,pq gl,nI_ n,pq gb] 123::row gb #[.slice A9 ((RV++XS).length) c9,nI_ low,.bool nn] 121::vec 31 1 (.slice A9 (RV++XS).length c9) (RV++XS).length ((RV++XS).map (fun x:RecV=>x.1))::stars (RV.map recD)::PLog gl gd1 l::PW gd1 s1::L):Prop)) (OpY.zero) kr_ kr_ kr_ kr_ (S3.drew) ?_ ?_ ?_)))⟩
  ·intro i_ c_ p_ vals_ w1 hi_ hiE_ hp_ hk_ hu_ hPh_ hd_
   rcases i_ with _|_|_|_|_|_|_|_|_|_|_|_|_|_|_|i_
   ·exact tG_ rfl hd_ (gV (pq gp) ⟨rfl,rfl⟩)
   ·exact tG_ rfl hd_ (gV (pq gp) ⟨rfl,rfl⟩)
   ·exact tG_ rfl hd_ (gV (pq gp) ⟨rfl,rfl⟩)
   ·rcases p_ with _|_|p_
    ·have S7:=St.id hPh_
     exact tG_ rfl hd_ (gL (pq gd) rfl (((S7.blk 1 rfl).cell 0).trans rfl) ⟨rfl,rfl⟩)
    ·exact absurd (hu_ 0 dc_ kr_) dc_
    ·exact absurd hp_ (by simp)
   ·exact tG_ rfl hd_ (gV (pq gp) ⟨rfl,rfl⟩)
   ·exact tG_ rfl hd_ (gV (pq gp) ⟨rfl,rfl⟩)
   ·exact tG_ rfl hd_ (gV (po gp 2) ⟨rfl,rfl⟩)
   ·rcases p_ with _|_|p_
    ·have S11:=St.id hPh_
     exact tG_ rfl hd_ (gL (nI_ n) rfl (((S11.blk 1 rfl).cell 2).trans rfl) ⟨rfl,rfl⟩)
    ·exact absurd (hu_ 0 dc_ kr_) dc_
    ·exact absurd hp_ (by simp)
   ·exact absurd hiE_ dc_
   ·exact tG_ rfl hd_ (gV (.tuple #[pq c_.g,.slice c_.A c_.m c_.c,iv 0]) ⟨rfl,rfl⟩)
   ·exact tG_ rfl hd_ (gV (pq c_.g) ⟨rfl,rfl⟩)
   ·exact tG_ rfl hd_ (gV (.slice c_.A c_.m c_.c) ⟨rfl,rfl⟩)
   ·exact tG_ rfl hd_ (gV (iv 0) ⟨rfl,rfl⟩)
   ·exact tG_ rfl hd_ (gV (pq c_.g) ⟨rfl,rfl⟩)
   ·exact tG_ rfl hd_ (gV (.slice c_.A c_.m c_.c) ⟨rfl,rfl⟩)
   ·exact absurd hi_ om_
  ·intro k_ c_ vals_ w1 hk_ hPh_ hd_
   rcases k_ with _|k_
   ·have S18:=St.id hPh_
    refine tG_ rfl hd_ (gv_call (args:=#[pq gd,iv 0,nI_ n]) rfl Try.func61 kr_ rfl rfl kr_ (Calls.mono (p_openY hP hk (s1:=s.fuseR c) (fuseR_same s c).1 ((fuseR_same s c).2.trans hP.pend) hf9.1 (fuseR_life s c) S18) ?_))
    rintro _ w19 ⟨m21,rfl,S20⟩
    refine ⟨_,rfl,⟨(m21),rfl, ?_,S20⟩⟩
    intro i_ hi_ hne_ hdp_
    rcases i_ with _|_|_|_|_|_|_|_|_|_|_|_|_|_|_|i_
    ·rfl
    ·rfl
    ·rfl
    ·rfl
    ·rfl
    ·rfl
    ·rfl
    ·rfl
    ·exact absurd rfl hne_
    ·exact dN_ hdp_
    ·exact dN_ hdp_
    ·exact dN_ hdp_
    ·exact dN_ hdp_
    ·exact dN_ hdp_
    ·exact dN_ hdp_
    ·exact absurd hi_ om_
   ·exact absurd hk_ (by simp)
  ·intro c_ w1 hPh_
   have S22:=St.id hPh_
   refine (pv (iv 0) (wE (nS (sR ?_))))
   obtain ⟨RV2,hd2,E2,T2,s2,⟨hm2,hmay2,hfl2,he1,he2,ht2,hlf2,hle2,hm256,hb2⟩,S23⟩:=St.opn S22
   change St F w0 w1 (vec 31 1 (.slice c_.A c_.m c_.c) c_.m (RV2.map (fun x:RecV=>x.1))::stars (RV2.map recD)::PLog c_.g gd ⟨0,n,s2.life,E2,E2,T2,hd2,false⟩::PW gd s2::row gp #[pq gd,pq gl,nI_ n,pq gb] 123::row gb #[.slice A9 ((RV++XS).length) c9,nI_ low,.bool nn] 121::vec 31 1 (.slice A9 (RV++XS).length c9) (RV++XS).length ((RV++XS).map (fun x:RecV=>x.1))::stars (RV.map recD)::PLog gl gd1 l::PW gd1 s1::L) at S23
   refine pv (iv c) (dE c 0 (fun hd24=>False.elim (hc0 hd24)) fun _=>wE (nCF (wp_skip (nS (sR (pv (pq c_.g) (pv fv (pv fv (pW (iv 0) (wl_when kr_ (gv_ne (x:=0) (y:=0) kr_ (fun hd25=>False.elim (hd25 rfl)) (fun _=>pv fv (pv fv ?_)))))))))))))
   refine pW (pq gp) (pW (pq gp) (pW (po gp 3) (wl_when kr_ (gv_ldR (v:=pq gb) rfl kr_ kr_ (((S23.blk 4 rfl).cell 3).trans rfl) (pW (.slice c_.A c_.m c_.c) (wl_when kr_ (gv_call (args:=#[pq gb,.slice c_.A c_.m c_.c]) rfl Try.func146 kr_ rfl rfl kr_ ?_)))))))
   have S26:=St.pm 10 [5,0,1,2,3,4,6,7,8,9] S23
   refine Calls.mono (w_may (LB:=RV++XS) (told:=RV2) S26 (rol_own S26 1 2 (by rw [hm2];rfl) rfl hb2) (rol_pb S26 6 7 rfl rfl hbr hbx) hm2.symm hmay2 om_ hcap9 hlow9) ?_
   rintro _ w27 ⟨rfl,S28⟩
   refine ⟨_,rfl,(pW (.bool false) (pv fv (wE (nCF (wp_skip (nSR (pv (pq gp) (pv (pq c_.g) (pv (pq gp) (pv (po gp 1) (sS S28 5 rfl 1 (pq c_.g) fun w29 S30=>wER (pv (pq gp) ?_))))))))))))⟩
   refine pv (.slice c_.A c_.m c_.c) (pv (.slice c_.A c_.m c_.c) (pv (iv (c_.m:Nat)) (pv (.agg #[.slice c_.A c_.m c_.c,iv (c_.m:Nat),fv]) (nB rfl (.agg #[.slice c_.A c_.m c_.c,iv (c_.m:Nat),.bool false]) S30 fun g31 w32 hg33 S34=>pv (pq gp) (pv (po gp 3) (sS S34 6 rfl 3 (pq g31) fun w35 S36=>wER (pv (pq c_.g) (g_ (gv_call (args:=#[pq c_.g]) rfl Try.func71 kr_ rfl rfl kr_ ?_)))))))))
   have S37:=St.pm 11 [4,5,0,1,2,3,6,7,8,9,10] S36
   refine Calls.mono (p_start hfl2 he1 he2 ht2 hk (by rw [hlf2];have:=hP.life;omega) S37) ?_
   rintro _ w38 ⟨s3,l3,hl33,(⟨rfl,hI3,hm3,S39⟩|⟨rfl,hlq,hI3,S39⟩)⟩
   ·refine ⟨_,rfl,(pv (iv 0) (wE (nS (sR (pv (iv 0) (dE 0 0 (fun _=>wE (nCT (sR (pv (pq gp) (pv (.agg #[nS_,iv 0,fv]) (nB rfl (.agg #[nS_,iv 0,.bool false]) S39 fun g41 w42 hg43 S44=>pv (pq gp) ?_)))))) fun hd40=>False.elim (hd40 rfl)))))))⟩
    refine pv (po gp 3) (sS S44 7 rfl 3 (pq g41) fun w45 S46=>wE (nSR (pv tv (wE (then_n (rR (bA (.bool true) ?_)))))))
    have S47:=St.pm 12 [7,0,1,2] S46
    have S48:St F w0 w45 (stars ((([]:List RecV)).map recD)::row gp #[pq gd,pq c_.g,nI_ n,pq g41] 123::row g41 #[nS_,iv 0,.bool false] 121::PLog c_.g gd l3::PW gd s3::L):=St.star_nil S47
    have S49:St F w0 w45 (vec 31 1 (nS_) 0 ((([]:List RecV)).map (fun x:RecV=>x.1))::stars ((([]:List RecV)).map recD)::row gp #[pq gd,pq c_.g,nI_ n,pq g41] 123::row g41 #[nS_,iv 0,.bool false] 121::PLog c_.g gd l3::PW gd s3::L):=St.vec_nil S48
    have S50:=St.pm 6 [2,3,0,1,4,5] S49
    exact ⟨rfl,St.pam1 (St.pbc1 (RV:=[]) rfl (fun x hx=>(by cases hx)) (Nat.zero_le _) (Nat.zero_le _) om_ (fun q=>⟨hm3 (by rw [hle2,hf9.2.1 q];rfl),rfl⟩) hI3 S50)⟩
   ·refine ⟨_,rfl, ?_⟩
    have hc3:0<c∧c<3:=by
     rw [hle2] at hlq;unfold spent at hlq
     by_cases hcn:c<0
     ·have h9:=hf9.2.1 hcn;rw [h9,if_neg dc_] at hlq;omega
     ·have h9:=hf9.2.2 om_;rw [h9,if_pos om_] at hlq;omega
    refine pv (iv 3) (wE (nS (sR (pv (iv 3) (dE 3 0 (fun hd51=>False.elim om_) fun _=>wE (nCF (wp_skip (nSR (pv (pq gp) (pv (pq gp) (pv (po gp 3) (lR (pq g31) S39 6 3 ?_))))))))))))
    refine pv (pq g31) (pv (po g31 2) (sS S39 2 rfl 2 (.bool true) fun w52 S53=>wE (nSR (pv (iv 3) (dE 3 3 (fun _=>pv tv (pW (iv c) (wl_when kr_ (gv_dec (p:=(c:Int)>0) kr_ (fun _=>pv tv (pv tv (pW (iv c) (wl_when kr_ (gv_dec (p:=(c:Int)<3) kr_ (fun _=> ?_) (fun hd56=>False.elim om_)))))) (fun hd55=>False.elim om_))))) fun hd54=>False.elim (hd54 rfl))))))
    refine pv tv (pv tv (wE (then_n (wp_ret (bA (.bool true) ?_)))))
    have S57:=St.pm 11 [6,2,4,5,0,1] S53
    have hI4:PInv (k+1) n s3 l3 (RV2.map (·.2)) c_.m true:=by have h:=hI3;rw [List.length_map,hm2] at h;exact h
    exact ⟨rfl,St.pam1 (St.pbc1 hm2 hb2 hm256 om_ om_ (fun q=>by omega) hI4 S57)⟩
end
section
variable {F:Nat→Prop} {w0 w:World} {L:List Ast}
theorem secs_flatten:∀{l:List (List UInt8)},(∀x∈l,x.length=512)→secs l.flatten l.length=l
 |[],_=>rfl
 |x::r,h=>by
  have hx:=h x List.mem_cons_self
  rw [List.flatten_cons,List.length_cons,secs,List.take_append_of_le_length om_,List.take_of_length_le om_,List.drop_append_of_le_length om_,List.drop_of_length_le om_,List.nil_append]
  rw [secs_flatten fun y hy=>h y (List.mem_cons_of_mem _ hy)]
theorem sync_life (s:Dsk)(l:Lg):(syncR s l).1.life=s.life:=by
 unfold syncR
 split
 ·rfl
 ·exact (Did.flush s).life
theorem PInv.deadC {k n low:Nat}{s:Dsk}{l:Lg}{B:List (List UInt8)}{nn:Bool}(h:PInv k n s l B low nn)(hk:k≤70000)(hl:l.life≤s.life)(ps:List Pick):DeadL n (s.crashR ps) l:=by
 have hf:=h.life
 have e:(s.crashR ps).life=s.life+1:=inc_ok hf.1 om_
 refine ⟨?_,h.lg,(crashR_len s ps).trans h.len,Nat.zero_le _⟩
 unfold aliveR
 rw [e,show decide (s.life+1=l.life)=false from decide_eq_false om_,Bool.and_false]
theorem St.pbn {gp k n:Nat}(S:St F w0 w (PB F w0 gp k n::L)):St F w0 w (PB F w0 gp (k+1) n::L):=S.map1 fun h hh=>by
 obtain ⟨p,⟨h1,h2⟩,h3⟩:=hh
 exact ⟨p,⟨h1.next,h2.next⟩,h3⟩
theorem St.pxn {gp k n:Nat}(S:St F w0 w (PBX F w0 gp k n::L)):St F w0 w (PBX F w0 gp (k+1) n::L):=S.map1 fun h hh=>by
 obtain ⟨p,gd1,s1,⟨h1,h2,h3,h4,h5⟩,h6⟩:=hh
 exact ⟨p,gd1,s1,⟨h1,h2,⟨by omega,by omega⟩,h4.next,h5⟩,h6⟩
theorem w_oneB {gp k n:Nat}(S:St F w0 w (PB F w0 gp k n::L))(hk:k≤70000){kind a b:Int}{Ax A2:Option Addr}{d:List UInt8}{ps:List Pick}{cd cq:Nat}(hr:∀L,RoT F w0 L Ax d)(hrp:∀L,RoV F w0 L A2 (picksV ps))(hcap:d.length≤cd)(hdm:d.length≤140737488351232)(hpm:ps.length*24≤140737488355328)(ham:a≤9223372036854775807):Calls Try.prog 72 #[.pointer (some ⟨gp,0,none⟩),.agg #[.int .i64 kind,.int .i64 a,.int .i64 b,.slice Ax d.length cd,.slice A2 ps.length cq]] w fun e w'=>e=.returned (.bool true)∧St F w0 w' (PA F w0 gp (k+1) n::L):=by
 refine eN (fr [pq gp,.agg #[iv kind,iv a,iv b,.slice Ax d.length cd,.slice A2 ps.length cq]] 95) Try.func72 rfl (sR (nB rfl (.agg #[iv kind,iv a,iv b,.slice Ax d.length cd,.slice A2 ps.length cq]) S fun g1 w2 hg3 S4=>pv fv (wE (nS (sR (pv (pq g1) (lR (iv kind) S4 0 0 (wE (then_n (wp_block (sR (dE kind 4 (fun hb5=> ?_) fun hb5=> ?_))))))))))))
 ·refine pv tv (wE (nCT (sR (pv (pq gp) (pv (po g1 3) (lR (.slice Ax d.length cd) S4 0 3 (g_ (gv_call (args:=#[pq gp,.slice Ax d.length cd]) rfl Try.func119 kr_ rfl rfl kr_ ?_))))))))
  have S6:=St.pm 2 [1,0] S4
  refine Calls.mono (w_pappend S6 hk hr hdm hcap) ?_
  rintro _ w7 ⟨rfl,S8⟩
  refine ⟨_,rfl,(pv tv (wE (then_n (wp_ret (inb_r (then_r (bA (.bool true) ?_)))))))⟩
  have S9:=St.pm 2 [0] S8
  exact ⟨rfl,St.pa1 S9⟩
 ·refine pv fv (wE (nCF (sR (dE kind 5 (fun hb10=> ?_) fun hb10=> ?_))))
  ·refine pv tv (wE (nCT (sR ?_)))
   have S11:=St.pm 2 [1,0] S4
   obtain ⟨⟨gd,gl,gb,v,RV,XS,s,l,low,nn⟩,hb,hI,S0⟩:=St.pbo S11
   have hI:PInv k n s l ((RV++XS).map (·.2)) low nn:=hI
   have hb:PBok F w0 k n ⟨gd,gl,gb,v,RV,XS,s,l,low,nn⟩:=hb
   change St F w0 w2 (row gp #[pq gd,pq gl,nI_ n,pq gb] 123::row gb #[v,nI_ low,.bool nn] 121::vec 31 1 v (RV++XS).length ((RV++XS).map (fun x:RecV=>x.1))::stars (RV.map recD)::PLog gl gd l::PW gd s::row g1 #[iv kind,iv a,iv b,.slice Ax d.length cd,.slice A2 ps.length cq] 111::L) at S0
   obtain ⟨A9,c9,hv9⟩:=St.vecV S0 2 rfl
   have hv9:v=.slice A9 (RV++XS).length c9:=hv9
   subst hv9
   have hI:PInv k n s l ((RV++XS).map (·.2)) low nn:=hI
   have hlenB:(RV++XS).length≤256+k:=hb.len
   have hloB:low≤256+k:=hb.lo
   have hlfB:l.life≤s.life:=hb.lf
   have hbx:XOk F w0 XS:=hb.xs
   have hbr:∀x∈RV,1≤x.2.length∧x.2.length≤8364:=hb.rv
   refine pv (pq gp) (pv (pq gp) (pv (po gp 1) (lR (pq gl) S0 0 1 (g_ (gv_call (args:=#[pq gl]) rfl Try.func60 kr_ rfl rfl kr_ ?_)))))
   have S12:=St.pm 7 [4,5,0,1,2,3,6] S0
   refine Calls.mono (w_sync S12) ?_
   rintro _ w13 ⟨rfl,S14⟩
   refine ⟨_,rfl,(pv (iv ((syncR s l).2)) (wE (nS (sR ?_))))⟩
   have hokA:DOk (syncR s l).1:=St.pw_ok (L:=[]) (S14.mem 1 rfl)
   rcases hI.sync hokA rfl with ⟨eA,hI2⟩|⟨eA,hI2⟩
   ·have hI2:PInv (k+1) n (syncR s l).1 l ((RV++XS).map (·.2)) (RV++XS).length nn:=by have h:=hI2;rw [List.length_map] at h;exact h
    refine pv (iv ((syncR s l).2)) (dE ((syncR s l).2) 0 (fun _=>wE (nCT (wp_region_phu (γ:=Unit) 15 [14] (fun (c_:Unit) (i_:Nat)=>(match i_ with|0=>pq gp|1=>pq gp|2=>po gp 3|3=>pq gb|4=>pq gp|5=>pq gp|6=>po gp 3|7=>pq gb|8=>pq gb|9=>pq gb|10=>.slice A9 ((RV++XS).length) c9|11=>iv ((RV++XS).length:Nat)|12=>pq gb|13=>po gb 1|14=>undef|_=>undef:Value)) (fun (c_:Unit) (p_:Nat) (w_:World)=>(match p_ with|0=>St F w0 w_ (PLog gl gd l::PW gd (syncR s l).1::row gp #[pq gd,pq gl,nI_ n,pq gb] 123::row gb #[.slice A9 ((RV++XS).length) c9,nI_ low,.bool nn] 121::vec 31 1 (.slice A9 (RV++XS).length c9) (RV++XS).length ((RV++XS).map (fun x:RecV=>x.1))::stars (RV.map recD)::row g1 #[iv kind,iv a,iv b,.slice Ax d.length cd,.slice A2 ps.length cq] 111::L)|_=>St F w0 w_ (PLog gl gd l::PW gd (syncR s l).1::row gp #[pq gd,pq gl,nI_ n,pq gb] 123::row gb #[.slice A9 ((RV++XS).length) c9,iv ((RV++XS).length:Nat),.bool nn] 121::vec 31 1 (.slice A9 (RV++XS).length c9) (RV++XS).length ((RV++XS).map (fun x:RecV=>x.1))::stars (RV.map recD)::row g1 #[iv kind,iv a,iv b,.slice Ax d.length cd,.slice A2 ps.length cq] 111::L):Prop)) () kr_ kr_ kr_ kr_ (S14.drew) ?_ ?_ ?_))) fun hd15=>False.elim (hd15 eA))
    ·intro i_ c_ p_ vals_ w1 hi_ hiE_ hp_ hk_ hu_ hPh_ hd_
     rcases i_ with _|_|_|_|_|_|_|_|_|_|_|_|_|_|_|i_
     ·exact tG_ rfl hd_ (gV (pq gp) ⟨rfl,rfl⟩)
     ·exact tG_ rfl hd_ (gV (pq gp) ⟨rfl,rfl⟩)
     ·exact tG_ rfl hd_ (gV (po gp 3) ⟨rfl,rfl⟩)
     ·rcases p_ with _|_|p_
      ·have S19:=St.id hPh_
       exact tG_ rfl hd_ (gL (pq gb) rfl (((S19.blk 2 rfl).cell 3).trans rfl) ⟨rfl,rfl⟩)
      ·exact absurd (hu_ 0 dc_ kr_) dc_
      ·exact absurd hp_ (by simp)
     ·exact tG_ rfl hd_ (gV (pq gp) ⟨rfl,rfl⟩)
     ·exact tG_ rfl hd_ (gV (pq gp) ⟨rfl,rfl⟩)
     ·exact tG_ rfl hd_ (gV (po gp 3) ⟨rfl,rfl⟩)
     ·rcases p_ with _|_|p_
      ·have S23:=St.id hPh_
       exact tG_ rfl hd_ (gL (pq gb) rfl (((S23.blk 2 rfl).cell 3).trans rfl) ⟨rfl,rfl⟩)
      ·exact absurd (hu_ 0 dc_ kr_) dc_
      ·exact absurd hp_ (by simp)
     ·exact tG_ rfl hd_ (gV (pq gb) ⟨rfl,rfl⟩)
     ·exact tG_ rfl hd_ (gV (pq gb) ⟨rfl,rfl⟩)
     ·rcases p_ with _|_|p_
      ·have S26:=St.id hPh_
       exact tG_ rfl hd_ (gL (.slice A9 ((RV++XS).length) c9) rfl (((S26.blk 3 rfl).cell 0).trans rfl) ⟨rfl,rfl⟩)
      ·exact absurd (hu_ 0 dc_ kr_) dc_
      ·exact absurd hp_ (by simp)
     ·exact tG_ rfl hd_ (gV (iv ((RV++XS).length:Nat)) ⟨rfl,rfl⟩)
     ·exact tG_ rfl hd_ (gV (pq gb) ⟨rfl,rfl⟩)
     ·exact tG_ rfl hd_ (gV (po gb 1) ⟨rfl,rfl⟩)
     ·exact absurd hiE_ dc_
     ·exact absurd hi_ om_
    ·intro k_ c_ vals_ w1 hk_ hPh_ hd_
     rcases k_ with _|k_
     ·have S30:=St.id hPh_
      refine tG_ rfl hd_ (gv_st (k:=1) (v:=iv ((RV++XS).length:Nat)) S30 3 rfl rfl kr_ kr_ kr_ rfl rfl (L':=(PLog gl gd l::PW gd (syncR s l).1::row gp #[pq gd,pq gl,nI_ n,pq gb] 123::row gb #[.slice A9 ((RV++XS).length) c9,iv ((RV++XS).length:Nat),.bool nn] 121::vec 31 1 (.slice A9 (RV++XS).length c9) (RV++XS).length ((RV++XS).map (fun x:RecV=>x.1))::stars (RV.map recD)::row g1 #[iv kind,iv a,iv b,.slice Ax d.length cd,.slice A2 ps.length cq] 111::L)) rfl (fun w31 S32=>⟨(),rfl, ?_,S32⟩))
      intro i_ hi_ hne_ hdp_
      rcases i_ with _|_|_|_|_|_|_|_|_|_|_|_|_|_|_|i_
      ·rfl
      ·rfl
      ·rfl
      ·rfl
      ·rfl
      ·rfl
      ·rfl
      ·rfl
      ·rfl
      ·rfl
      ·rfl
      ·rfl
      ·rfl
      ·rfl
      ·exact absurd rfl hne_
      ·exact absurd hi_ om_
     ·exact absurd hk_ (by simp)
    ·intro c_ w1 hPh_
     have S33:=St.id hPh_
     refine (wE (nSR (pv (iv ((syncR s l).2)) (dE ((syncR s l).2) 0 (fun _=>pv tv (wN (wN (pv tv (pv tv (wE (then_n (wp_ret (inb_r ?_))))))))) fun hd34=>False.elim (hd34 eA)))))
     refine then_r (bA (.bool true) ?_)
     have S35:=St.pm 7 [2,3,4,5,0,1] S33
     exact ⟨rfl,St.pa1 (St.pbc (p:=⟨gd,gl,gb,.slice A9 (RV++XS).length c9,RV,XS,(syncR s l).1,l,(RV++XS).length,nn⟩) ⟨hbx,hbr,by show (RV++XS).length≤_;omega,by show (RV++XS).length≤_;omega,by show l.life≤(syncR s l).1.life;rw [sync_life];exact hlfB⟩ hI2 S35)⟩
   ·refine pv (iv ((syncR s l).2)) (dE ((syncR s l).2) 0 (fun hd36=>False.elim om_) fun _=>wE (nCF (wp_skip (nSR (pv (iv ((syncR s l).2)) (dE ((syncR s l).2) 0 (fun hd37=>False.elim om_) fun _=>pv fv (pW (iv ((syncR s l).2)) (wl_when kr_ (gv_eq (x:=((syncR s l).2)) (y:=3) kr_ (fun _=>pv tv (pv tv (wE ?_))) (fun hd38=>False.elim (hd38 eA)))))))))))
    refine then_n (wp_ret (inb_r (then_r (bA (.bool true) ?_))))
    have S39:=St.pm 7 [2,3,4,5,0,1] S14
    exact ⟨rfl,St.pa1 (St.pbc (p:=⟨gd,gl,gb,.slice A9 (RV++XS).length c9,RV,XS,(syncR s l).1,l,low,nn⟩) ⟨hbx,hbr,by show (RV++XS).length≤_;omega,by show low≤_;omega,by show l.life≤(syncR s l).1.life;rw [sync_life];exact hlfB⟩ hI2 S39)⟩
  ·refine pv fv (wE (nCF (sR (dE kind 6 (fun hb40=> ?_) fun hb40=> ?_))))
   ·refine pv tv (wE (nCT (sR (pv (pq gp) (g_ (gv_call (args:=#[pq gp]) rfl Try.func120 kr_ rfl rfl kr_ ?_))))))
    have S41:=St.pm 2 [1,0] S4
    refine Calls.mono (w_ptrim S41 hk) ?_
    rintro _ w42 ⟨rfl,S43⟩
    refine ⟨_,rfl,(pv tv (wE (then_n (wp_ret (inb_r (then_r (bA (.bool true) ?_)))))))⟩
    have S44:=St.pm 2 [0] S43
    exact ⟨rfl,St.pa1 S44⟩
   ·refine pv fv (wE (nCF (sR (dE kind 9 (fun hb45=> ?_) fun hb45=> ?_))))
    ·refine pv tv (wE (nCT ?_))
     have S46:=St.pm 2 [1,0] S4
     obtain ⟨⟨gd,gl,gb,v,RV,XS,s,l,low,nn⟩,hb,hI,S0⟩:=St.pbo S46
     have hI:PInv k n s l ((RV++XS).map (·.2)) low nn:=hI
     have hb:PBok F w0 k n ⟨gd,gl,gb,v,RV,XS,s,l,low,nn⟩:=hb
     change St F w0 w2 (row gp #[pq gd,pq gl,nI_ n,pq gb] 123::row gb #[v,nI_ low,.bool nn] 121::vec 31 1 v (RV++XS).length ((RV++XS).map (fun x:RecV=>x.1))::stars (RV.map recD)::PLog gl gd l::PW gd s::row g1 #[iv kind,iv a,iv b,.slice Ax d.length cd,.slice A2 ps.length cq] 111::L) at S0
     obtain ⟨A9,c9,hv9⟩:=St.vecV S0 2 rfl
     have hv9:v=.slice A9 (RV++XS).length c9:=hv9
     subst hv9
     have hI:PInv k n s l ((RV++XS).map (·.2)) low nn:=hI
     have hlenB:(RV++XS).length≤256+k:=hb.len
     have hloB:low≤256+k:=hb.lo
     have hlfB:l.life≤s.life:=hb.lf
     have hbx:XOk F w0 XS:=hb.xs
     have hbr:∀x∈RV,1≤x.2.length∧x.2.length≤8364:=hb.rv
     refine wp_region_phu (γ:=Unit) 7 [6] (fun (c2_:Unit) (i_:Nat)=>(match i_ with|0=>pq gp|1=>pq gp|2=>pq gp|3=>pq gd|4=>po g1 1|5=>iv a|6=>.tuple #[]|_=>undef:Value)) (fun (c2_:Unit) (p_:Nat) (w_:World)=>(match p_ with|0=>St F w0 w_ (row gp #[pq gd,pq gl,nI_ n,pq gb] 123::row gb #[.slice A9 ((RV++XS).length) c9,nI_ low,.bool nn] 121::vec 31 1 (.slice A9 (RV++XS).length c9) (RV++XS).length ((RV++XS).map (fun x:RecV=>x.1))::stars (RV.map recD)::PLog gl gd l::PW gd s::row g1 #[iv kind,iv a,iv b,.slice Ax d.length cd,.slice A2 ps.length cq] 111::L)|_=>St F w0 w_ (PW gd (s.fuseR a)::row gp #[pq gd,pq gl,nI_ n,pq gb] 123::row gb #[.slice A9 ((RV++XS).length) c9,nI_ low,.bool nn] 121::vec 31 1 (.slice A9 (RV++XS).length c9) (RV++XS).length ((RV++XS).map (fun x:RecV=>x.1))::stars (RV.map recD)::PLog gl gd l::row g1 #[iv kind,iv a,iv b,.slice Ax d.length cd,.slice A2 ps.length cq] 111::L):Prop)) () kr_ kr_ kr_ kr_ (S0.drew) ?_ ?_ ?_
     ·intro i_ c2_ p_ vals_ w1 hi_ hiE_ hp_ hk_ hu_ hPh_ hd_
      rcases i_ with _|_|_|_|_|_|_|i_
      ·exact tG_ rfl hd_ (gV (pq gp) ⟨rfl,rfl⟩)
      ·exact tG_ rfl hd_ (gV (pq gp) ⟨rfl,rfl⟩)
      ·exact tG_ rfl hd_ (gV (pq gp) ⟨rfl,rfl⟩)
      ·rcases p_ with _|_|p_
       ·have S50:=St.id hPh_
        exact tG_ rfl hd_ (gL (pq gd) rfl (((S50.blk 0 rfl).cell 0).trans rfl) ⟨rfl,rfl⟩)
       ·exact absurd (hu_ 0 dc_ kr_) dc_
       ·exact absurd hp_ (by simp)
      ·exact tG_ rfl hd_ (gV (po g1 1) ⟨rfl,rfl⟩)
      ·rcases p_ with _|_|p_
       ·have S52:=St.id hPh_
        exact tG_ rfl hd_ (gL (iv a) rfl (((S52.blk 6 rfl).cell 1).trans rfl) ⟨rfl,rfl⟩)
       ·exact absurd (hu_ 0 dc_ kr_) dc_
       ·exact absurd hp_ (by simp)
      ·exact absurd hiE_ dc_
      ·exact absurd hi_ om_
     ·intro k_ c2_ vals_ w1 hk_ hPh_ hd_
      rcases k_ with _|k_
      ·have S53:=St.id hPh_
       refine tG_ rfl hd_ (gv_call (args:=#[pq gd,iv a]) rfl Try.func67 kr_ rfl rfl kr_ ?_)
       have S54:=St.pm 7 [5,0,1,2,3,4,6] S53
       refine Calls.mono (pw_fuse (n:=a) ham S54) ?_
       rintro _ w55 ⟨rfl,S56⟩
       refine ⟨_,rfl,⟨(),rfl, ?_,S56⟩⟩
       intro i_ hi_ hne_ hdp_
       rcases i_ with _|_|_|_|_|_|_|i_
       ·rfl
       ·rfl
       ·rfl
       ·rfl
       ·rfl
       ·rfl
       ·exact absurd rfl hne_
       ·exact absurd hi_ om_
      ·exact absurd hk_ (by simp)
     ·intro c2_ w1 hPh_
      have S57:=St.id hPh_
      refine (wE (inb_n (nSR (pv tv (wE (then_n (wp_ret (bA (.bool true) ?_))))))))
      have S58:=St.pm 7 [1,2,3,4,5,0] S57
      have hokF:DOk (s.fuseR a):=St.pw_ok (L:=[]) (S58.mem 5 rfl)
      exact ⟨rfl,St.pa1 (St.pbc (p:=⟨gd,gl,gb,.slice A9 (RV++XS).length c9,RV,XS,s.fuseR a,l,low,nn⟩) ⟨hbx,hbr,by show (RV++XS).length≤_;omega,by show low≤_;omega,by show l.life≤(s.fuseR a).life;rw [fuseR_life];exact hlfB⟩ (hI.fuse a hokF) S58)⟩
    ·refine pv fv (wE (nCF (sR (dE kind 10 (fun hb59=> ?_) fun hb59=> ?_))))
     ·refine pv tv (wE (nCT (wp_seq ?_)))
      have S60:St F w0 w2 (PB F w0 gp k n::row g1 #[iv kind,iv a,iv b,.slice Ax d.length cd,.slice A2 ps.length cq] 111::L):=St.pm 2 [1,0] S4
      obtain ⟨⟨gd,gl,gb,v,RV,XS,s,l,low,nn⟩,hb,hI,S0⟩:=St.pbo S60
      have hI:PInv k n s l ((RV++XS).map (·.2)) low nn:=hI
      have hb:PBok F w0 k n ⟨gd,gl,gb,v,RV,XS,s,l,low,nn⟩:=hb
      change St F w0 w2 (row gp #[pq gd,pq gl,nI_ n,pq gb] 123::row gb #[v,nI_ low,.bool nn] 121::vec 31 1 v (RV++XS).length ((RV++XS).map (fun x:RecV=>x.1))::stars (RV.map recD)::PLog gl gd l::PW gd s::row g1 #[iv kind,iv a,iv b,.slice Ax d.length cd,.slice A2 ps.length cq] 111::L) at S0
      obtain ⟨A9,c9,hv9⟩:=St.vecV S0 2 rfl
      have hv9:v=.slice A9 (RV++XS).length c9:=hv9
      subst hv9
      have hI:PInv k n s l ((RV++XS).map (·.2)) low nn:=hI
      have hlenB:(RV++XS).length≤256+k:=hb.len
      have hloB:low≤256+k:=hb.lo
      have hlfB:l.life≤s.life:=hb.lf
      have hbx:XOk F w0 XS:=hb.xs
      have hbr:∀x∈RV,1≤x.2.length∧x.2.length≤8364:=hb.rv
      refine wp_region_phu (γ:=Nat) 8 [6,7] (fun (c3_:Nat) (i_:Nat)=>(match i_ with|0=>pq gp|1=>pq gp|2=>pq gp|3=>pq gd|4=>po g1 4|5=>.slice A2 ps.length cq|6=>sl c3_ 0 ps.length ps.length|7=>.tuple #[]|_=>undef:Value)) (fun (c3_:Nat) (p_:Nat) (w_:World)=>(match p_ with|0=>St F w0 w_ (row gp #[pq gd,pq gl,nI_ n,pq gb] 123::row gb #[.slice A9 ((RV++XS).length) c9,nI_ low,.bool nn] 121::vec 31 1 (.slice A9 (RV++XS).length c9) (RV++XS).length ((RV++XS).map (fun x:RecV=>x.1))::stars (RV.map recD)::PLog gl gd l::PW gd s::row g1 #[iv kind,iv a,iv b,.slice Ax d.length cd,.slice A2 ps.length cq] 111::L)|1=>St F w0 w_ (row c3_ ((picksV ps).toArray) 145::row gp #[pq gd,pq gl,nI_ n,pq gb] 123::row gb #[.slice A9 ((RV++XS).length) c9,nI_ low,.bool nn] 121::vec 31 1 (.slice A9 (RV++XS).length c9) (RV++XS).length ((RV++XS).map (fun x:RecV=>x.1))::stars (RV.map recD)::PLog gl gd l::PW gd s::row g1 #[iv kind,iv a,iv b,.slice Ax d.length cd,.slice A2 ps.length cq] 111::L)|_=>St F w0 w_ (PW gd (s.crashR ps)::row c3_ ((picksV ps).toArray) 145::row gp #[pq gd,pq gl,nI_ n,pq gb] 123::row gb #[.slice A9 ((RV++XS).length) c9,nI_ low,.bool nn] 121::vec 31 1 (.slice A9 (RV++XS).length c9) (RV++XS).length ((RV++XS).map (fun x:RecV=>x.1))::stars (RV.map recD)::PLog gl gd l::row g1 #[iv kind,iv a,iv b,.slice Ax d.length cd,.slice A2 ps.length cq] 111::L):Prop)) (0) kr_ kr_ kr_ kr_ (S0.drew) ?_ ?_ ?_
      ·intro i_ c3_ p_ vals_ w1 hi_ hiE_ hp_ hk_ hu_ hPh_ hd_
       rcases i_ with _|_|_|_|_|_|_|_|i_
       ·exact tG_ rfl hd_ (gV (pq gp) ⟨rfl,rfl⟩)
       ·exact tG_ rfl hd_ (gV (pq gp) ⟨rfl,rfl⟩)
       ·exact tG_ rfl hd_ (gV (pq gp) ⟨rfl,rfl⟩)
       ·rcases p_ with _|_|_|p_
        ·have S64:=St.id hPh_
         exact tG_ rfl hd_ (gL (pq gd) rfl (((S64.blk 0 rfl).cell 0).trans rfl) ⟨rfl,rfl⟩)
        ·have S65:=St.id hPh_
         exact tG_ rfl hd_ (gL (pq gd) rfl (((S65.blk 1 rfl).cell 0).trans rfl) ⟨rfl,rfl⟩)
        ·exact absurd (hu_ 1 dc_ kr_) dc_
        ·exact absurd hp_ (by simp)
       ·exact tG_ rfl hd_ (gV (po g1 4) ⟨rfl,rfl⟩)
       ·rcases p_ with _|_|_|p_
        ·have S67:=St.id hPh_
         exact tG_ rfl hd_ (gL (.slice A2 ps.length cq) rfl (((S67.blk 6 rfl).cell 4).trans rfl) ⟨rfl,rfl⟩)
        ·exact absurd (hu_ 0 dc_ kr_) dc_
        ·exact absurd (hu_ 0 dc_ kr_) dc_
        ·exact absurd hp_ (by simp)
       ·exact absurd hiE_ dc_
       ·exact absurd hiE_ dc_
       ·exact absurd hi_ om_
      ·intro k_ c3_ vals_ w1 hk_ hPh_ hd_
       rcases k_ with _|_|k_
       ·have S68:=St.id hPh_
        refine tG_ rfl hd_ (gv_call (args:=#[.slice A2 ps.length cq]) rfl Try.func69 kr_ rfl rfl kr_ (Calls.mono (tpicks (ps:=ps) S68 (hrp _) hpm) ?_))
        rintro _ w70 ⟨g69,rfl,S71⟩
        refine ⟨_,rfl,⟨(g69),rfl, ?_,S71⟩⟩
        intro i_ hi_ hne_ hdp_
        rcases i_ with _|_|_|_|_|_|_|_|i_
        ·rfl
        ·rfl
        ·rfl
        ·rfl
        ·rfl
        ·rfl
        ·exact absurd rfl hne_
        ·exact dN_ hdp_
        ·exact absurd hi_ om_
       ·have S72:=St.id hPh_
        refine tG_ rfl hd_ (gv_call (args:=#[pq gd,sl c3_ 0 ps.length ps.length]) rfl Try.func64 kr_ rfl rfl kr_ ?_)
        have S73:=St.pm 8 [6,0,1,2,3,4,5,7] S72
        refine Calls.mono (pw_crash (ps:=ps) S73 (RoV.item 0 rfl) rfl om_) ?_
        rintro _ w74 ⟨rfl,S75⟩
        refine ⟨_,rfl,⟨(c3_),rfl, ?_,S75⟩⟩
        intro i_ hi_ hne_ hdp_
        rcases i_ with _|_|_|_|_|_|_|_|i_
        ·rfl
        ·rfl
        ·rfl
        ·rfl
        ·rfl
        ·rfl
        ·rfl
        ·exact absurd rfl hne_
        ·exact absurd hi_ om_
       ·exact absurd hk_ (by simp)
      ·intro c3_ w1 hPh_
       have S76:=St.id hPh_
       refine (wE (nS (sR ?_)))
       have hokC:DOk (s.crashR ps):=St.pw_ok (L:=[]) (S76.mem 0 rfl)
       have hC:=hI.crash hk ps hokC
       refine pv (po g1 2) (lR (iv b) S76 7 2 (gI .i64 (Int.tmod b 2) (Int.tmod b 2) rfl (dN (Int.tmod b 2) 0 (fun hb77=> ?_) fun hb77=> ?_)))
       ·refine wE (nCT (sR (pv (pq gp) (pv (pq gp) (pv (pq gp) (lR (pq gd) S76 2 0 (sP1 Try.func18 #[pq gd] (pw_image S76) fun v5 w78 S79=> ?_)))))))
        obtain ⟨A5,rfl,S80⟩:=St.bytes_eq S79
        refine pv (.slice A5 ((s.crashR ps).last.flatten.length) ((s.crashR ps).last.flatten.length)) (wER (pv (.slice A5 ((s.crashR ps).last.flatten.length) ((s.crashR ps).last.flatten.length)) (g_ (gv_call (args:=#[.slice A5 ((s.crashR ps).last.flatten.length) ((s.crashR ps).last.flatten.length)]) rfl Try.func20 kr_ rfl rfl kr_ ?_))))
        have hn9:=hC.n0
        have hl5:(s.crashR ps).last.flatten.length=512*(n+2):=by rw [flat_len hokC.len,hC.len]
        refine Calls.mono (pd_load (m:=n+2) S80 (RoT.bytes 0 rfl rfl) om_ hl5 om_ om_) ?_
        rintro _ w81 ⟨g2,rfl,S82⟩
        refine ⟨_,rfl, ?_⟩
        have hy9:Dsk.mk0 (secs (s.crashR ps).last.flatten (n+2))=Dsk.mk0 (s.crashR ps).last:=by rw [←hC.len,secs_flatten hokC.len]
        rw [hy9] at S82
        have S83:=St.pw0 S82
        have hok2:=St.pw_ok S83
        have hC2:=hC.load rfl hok2
        refine pv (.tuple #[pq g2,iv 0]) (pv (pq g2) (pv (iv 0) (pv (pq g2) (pv (iv 0) (wE (nS (sR (pv (pq g2) (pv fv (pv fv (pW (iv 0) (wl_when kr_ (gv_ne (x:=0) (y:=0) kr_ (fun hd84=>False.elim (hd84 rfl)) (fun _=>pv fv ?_))))))))))))))
        refine wE (nCF (wp_skip (nR (pv (pq gp) (pv (pq g2) (pv (pq gp) (pv (pq gp) (sS S83 4 rfl 0 (pq g2) fun w85 S86=>wER (pv (pq gp) (pv (po g1 1) (lR (iv a) S86 9 1 (g_ (gv_call (args:=#[pq gp,iv a]) rfl Try.func121 kr_ rfl rfl kr_ ?_)))))))))))))
        have S87:=St.pm 10 [4,5,6,7,8,0,2,1,3,9] S86
        have S88:St F w0 w85 (PCX F w0 gp k n::bytesA (.slice A5 ((s.crashR ps).last.flatten.length) ((s.crashR ps).last.flatten.length)) ((s.crashR ps).last.flatten)::row c3_ ((picksV ps).toArray) 145::row g1 #[iv kind,iv a,iv b,.slice Ax d.length cd,.slice A2 ps.length cq] 111::L):=St.pyc (p:=⟨g2,gl,gb,.slice A9 (RV++XS).length c9,RV,XS,Dsk.mk0 (s.crashR ps).last,l,low,nn⟩) hbx hbr ⟨hlenB,hloB⟩ hC2 (hI.deadC hk hlfB ps) S87
        refine Calls.mono (w_reopenX S88 hk (c:=a) ham) ?_
        rintro _ w89 ⟨rfl,S90⟩
        refine ⟨_,rfl,(pv tv (wE (then_n (wp_ret (inb_r (then_r (bA (.bool true) ?_)))))))⟩
        have S91:=St.pm 4 [0] S90
        exact ⟨rfl,St.pama S91⟩
       ·refine wE (nCF (wp_skip (nSR (pv (pq gp) (pv (po g1 1) (lR (iv a) S76 7 1 (g_ (gv_call (args:=#[pq gp,iv a]) rfl Try.func121 kr_ rfl rfl kr_ ?_))))))))
        have S92:=St.pm 8 [2,3,4,5,6,0,1,7] S76
        have S93:St F w0 w1 (PC F w0 gp k n::row c3_ ((picksV ps).toArray) 145::row g1 #[iv kind,iv a,iv b,.slice Ax d.length cd,.slice A2 ps.length cq] 111::L):=St.pcc (p:=⟨gd,gl,gb,.slice A9 (RV++XS).length c9,RV,XS,s.crashR ps,l,low,nn⟩) ⟨hbx,hbr,hlenB,hloB,by show l.life≤inc s.life;have:=hI.life;rw [inc_ok this.1 om_];omega⟩ hI.lg hC S92
        refine Calls.mono (w_reopen S93 hk (c:=a) ham) ?_
        rintro _ w94 ⟨rfl,S95⟩
        refine ⟨_,rfl,(pv tv (wE (then_n (wp_ret (inb_r (then_r (bA (.bool true) ?_)))))))⟩
        have S96:=St.pm 3 [0] S95
        exact ⟨rfl,St.pa1 (St.pbm S96)⟩
     ·refine pv fv (wE (nCF (wp_skip (inb_n (nSR (pv tv (wE (then_n (wp_ret (bA (.bool true) ?_))))))))))
      have S97:=St.pm 2 [1] S4
      exact ⟨rfl,St.pa1 (St.pbn S97)⟩
theorem w_oneX {gp k n:Nat}(S:St F w0 w (PBX F w0 gp k n::L))(hk:k≤70000){kind a b:Int}{Ax A2:Option Addr}{d:List UInt8}{ps:List Pick}{cd cq:Nat}(hr:∀L,RoT F w0 L Ax d)(hrp:∀L,RoV F w0 L A2 (picksV ps))(hcap:d.length≤cd)(hdm:d.length≤140737488351232)(hpm:ps.length*24≤140737488355328)(ham:a≤9223372036854775807):Calls Try.prog 72 #[.pointer (some ⟨gp,0,none⟩),.agg #[.int .i64 kind,.int .i64 a,.int .i64 b,.slice Ax d.length cd,.slice A2 ps.length cq]] w fun e w'=>e=.returned (.bool true)∧St F w0 w' (PA F w0 gp (k+1) n::L):=by
 refine eN (fr [pq gp,.agg #[iv kind,iv a,iv b,.slice Ax d.length cd,.slice A2 ps.length cq]] 95) Try.func72 rfl (sR (nB rfl (.agg #[iv kind,iv a,iv b,.slice Ax d.length cd,.slice A2 ps.length cq]) S fun g1 w2 hg3 S4=>pv fv (wE (nS (sR (pv (pq g1) (lR (iv kind) S4 0 0 (wE (then_n (wp_block (sR (dE kind 4 (fun hb5=> ?_) fun hb5=> ?_))))))))))))
 ·refine pv tv (wE (nCT (sR (pv (pq gp) (pv (po g1 3) (lR (.slice Ax d.length cd) S4 0 3 (g_ (gv_call (args:=#[pq gp,.slice Ax d.length cd]) rfl Try.func119 kr_ rfl rfl kr_ ?_))))))))
  have S6:=St.pm 2 [1,0] S4
  refine Calls.mono (w_pappendX S6 hk hr hdm hcap) ?_
  rintro _ w7 ⟨rfl,S8⟩
  refine ⟨_,rfl,(pv tv (wE (then_n (wp_ret (inb_r (then_r (bA (.bool true) ?_)))))))⟩
  have S9:=St.pm 2 [0] S8
  exact ⟨rfl,St.pa2 S9⟩
 ·refine pv fv (wE (nCF (sR (dE kind 5 (fun hb10=> ?_) fun hb10=> ?_))))
  ·refine pv tv (wE (nCT (sR ?_)))
   have S11:=St.pm 2 [1,0] S4
   obtain ⟨⟨gd,gl,gb,v,RV,XS,s,l,low,nn⟩,gd1,s1,hbx,hbr,hbl,hI,hz,hD,S0⟩:=St.pxo S11
   have hI:PInv k n s l ((RV++XS).map (·.2)) low nn:=hI
   have hz:s.left=0:=hz
   have hD:DeadL n s1 l:=hD
   have hbl:(RV++XS).length≤256+k∧low≤256+k:=hbl
   change St F w0 w2 (row gp #[pq gd,pq gl,nI_ n,pq gb] 123::row gb #[v,nI_ low,.bool nn] 121::vec 31 1 v (RV++XS).length ((RV++XS).map (fun x:RecV=>x.1))::stars (RV.map recD)::PLog gl gd1 l::PW gd s::PW gd1 s1::row g1 #[iv kind,iv a,iv b,.slice Ax d.length cd,.slice A2 ps.length cq] 111::L) at S0
   obtain ⟨A9,c9,hv9⟩:=St.vecV S0 2 rfl
   have hv9:v=.slice A9 (RV++XS).length c9:=hv9
   subst hv9
   have hI:PInv k n s l ((RV++XS).map (·.2)) low nn:=hI
   have hz:s.left=0:=hz
   have hD:DeadL n s1 l:=hD
   have hbl:(RV++XS).length≤256+k∧low≤256+k:=hbl
   have hlenB:=hbl.1
   have hloB:=hbl.2
   refine pv (pq gp) (pv (pq gp) (pv (po gp 1) (lR (pq gl) S0 0 1 (g_ (gv_call (args:=#[pq gl]) rfl Try.func60 kr_ rfl rfl kr_ ?_)))))
   have S12:=St.pm 8 [4,6,0,1,2,3,5,7] S0
   have hq13:=w_sync S12
   rw [dead_syncB hD.dead] at hq13
   refine Calls.mono hq13 ?_
   rintro _ w14 ⟨rfl,S15⟩
   refine ⟨_,rfl, ?_⟩
   have S16:St F w0 w14 (PLog gl gd1 l::PW gd1 s1::row gp #[pq gd,pq gl,nI_ n,pq gb] 123::row gb #[.slice A9 ((RV++XS).length) c9,nI_ low,.bool nn] 121::vec 31 1 (.slice A9 (RV++XS).length c9) (RV++XS).length ((RV++XS).map (fun x:RecV=>x.1))::stars (RV.map recD)::PW gd s::row g1 #[iv kind,iv a,iv b,.slice Ax d.length cd,.slice A2 ps.length cq] 111::L):=S15
   refine pv (iv 3) (wE (nS (sR (pv (iv 3) (dE 3 0 (fun hd17=>False.elim om_) fun _=>wE (nCF (wp_skip (nSR (pv (iv 3) (dE 3 0 (fun hd18=>False.elim om_) fun _=>pv fv (pW (iv 3) ?_)))))))))))
   refine wl_when kr_ (gv_eq (x:=3) (y:=3) kr_ (fun _=>pv tv (pv tv (wE (then_n (wp_ret (inb_r (then_r (bA (.bool true) ?_)))))))) (fun hd19=>False.elim (hd19 rfl)))
   have S20:=St.pm 8 [2,3,4,5,0,6,1] S16
   exact ⟨rfl,St.pa2 (St.pxc (p:=⟨gd,gl,gb,.slice A9 (RV++XS).length c9,RV,XS,s,l,low,nn⟩) hbx hbr ⟨by show (RV++XS).length≤_;omega,by show low≤_;omega⟩ hI.next hz hD S20)⟩
  ·refine pv fv (wE (nCF (sR (dE kind 6 (fun hb21=> ?_) fun hb21=> ?_))))
   ·refine pv tv (wE (nCT (sR (pv (pq gp) (g_ (gv_call (args:=#[pq gp]) rfl Try.func120 kr_ rfl rfl kr_ ?_))))))
    have S22:=St.pm 2 [1,0] S4
    refine Calls.mono (w_ptrimX S22 hk) ?_
    rintro _ w23 ⟨rfl,S24⟩
    refine ⟨_,rfl,(pv tv (wE (then_n (wp_ret (inb_r (then_r (bA (.bool true) ?_)))))))⟩
    have S25:=St.pm 2 [0] S24
    exact ⟨rfl,St.pa2 S25⟩
   ·refine pv fv (wE (nCF (sR (dE kind 9 (fun hb26=> ?_) fun hb26=> ?_))))
    ·refine pv tv (wE (nCT ?_))
     have S27:=St.pm 2 [1,0] S4
     obtain ⟨⟨gd,gl,gb,v,RV,XS,s,l,low,nn⟩,gd1,s1,hbx,hbr,hbl,hI,hz,hD,S0⟩:=St.pxo S27
     have hI:PInv k n s l ((RV++XS).map (·.2)) low nn:=hI
     have hz:s.left=0:=hz
     have hD:DeadL n s1 l:=hD
     have hbl:(RV++XS).length≤256+k∧low≤256+k:=hbl
     change St F w0 w2 (row gp #[pq gd,pq gl,nI_ n,pq gb] 123::row gb #[v,nI_ low,.bool nn] 121::vec 31 1 v (RV++XS).length ((RV++XS).map (fun x:RecV=>x.1))::stars (RV.map recD)::PLog gl gd1 l::PW gd s::PW gd1 s1::row g1 #[iv kind,iv a,iv b,.slice Ax d.length cd,.slice A2 ps.length cq] 111::L) at S0
     obtain ⟨A9,c9,hv9⟩:=St.vecV S0 2 rfl
     have hv9:v=.slice A9 (RV++XS).length c9:=hv9
     subst hv9
     have hI:PInv k n s l ((RV++XS).map (·.2)) low nn:=hI
     have hz:s.left=0:=hz
     have hD:DeadL n s1 l:=hD
     have hbl:(RV++XS).length≤256+k∧low≤256+k:=hbl
     have hlenB:=hbl.1
     have hloB:=hbl.2
     refine wp_region_phu (γ:=Unit) 7 [6] (fun (c_:Unit) (i_:Nat)=>(match i_ with|0=>pq gp|1=>pq gp|2=>pq gp|3=>pq gd|4=>po g1 1|5=>iv a|6=>.tuple #[]|_=>undef:Value)) (fun (c_:Unit) (p_:Nat) (w_:World)=>(match p_ with|0=>St F w0 w_ (row gp #[pq gd,pq gl,nI_ n,pq gb] 123::row gb #[.slice A9 ((RV++XS).length) c9,nI_ low,.bool nn] 121::vec 31 1 (.slice A9 (RV++XS).length c9) (RV++XS).length ((RV++XS).map (fun x:RecV=>x.1))::stars (RV.map recD)::PLog gl gd1 l::PW gd s::PW gd1 s1::row g1 #[iv kind,iv a,iv b,.slice Ax d.length cd,.slice A2 ps.length cq] 111::L)|_=>St F w0 w_ (PW gd (s.fuseR a)::row gp #[pq gd,pq gl,nI_ n,pq gb] 123::row gb #[.slice A9 ((RV++XS).length) c9,nI_ low,.bool nn] 121::vec 31 1 (.slice A9 (RV++XS).length c9) (RV++XS).length ((RV++XS).map (fun x:RecV=>x.1))::stars (RV.map recD)::PLog gl gd1 l::PW gd1 s1::row g1 #[iv kind,iv a,iv b,.slice Ax d.length cd,.slice A2 ps.length cq] 111::L):Prop)) () kr_ kr_ kr_ kr_ (S0.drew) ?_ ?_ ?_
     ·intro i_ c_ p_ vals_ w1 hi_ hiE_ hp_ hk_ hu_ hPh_ hd_
      rcases i_ with _|_|_|_|_|_|_|i_
      ·exact tG_ rfl hd_ (gV (pq gp) ⟨rfl,rfl⟩)
      ·exact tG_ rfl hd_ (gV (pq gp) ⟨rfl,rfl⟩)
      ·exact tG_ rfl hd_ (gV (pq gp) ⟨rfl,rfl⟩)
      ·rcases p_ with _|_|p_
       ·have S31:=St.id hPh_
        exact tG_ rfl hd_ (gL (pq gd) rfl (((S31.blk 0 rfl).cell 0).trans rfl) ⟨rfl,rfl⟩)
       ·exact absurd (hu_ 0 dc_ kr_) dc_
       ·exact absurd hp_ (by simp)
      ·exact tG_ rfl hd_ (gV (po g1 1) ⟨rfl,rfl⟩)
      ·rcases p_ with _|_|p_
       ·have S33:=St.id hPh_
        exact tG_ rfl hd_ (gL (iv a) rfl (((S33.blk 7 rfl).cell 1).trans rfl) ⟨rfl,rfl⟩)
       ·exact absurd (hu_ 0 dc_ kr_) dc_
       ·exact absurd hp_ (by simp)
      ·exact absurd hiE_ dc_
      ·exact absurd hi_ om_
     ·intro k_ c_ vals_ w1 hk_ hPh_ hd_
      rcases k_ with _|k_
      ·have S34:=St.id hPh_
       refine tG_ rfl hd_ (gv_call (args:=#[pq gd,iv a]) rfl Try.func67 kr_ rfl rfl kr_ ?_)
       have S35:=St.pm 8 [5,0,1,2,3,4,6,7] S34
       refine Calls.mono (pw_fuse (n:=a) ham S35) ?_
       rintro _ w36 ⟨rfl,S37⟩
       refine ⟨_,rfl,⟨(),rfl, ?_,S37⟩⟩
       intro i_ hi_ hne_ hdp_
       rcases i_ with _|_|_|_|_|_|_|i_
       ·rfl
       ·rfl
       ·rfl
       ·rfl
       ·rfl
       ·rfl
       ·exact absurd rfl hne_
       ·exact absurd hi_ om_
      ·exact absurd hk_ (by simp)
     ·intro c_ w1 hPh_
      have S38:=St.id hPh_
      refine (wE (inb_n (nSR (pv tv (wE (then_n (wp_ret (bA (.bool true) ?_))))))))
      have S39:=St.pm 8 [1,2,3,4,5,0,6] S38
      have hokF:DOk (s.fuseR a):=St.pw_ok (L:=[]) (S39.mem 5 rfl)
      exact ⟨rfl,St.pa2 (St.pxc (p:=⟨gd,gl,gb,.slice A9 (RV++XS).length c9,RV,XS,s.fuseR a,l,low,nn⟩) hbx hbr ⟨by show (RV++XS).length≤_;omega,by show low≤_;omega⟩ (hI.fuse a hokF) (by show (s.fuseR a).left=0;unfold Dsk.fuseR;rw [if_pos hz];exact hz) hD S39)⟩
    ·refine pv fv (wE (nCF (sR (dE kind 10 (fun hb40=> ?_) fun hb40=> ?_))))
     ·refine pv tv (wE (nCT (wp_seq ?_)))
      have S41:St F w0 w2 (PBX F w0 gp k n::row g1 #[iv kind,iv a,iv b,.slice Ax d.length cd,.slice A2 ps.length cq] 111::L):=St.pm 2 [1,0] S4
      obtain ⟨⟨gd,gl,gb,v,RV,XS,s,l,low,nn⟩,gd1,s1,hbx,hbr,hbl,hI,hz,hD,S0⟩:=St.pxo S41
      have hI:PInv k n s l ((RV++XS).map (·.2)) low nn:=hI
      have hz:s.left=0:=hz
      have hD:DeadL n s1 l:=hD
      have hbl:(RV++XS).length≤256+k∧low≤256+k:=hbl
      change St F w0 w2 (row gp #[pq gd,pq gl,nI_ n,pq gb] 123::row gb #[v,nI_ low,.bool nn] 121::vec 31 1 v (RV++XS).length ((RV++XS).map (fun x:RecV=>x.1))::stars (RV.map recD)::PLog gl gd1 l::PW gd s::PW gd1 s1::row g1 #[iv kind,iv a,iv b,.slice Ax d.length cd,.slice A2 ps.length cq] 111::L) at S0
      obtain ⟨A9,c9,hv9⟩:=St.vecV S0 2 rfl
      have hv9:v=.slice A9 (RV++XS).length c9:=hv9
      subst hv9
      have hI:PInv k n s l ((RV++XS).map (·.2)) low nn:=hI
      have hz:s.left=0:=hz
      have hD:DeadL n s1 l:=hD
      have hbl:(RV++XS).length≤256+k∧low≤256+k:=hbl
      have hlenB:=hbl.1
      have hloB:=hbl.2
      refine wp_region_phu (γ:=Nat) 8 [6,7] (fun (c2_:Nat) (i_:Nat)=>(match i_ with|0=>pq gp|1=>pq gp|2=>pq gp|3=>pq gd|4=>po g1 4|5=>.slice A2 ps.length cq|6=>sl c2_ 0 ps.length ps.length|7=>.tuple #[]|_=>undef:Value)) (fun (c2_:Nat) (p_:Nat) (w_:World)=>(match p_ with|0=>St F w0 w_ (row gp #[pq gd,pq gl,nI_ n,pq gb] 123::row gb #[.slice A9 ((RV++XS).length) c9,nI_ low,.bool nn] 121::vec 31 1 (.slice A9 (RV++XS).length c9) (RV++XS).length ((RV++XS).map (fun x:RecV=>x.1))::stars (RV.map recD)::PLog gl gd1 l::PW gd s::PW gd1 s1::row g1 #[iv kind,iv a,iv b,.slice Ax d.length cd,.slice A2 ps.length cq] 111::L)|1=>St F w0 w_ (row c2_ ((picksV ps).toArray) 145::row gp #[pq gd,pq gl,nI_ n,pq gb] 123::row gb #[.slice A9 ((RV++XS).length) c9,nI_ low,.bool nn] 121::vec 31 1 (.slice A9 (RV++XS).length c9) (RV++XS).length ((RV++XS).map (fun x:RecV=>x.1))::stars (RV.map recD)::PLog gl gd1 l::PW gd s::PW gd1 s1::row g1 #[iv kind,iv a,iv b,.slice Ax d.length cd,.slice A2 ps.length cq] 111::L)|_=>St F w0 w_ (PW gd (s.crashR ps)::row c2_ ((picksV ps).toArray) 145::row gp #[pq gd,pq gl,nI_ n,pq gb] 123::row gb #[.slice A9 ((RV++XS).length) c9,nI_ low,.bool nn] 121::vec 31 1 (.slice A9 (RV++XS).length c9) (RV++XS).length ((RV++XS).map (fun x:RecV=>x.1))::stars (RV.map recD)::PLog gl gd1 l::PW gd1 s1::row g1 #[iv kind,iv a,iv b,.slice Ax d.length cd,.slice A2 ps.length cq] 111::L):Prop)) (0) kr_ kr_ kr_ kr_ (S0.drew) ?_ ?_ ?_
      ·intro i_ c2_ p_ vals_ w1 hi_ hiE_ hp_ hk_ hu_ hPh_ hd_
       rcases i_ with _|_|_|_|_|_|_|_|i_
       ·exact tG_ rfl hd_ (gV (pq gp) ⟨rfl,rfl⟩)
       ·exact tG_ rfl hd_ (gV (pq gp) ⟨rfl,rfl⟩)
       ·exact tG_ rfl hd_ (gV (pq gp) ⟨rfl,rfl⟩)
       ·rcases p_ with _|_|_|p_
        ·have S45:=St.id hPh_
         exact tG_ rfl hd_ (gL (pq gd) rfl (((S45.blk 0 rfl).cell 0).trans rfl) ⟨rfl,rfl⟩)
        ·have S46:=St.id hPh_
         exact tG_ rfl hd_ (gL (pq gd) rfl (((S46.blk 1 rfl).cell 0).trans rfl) ⟨rfl,rfl⟩)
        ·exact absurd (hu_ 1 dc_ kr_) dc_
        ·exact absurd hp_ (by simp)
       ·exact tG_ rfl hd_ (gV (po g1 4) ⟨rfl,rfl⟩)
       ·rcases p_ with _|_|_|p_
        ·have S48:=St.id hPh_
         exact tG_ rfl hd_ (gL (.slice A2 ps.length cq) rfl (((S48.blk 7 rfl).cell 4).trans rfl) ⟨rfl,rfl⟩)
        ·exact absurd (hu_ 0 dc_ kr_) dc_
        ·exact absurd (hu_ 0 dc_ kr_) dc_
        ·exact absurd hp_ (by simp)
       ·exact absurd hiE_ dc_
       ·exact absurd hiE_ dc_
       ·exact absurd hi_ om_
      ·intro k_ c2_ vals_ w1 hk_ hPh_ hd_
       rcases k_ with _|_|k_
       ·have S49:=St.id hPh_
        refine tG_ rfl hd_ (gv_call (args:=#[.slice A2 ps.length cq]) rfl Try.func69 kr_ rfl rfl kr_ (Calls.mono (tpicks (ps:=ps) S49 (hrp _) hpm) ?_))
        rintro _ w51 ⟨g50,rfl,S52⟩
        refine ⟨_,rfl,⟨(g50),rfl, ?_,S52⟩⟩
        intro i_ hi_ hne_ hdp_
        rcases i_ with _|_|_|_|_|_|_|_|i_
        ·rfl
        ·rfl
        ·rfl
        ·rfl
        ·rfl
        ·rfl
        ·exact absurd rfl hne_
        ·exact dN_ hdp_
        ·exact absurd hi_ om_
       ·have S53:=St.id hPh_
        refine tG_ rfl hd_ (gv_call (args:=#[pq gd,sl c2_ 0 ps.length ps.length]) rfl Try.func64 kr_ rfl rfl kr_ ?_)
        have S54:=St.pm 9 [6,0,1,2,3,4,5,7,8] S53
        refine Calls.mono (pw_crash (ps:=ps) S54 (RoV.item 0 rfl) rfl om_) ?_
        rintro _ w55 ⟨rfl,S56⟩
        refine ⟨_,rfl,⟨(c2_),rfl, ?_,S56⟩⟩
        intro i_ hi_ hne_ hdp_
        rcases i_ with _|_|_|_|_|_|_|_|i_
        ·rfl
        ·rfl
        ·rfl
        ·rfl
        ·rfl
        ·rfl
        ·rfl
        ·exact absurd rfl hne_
        ·exact absurd hi_ om_
       ·exact absurd hk_ (by simp)
      ·intro c2_ w1 hPh_
       have S57:=St.id hPh_
       refine (wE (nS (sR ?_)))
       have hokC:DOk (s.crashR ps):=St.pw_ok (L:=[]) (S57.mem 0 rfl)
       have hC:=hI.crash hk ps hokC
       refine pv (po g1 2) (lR (iv b) S57 8 2 (gI .i64 (Int.tmod b 2) (Int.tmod b 2) rfl (dN (Int.tmod b 2) 0 (fun hb58=> ?_) fun hb58=> ?_)))
       ·refine wE (nCT (sR (pv (pq gp) (pv (pq gp) (pv (pq gp) (lR (pq gd) S57 2 0 (sP1 Try.func18 #[pq gd] (pw_image S57) fun v5 w59 S60=> ?_)))))))
        obtain ⟨A5,rfl,S61⟩:=St.bytes_eq S60
        refine pv (.slice A5 ((s.crashR ps).last.flatten.length) ((s.crashR ps).last.flatten.length)) (wER (pv (.slice A5 ((s.crashR ps).last.flatten.length) ((s.crashR ps).last.flatten.length)) (g_ (gv_call (args:=#[.slice A5 ((s.crashR ps).last.flatten.length) ((s.crashR ps).last.flatten.length)]) rfl Try.func20 kr_ rfl rfl kr_ ?_))))
        have hn9:=hC.n0
        have hl5:(s.crashR ps).last.flatten.length=512*(n+2):=by rw [flat_len hokC.len,hC.len]
        refine Calls.mono (pd_load (m:=n+2) S61 (RoT.bytes 0 rfl rfl) om_ hl5 om_ om_) ?_
        rintro _ w62 ⟨g2,rfl,S63⟩
        refine ⟨_,rfl, ?_⟩
        have hy9:Dsk.mk0 (secs (s.crashR ps).last.flatten (n+2))=Dsk.mk0 (s.crashR ps).last:=by rw [←hC.len,secs_flatten hokC.len]
        rw [hy9] at S63
        have S64:=St.pw0 S63
        have hok2:=St.pw_ok S64
        have hC2:=hC.load rfl hok2
        refine pv (.tuple #[pq g2,iv 0]) (pv (pq g2) (pv (iv 0) (pv (pq g2) (pv (iv 0) (wE (nS (sR (pv (pq g2) (pv fv (pv fv (pW (iv 0) (wl_when kr_ (gv_ne (x:=0) (y:=0) kr_ (fun hd65=>False.elim (hd65 rfl)) (fun _=>pv fv ?_))))))))))))))
        refine wE (nCF (wp_skip (nR (pv (pq gp) (pv (pq g2) (pv (pq gp) (pv (pq gp) (sS S64 4 rfl 0 (pq g2) fun w66 S67=>wER (pv (pq gp) (pv (po g1 1) (lR (iv a) S67 10 1 (g_ (gv_call (args:=#[pq gp,iv a]) rfl Try.func121 kr_ rfl rfl kr_ ?_)))))))))))))
        have S68:=St.pm 11 [4,5,6,7,8,0,9,1,2,3,10] S67
        have S69:St F w0 w66 (PCX F w0 gp k n::bytesA (.slice A5 ((s.crashR ps).last.flatten.length) ((s.crashR ps).last.flatten.length)) ((s.crashR ps).last.flatten)::PW gd (s.crashR ps)::row c2_ ((picksV ps).toArray) 145::row g1 #[iv kind,iv a,iv b,.slice Ax d.length cd,.slice A2 ps.length cq] 111::L):=St.pyc (p:=⟨g2,gl,gb,.slice A9 (RV++XS).length c9,RV,XS,Dsk.mk0 (s.crashR ps).last,l,low,nn⟩) hbx hbr ⟨hlenB,hloB⟩ hC2 hD S68
        refine Calls.mono (w_reopenX S69 hk (c:=a) ham) ?_
        rintro _ w70 ⟨rfl,S71⟩
        refine ⟨_,rfl,(pv tv (wE (then_n (wp_ret (inb_r (then_r (bA (.bool true) ?_)))))))⟩
        have S72:=St.pm 5 [0] S71
        exact ⟨rfl,St.pama S72⟩
       ·refine wE (nCF (wp_skip (nSR (pv (pq gp) (pv (po g1 1) (lR (iv a) S57 8 1 (g_ (gv_call (args:=#[pq gp,iv a]) rfl Try.func121 kr_ rfl rfl kr_ ?_))))))))
        have S73:=St.pm 9 [2,3,4,5,6,0,7,1,8] S57
        have S74:St F w0 w1 (PCX F w0 gp k n::row c2_ ((picksV ps).toArray) 145::row g1 #[iv kind,iv a,iv b,.slice Ax d.length cd,.slice A2 ps.length cq] 111::L):=St.pyc (p:=⟨gd,gl,gb,.slice A9 (RV++XS).length c9,RV,XS,s.crashR ps,l,low,nn⟩) hbx hbr ⟨hlenB,hloB⟩ hC hD S73
        refine Calls.mono (w_reopenX S74 hk (c:=a) ham) ?_
        rintro _ w75 ⟨rfl,S76⟩
        refine ⟨_,rfl,(pv tv (wE (then_n (wp_ret (inb_r (then_r (bA (.bool true) ?_)))))))⟩
        have S77:=St.pm 3 [0] S76
        exact ⟨rfl,St.pama S77⟩
     ·refine pv fv (wE (nCF (wp_skip (inb_n (nSR (pv tv (wE (then_n (wp_ret (bA (.bool true) ?_))))))))))
      have S78:=St.pm 2 [1] S4
      exact ⟨rfl,St.pa2 (St.pxn S78)⟩
theorem w_one {gp k n:Nat}(S:St F w0 w (PA F w0 gp k n::L))(hk:k≤70000){kind a b:Int}{Ax A2:Option Addr}{d:List UInt8}{ps:List Pick}{cd cq:Nat}(hr:∀L,RoT F w0 L Ax d)(hrp:∀L,RoV F w0 L A2 (picksV ps))(hcap:d.length≤cd)(hdm:d.length≤140737488351232)(hpm:ps.length*24≤140737488355328)(ham:a≤9223372036854775807):Calls Try.prog 72 #[.pointer (some ⟨gp,0,none⟩),.agg #[.int .i64 kind,.int .i64 a,.int .i64 b,.slice Ax d.length cd,.slice A2 ps.length cq]] w fun e w'=>e=.returned (.bool true)∧St F w0 w' (PA F w0 gp (k+1) n::L):=by
 rcases St.pao S with S|S
 ·exact w_oneB S hk hr hrp hcap hdm hpm ham
 ·exact w_oneX S hk hr hrp hcap hdm hpm ham
end
section
theorem recs_zero {pc:Nat→Pc}{E a:Nat}{R:List (List UInt8)}{h:Nat}(r:Recs pc E a R h):R=[]→h=a:=by
 induction r with
 |nil=>intro _;rfl
 |step r hr ih=>intro e;simp at e
section
variable {k n low:Nat}{s:Dsk}{l:Lg}{nn:Bool}
theorem PInv.app_m (h:PInv k n s l [] low nn)(hk:k≤70000)(hm:s.left= -1)(d:List UInt8)(h1:d.length=3)(hok':DOk (appendR s l d).1):(appendR s l d).2.2=0∧(appendR s l d).1.left= -1∧nn=false∧PInv (k+1) n (appendR s l d).1 (appendR s l d).2.1 [d] low nn:=by
 have hz:s.left≠0:=by rw [hm];decide
 rcases h.st with ⟨hn,E,top,T,H,Y,hl,e1,e2,e3,e4,hc⟩|⟨q,_⟩
 ·have hT:H=T:=recs_zero hc.recs rfl
  have he:=hc.ends
  have hn0:=hc.n0
  rcases append_core hl hc h.ok hz om_ om_ d with ⟨q1,_,_,_,_,_,_,q6,_⟩|⟨_,_,_,q2⟩|⟨_,_,_,q,_⟩
  ·rcases h.append hk hok' d rfl with ⟨_,_,_,_,hI⟩|⟨e,_⟩|⟨e,_⟩|⟨e,_⟩
   ·exact ⟨q1,q6 hm,hn,hI⟩
   ·exact absurd (q1.symm.trans e) dc_
   ·exact absurd (q1.symm.trans e) dc_
   ·exact absurd q1 e
  ·obtain ⟨_,q3⟩:=q2 om_ om_
   unfold countR at q3;omega
  ·exact absurd hm q
 ·exact absurd q hz
theorem PInv.sync_m {B:List (List UInt8)}(h:PInv k n s l B low nn)(hm:s.left= -1)(hok':DOk (syncR s l).1):(syncR s l).2=0∧PInv (k+1) n (syncR s l).1 l B B.length nn:=by
 have hz:s.left≠0:=by rw [hm];decide
 rcases h.sync hok' rfl with q|⟨e,_⟩
 ·exact q
 ·rcases h.st with ⟨hn,E,top,T,H,Y,hl,_⟩|⟨q,_⟩
  ·have ha:aliveR s l=true:=alive_iff.2 ⟨hz,by rw [hl]⟩
   have hr:readyR s l=0:=ready_iff.2 ⟨ha,by rw [hl]⟩
   have e9:syncR s l=s.flushR:=by unfold syncR;rw [if_neg om_]
   rw [e9,(flush_m hm).1] at e
   exact absurd e dc_
  ·exact absurd q hz
theorem May.one {d:List UInt8}{RV:List RecV}{m:Nat}(h:May [d] 1 false (RV.map (·.2)))(hm:RV.length=m):m=1∧∃x,RV[0]?=some x∧x∈RV∧x.2=d:=by
 rcases h with ⟨q,_⟩|⟨q1,q2,q3⟩
 ·cases q
 ·rw [List.length_map] at q1 q2 q3
  have h1:RV.length=1:=by simp at q2;omega
  rw [h1] at q3
  match RV,h1 with
  |[x],_=>exact ⟨by simpa using hm.symm,x,rfl,List.mem_singleton.2 rfl,by simpa using q3⟩
end
theorem w_lastB {F:Nat→Prop}{w0 w:World}{L:List Ast}{gp k n:Nat}(S:St F w0 w (PB F w0 gp k n::L))(hk:k≤69000):Calls Try.prog 73 #[.pointer (some ⟨gp,0,none⟩)] w fun e w'=>e=.returned (.bool true)∧St F w0 w' L:=by
 refine eN (fr [pq gp] 72) Try.func73 rfl (sR (pv fv (wER ?_)))
 obtain ⟨⟨gd,gl,gb,v,RV,XS,s,l,low,nn⟩,hb,hI,S0⟩:=St.pbo S
 have hI:PInv k n s l ((RV++XS).map (·.2)) low nn:=hI
 have hb:PBok F w0 k n ⟨gd,gl,gb,v,RV,XS,s,l,low,nn⟩:=hb
 change St F w0 w (row gp #[pq gd,pq gl,nI_ n,pq gb] 123::row gb #[v,nI_ low,.bool nn] 121::vec 31 1 v (RV++XS).length ((RV++XS).map (fun x:RecV=>x.1))::stars (RV.map recD)::PLog gl gd l::PW gd s::L) at S0
 have hlenB:(RV++XS).length≤256+k:=hb.len
 have hloB:low≤256+k:=hb.lo
 have hlfB:l.life≤s.life:=hb.lf
 have hbx:XOk F w0 XS:=hb.xs
 have hbr:∀x∈RV,1≤x.2.length∧x.2.length≤8364:=hb.rv
 refine pv (pq gp) (pv (pq gp) (pv (pq gp) (lR (pq gd) S0 0 0 (g_ (gv_call (args:=#[pq gd,nS_]) rfl Try.func64 kr_ rfl rfl kr_ ?_)))))
 have S1:=St.pm 6 [5,0,1,2,3,4] S0
 refine Calls.mono (pw_crash (A:=none) (ps:=[]) (n:=0) (c:=0) S1 RoV.nil rfl dc_) ?_
 rintro _ w2 ⟨rfl,S3⟩
 refine ⟨_,rfl,(wER (pv (pq gp) (g_ (gv_call (args:=#[pq gp,iv (-1)]) rfl Try.func121 kr_ rfl rfl kr_ ?_))))⟩
 have hokC:DOk (s.crashR []):=St.pw_ok (L:=[]) (S3.mem 0 rfl)
 have hC:=hI.crash om_ [] hokC
 have S6:=St.pm 6 [1,2,3,4,5,0] S3
 have S7:St F w0 w2 (PC F w0 gp k n::L):=St.pcc (p:=⟨gd,gl,gb,v,RV,XS,s.crashR [],l,low,nn⟩) ⟨hbx,hbr,hlenB,hloB,by show l.life≤inc s.life;have:=hI.life;rw [inc_ok this.1 om_];omega⟩ hI.lg hC S6
 refine Calls.mono (w_reopen S7 om_ (c:= -1) dc_) ?_
 rintro _ w4 ⟨rfl,S5⟩
 refine ⟨_,rfl, ?_⟩
 obtain ⟨⟨gd2,gl2,gb2,v2,RV2,XS2,s2,l2,low2,nn2⟩,hb2,hI2,hx2,S9⟩:=St.pmo S5
 obtain ⟨hm2,he2⟩:=hx2 dc_
 have he2:RV2++XS2=[]:=he2
 have hm2:s2.left= -1:=hm2
 have hI2:PInv (k+1) n s2 l2 ((RV2++XS2).map (·.2)) low2 nn2:=hI2
 rw [he2] at hI2
 have hI2:PInv (k+1) n s2 l2 [] low2 nn2:=hI2
 change St F w0 w4 (row gp #[pq gd2,pq gl2,nI_ n,pq gb2] 123::row gb2 #[v2,nI_ low2,.bool nn2] 121::vec 31 1 v2 (RV2++XS2).length ((RV2++XS2).map (fun x:RecV=>x.1))::stars (RV2.map recD)::PLog gl2 gd2 l2::PW gd2 s2::L) at S9
 refine pv tv (wE (nS (sR (pv tv (pv fv (wE (nCF (wp_skip (nSR (pv (pq gp) (pv (pq gp) (pv (po gp 1) (lR (pq gl2) S9 0 1 ?_)))))))))))))
 refine g_ (gv_slit (e:=5) (sz:=1) (z:=.int .u8 0) (by_:=1) (vs:=#[(0,.int .u8 1),(1,.int .u8 2),(2,.int .u8 3)]) (cells:=#[.int .u8 1,.int .u8 2,.int .u8 3]) S9 rfl kr_ ⟨by kernel_rfl⟩ kr_ kr_ kr_ kr_ (fun g8 w9 hg10 S11=>g_ (gv_call (args:=#[pq gl2,sl g8 0 3 3]) rfl Try.func57 kr_ rfl rfl kr_ ?_)))
 have S12:=St.pm 7 [5,6,0,1,2,3,4] S11
 have S13:St F w0 w9 (PLog gl2 gd2 l2::PW gd2 s2::row g8 (bvs [1,2,3]) 5::row gp #[pq gd2,pq gl2,nI_ n,pq gb2] 123::row gb2 #[v2,nI_ low2,.bool nn2] 121::vec 31 1 v2 (RV2++XS2).length ((RV2++XS2).map (fun x:RecV=>x.1))::stars (RV2.map recD)::L):=S12
 refine Calls.mono (w_append (d:=[1,2,3]) (cd:=3) S13 hI2.lg.ok hI2.lg.hd (RoT.item 0 rfl 0 3 [1,2,3] rfl) (Nat.le_refl _) dc_ (fun _=>by rw [hI2.len];exact hI2.lg.fit) (by have:=hI2.pend;omega)) ?_
 rintro _ w14 ⟨rfl,S15⟩
 refine ⟨_,rfl, ?_⟩
 have hokA:DOk (appendR s2 l2 [1,2,3]).1:=St.pw_ok (L:=[]) (S15.mem 1 rfl)
 obtain ⟨eA,eM,eN,hI3⟩:=hI2.app_m om_ hm2 [1,2,3] rfl hokA
 rw [eN] at hI3
 refine pv (iv ((appendR s2 l2 [1,2,3]).2.2)) (wER (pv (pq gp) (pv (pq gp) (pv (po gp 1) (lR (pq gl2) S15 3 1 (sP Try.func60 #[pq gl2] (w_sync S15) fun w16 S17=> ?_))))))
 have hokS:DOk (syncR (appendR s2 l2 [1,2,3]).1 (appendR s2 l2 [1,2,3]).2.1).1:=St.pw_ok (L:=[]) (S17.mem 1 rfl)
 obtain ⟨eS,hI4⟩:=hI3.sync_m eM hokS
 refine pv (iv ((syncR (appendR s2 l2 [1,2,3]).1 (appendR s2 l2 [1,2,3]).2.1).2)) (wER (pv (pq gp) (pv (pq gp) (pv (pq gp) (lR (pq gd2) S17 3 0 (g_ (gv_call (args:=#[pq gd2,nS_]) rfl Try.func64 kr_ rfl rfl kr_ ?_)))))))
 have S18:=St.pm 7 [1,0,2,3,4,5,6] S17
 refine Calls.mono (pw_crash (A:=none) (ps:=[]) (n:=0) (c:=0) S18 RoV.nil rfl dc_) ?_
 rintro _ w19 ⟨rfl,S20⟩
 refine ⟨_,rfl,(wE (nS ?_))⟩
 have hokD:DOk ((syncR (appendR s2 l2 [1,2,3]).1 (appendR s2 l2 [1,2,3]).2.1).1.crashR []):=St.pw_ok (L:=[]) (S20.mem 0 rfl)
 have hP4:=hI4.crash om_ [] hokD
 refine wp_region_phu (γ:=OpY) 15 [8] (fun (c_:OpY) (i_:Nat)=>(match i_ with|0=>pq gp|1=>pq gp|2=>pq gp|3=>pq gd2|4=>pq gp|5=>pq gp|6=>po gp 2|7=>nI_ n|8=>.tuple #[pq c_.g,.slice c_.A c_.m c_.c,iv 0]|9=>.tuple #[pq c_.g,.slice c_.A c_.m c_.c,iv 0]|10=>pq c_.g|11=>.slice c_.A c_.m c_.c|12=>iv 0|13=>pq c_.g|14=>.slice c_.A c_.m c_.c|_=>undef:Value)) (fun (c_:OpY) (p_:Nat) (w_:World)=>(match p_ with|0=>St F w0 w_ (PW gd2 (((syncR (appendR s2 l2 [1,2,3]).1 (appendR s2 l2 [1,2,3]).2.1).1).crashR [])::PLog gl2 gd2 (appendR s2 l2 [1,2,3]).2.1::row g8 (bvs [1,2,3]) 5::row gp #[pq gd2,pq gl2,nI_ n,pq gb2] 123::row gb2 #[v2,nI_ low2,.bool nn2] 121::vec 31 1 v2 (RV2++XS2).length ((RV2++XS2).map (fun x:RecV=>x.1))::stars (RV2.map recD)::L)|_=>St F w0 w_ (OPN gd2 (k+1+1+1) n ((syncR (appendR s2 l2 [1,2,3]).1 (appendR s2 l2 [1,2,3]).2.1).1.crashR []) ((syncR (appendR s2 l2 [1,2,3]).1 (appendR s2 l2 [1,2,3]).2.1).1.crashR []).life [[1,2,3]] 1 false c_::PLog gl2 gd2 (appendR s2 l2 [1,2,3]).2.1::row g8 (bvs [1,2,3]) 5::row gp #[pq gd2,pq gl2,nI_ n,pq gb2] 123::row gb2 #[v2,nI_ low2,.bool nn2] 121::vec 31 1 v2 (RV2++XS2).length ((RV2++XS2).map (fun x:RecV=>x.1))::stars (RV2.map recD)::L):Prop)) (OpY.zero) kr_ kr_ kr_ kr_ (S20.drew) ?_ ?_ ?_
 ·intro i_ c_ p_ vals_ w1 hi_ hiE_ hp_ hk_ hu_ hPh_ hd_
  rcases i_ with _|_|_|_|_|_|_|_|_|_|_|_|_|_|_|i_
  ·exact tG_ rfl hd_ (gV (pq gp) ⟨rfl,rfl⟩)
  ·exact tG_ rfl hd_ (gV (pq gp) ⟨rfl,rfl⟩)
  ·exact tG_ rfl hd_ (gV (pq gp) ⟨rfl,rfl⟩)
  ·rcases p_ with _|_|p_
   ·have S24:=St.id hPh_
    exact tG_ rfl hd_ (gL (pq gd2) rfl (((S24.blk 3 rfl).cell 0).trans rfl) ⟨rfl,rfl⟩)
   ·exact absurd (hu_ 0 dc_ kr_) dc_
   ·exact absurd hp_ (by simp)
  ·exact tG_ rfl hd_ (gV (pq gp) ⟨rfl,rfl⟩)
  ·exact tG_ rfl hd_ (gV (pq gp) ⟨rfl,rfl⟩)
  ·exact tG_ rfl hd_ (gV (po gp 2) ⟨rfl,rfl⟩)
  ·rcases p_ with _|_|p_
   ·have S28:=St.id hPh_
    exact tG_ rfl hd_ (gL (nI_ n) rfl (((S28.blk 3 rfl).cell 2).trans rfl) ⟨rfl,rfl⟩)
   ·exact absurd (hu_ 0 dc_ kr_) dc_
   ·exact absurd hp_ (by simp)
  ·exact absurd hiE_ dc_
  ·exact tG_ rfl hd_ (gV (.tuple #[pq c_.g,.slice c_.A c_.m c_.c,iv 0]) ⟨rfl,rfl⟩)
  ·exact tG_ rfl hd_ (gV (pq c_.g) ⟨rfl,rfl⟩)
  ·exact tG_ rfl hd_ (gV (.slice c_.A c_.m c_.c) ⟨rfl,rfl⟩)
  ·exact tG_ rfl hd_ (gV (iv 0) ⟨rfl,rfl⟩)
  ·exact tG_ rfl hd_ (gV (pq c_.g) ⟨rfl,rfl⟩)
  ·exact tG_ rfl hd_ (gV (.slice c_.A c_.m c_.c) ⟨rfl,rfl⟩)
  ·exact absurd hi_ om_
 ·intro k_ c_ vals_ w1 hk_ hPh_ hd_
  rcases k_ with _|k_
  ·have S35:=St.id hPh_
   refine tG_ rfl hd_ (gv_call (args:=#[pq gd2,iv 0,nI_ n]) rfl Try.func61 kr_ rfl rfl kr_ (Calls.mono (p_openY hP4 om_ (s1:=((syncR (appendR s2 l2 [1,2,3]).1 (appendR s2 l2 [1,2,3]).2.1).1.crashR [])) rfl hP4.pend (by rw [hP4.left];decide) rfl S35) ?_))
   rintro _ w36 ⟨m38,rfl,S37⟩
   refine ⟨_,rfl,⟨(m38),rfl, ?_,S37⟩⟩
   intro i_ hi_ hne_ hdp_
   rcases i_ with _|_|_|_|_|_|_|_|_|_|_|_|_|_|_|i_
   ·rfl
   ·rfl
   ·rfl
   ·rfl
   ·rfl
   ·rfl
   ·rfl
   ·rfl
   ·exact absurd rfl hne_
   ·exact dN_ hdp_
   ·exact dN_ hdp_
   ·exact dN_ hdp_
   ·exact dN_ hdp_
   ·exact dN_ hdp_
   ·exact dN_ hdp_
   ·exact absurd hi_ om_
  ·exact absurd hk_ (by simp)
 ·intro c_ w1 hPh_
  have S39:=St.id hPh_
  refine (pv (iv 0) (wE (nSR ?_)))
  obtain ⟨RV5,hd5,E5,T5,s5,⟨hm5,hmay5,hfl5,_,_,_,_,_,_,hb5⟩,S8⟩:=St.opn S39
  obtain ⟨hone,x5,hx5,hxm5,hxd5⟩:=May.one hmay5 hm5
  skip
  change St F w0 w1 (vec 31 1 (.slice c_.A c_.m c_.c) c_.m (RV5.map (fun x:RecV=>x.1))::stars (RV5.map recD)::PLog c_.g gd2 ⟨0,n,s5.life,E5,E5,T5,hd5,false⟩::PW gd2 s5::PLog gl2 gd2 (appendR s2 l2 [1,2,3]).2.1::row g8 (bvs [1,2,3]) 5::row gp #[pq gd2,pq gl2,nI_ n,pq gb2] 123::row gb2 #[v2,nI_ low2,.bool nn2] 121::vec 31 1 v2 (RV2++XS2).length ((RV2++XS2).map (fun x:RecV=>x.1))::stars (RV2.map recD)::L) at S8
  obtain ⟨Ax,cx,hxv⟩:=St.recv S8 1 rfl hxm5
  obtain ⟨ad5,hAd5,hr5⟩:=St.vec_rd S8 0 rfl (by rw [List.length_map];omega)
  have hcx:(RV5.map (fun x:RecV=>x.1))[0]?=some (.slice Ax x5.2.length cx):=by rw [List.getElem?_map,hx5];exact congrArg some hxv
  refine pv (iv ((appendR s2 l2 [1,2,3]).2.2)) (dE ((appendR s2 l2 [1,2,3]).2.2) 0 (fun _=>pv tv (pW (iv ((syncR (appendR s2 l2 [1,2,3]).1 (appendR s2 l2 [1,2,3]).2.1).2)) (wl_when kr_ (gv_eq (x:=((syncR (appendR s2 l2 [1,2,3]).1 (appendR s2 l2 [1,2,3]).2.1).2)) (y:=0) kr_ (fun _=>pv tv (pv tv (pW (iv 0) (wl_when kr_ (gv_eq (x:=0) (y:=0) kr_ (fun _=>pv tv (pv tv (pW (pq c_.g) (pW (.bool true) (pv tv ?_))))) (fun hd42=>False.elim (hd42 rfl))))))) (fun hd41=>False.elim (hd41 eS)))))) fun hd40=>False.elim (hd40 eA))
  refine pv tv (pW (.slice c_.A c_.m c_.c) (pW (iv (c_.m:Nat)) (wl_when kr_ (gv_eq (x:=(c_.m:Nat)) (y:=1) kr_ (fun _=>pv tv (pv tv (pW (.slice c_.A c_.m c_.c) (wl_when kr_ (gv_ixB (e:=31) (sz:=1) (n:=c_.m) (c:=c_.c) (i:=0) (k:=.i64) (ad:=ad5) (ad':=(ad5.add 0)) (j:=0) rfl kr_ kr_ (by rw [←hAd5];kernel_rfl) kr_ rfl om_ (by rw [Nat.mul_one]) (wl_when kr_ (gv_ldR (v:=.slice Ax x5.2.length cx) rfl kr_ kr_ (hr5 0 _ hcx) (wl_when kr_ (gv_slit (e:=5) (sz:=1) (z:=.int .u8 0) (by_:=1) (vs:=#[(0,.int .u8 1),(1,.int .u8 2),(2,.int .u8 3)]) (cells:=#[.int .u8 1,.int .u8 2,.int .u8 3]) S8 rfl kr_ ⟨by kernel_rfl⟩ kr_ kr_ kr_ kr_ (fun g44 w45 hg46 S47=>wl_when kr_ (gv_call (args:=#[.slice Ax x5.2.length cx,sl g44 0 3 3]) rfl Try.func24 kr_ rfl rfl kr_ ?_))))))))))) (fun hd43=>False.elim (hd43 om_))))))
  have S48:St F w0 w45 (row g44 (bvs [1,2,3]) 5::vec 31 1 (.slice c_.A c_.m c_.c) c_.m (RV5.map (fun x:RecV=>x.1))::stars (RV5.map recD)::PLog c_.g gd2 ⟨0,n,s5.life,E5,E5,T5,hd5,false⟩::PW gd2 s5::PLog gl2 gd2 (appendR s2 l2 [1,2,3]).2.1::row g8 (bvs [1,2,3]) 5::row gp #[pq gd2,pq gl2,nI_ n,pq gb2] 123::row gb2 #[v2,nI_ low2,.bool nn2] 121::vec 31 1 v2 (RV2++XS2).length ((RV2++XS2).map (fun x:RecV=>x.1))::stars (RV2.map recD)::L):=S47
  refine Calls.mono (same_b (a:=x5.2) (b:=[1,2,3]) (decide_eq_true hxd5) S48 (rot_rec 2 rfl hxm5 hxv) (RoT.item 0 rfl 0 3 [1,2,3] rfl) (by rw [hxd5];decide) dc_) ?_
  rintro _ w49 ⟨rfl,S50⟩
  refine ⟨_,rfl,(pv tv (pv tv (wE (then_n (wp_ret (bA (.bool true) ?_))))))⟩
  have S51:=St.pm 11 [] S50
  exact ⟨rfl,S51⟩
theorem w_lastX {F:Nat→Prop}{w0 w:World}{L:List Ast}{gp k n:Nat}(S:St F w0 w (PBX F w0 gp k n::L))(hk:k≤69000):Calls Try.prog 73 #[.pointer (some ⟨gp,0,none⟩)] w fun e w'=>e=.returned (.bool true)∧St F w0 w' L:=by
 refine eN (fr [pq gp] 72) Try.func73 rfl (sR (pv fv (wER ?_)))
 obtain ⟨⟨gd,gl,gb,v,RV,XS,s,l,low,nn⟩,gd1,s1,hbx,hbr,hbl,hI,hz,hD,S0⟩:=St.pxo S
 have hI:PInv k n s l ((RV++XS).map (·.2)) low nn:=hI
 have hz:s.left=0:=hz
 have hD:DeadL n s1 l:=hD
 have hbl:(RV++XS).length≤256+k∧low≤256+k:=hbl
 change St F w0 w (row gp #[pq gd,pq gl,nI_ n,pq gb] 123::row gb #[v,nI_ low,.bool nn] 121::vec 31 1 v (RV++XS).length ((RV++XS).map (fun x:RecV=>x.1))::stars (RV.map recD)::PLog gl gd1 l::PW gd s::PW gd1 s1::L) at S0
 have hlenB:=hbl.1
 have hloB:=hbl.2
 refine pv (pq gp) (pv (pq gp) (pv (pq gp) (lR (pq gd) S0 0 0 (g_ (gv_call (args:=#[pq gd,nS_]) rfl Try.func64 kr_ rfl rfl kr_ ?_)))))
 have S1:=St.pm 7 [5,0,1,2,3,4,6] S0
 refine Calls.mono (pw_crash (A:=none) (ps:=[]) (n:=0) (c:=0) S1 RoV.nil rfl dc_) ?_
 rintro _ w2 ⟨rfl,S3⟩
 refine ⟨_,rfl,(wER (pv (pq gp) (g_ (gv_call (args:=#[pq gp,iv (-1)]) rfl Try.func121 kr_ rfl rfl kr_ ?_))))⟩
 have hokC:DOk (s.crashR []):=St.pw_ok (L:=[]) (S3.mem 0 rfl)
 have hC:=hI.crash om_ [] hokC
 have S6:=St.pm 7 [1,2,3,4,5,0,6] S3
 have S7:St F w0 w2 (PCX F w0 gp k n::L):=St.pyc (p:=⟨gd,gl,gb,v,RV,XS,s.crashR [],l,low,nn⟩) hbx hbr ⟨hlenB,hloB⟩ hC hD S6
 refine Calls.mono (w_reopenX S7 om_ (c:= -1) dc_) ?_
 rintro _ w4 ⟨rfl,S5⟩
 have S5:=(St.pamo S5).resolve_right (fun q=>absurd q.1 dc_)
 refine ⟨_,rfl, ?_⟩
 obtain ⟨⟨gd2,gl2,gb2,v2,RV2,XS2,s2,l2,low2,nn2⟩,hb2,hI2,hx2,S9⟩:=St.pmo S5
 obtain ⟨hm2,he2⟩:=hx2 dc_
 have he2:RV2++XS2=[]:=he2
 have hm2:s2.left= -1:=hm2
 have hI2:PInv (k+1) n s2 l2 ((RV2++XS2).map (·.2)) low2 nn2:=hI2
 rw [he2] at hI2
 have hI2:PInv (k+1) n s2 l2 [] low2 nn2:=hI2
 change St F w0 w4 (row gp #[pq gd2,pq gl2,nI_ n,pq gb2] 123::row gb2 #[v2,nI_ low2,.bool nn2] 121::vec 31 1 v2 (RV2++XS2).length ((RV2++XS2).map (fun x:RecV=>x.1))::stars (RV2.map recD)::PLog gl2 gd2 l2::PW gd2 s2::L) at S9
 refine pv tv (wE (nS (sR (pv tv (pv fv (wE (nCF (wp_skip (nSR (pv (pq gp) (pv (pq gp) (pv (po gp 1) (lR (pq gl2) S9 0 1 ?_)))))))))))))
 refine g_ (gv_slit (e:=5) (sz:=1) (z:=.int .u8 0) (by_:=1) (vs:=#[(0,.int .u8 1),(1,.int .u8 2),(2,.int .u8 3)]) (cells:=#[.int .u8 1,.int .u8 2,.int .u8 3]) S9 rfl kr_ ⟨by kernel_rfl⟩ kr_ kr_ kr_ kr_ (fun g8 w9 hg10 S11=>g_ (gv_call (args:=#[pq gl2,sl g8 0 3 3]) rfl Try.func57 kr_ rfl rfl kr_ ?_)))
 have S12:=St.pm 7 [5,6,0,1,2,3,4] S11
 have S13:St F w0 w9 (PLog gl2 gd2 l2::PW gd2 s2::row g8 (bvs [1,2,3]) 5::row gp #[pq gd2,pq gl2,nI_ n,pq gb2] 123::row gb2 #[v2,nI_ low2,.bool nn2] 121::vec 31 1 v2 (RV2++XS2).length ((RV2++XS2).map (fun x:RecV=>x.1))::stars (RV2.map recD)::L):=S12
 refine Calls.mono (w_append (d:=[1,2,3]) (cd:=3) S13 hI2.lg.ok hI2.lg.hd (RoT.item 0 rfl 0 3 [1,2,3] rfl) (Nat.le_refl _) dc_ (fun _=>by rw [hI2.len];exact hI2.lg.fit) (by have:=hI2.pend;omega)) ?_
 rintro _ w14 ⟨rfl,S15⟩
 refine ⟨_,rfl, ?_⟩
 have hokA:DOk (appendR s2 l2 [1,2,3]).1:=St.pw_ok (L:=[]) (S15.mem 1 rfl)
 obtain ⟨eA,eM,eN,hI3⟩:=hI2.app_m om_ hm2 [1,2,3] rfl hokA
 rw [eN] at hI3
 refine pv (iv ((appendR s2 l2 [1,2,3]).2.2)) (wER (pv (pq gp) (pv (pq gp) (pv (po gp 1) (lR (pq gl2) S15 3 1 (sP Try.func60 #[pq gl2] (w_sync S15) fun w16 S17=> ?_))))))
 have hokS:DOk (syncR (appendR s2 l2 [1,2,3]).1 (appendR s2 l2 [1,2,3]).2.1).1:=St.pw_ok (L:=[]) (S17.mem 1 rfl)
 obtain ⟨eS,hI4⟩:=hI3.sync_m eM hokS
 refine pv (iv ((syncR (appendR s2 l2 [1,2,3]).1 (appendR s2 l2 [1,2,3]).2.1).2)) (wER (pv (pq gp) (pv (pq gp) (pv (pq gp) (lR (pq gd2) S17 3 0 (g_ (gv_call (args:=#[pq gd2,nS_]) rfl Try.func64 kr_ rfl rfl kr_ ?_)))))))
 have S18:=St.pm 7 [1,0,2,3,4,5,6] S17
 refine Calls.mono (pw_crash (A:=none) (ps:=[]) (n:=0) (c:=0) S18 RoV.nil rfl dc_) ?_
 rintro _ w19 ⟨rfl,S20⟩
 refine ⟨_,rfl,(wE (nS ?_))⟩
 have hokD:DOk ((syncR (appendR s2 l2 [1,2,3]).1 (appendR s2 l2 [1,2,3]).2.1).1.crashR []):=St.pw_ok (L:=[]) (S20.mem 0 rfl)
 have hP4:=hI4.crash om_ [] hokD
 refine wp_region_phu (γ:=OpY) 15 [8] (fun (c_:OpY) (i_:Nat)=>(match i_ with|0=>pq gp|1=>pq gp|2=>pq gp|3=>pq gd2|4=>pq gp|5=>pq gp|6=>po gp 2|7=>nI_ n|8=>.tuple #[pq c_.g,.slice c_.A c_.m c_.c,iv 0]|9=>.tuple #[pq c_.g,.slice c_.A c_.m c_.c,iv 0]|10=>pq c_.g|11=>.slice c_.A c_.m c_.c|12=>iv 0|13=>pq c_.g|14=>.slice c_.A c_.m c_.c|_=>undef:Value)) (fun (c_:OpY) (p_:Nat) (w_:World)=>(match p_ with|0=>St F w0 w_ (PW gd2 (((syncR (appendR s2 l2 [1,2,3]).1 (appendR s2 l2 [1,2,3]).2.1).1).crashR [])::PLog gl2 gd2 (appendR s2 l2 [1,2,3]).2.1::row g8 (bvs [1,2,3]) 5::row gp #[pq gd2,pq gl2,nI_ n,pq gb2] 123::row gb2 #[v2,nI_ low2,.bool nn2] 121::vec 31 1 v2 (RV2++XS2).length ((RV2++XS2).map (fun x:RecV=>x.1))::stars (RV2.map recD)::L)|_=>St F w0 w_ (OPN gd2 (k+1+1+1) n ((syncR (appendR s2 l2 [1,2,3]).1 (appendR s2 l2 [1,2,3]).2.1).1.crashR []) ((syncR (appendR s2 l2 [1,2,3]).1 (appendR s2 l2 [1,2,3]).2.1).1.crashR []).life [[1,2,3]] 1 false c_::PLog gl2 gd2 (appendR s2 l2 [1,2,3]).2.1::row g8 (bvs [1,2,3]) 5::row gp #[pq gd2,pq gl2,nI_ n,pq gb2] 123::row gb2 #[v2,nI_ low2,.bool nn2] 121::vec 31 1 v2 (RV2++XS2).length ((RV2++XS2).map (fun x:RecV=>x.1))::stars (RV2.map recD)::L):Prop)) (OpY.zero) kr_ kr_ kr_ kr_ (S20.drew) ?_ ?_ ?_
 ·intro i_ c_ p_ vals_ w1 hi_ hiE_ hp_ hk_ hu_ hPh_ hd_
  rcases i_ with _|_|_|_|_|_|_|_|_|_|_|_|_|_|_|i_
  ·exact tG_ rfl hd_ (gV (pq gp) ⟨rfl,rfl⟩)
  ·exact tG_ rfl hd_ (gV (pq gp) ⟨rfl,rfl⟩)
  ·exact tG_ rfl hd_ (gV (pq gp) ⟨rfl,rfl⟩)
  ·rcases p_ with _|_|p_
   ·have S24:=St.id hPh_
    exact tG_ rfl hd_ (gL (pq gd2) rfl (((S24.blk 3 rfl).cell 0).trans rfl) ⟨rfl,rfl⟩)
   ·exact absurd (hu_ 0 dc_ kr_) dc_
   ·exact absurd hp_ (by simp)
  ·exact tG_ rfl hd_ (gV (pq gp) ⟨rfl,rfl⟩)
  ·exact tG_ rfl hd_ (gV (pq gp) ⟨rfl,rfl⟩)
  ·exact tG_ rfl hd_ (gV (po gp 2) ⟨rfl,rfl⟩)
  ·rcases p_ with _|_|p_
   ·have S28:=St.id hPh_
    exact tG_ rfl hd_ (gL (nI_ n) rfl (((S28.blk 3 rfl).cell 2).trans rfl) ⟨rfl,rfl⟩)
   ·exact absurd (hu_ 0 dc_ kr_) dc_
   ·exact absurd hp_ (by simp)
  ·exact absurd hiE_ dc_
  ·exact tG_ rfl hd_ (gV (.tuple #[pq c_.g,.slice c_.A c_.m c_.c,iv 0]) ⟨rfl,rfl⟩)
  ·exact tG_ rfl hd_ (gV (pq c_.g) ⟨rfl,rfl⟩)
  ·exact tG_ rfl hd_ (gV (.slice c_.A c_.m c_.c) ⟨rfl,rfl⟩)
  ·exact tG_ rfl hd_ (gV (iv 0) ⟨rfl,rfl⟩)
  ·exact tG_ rfl hd_ (gV (pq c_.g) ⟨rfl,rfl⟩)
  ·exact tG_ rfl hd_ (gV (.slice c_.A c_.m c_.c) ⟨rfl,rfl⟩)
  ·exact absurd hi_ om_
 ·intro k_ c_ vals_ w1 hk_ hPh_ hd_
  rcases k_ with _|k_
  ·have S35:=St.id hPh_
   refine tG_ rfl hd_ (gv_call (args:=#[pq gd2,iv 0,nI_ n]) rfl Try.func61 kr_ rfl rfl kr_ (Calls.mono (p_openY hP4 om_ (s1:=((syncR (appendR s2 l2 [1,2,3]).1 (appendR s2 l2 [1,2,3]).2.1).1.crashR [])) rfl hP4.pend (by rw [hP4.left];decide) rfl S35) ?_))
   rintro _ w36 ⟨m38,rfl,S37⟩
   refine ⟨_,rfl,⟨(m38),rfl, ?_,S37⟩⟩
   intro i_ hi_ hne_ hdp_
   rcases i_ with _|_|_|_|_|_|_|_|_|_|_|_|_|_|_|i_
   ·rfl
   ·rfl
   ·rfl
   ·rfl
   ·rfl
   ·rfl
   ·rfl
   ·rfl
   ·exact absurd rfl hne_
   ·exact dN_ hdp_
   ·exact dN_ hdp_
   ·exact dN_ hdp_
   ·exact dN_ hdp_
   ·exact dN_ hdp_
   ·exact dN_ hdp_
   ·exact absurd hi_ om_
  ·exact absurd hk_ (by simp)
 ·intro c_ w1 hPh_
  have S39:=St.id hPh_
  refine (pv (iv 0) (wE (nSR ?_)))
  obtain ⟨RV5,hd5,E5,T5,s5,⟨hm5,hmay5,hfl5,_,_,_,_,_,_,hb5⟩,S8⟩:=St.opn S39
  obtain ⟨hone,x5,hx5,hxm5,hxd5⟩:=May.one hmay5 hm5
  skip
  change St F w0 w1 (vec 31 1 (.slice c_.A c_.m c_.c) c_.m (RV5.map (fun x:RecV=>x.1))::stars (RV5.map recD)::PLog c_.g gd2 ⟨0,n,s5.life,E5,E5,T5,hd5,false⟩::PW gd2 s5::PLog gl2 gd2 (appendR s2 l2 [1,2,3]).2.1::row g8 (bvs [1,2,3]) 5::row gp #[pq gd2,pq gl2,nI_ n,pq gb2] 123::row gb2 #[v2,nI_ low2,.bool nn2] 121::vec 31 1 v2 (RV2++XS2).length ((RV2++XS2).map (fun x:RecV=>x.1))::stars (RV2.map recD)::L) at S8
  obtain ⟨Ax,cx,hxv⟩:=St.recv S8 1 rfl hxm5
  obtain ⟨ad5,hAd5,hr5⟩:=St.vec_rd S8 0 rfl (by rw [List.length_map];omega)
  have hcx:(RV5.map (fun x:RecV=>x.1))[0]?=some (.slice Ax x5.2.length cx):=by rw [List.getElem?_map,hx5];exact congrArg some hxv
  refine pv (iv ((appendR s2 l2 [1,2,3]).2.2)) (dE ((appendR s2 l2 [1,2,3]).2.2) 0 (fun _=>pv tv (pW (iv ((syncR (appendR s2 l2 [1,2,3]).1 (appendR s2 l2 [1,2,3]).2.1).2)) (wl_when kr_ (gv_eq (x:=((syncR (appendR s2 l2 [1,2,3]).1 (appendR s2 l2 [1,2,3]).2.1).2)) (y:=0) kr_ (fun _=>pv tv (pv tv (pW (iv 0) (wl_when kr_ (gv_eq (x:=0) (y:=0) kr_ (fun _=>pv tv (pv tv (pW (pq c_.g) (pW (.bool true) (pv tv ?_))))) (fun hd42=>False.elim (hd42 rfl))))))) (fun hd41=>False.elim (hd41 eS)))))) fun hd40=>False.elim (hd40 eA))
  refine pv tv (pW (.slice c_.A c_.m c_.c) (pW (iv (c_.m:Nat)) (wl_when kr_ (gv_eq (x:=(c_.m:Nat)) (y:=1) kr_ (fun _=>pv tv (pv tv (pW (.slice c_.A c_.m c_.c) (wl_when kr_ (gv_ixB (e:=31) (sz:=1) (n:=c_.m) (c:=c_.c) (i:=0) (k:=.i64) (ad:=ad5) (ad':=(ad5.add 0)) (j:=0) rfl kr_ kr_ (by rw [←hAd5];kernel_rfl) kr_ rfl om_ (by rw [Nat.mul_one]) (wl_when kr_ (gv_ldR (v:=.slice Ax x5.2.length cx) rfl kr_ kr_ (hr5 0 _ hcx) (wl_when kr_ (gv_slit (e:=5) (sz:=1) (z:=.int .u8 0) (by_:=1) (vs:=#[(0,.int .u8 1),(1,.int .u8 2),(2,.int .u8 3)]) (cells:=#[.int .u8 1,.int .u8 2,.int .u8 3]) S8 rfl kr_ ⟨by kernel_rfl⟩ kr_ kr_ kr_ kr_ (fun g44 w45 hg46 S47=>wl_when kr_ (gv_call (args:=#[.slice Ax x5.2.length cx,sl g44 0 3 3]) rfl Try.func24 kr_ rfl rfl kr_ ?_))))))))))) (fun hd43=>False.elim (hd43 om_))))))
  have S48:St F w0 w45 (row g44 (bvs [1,2,3]) 5::vec 31 1 (.slice c_.A c_.m c_.c) c_.m (RV5.map (fun x:RecV=>x.1))::stars (RV5.map recD)::PLog c_.g gd2 ⟨0,n,s5.life,E5,E5,T5,hd5,false⟩::PW gd2 s5::PLog gl2 gd2 (appendR s2 l2 [1,2,3]).2.1::row g8 (bvs [1,2,3]) 5::row gp #[pq gd2,pq gl2,nI_ n,pq gb2] 123::row gb2 #[v2,nI_ low2,.bool nn2] 121::vec 31 1 v2 (RV2++XS2).length ((RV2++XS2).map (fun x:RecV=>x.1))::stars (RV2.map recD)::L):=S47
  refine Calls.mono (same_b (a:=x5.2) (b:=[1,2,3]) (decide_eq_true hxd5) S48 (rot_rec 2 rfl hxm5 hxv) (RoT.item 0 rfl 0 3 [1,2,3] rfl) (by rw [hxd5];decide) dc_) ?_
  rintro _ w49 ⟨rfl,S50⟩
  refine ⟨_,rfl,(pv tv (pv tv (wE (then_n (wp_ret (bA (.bool true) ?_))))))⟩
  have S51:=St.pm 11 [] S50
  exact ⟨rfl,S51⟩
theorem w_last {F:Nat→Prop}{w0 w:World}{L:List Ast}{gp k n:Nat}(S:St F w0 w (PA F w0 gp k n::L))(hk:k≤69000):Calls Try.prog 73 #[.pointer (some ⟨gp,0,none⟩)] w fun e w'=>e=.returned (.bool true)∧St F w0 w' L:=by
 rcases St.pao S with S|S
 ·exact w_lastB S hk
 ·exact w_lastX S hk
structure OpE where
 kind:Int
 a:Int
 b:Int
 A:Option Addr
 d:List UInt8
 cd:Nat
 A2:Option Addr
 ps:List Pick
 cq:Nat
def OpE.cells (o:OpE):List Value:=[.int .i64 o.kind,.int .i64 o.a,.int .i64 o.b,.slice o.A o.d.length o.cd,.slice o.A2 o.ps.length o.cq]
def opeV (l:List OpE):List Value:=l.flatMap OpE.cells
theorem length_opeV (l:List OpE):(opeV l).length=l.length*5:=by
 induction l with
 |nil=>rfl
 |cons p r ih=>simp [opeV,OpE.cells] at ih ⊢;omega
theorem opeV_at:∀(l:List OpE) (i:Nat) (p:OpE),l[i]?=some p→∀j u,p.cells[j]?=some u→(opeV l)[i*5+j]?=some u
 |[],i,p,h,_,_,_=>by simp at h
 |q::r,0,p,h,j,u,hu=>by
  simp at h;subst h
  have:=(List.getElem?_eq_some_iff.1 hu).1
  show ((q.cells++opeV r))[0*5+j]?=some u
  rw [List.getElem?_append_left om_];simpa using hu
 |q::r,i+1,p,h,j,u,hu=>by
  have ih:=opeV_at r i p (by simpa using h) j u hu
  show ((q.cells++opeV r))[(i+1)*5+j]?=some u
  rw [List.getElem?_append_right (by simp [OpE.cells];omega)]
  simpa [OpE.cells,show (i+1)*5+j-5=i*5+j from by omega] using ih
structure OpE.Ok (w:World)(o:OpE):Prop where
 d:RdB w o.A o.d
 p:RdV w o.A2 (picksV o.ps)
 cap:o.d.length≤o.cd
 dm:o.d.length≤140737488355328
 pm:o.ps.length*24≤140737488355328
 ha:o.a≤9223372036854775807
theorem walKeeps_all (w:World){A3:Option Addr}{c3:Nat}{ops:List OpE}(nn:Int)(hs:RdV w A3 (opeV ops))(hsm:ops.length≤2199023255552)(hok:∀o∈ops,o.Ok w)(hdl:∀o∈ops,o.d.length≤140737488351232):Calls Try.prog 10 #[.int .i64 nn,.slice A3 ops.length c3] w fun e w'=>e=.returned (.bool true)∧Below w.heap.size w w':=by
 have S0:St none' w w []:=St.init none' w
 by_cases hbad:nn<18∨256<nn∨65536<ops.length
 ·refine eN (fr [iv nn,.slice A3 ops.length c3] 53) Try.func10 rfl (sR (pv fv (wE (nS (sR (pv (iv nn) (dC ((nn:Int)<18) (fun hb1=> ?_) fun hb1=> ?_)))))))
  ·refine pv tv (wN (wN (pv tv (pv tv (wN (wN (wN (pv tv (wE (nCT (sR (pv tv (wE ?_)))))))))))))
   exact then_n (rR (bA (.bool true) ⟨rfl,S0.fr.below⟩))
  ·refine pv fv (pW (iv nn) (wl_when kr_ (gv_dec (p:=(nn:Int)>256) kr_ (fun hb2=> ?_) (fun hb2=> ?_))))
   ·exact pv tv (pv tv (wN (wN (wN (pv tv (wE (nCT (sR (pv tv (wE (then_n (rR (bA (.bool true) ⟨rfl,S0.fr.below⟩)))))))))))))
   ·refine pv fv (pv fv (pW (.slice A3 ops.length c3) (pW (iv (ops.length:Nat)) (wl_when kr_ (gv_dec (p:=((ops.length:Nat):Int)>65536) kr_ (fun hb3=> ?_) (fun hb3=> ?_))))))
    ·exact pv tv (wE (nCT (sR (pv tv (wE (then_n (rR (bA (.bool true) ⟨rfl,S0.fr.below⟩))))))))
    ·exact absurd hbad om_
 obtain ⟨n,rfl⟩:∃n:Nat,nn=(n:Int):=⟨nn.toNat,by omega⟩
 have h18:18≤n:=by omega
 have h256:n≤256:=by omega
 have hol:ops.length≤65536:=by omega
 refine eN (fr [nI_ n,.slice A3 ops.length c3] 53) Try.func10 rfl (sR (pv fv (wE (nS (sR (pv (nI_ n) (dC ((((n:Nat):Int):Int)<18) (fun hd1=>False.elim om_) fun _=>pv fv (pW (nI_ n) (wl_when kr_ (gv_dec (p:=(((n:Nat):Int):Int)>256) kr_ (fun hd2=>False.elim om_) (fun _=>pv fv (pv fv (pW (.slice A3 ops.length c3) ?_)))))))))))))
 refine pW (iv (ops.length:Nat)) (wl_when kr_ (gv_dec (p:=((ops.length:Nat):Int)>65536) kr_ (fun hd3=>False.elim om_) (fun _=>pv fv (wE (nCF (wp_skip (nSR (pv (nI_ n) (g_ (gv_call (args:=#[nI_ n]) rfl Try.func54 kr_ rfl rfl kr_ (Calls.mono (w_freshN h18 h256 S0) ?_)))))))))))
 rintro _ w4 ⟨gd,gl,s4,rfl,hf4,hp4,hl4,S5⟩
 refine ⟨_,rfl, ?_⟩
 have hok4:=St.pw_ok (L:=[]) (S5.mem 1 rfl)
 refine pv (.tuple #[pq gd,pq gl]) (pv (pq gd) (pv (pq gl) (pv (pq gd) (pv (pq gl) (wE (nS (sR (pv (pq gd) (pv fv (pv fv (pW (pq gl) (pW (.bool false) (pv fv ?_)))))))))))))
 refine wE (nCF (wp_skip (nSR (pv (pq gd) (pv (pq gl) (pv (nI_ n) (pv (.agg #[nS_,iv 0,fv]) (nB rfl (.agg #[nS_,iv 0,.bool false]) S5 fun g6 w7 hg8 S9=>pv (.agg #[pq gd,pq gl,nI_ n,pq g6]) (nB rfl (.agg #[pq gd,pq gl,nI_ n,pq g6]) S9 fun g10 w11 hg12 S13=>pv (pq g10) (wE (nS ?_)))))))))))
 refine sR (pv (iv 0) (wE (then_n (wp_block ?_))))
 have S14:St none' w w11 [stars ((([]:List RecV)).map recD),row g10 #[pq gd,pq gl,nI_ n,pq g6] 123,row g6 #[nS_,iv 0,.bool false] 121,PLog gl gd ⟨0,n,s4.life,2,1,0,0,true⟩,PW gd s4]:=St.star_nil S13
 have S15:St none' w w11 [vec 31 1 (nS_) 0 [],stars ((([]:List RecV)).map recD),row g10 #[pq gd,pq gl,nI_ n,pq g6] 123,row g6 #[nS_,iv 0,.bool false] 121,PLog gl gd ⟨0,n,s4.life,2,1,0,0,true⟩,PW gd s4]:=St.vec_nil S14
 have S16:=St.pm 6 [2,3,0,1,4,5] S15
 have hI0:PInv 0 n s4 ⟨0,n,s4.life,2,1,0,0,true⟩ [] 0 false:=⟨⟨h18,h256⟩,hf4.len,hok4,by rw [hl4];decide,⟨⟨Nat.zero_le _,h18,h256,show 2≤1073741824 by decide,show 1<1073741824 by decide,Nat.zero_le _⟩,⟨Nat.le_refl _,Nat.zero_le _⟩,by show 0+2+n≤n+2;omega,fun _=>Nat.zero_le _⟩,by rw [hp4];exact Nat.zero_le _,.inl ⟨rfl,2,1,0,0,0,rfl,by decide,by decide,by decide,by decide,hf4.core hp4 h18 h256⟩⟩
 have S17:St none' w w11 [PA none' w g10 0 n]:=St.pa1 (St.pbc (p:=⟨gd,gl,g6,nS_,[],[],s4,⟨0,n,s4.life,2,1,0,0,true⟩,0,false⟩) ⟨fun x hx=>(by cases hx),fun x hx=>(by cases hx),Nat.zero_le _,Nat.zero_le _,Int.le_refl _⟩ hI0 S16)
 refine wp_loop_g (G:=Nat) (fun (g_:Nat) (a_:Act) (w_:World)=>∃J:Nat→Value,a_=(fr ([nI_ n,.slice A3 ops.length c3,ud,ud,J 4,pq gd,pq gl,pq g10,nI_ g_,J 9,nI_ n,fv,fv,nI_ n,fv,fv,fv,.slice A3 ops.length c3,iv (ops.length:Nat),fv,fv,.tuple #[pq gd,pq gl],nI_ n,.tuple #[pq gd,pq gl],pq gd,pq gl,pq gd,fv,fv,pq gl,fv,fv,pq gd,pq gl,nI_ n,.agg #[nS_,iv 0,fv],pq g6,.agg #[pq gd,pq gl,nI_ n,pq g6],pq g10]++jR J 39 14) 2)∧St none' w w_ [PA none' w g10 g_ n]∧(g_≤ops.length)) (fun g_=>ops.length-g_) 0 (jE_ ⟨S17,Nat.zero_le _⟩) ?_
 rintro i a_ w18 ⟨J,rfl,S19,hi1⟩
 skip
 have S19:St none' w w18 [PA none' w g10 i n]:=S19
 refine wp_seq (sR (pv (nI_ i) (pv (.slice A3 ops.length c3) (pv (iv (ops.length:Nat)) (dC ((((i:Nat):Int):Int)<(ops.length:Nat)) (fun hb21=> ?_) fun hb21=> ?_)))))
 ·have hi:i<ops.length:=by omega
  obtain ⟨o,ho⟩:∃o,ops[i]?=some o:=⟨_,List.getElem?_eq_getElem hi⟩
  have hk:=hok o (List.mem_of_getElem? ho)
  have hd9:=hdl o (List.mem_of_getElem? ho)
  obtain ⟨ad,hAd,hrs⟩:=(RoV.of_rd hs []).out w18 _ (show St none' w w18 ([PA none' w g10 i n]++[]) from S19) (by rw [length_opeV];omega)
  have hrq:RdV w18 (some ad) (opeV ops):=fun _=>⟨ad,rfl,hrs⟩
  refine wE (nCT (wp_skip (nS (wp_block (sR (pv (pq g10) (pv (.slice A3 ops.length c3) (pv (nI_ i) (g_ (gv_ixB (e:=111) (sz:=5) (n:=ops.length) (c:=c3) (i:=((i:Nat):Int)) (k:=.i64) (ad:=ad) (ad':=(ad.add (i*5))) (j:=i) rfl kr_ kr_ (by rw [←hAd];kernel_rfl) kr_ rfl om_ rfl (g_ (gv_ldRA (ad:=ad.add (i*5)) (vs:=[iv o.kind,iv o.a,iv o.b,.slice o.A o.d.length o.cd,.slice o.A2 o.ps.length o.cq]) (n:=5) rfl kr_ kr_ rfl (RoV.cells hrq (i*5) (fun j u hu=>opeV_at ops _ _ ho j u hu) (Nat.succ_pos _)) (sP Try.func72 #[pq g10,.agg #[iv o.kind,iv o.a,iv o.b,.slice o.A o.d.length o.cd,.slice o.A2 o.ps.length o.cq]] (w_one S19 om_ (fun L=>(Ro.of_C hk.d (fun _ h=>h)).T) (fun L=>RoV.of_rd hk.p L) hk.cap hd9 hk.pm hk.ha) fun w22 S23=>pv tv (wE ?_))))))))))))))
  exact nSR (pv tv (pv fv (wE (nCF (wp_skip (inb_n (nR (pv (nI_ i) (gI .i64 (IntKind.i64.wrap (((i:Nat):Int)+1)) ((i+1:Nat):Int) wq_ (pv (nI_ (i+1)) (wE (then_n ⟨i+1,(jE_ ⟨S23,om_⟩),(by show ops.length-(i+1)<ops.length-i;omega)⟩))))))))))))
 ·exact wE (nCF (wp_exit (then_x (then_x (inb_x (nSR (pv (pq g10) (sP Try.func73 #[pq g10] (w_last S19 om_) fun w24 S25=>pv tv (wE (then_n (wp_ret (bA (.bool true) ⟨rfl,S25.fr.below⟩))))))))))))
end
end Go.Proofs
end
section
open Go Go.RowKit Go.Deep Go.Proofs.YtgeioealgidkiaaW.PrintWords Go.Proofs.YtgeioealgidkiaaW.PrintMore
namespace Go.Vel
section
def Opens {H:Type}(enc:TypeId×Value→H)(P:Program)(W:World)(t:TypeId){α:Type}(d:Kd α)(Q:α→Prop):Prop:=
 ∀fuel cs x,DataW.trod enc P W 0 (fun _=>true) true fuel t cs=some x→(∀n∈x.1.weights P t,n≤reachBytes)→∃a,d.K W a cs∧Q a
section
variable {H:Type}{enc:TypeId×Value→H}{P:Program}{W:World}{α:Type}
theorem Opens.bool {t:TypeId}(ht:P.underlying t=some .bool):Opens enc P W t Kd.bool (fun _=>True):=by
 intro fuel cs x h _
 obtain ⟨n,e,_⟩:=DataW.trod_bool ht h
 exact ⟨n,e,trivial⟩
theorem Opens.mono {t:TypeId}{d:Kd α}{Q Q':α→Prop}(h:Opens enc P W t d Q)(hq:∀a,Q a→Q' a):Opens enc P W t d Q':=fun fuel cs x hx hw=>by
 obtain ⟨a,h1,h2⟩:=h fuel cs x hx hw
 exact ⟨a,h1,hq a h2⟩
theorem add_add (a:Addr)(i j:Nat):(a.add i).add j=a.add (i+j):=by
 unfold Addr.add
 by_cases h0:i=0
 ·subst h0;simp
 ·by_cases h1:j=0
  ·subst h1;simp
  ·have h2:¬(i+j=0):=by omega
   simp only [h0,h1,h2,if_false,Nat.add_assoc]
theorem weightsAll_mem {e:TypeId}:∀{ds:List (DataW H)} {d:DataW H},d∈ds→∀n∈d.weights P e,n∈DataW.weightsAll P e ds
 |[],_,h=>by cases h
 |x::r,d,h=>fun n hn=>by
  unfold DataW.weightsAll
  rcases List.mem_cons.1 h with rfl|h
  ·exact List.mem_append_left _ hn
  ·exact List.mem_append_right _ (weightsAll_mem h n hn)
theorem Opens.slice [Inhabited α]{t e:TypeId}{d:Kd α}{Q:α→Prop}{B:Nat}(ht:P.underlying t=some (.slice e))(hd:Opens enc P W e d Q)(hsz:d.sz=P.cellsOf e)(hB:P.bytesOf e=B):Opens enc P W t (Kd.slice e d) (fun xs=>xs.length≤maxLen∧xs.length*B≤reachBytes∧∀x∈xs,Q x):=by
 intro fuel cs x h hw
 rcases open_slice ht h with ⟨rfl,_⟩|⟨a,len,cap,m,n,D,Pl,rfl,_,hl,hm,hmm,hx,he⟩
 ·exact ⟨[],⟨none,0,rfl,Nat.le_refl _,rfl,Nat.zero_le _,fun h=>absurd h (Nat.lt_irrefl 0)⟩,Nat.zero_le _,by simp,fun x hx=>by cases hx⟩
 ·rw [if_pos rfl] at hmm
  subst hmm
  have hw1:∀n∈((((List.range len).map D).length*P.bytesOf e+((List.range (m-len)).map fun j=>D (len+j)).length*P.bytesOf e)::(DataW.weightsAll P e ((List.range len).map D)++DataW.weightsAll P e ((List.range (m-len)).map fun j=>D (len+j))):List Nat),n≤reachBytes:=by
   rw [hx] at hw
   simp only [DataW.weights,ht] at hw
   rw [Nat.add_mul] at hw
   exact hw
  have hfirst:=hw1 _ List.mem_cons_self
  have hex:∀i,i<len→∃y:α,∃cs',W.cells? 0 (a.add (i*P.cellsOf e)) (P.cellsOf e)=some cs'∧d.K W y cs'∧Q y:=by
   intro i hi
   obtain ⟨cs',h1,h2⟩:=he i om_
   obtain ⟨y,h3,h4⟩:=hd _ _ _ h2 (fun n hn=>hw1 n (List.mem_cons_of_mem _ (List.mem_append_left _ (weightsAll_mem (d:=D i) (List.mem_map.2 ⟨i,List.mem_range.2 hi,rfl⟩) n hn))))
   exact ⟨y,cs',h1,h3,h4⟩
  obtain ⟨f,hf⟩:=choose_lt hex
  have hlen:((List.range len).map f).length=len:=by simp
  have hmx:maxLen≤9223372036854775807:=by decide
  refine ⟨(List.range len).map f,⟨some a,m,by rw [hlen],by rw [hlen];exact hl,rfl,by rw [hlen];omega,fun _=>⟨a,rfl,fun j p hp=> ?_⟩⟩,by rw [hlen];omega, ?_, ?_⟩
  ·have hj:j<len:=by
    have:=(List.getElem?_eq_some_iff.1 hp).1
    rwa [hlen] at this
   rw [List.getElem?_map,List.getElem?_range hj] at hp
   simp only [Option.map_some,Option.some.injEq] at hp
   subst hp
   obtain ⟨cs',h1,h2,_⟩:=hf j hj
   obtain ⟨_,hl2,hc⟩:=World.cells?_some h1
   refine ⟨cs',by rw [hl2,hsz],h2,fun i u hu=> ?_⟩
   have hi:i<P.cellsOf e:=by
    have:=(List.getElem?_eq_some_iff.1 hu).1
    omega
   have:=hc i hi
   rw [hu,add_add] at this
   rw [hsz];exact this
  ·rw [hlen,←hB]
   simp only [List.length_map,List.length_range] at hfirst
   exact Nat.le_trans (Nat.le_add_right _ _) hfirst
  ·intro x hx
   obtain ⟨i,hi,rfl⟩:=List.mem_map.1 hx
   obtain ⟨_,_,_,hq⟩:=hf i (List.mem_range.1 hi)
   exact hq
end
end
end Go.Vel
end
section
open Go Go.RowKit Go.Deep Go.Proofs.YtgeioealgidkiaaW.PrintWords
namespace Go.Vel
/-- Whatever is read as type t has cells of which Q holds. -/
def Opn {H : Type} (enc : TypeId × Value → H) (P : Program) (W : World) (t : TypeId) (Q : List Value → Prop) : Prop :=
  ∀ fuel cs x, DataW.trod enc P W 0 (fun _ => true) true fuel t cs = some x → (∀ n ∈ x.1.weights P t, n ≤ reachBytes) → Q cs
theorem flatten_get {sz : Nat} : ∀ {els : List (List Value)} {j : Nat} {u : Value}, (∀ e ∈ els, e.length = sz) → els.flatten[j]? = some u → ∃ i r e, j = i * sz + r ∧ els[i]? = some e ∧ e[r]? = some u
  | [], j, u, _, h => by simp at h
  | e :: l, j, u, hl, h => by
    have he := hl e List.mem_cons_self
    rw [List.flatten_cons] at h
    by_cases hj : j < e.length
    · rw [List.getElem?_append_left hj] at h
      exact ⟨0, j, e, by rw [Nat.zero_mul, Nat.zero_add], rfl, h⟩
    · rw [List.getElem?_append_right (by omega)] at h
      obtain ⟨i, r, e', h1, h2, h3⟩ := flatten_get (fun y hy => hl y (List.mem_cons_of_mem _ hy)) h
      exact ⟨i + 1, r, e', by rw [Nat.add_mul, Nat.one_mul]; omega, by simpa using h2, h3⟩
theorem all_map {α : Type} {f : α → List Value} {Q : α → Prop} : ∀ {els : List (List Value)}, (∀ e ∈ els, ∃ a, e = f a ∧ Q a) → ∃ l : List α, els = l.map f ∧ ∀ a ∈ l, Q a
  | [], _ => ⟨[], rfl, fun a h => by cases h⟩
  | e :: r, h => by
    obtain ⟨a, rfl, ha⟩ := h e List.mem_cons_self
    obtain ⟨l, rfl, hl⟩ := all_map fun y hy => h y (List.mem_cons_of_mem _ hy)
    exact ⟨a :: l, rfl, fun b hb => (List.mem_cons.1 hb).elim (fun e => e ▸ ha) (hl b)⟩
section
variable {H : Type} {enc : TypeId × Value → H} {P : Program} {W : World}
theorem Opn.int {t : TypeId} {k : IntKind} (ht : P.underlying t = some (.int k)) : Opn enc P W t (fun cs => ∃ n, cs = [.int k n] ∧ (Lit.int k n).wf = true) := by
  intro fuel cs x h _
  obtain ⟨n, e, _, hw⟩ := DataW.trod_int ht h
  exact ⟨n, e, hw⟩
/-- What a list's cell says. -/
def LstQ (W : World) (B : Nat) (Q : List Value → Prop) (cs : List Value) : Prop := ∃ (A : Option Addr) (c : Nat) (els : List (List Value)), cs = [.slice A els.length c] ∧ els.length ≤ c ∧ els.length ≤ maxLen ∧ els.length * B ≤ reachBytes ∧ (∀ e ∈ els, Q e) ∧ RdV W A els.flatten
theorem Opn.slice {t e : TypeId} {Q : List Value → Prop} {B : Nat} (ht : P.underlying t = some (.slice e)) (hd : Opn enc P W e Q) (hB : P.bytesOf e = B) : Opn enc P W t (LstQ W B Q) := by
  intro fuel cs x h hw
  rcases open_slice ht h with ⟨rfl, _⟩ | ⟨a, len, cap, m, n, D, Pl, rfl, _, hl, hm, hmm, hx, he⟩
  · exact ⟨none, 0, [], rfl, Nat.le_refl _, Nat.zero_le _, by simp, fun x hx => (by cases hx), fun h => absurd h (Nat.lt_irrefl 0)⟩
  · rw [if_pos rfl] at hmm
    subst hmm
    have hw1 : ∀ n ∈ ((((List.range len).map D).length * P.bytesOf e + ((List.range (m - len)).map fun j => D (len + j)).length * P.bytesOf e) :: (DataW.weightsAll P e ((List.range len).map D) ++ DataW.weightsAll P e ((List.range (m - len)).map fun j => D (len + j))) : List Nat), n ≤ reachBytes := by
      rw [hx] at hw
      simp only [DataW.weights, ht] at hw
      rw [Nat.add_mul] at hw
      exact hw
    have hfirst := hw1 _ List.mem_cons_self
    have hex : ∀ i, i < len → ∃ cs', W.cells? 0 (a.add (i * P.cellsOf e)) (P.cellsOf e) = some cs' ∧ Q cs' := by
      intro i hi
      obtain ⟨cs', h1, h2⟩ := he i (by omega)
      exact ⟨cs', h1, hd _ _ _ h2 (fun n hn => hw1 n (List.mem_cons_of_mem _ (List.mem_append_left _ (weightsAll_mem (d := D i) (List.mem_map.2 ⟨i, List.mem_range.2 hi, rfl⟩) n hn))))⟩
    obtain ⟨f, hf⟩ := choose_lt hex
    have hlen : ((List.range len).map f).length = len := by simp
    have hmx : maxLen ≤ 9223372036854775807 := by decide
    have hget : ∀ i e', ((List.range len).map f)[i]? = some e' → i < len ∧ f i = e' := fun i e' hi => by
      have hj : i < len := by
        have := (List.getElem?_eq_some_iff.1 hi).1
        rwa [hlen] at this
      rw [List.getElem?_map, List.getElem?_range hj] at hi
      exact ⟨hj, by simpa using hi⟩
    refine ⟨some a, m, (List.range len).map f, by rw [hlen], by rw [hlen]; exact hl, by rw [hlen]; omega, ?_, ?_, fun _ => ⟨a, rfl, fun j u hu => ?_⟩⟩
    · rw [hlen, ← hB]
      simp only [List.length_map, List.length_range] at hfirst
      exact Nat.le_trans (Nat.le_add_right _ _) hfirst
    · intro x hx
      obtain ⟨i, hi, rfl⟩ := List.mem_map.1 hx
      exact (hf i (List.mem_range.1 hi)).2
    · have hall : ∀ y ∈ (List.range len).map f, y.length = P.cellsOf e := fun y hy => by
        obtain ⟨i, hi, rfl⟩ := List.mem_map.1 hy
        exact (World.cells?_some (hf i (List.mem_range.1 hi)).1).2.1
      obtain ⟨i, r, e', rfl, h2, h3⟩ := flatten_get hall hu
      obtain ⟨hi, rfl⟩ := hget i e' h2
      obtain ⟨_, hl2, hc⟩ := World.cells?_some (hf i hi).1
      have hr : r < P.cellsOf e := by have := (List.getElem?_eq_some_iff.1 h3).1; omega
      have := hc r hr
      rw [h3, add_add] at this
      exact this
/-- A field of one cell. -/
theorem Opn.field {fs : Array Field} {t : TypeId} {fuel : Nat} {cs : List Value} {x : DataW H × List MemPlace} {Q : List Value → Prop} (ht : P.underlying t = some (.struct fs)) (h : DataW.trod enc P W 0 (fun _ => true) true fuel t cs = some x) (hw : ∀ n ∈ x.1.weights P t, n ≤ reachBytes) (i : Nat) {f : Field} (hf : fs[i]? = some f) (ho : f.offset = i) (hc : P.cellsOf f.type = 1) (hd : Opn enc P W f.type Q) : Q ((cs.drop i).take 1) := by
  obtain ⟨xs, n, _, hx, _, hl, hh⟩ := DataW.trod_struct ht h
  have h1 := hh i f hf
  have hi : i < xs.length := by
    rw [hl]
    have := (Array.getElem?_eq_some_iff.1 hf).1
    exact this
  rw [ho, hc, List.getElem?_eq_getElem hi] at h1
  refine hd _ _ _ h1 (fun n hn => hw n ?_)
  rw [hx]
  simp only [DataW.weights, ht]
  refine DataW.weights_mem_each (j := i) (t := f.type) (d := xs[i].1) ?_ ?_ n hn
  · rw [List.getElem?_map, Array.getElem?_toList, hf]; rfl
  · rw [List.getElem?_map, List.getElem?_eq_getElem hi]; rfl
theorem Opn.row {t : TypeId} {Q : List Value → Prop} {v : Value} {D : DataW H} {p : List MemPlace} (ho : Opn enc P W t Q) (h : DataW.Trod enc P W 0 (fun _ => true) true t v D p) (hw : ∀ n ∈ D.weights P t, n ≤ reachBytes) : Q v.cells.toList := by
  obtain ⟨fuel, hf⟩ := h
  exact ho _ _ _ hf hw
end
theorem flat_one : ∀ l : List UInt8, (l.map (fun b : UInt8 => [bv b])).flatten = l.map bv
  | [] => rfl
  | x :: r => by rw [List.map_cons, List.flatten_cons, flat_one r]; rfl
theorem lst_bytes {W : World} {Q : List Value → Prop} {cs : List Value} (h : LstQ W 1 Q cs) (hq : ∀ e, Q e → ∃ n, e = [.int .u8 n] ∧ (Lit.int .u8 n).wf = true) : ∃ A c, ∃ b : List UInt8, cs = [.slice A b.length c] ∧ b.length ≤ c ∧ b.length ≤ 140737488351232 ∧ RdB W A b := by
  obtain ⟨A, c, els, rfl, h1, _, h3, h4, h5⟩ := h
  obtain ⟨l, rfl, _⟩ := all_map (f := fun b : UInt8 => [bv b]) (Q := fun _ => True) (els := els) (fun e he => by
    obtain ⟨n, rfl, hn⟩ := hq e (h4 e he)
    refine ⟨UInt8.ofNat n.toNat, ?_, trivial⟩
    simp [Lit.wf, IntKind.min, IntKind.max, IntKind.signed, IntKind.bits] at hn
    simp only [bv, UInt8.toNat_ofNat']
    rw [Nat.mod_eq_of_lt (by omega)]
    congr 2; omega)
  rw [List.length_map] at h1 h3 ⊢
  have hrb : reachBytes = 140737488351232 := by decide
  rw [flat_one] at h5
  exact ⟨A, c, l, rfl, h1, by omega, fun h0 => h5 (by rw [List.length_map]; exact h0)⟩
end Go.Vel
namespace Go.Proofs
open Go.Vel
set_option maxRecDepth 100000
section
variable {H : Type} {enc : TypeId × Value → H} {W : World}
theorem opnBytes : Opn enc Try.prog W 31 (LstQ W 1 fun cs => ∃ n, cs = [.int .u8 n] ∧ (Lit.int .u8 n).wf = true) := Opn.slice Try.underlying31 (Opn.int Try.underlying5) (by kernel_rfl)
end
end Go.Proofs
end
section
open Go Go.RowKit Go.Deep Go.Proofs.YtgeioealgidkiaaW.PrintWords
namespace Go.Proofs
open Go.Vel
set_option maxRecDepth 100000
section
theorem flat_picks (l:List Pick):(l.map pickCells).flatten=picksV l:=by unfold picksV;rw [List.flatMap_def]
section
variable {H:Type}{enc:TypeId×Value→H}{W:World}
theorem opnPick:Opn enc Try.prog W 145 (fun cs=>∃p:Pick,cs=pickCells p∧True):=by
 intro fuel cs x h hw
 obtain ⟨_,_,_,_,hl,_,_⟩:=DataW.trod_struct Try.underlying145 h
 have h4:Try.prog.cellsOf 145=3:=by kernel_rfl
 rw [h4] at hl
 obtain ⟨n0,k0,_⟩:=Opn.field Try.underlying145 h hw 0 rfl rfl kr_ (Opn.int Try.underlying3)
 obtain ⟨n1,k1,_⟩:=Opn.field Try.underlying145 h hw 1 rfl rfl kr_ (Opn.int Try.underlying3)
 obtain ⟨n2,k2,_⟩:=Opn.field Try.underlying145 h hw 2 rfl rfl kr_ (Opn.int Try.underlying3)
 match cs,hl with
 |[v0,v1,v2],_=>
  simp at k0 k1 k2
  subst k0 k1 k2
  exact ⟨(n0,n1,n2),rfl,trivial⟩
theorem opnPicks:Opn enc Try.prog W 48 (LstQ W 24 fun cs=>∃p:Pick,cs=pickCells p∧True):=Opn.slice Try.underlying48 opnPick kr_
theorem opnOp:Opn enc Try.prog W 111 (fun cs=>∃o:OpE,cs=o.cells∧(o.Ok W∧o.d.length≤140737488351232)):=by
 intro fuel cs x h hw
 obtain ⟨_,_,_,_,hl,_,_⟩:=DataW.trod_struct Try.underlying111 h
 have h4:Try.prog.cellsOf 111=5:=by kernel_rfl
 rw [h4] at hl
 obtain ⟨n0,k0,w0⟩:=Opn.field Try.underlying111 h hw 0 rfl rfl kr_ (Opn.int Try.underlying3)
 obtain ⟨n1,k1,w1⟩:=Opn.field Try.underlying111 h hw 1 rfl rfl kr_ (Opn.int Try.underlying3)
 obtain ⟨n2,k2,w2⟩:=Opn.field Try.underlying111 h hw 2 rfl rfl kr_ (Opn.int Try.underlying3)
 obtain ⟨A2,c2,b,k3,i2,m2,r2⟩:=lst_bytes (Opn.field Try.underlying111 h hw 3 rfl rfl kr_ opnBytes) (fun e he=>he)
 obtain ⟨A3,c3,els,k4,_,_,m3,q3,r3⟩:=Opn.field Try.underlying111 h hw 4 rfl rfl kr_ opnPicks
 obtain ⟨ps,rfl,_⟩:=all_map q3
 rw [List.length_map] at k4 m3
 have hrb:reachBytes=140737488351232:=by decide
 have hw1:n1≤9223372036854775807:=by
  simp [Lit.wf,IntKind.min,IntKind.max,IntKind.signed,IntKind.bits] at w1;omega
 match cs,hl with
 |[v0,v1,v2,v3,v4],_=>
  simp at k0 k1 k2 k3 k4
  subst k0 k1 k2 k3 k4
  exact ⟨⟨n0,n1,n2,A2,b,c2,A3,ps,c3⟩,rfl,⟨r2,by rw [flat_picks] at r3;exact r3,i2,by show b.length≤_;omega,by show ps.length*24≤_;omega,hw1⟩,m2⟩
theorem flat_ope (l:List OpE):(l.map OpE.cells).flatten=opeV l:=by unfold opeV;rw [List.flatMap_def]
theorem opnOps:Opn enc Try.prog W 109 (LstQ W 72 fun cs=>∃o:OpE,cs=o.cells∧(o.Ok W∧o.d.length≤140737488351232)):=Opn.slice Try.underlying109 opnOp kr_
theorem open_ope {A:Option Addr}{n c:Nat}{D:DataW H}{p:List MemPlace}(h:DataW.Trod enc Try.prog W 0 (fun _=>true) true 109 (.slice A n c) D p)(hw:∀n∈D.weights Try.prog 109,n≤reachBytes):
  ∃ops:List OpE,n=ops.length∧RdV W A (opeV ops)∧ops.length≤2199023255552∧(∀o∈ops,o.Ok W)∧∀o∈ops,o.d.length≤140737488351232:=by
 obtain ⟨A',c',els,e,_,_,hm,hq,hr⟩:=Opn.row opnOps h hw
 obtain ⟨ops,rfl,ho⟩:=all_map hq
 simp [Value.cells] at e
 obtain ⟨rfl,rfl,rfl⟩:=e
 rw [List.length_map] at hm
 have hrb:reachBytes=140737488351232:=by decide
 exact ⟨ops,rfl,by rw [flat_ope] at hr;exact hr,by omega,fun o h=>(ho o h).1,fun o h=>(ho o h).2⟩
end
end
end Go.Proofs
end
