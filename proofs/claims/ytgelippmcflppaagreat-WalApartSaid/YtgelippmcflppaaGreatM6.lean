/- Part 6 of 6 of what the proof stands on: the words, the laws of the walk, the walks, the plain laws; each section is one text. -/
import Derived.Test.YtgelippmcflppaaGreatM5
import Derived.Deep.Slices
import Derived.ChangeArms
import Derived.SizedLaws
section
open Go Go.RowKit Go.Proofs.YtgelippmcflppaaGreatW.PrintWords Go.Proofs.YtgelippmcflppaaGreatW.PrintMore
namespace Go.Proofs
open Go.Vel
set_option linter.unusedVariables false
set_option maxRecDepth 100000
set_option maxHeartbeats 4000000
attribute [local irreducible] gives wpList Code.wp
section
variable {F:Nat→Prop} {w0 w:World} {L:List Ast}
inductive OpX where
 |bad (e:Int) (t:Bool)
 |good (g:Nat) (A:Option Addr) (c:Nat) (RV:List RecV) (ep tl h:Nat)
def OpX.v1:OpX→Value
 |.bad _ _=>.pointer none
 |.good g _ _ _ _ _ _=>.pointer (some ⟨g,0,none⟩)
def OpX.v2:OpX→Value
 |.bad _ _=>.slice none 0 0
 |.good _ A c RV _ _ _=>.slice A RV.length c
def OpX.c:OpX→Int
 |.bad e _=>e
 |.good _ _ _ _ _ _ _=>0
def OpX.dsk (s:Dsk):OpX→Dsk
 |.bad _ false=>s
 |.bad _ true=>s.take
 |.good _ _ _ _ _ _ _=>s.take.flushR.1
def opLg (s:Dsk)(first n:Int)(ep tl h:Nat):Lg:=⟨first.toNat,n.toNat,inc s.life,ep,topTo (pcAt s.take first.toNat n.toNat) ep n.toNat,tl,h,false⟩
def OpX.ast (P:Nat→Lg→Ast)(s:Dsk)(first n:Int):OpX→List Ast
 |.bad _ _=>[]
 |.good g A c RV ep tl h=>[vec 22 1 (.slice A RV.length c) RV.length (RV.map (·.1)),stars (RV.map recD),P g (opLg s first n ep tl h)]
def OpX.Ok (s:Dsk)(first n:Int):OpX→Prop
 |.bad e t=>(t=false∧argsR s first n≠0∧e=argsR s first n)∨(t=true∧argsR s first n=0∧((newR s.take first.toNat=none∧e=6)∨∃ep tl,newR s.take first.toNat=some (ep,tl)∧topTo (pcAt s.take first.toNat n.toNat) ep n.toNat=1073741824∧e=41))
 |.good _ _ _ RV ep tl h=>argsR s first n=0∧newR s.take first.toNat=some (ep,tl)∧topTo (pcAt s.take first.toNat n.toNat) ep n.toNat≠1073741824∧Recs (pcAt s.take first.toNat n.toNat) ep tl (RV.map (·.2)) h∧NoRec (pcAt s.take first.toNat n.toNat) ep h
theorem open_det {s:Dsk}{first n:Int}:∀{x y:OpX},x.Ok s first n→y.Ok s first n→(∃e t,x=.bad e t∧y=.bad e t)∨∃g A c RV k B d RK ep tl h,x=.good g A c RV ep tl h∧y=.good k B d RK ep tl h∧RV.map (·.2)=RK.map (·.2)
 |.bad e t,.bad e' t',hx,hy=>by
  refine .inl ⟨e,t,rfl, ?_⟩
  rcases hx with ⟨rfl,h1,rfl⟩|⟨rfl,h1,hx⟩<;>rcases hy with ⟨rfl,h2,rfl⟩|⟨rfl,h2,hy⟩
  ·rfl
  ·exact absurd h2 h1
  ·exact absurd h1 h2
  ·rcases hx with ⟨q1,rfl⟩|⟨ep,tl,q1,q2,rfl⟩<;>rcases hy with ⟨r1,rfl⟩|⟨ep',tl',r1,r2,rfl⟩
   ·rfl
   ·rw [q1] at r1;cases r1
   ·rw [q1] at r1;cases r1
   ·rfl
 |.bad e t,.good k B d RK ep tl h,hx,hy=>by
  obtain ⟨r0,r1,r2,_⟩:=hy
  rcases hx with ⟨rfl,h1,rfl⟩|⟨rfl,h1,hx⟩
  ·exact absurd r0 h1
  ·rcases hx with ⟨q1,rfl⟩|⟨ep',tl',q1,q2,rfl⟩
   ·rw [q1] at r1;cases r1
   ·rw [q1] at r1;cases r1;exact absurd q2 r2
 |.good g A c RV ep tl h,.bad e t,hy,hx=>by
  obtain ⟨r0,r1,r2,_⟩:=hy
  rcases hx with ⟨rfl,h1,rfl⟩|⟨rfl,h1,hx⟩
  ·exact absurd r0 h1
  ·rcases hx with ⟨q1,rfl⟩|⟨ep',tl',q1,q2,rfl⟩
   ·rw [q1] at r1;cases r1
   ·rw [q1] at r1;cases r1;exact absurd q2 r2
 |.good g A c RV ep tl h,.good k B d RK ep' tl' h',hx,hy=>by
  obtain ⟨r0,r1,r2,r3,r4⟩:=hx
  obtain ⟨q0,q1,q2,q3,q4⟩:=hy
  rw [r1] at q1
  cases q1
  obtain ⟨e1,rfl⟩:=Recs.det _ (Nat.le_refl _) r3 r4 q3 q4
  exact .inr ⟨g,A,c,RV,k,B,d,RK,ep,tl,h,rfl,rfl,e1⟩
theorem w_open_all {gd:Nat}{s:Dsk}{first n:Int}(S:St F w0 w (PW gd s::L)):Calls Tryz.prog 59 #[.pointer (some ⟨gd,0,none⟩),.int .i64 first,.int .i64 n] w fun e w'=>∃x:OpX,e=.returned (.tuple #[x.v1,x.v2,.int .i64 x.c])∧x.Ok s first n∧St F w0 w' (stars (x.ast (fun g l=>PLog g gd l) s first n)::PW gd (x.dsk s)::L):=by
 by_cases ha:argsR s first n=0
 ·refine (w_open_go S ha).mono fun e w' h=> ?_
  rcases h with ⟨hn,rfl,S⟩|⟨ep,tl,hn,ht,rfl,S⟩|⟨ep,tl,gl,v,RV,h,hn,ht,hr,hno,rfl,S⟩
  ·exact ⟨.bad 6 true,rfl,.inr ⟨rfl,ha,.inl ⟨hn,rfl⟩⟩,St.star_nil S⟩
  ·exact ⟨.bad 41 true,rfl,.inr ⟨rfl,ha,.inr ⟨ep,tl,hn,ht,rfl⟩⟩,St.star_nil S⟩
  ·obtain ⟨A,c,rfl⟩:=St.vecV S 0 rfl
   exact ⟨.good gl A c RV ep tl h,rfl,⟨ha,hn,ht,hr,hno⟩,St.star (LA:=[_,_,_]) S⟩
 ·exact (w_open_args S ha).mono fun e w' h=>⟨.bad (argsR s first n) false,h.1,.inl ⟨rfl,ha,rfl⟩,St.star_nil h.2⟩
theorem k_open_all {gd:Nat}{s:Dsk}{first n:Int}(S:St F w0 w (RW gd s::L)):Calls Tryz.prog 60 #[.pointer (some ⟨gd,0,none⟩),.int .i64 first,.int .i64 n] w fun e w'=>∃x:OpX,e=.returned (.tuple #[x.v1,x.v2,.int .i64 x.c])∧x.Ok s first n∧St F w0 w' (stars (x.ast (fun g l=>KLog g gd l) s first n)::RW gd (x.dsk s)::L):=by
 by_cases ha:argsR s first n=0
 ·refine (k_open_go S ha).mono fun e w' h=> ?_
  rcases h with ⟨hn,rfl,S⟩|⟨ep,tl,hn,ht,rfl,S⟩|⟨ep,tl,gl,v,RV,h,hn,ht,hr,hno,rfl,S⟩
  ·exact ⟨.bad 6 true,rfl,.inr ⟨rfl,ha,.inl ⟨hn,rfl⟩⟩,St.star_nil S⟩
  ·exact ⟨.bad 41 true,rfl,.inr ⟨rfl,ha,.inr ⟨ep,tl,hn,ht,rfl⟩⟩,St.star_nil S⟩
  ·obtain ⟨A,c,rfl⟩:=St.vecV S 0 rfl
   exact ⟨.good gl A c RV ep tl h,rfl,⟨ha,hn,ht,hr,hno⟩,St.star (LA:=[_,_,_]) S⟩
 ·exact (k_open_args S ha).mono fun e w' h=>⟨.bad (argsR s first n) false,h.1,.inl ⟨rfl,ha,rfl⟩,St.star_nil h.2⟩
theorem recs_small {s:Dsk}{f n:Nat}{ep a:Nat}{R:List (List UInt8)}{h:Nat}(r:Recs (pcAt s f n) ep a R h):∀x∈R,x.length≤8364:=by
 induction r with
 |nil=>intro x hx;cases hx
 |@step R h c r hr ih=>
  intro x hx
  rcases List.mem_append.1 hx with hx|hx
  ·exact ih x hx
  ·rw [List.mem_singleton] at hx;subst hx
   have h1:=catF_len (pc:=pcAt s f n) (fun q=>pcF_data _) h c
   have h2:=hr.c17
   omega
theorem bad_lives {s:Dsk}{first n e:Int}{t:Bool}(h:(OpX.bad e t).Ok s first n)(h0:0≤s.life)(h1:s.life<9223372036854775807):(((OpX.bad e t).dsk s).life==s.life)=refused e (decide (s.left=0)):=by
 have hi:=inc_ok h0 h1
 rcases h with ⟨rfl,ha,rfl⟩|⟨rfl,ha,hx⟩
 ·show (s.life==s.life)=_
  rw [beq_self_eq_true]
  unfold argsR at ha ⊢
  split
  ·rename_i hz;simp [refused,hz]
  ·split
   ·rfl
   ·split
    ·rfl
    ·split
     ·rfl
     ·rename_i q1 q2 q3 q4;rw [if_neg q1,if_neg q2,if_neg q3,if_neg q4] at ha;exact absurd rfl ha
 ·show (inc s.life==s.life)=_
  have hz:=(argsR_ok ha).1
  rw [hi,show (s.life+1==s.life)=false from by rw [beq_eq_false_iff_ne];omega]
  rcases hx with ⟨_,rfl⟩|⟨_,_,_,_,rfl⟩<;>rfl
theorem bad_inv {k:Nat}{s:Dsk}{ls:List Lg}(hI:WInv k s ls)(hk:k≤4398046511104)(e:Int)(t:Bool):WInv (k+1) ((OpX.bad e t).dsk s) ls:=by
 cases t with
 |false=>exact hI.next
 |true=>exact (hI.die hk (s':=s.take) rfl rfl hI.pend hI.room).1
theorem take_life {s:Dsk}(h0:0≤s.life)(h1:s.life<9223372036854775807){f:Int}{b:Bool}(hf:refused f b=false):(s.take.flushR.1.life==s.life)=refused f b:=by
 rw [hf,(Did.flush s.take).life]
 show (inc s.life==s.life)=false
 rw [inc_ok h0 h1,beq_eq_false_iff_ne];omega
theorem St.wpush {gw gd gr p q cp ck:Nat}{s:Dsk}{E:List LogE}{l:Lg}{AP AK:Option Addr}(S:St F w0 w (row gw #[.pointer (some ⟨gd,0,none⟩),.pointer (some ⟨gr,0,none⟩),.slice AP (E.length+1) cp,.slice AK (E.length+1) ck] 35::vec 60 1 (.slice AP (E.length+1) cp) (E.length+1) (E.map LogE.pv++[.pointer (some ⟨p,0,none⟩)])::vec 91 1 (.slice AK (E.length+1) ck) (E.length+1) (E.map LogE.kv++[.pointer (some ⟨q,0,none⟩)])::stars (E.map (LogE.pl gd))::PLog p gd l::stars (E.map (LogE.kl gr))::KLog q gr l::PW gd s::RW gr s::L)):St F w0 w (WB gw s (E++[⟨p,q,l⟩])::L):=by
 refine St.wclose (gd:=gd) (gr:=gr) (AP:=AP) (cp:=cp) (AK:=AK) (ck:=ck) ?_
 have hl:(E++[(⟨p,q,l⟩:LogE)]).length=E.length+1:=by simp
 unfold wparts
 rw [hl,List.map_append,List.map_append,List.map_append,List.map_append]
 have S1:=St.permT [_,_,_,_,_,_,_,_,_] [6,5,0,1,2,3,4,7,8] dc_ rfl S
 have S2:=St.star_join (St.swap (St.one_star S1))
 have S3:=St.permT [_,_,_,_,_,_,_,_] [5,4,0,1,2,3,6,7] dc_ rfl S2
 have S4:=St.star_join (St.swap (St.one_star S3))
 exact St.permT [_,_,_,_,_,_,_] [2,3,4,0,1,5,6] dc_ rfl S4
theorem w_opens {gw:Nat}{s:Dsk}{E:List LogE}(S:St F w0 w (WB gw s E::L)){kind a b:Int}{A A2:Option Addr}{d:List UInt8}{ps:List Pick}{cd cq:Nat}{k:Nat}(hI:WInv k s (E.map LogE.l))(hk:k≤4398046511104)(hE:E.length≤k):Calls Tryz.prog 23 #[.pointer (some ⟨gw,0,none⟩),.agg #[.int .i64 kind,.int .i64 a,.int .i64 b,.slice A d.length cd,.slice A2 ps.length cq]] w fun e w'=>e=.returned (.bool true)∧∃s' E',WInv (k+1) s' (E'.map LogE.l)∧E'.length≤k+1∧St F w0 w' (WB gw s' E'::L):=by
 obtain ⟨gd,gr,AP,cp,AK,ck,S⟩:=St.wopen S
 have hlf:=hI.life
 have hokd:DOk s:=St.pw_ok (L:=[]) (S.mem 5 rfl)
 change St F w0 w (row gw (eC_ gd gr AP cp AK ck E.length) 35::vec 60 1 (.slice AP E.length cp) E.length (E.map LogE.pv)::vec 91 1 (.slice AK E.length ck) E.length (E.map LogE.kv)::stars (E.map (LogE.pl gd))::stars (E.map (LogE.kl gr))::PW gd s::RW gr s::L) at S
 refine eN (fr [pq gw,.agg (oC_ kind a b A d.length cd A2 ps.length cq)] 97) Tryz.func23 rfl (sR (nB rfl (.agg (oC_ kind a b A d.length cd A2 ps.length cq)) S fun g1 w2 hg3 S4=>pv fv (wER (pv (pq gw) (pv (pq gw) (pv (pq gw) (lR (pq gd) S4 1 0 (sO Tryz.func18 #[pq gd] (pw_life S4 6 rfl) (pv (iv s.life) (wER (pv (pq gw) (pv (pq gw) ?_))))))))))))
 refine pv (po gw 1) (lR (pq gr) S4 1 1 (g_ (gv_call (args:=#[pq gr]) rfl Tryz.func19 kr_ rfl rfl kr_ ?_)))
 have S5:St F w0 w2 (RW gr s::row g1 (oC_ kind a b A d.length cd A2 ps.length cq) 39::row gw (eC_ gd gr AP cp AK ck E.length) 35::vec 60 1 (.slice AP E.length cp) E.length (E.map LogE.pv)::vec 91 1 (.slice AK E.length ck) E.length (E.map LogE.kv)::stars (E.map (LogE.pl gd))::stars (E.map (LogE.kl gr))::PW gd s::L):=St.pm 8 [7,0,1,2,3,4,5,6] S4
 refine Calls.mono (rw_burnt_b S5) ?_
 rintro _ w6 ⟨rfl,S7⟩
 refine ⟨_,rfl,(pv (.bool (decide (s.left=0))) (wE (nS (wp_region_phu (γ:=OpX) 15 [8] (fun (c_:OpX) (i_:Nat)=>(match i_ with|0=>pq gw|1=>pq gw|2=>pq gw|3=>pq gd|4=>po g1 1|5=>iv a|6=>po g1 2|7=>iv b|8=>.tuple #[(OpX.v1 c_),(OpX.v2 c_),iv (OpX.c c_)]|9=>.tuple #[(OpX.v1 c_),(OpX.v2 c_),iv (OpX.c c_)]|10=>(OpX.v1 c_)|11=>(OpX.v2 c_)|12=>iv (OpX.c c_)|13=>(OpX.v1 c_)|14=>(OpX.v2 c_)|_=>undef:Value)) (fun (c_:OpX) (p_:Nat) (w_:World)=>(match p_ with|0=>St F w0 w_ (RW gr s::row g1 (oC_ kind a b A d.length cd A2 ps.length cq) 39::row gw (eC_ gd gr AP cp AK ck E.length) 35::vec 60 1 (.slice AP E.length cp) E.length (E.map LogE.pv)::vec 91 1 (.slice AK E.length ck) E.length (E.map LogE.kv)::stars (E.map (LogE.pl gd))::stars (E.map (LogE.kl gr))::PW gd s::L)|_=>St F w0 w_ (keepP (OpX.Ok s a b c_)::stars (OpX.ast (fun g l=>PLog g gd l) s a b c_)::PW gd (OpX.dsk s c_)::RW gr s::row g1 (oC_ kind a b A d.length cd A2 ps.length cq) 39::row gw (eC_ gd gr AP cp AK ck E.length) 35::vec 60 1 (.slice AP E.length cp) E.length (E.map LogE.pv)::vec 91 1 (.slice AK E.length ck) E.length (E.map LogE.kv)::stars (E.map (LogE.pl gd))::stars (E.map (LogE.kl gr))::L):Prop)) ((OpX.bad 0 false)) kr_ kr_ kr_ kr_ (S7.drew) ?_ ?_ ?_))))⟩
 ·intro i_ c_ p_ vals_ w1 hi_ hiE_ hp_ hk_ hu_ hPh_ hd_
  rcases i_ with _|_|_|_|_|_|_|_|_|_|_|_|_|_|_|i_
  ·exact tG_ rfl hd_ (gV (pq gw) ⟨rfl,rfl⟩)
  ·exact tG_ rfl hd_ (gV (pq gw) ⟨rfl,rfl⟩)
  ·exact tG_ rfl hd_ (gV (pq gw) ⟨rfl,rfl⟩)
  ·rcases p_ with _|_|p_
   ·have S11:=St.id hPh_
    exact tG_ rfl hd_ (gL (pq gd) rfl (((S11.blk 2 rfl).cell 0).trans rfl) ⟨rfl,rfl⟩)
   ·exact absurd (hu_ 0 dc_ kr_) dc_
   ·exact absurd hp_ (by simp)
  ·exact tG_ rfl hd_ (gV (po g1 1) ⟨rfl,rfl⟩)
  ·rcases p_ with _|_|p_
   ·have S13:=St.id hPh_
    exact tG_ rfl hd_ (gL (iv a) rfl (((S13.blk 1 rfl).cell 1).trans rfl) ⟨rfl,rfl⟩)
   ·exact absurd (hu_ 0 dc_ kr_) dc_
   ·exact absurd hp_ (by simp)
  ·exact tG_ rfl hd_ (gV (po g1 2) ⟨rfl,rfl⟩)
  ·rcases p_ with _|_|p_
   ·have S15:=St.id hPh_
    exact tG_ rfl hd_ (gL (iv b) rfl (((S15.blk 1 rfl).cell 2).trans rfl) ⟨rfl,rfl⟩)
   ·exact absurd (hu_ 0 dc_ kr_) dc_
   ·exact absurd hp_ (by simp)
  ·exact absurd hiE_ dc_
  ·exact tG_ rfl hd_ (gV (.tuple #[(OpX.v1 c_),(OpX.v2 c_),iv (OpX.c c_)]) ⟨rfl,rfl⟩)
  ·exact tG_ rfl hd_ (gV (OpX.v1 c_) ⟨rfl,rfl⟩)
  ·exact tG_ rfl hd_ (gV (OpX.v2 c_) ⟨rfl,rfl⟩)
  ·exact tG_ rfl hd_ (gV (iv (OpX.c c_)) ⟨rfl,rfl⟩)
  ·exact tG_ rfl hd_ (gV (OpX.v1 c_) ⟨rfl,rfl⟩)
  ·exact tG_ rfl hd_ (gV (OpX.v2 c_) ⟨rfl,rfl⟩)
  ·exact absurd hi_ om_
 ·intro k_ c_ vals_ w1 hk_ hPh_ hd_
  rcases k_ with _|k_
  ·have S22:=St.id hPh_
   refine tG_ rfl hd_ (gv_call (args:=#[pq gd,iv a,iv b]) rfl Tryz.func59 kr_ rfl rfl kr_ ?_)
   have S23:=St.pm 8 [7,0,1,2,3,4,5,6] S22
   refine Calls.mono (w_open_all (first:=a) (n:=b) S23) ?_
   rintro _ w24 ⟨m26,rfl,hxo,S25⟩
   refine ⟨_,rfl, ?_⟩
   have S27:=St.withP hxo S25
   change St F w0 w24 (keepP (OpX.Ok s a b m26)::stars (OpX.ast (fun g l=>PLog g gd l) s a b m26)::PW gd (OpX.dsk s m26)::RW gr s::row g1 (oC_ kind a b A d.length cd A2 ps.length cq) 39::row gw (eC_ gd gr AP cp AK ck E.length) 35::vec 60 1 (.slice AP E.length cp) E.length (E.map LogE.pv)::vec 91 1 (.slice AK E.length ck) E.length (E.map LogE.kv)::stars (E.map (LogE.pl gd))::stars (E.map (LogE.kl gr))::L) at S27
   refine ⟨(m26),rfl, ?_,S27⟩
   intro i_ hi_ hne_ hdp_
   rcases i_ with _|_|_|_|_|_|_|_|_|_|_|_|_|_|_|i_
   ·rfl
   ·rfl
   ·rfl
   ·rfl
   ·rfl
   ·rfl
   ·rfl
   ·rfl
   ·exact absurd rfl hne_
   ·exact dN_ hdp_
   ·exact dN_ hdp_
   ·exact dN_ hdp_
   ·exact dN_ hdp_
   ·exact dN_ hdp_
   ·exact dN_ hdp_
   ·exact absurd hi_ om_
  ·exact absurd hk_ (by simp)
 ·intro c_ w1 hPh_
  have S28:=St.id hPh_
  refine (pv (iv (OpX.c c_)) (wE (nS (wp_region_phu (γ:=OpX) 15 [8] (fun (c2_:OpX) (i_:Nat)=>(match i_ with|0=>pq gw|1=>pq gw|2=>po gw 1|3=>pq gr|4=>po g1 1|5=>iv a|6=>po g1 2|7=>iv b|8=>.tuple #[(OpX.v1 c2_),(OpX.v2 c2_),iv (OpX.c c2_)]|9=>.tuple #[(OpX.v1 c2_),(OpX.v2 c2_),iv (OpX.c c2_)]|10=>(OpX.v1 c2_)|11=>(OpX.v2 c2_)|12=>iv (OpX.c c2_)|13=>(OpX.v1 c2_)|14=>(OpX.v2 c2_)|_=>undef:Value)) (fun (c2_:OpX) (p_:Nat) (w_:World)=>(match p_ with|0=>St F w0 w_ (keepP (OpX.Ok s a b c_)::stars (OpX.ast (fun g l=>PLog g gd l) s a b c_)::PW gd (OpX.dsk s c_)::RW gr s::row g1 (oC_ kind a b A d.length cd A2 ps.length cq) 39::row gw (eC_ gd gr AP cp AK ck E.length) 35::vec 60 1 (.slice AP E.length cp) E.length (E.map LogE.pv)::vec 91 1 (.slice AK E.length ck) E.length (E.map LogE.kv)::stars (E.map (LogE.pl gd))::stars (E.map (LogE.kl gr))::L)|_=>St F w0 w_ (keepP (OpX.Ok s a b c2_)::stars (OpX.ast (fun g l=>KLog g gr l) s a b c2_)::RW gr (OpX.dsk s c2_)::keepP (OpX.Ok s a b c_)::stars (OpX.ast (fun g l=>PLog g gd l) s a b c_)::PW gd (OpX.dsk s c_)::row g1 (oC_ kind a b A d.length cd A2 ps.length cq) 39::row gw (eC_ gd gr AP cp AK ck E.length) 35::vec 60 1 (.slice AP E.length cp) E.length (E.map LogE.pv)::vec 91 1 (.slice AK E.length ck) E.length (E.map LogE.kv)::stars (E.map (LogE.pl gd))::stars (E.map (LogE.kl gr))::L):Prop)) ((OpX.bad 0 false)) kr_ kr_ kr_ kr_ (S28.drew) ?_ ?_ ?_))))
  ·intro i_ c2_ p_ vals_ w1 hi_ hiE_ hp_ hk_ hu_ hPh_ hd_
   rcases i_ with _|_|_|_|_|_|_|_|_|_|_|_|_|_|_|i_
   ·exact tG_ rfl hd_ (gV (pq gw) ⟨rfl,rfl⟩)
   ·exact tG_ rfl hd_ (gV (pq gw) ⟨rfl,rfl⟩)
   ·exact tG_ rfl hd_ (gV (po gw 1) ⟨rfl,rfl⟩)
   ·rcases p_ with _|_|p_
    ·have S32:=St.id hPh_
     exact tG_ rfl hd_ (gL (pq gr) rfl (((S32.blk 5 rfl).cell 1).trans rfl) ⟨rfl,rfl⟩)
    ·exact absurd (hu_ 0 dc_ kr_) dc_
    ·exact absurd hp_ (by simp)
   ·exact tG_ rfl hd_ (gV (po g1 1) ⟨rfl,rfl⟩)
   ·rcases p_ with _|_|p_
    ·have S34:=St.id hPh_
     exact tG_ rfl hd_ (gL (iv a) rfl (((S34.blk 4 rfl).cell 1).trans rfl) ⟨rfl,rfl⟩)
    ·exact absurd (hu_ 0 dc_ kr_) dc_
    ·exact absurd hp_ (by simp)
   ·exact tG_ rfl hd_ (gV (po g1 2) ⟨rfl,rfl⟩)
   ·rcases p_ with _|_|p_
    ·have S36:=St.id hPh_
     exact tG_ rfl hd_ (gL (iv b) rfl (((S36.blk 4 rfl).cell 2).trans rfl) ⟨rfl,rfl⟩)
    ·exact absurd (hu_ 0 dc_ kr_) dc_
    ·exact absurd hp_ (by simp)
   ·exact absurd hiE_ dc_
   ·exact tG_ rfl hd_ (gV (.tuple #[(OpX.v1 c2_),(OpX.v2 c2_),iv (OpX.c c2_)]) ⟨rfl,rfl⟩)
   ·exact tG_ rfl hd_ (gV (OpX.v1 c2_) ⟨rfl,rfl⟩)
   ·exact tG_ rfl hd_ (gV (OpX.v2 c2_) ⟨rfl,rfl⟩)
   ·exact tG_ rfl hd_ (gV (iv (OpX.c c2_)) ⟨rfl,rfl⟩)
   ·exact tG_ rfl hd_ (gV (OpX.v1 c2_) ⟨rfl,rfl⟩)
   ·exact tG_ rfl hd_ (gV (OpX.v2 c2_) ⟨rfl,rfl⟩)
   ·exact absurd hi_ om_
  ·intro k_ c2_ vals_ w1 hk_ hPh_ hd_
   rcases k_ with _|k_
   ·have S43:=St.id hPh_
    refine tG_ rfl hd_ (gv_call (args:=#[pq gr,iv a,iv b]) rfl Tryz.func60 kr_ rfl rfl kr_ ?_)
    have S44:=St.pm 10 [3,0,1,2,4,5,6,7,8,9] S43
    refine Calls.mono (k_open_all (first:=a) (n:=b) S44) ?_
    rintro _ w45 ⟨m47,rfl,hxo,S46⟩
    refine ⟨_,rfl, ?_⟩
    have S48:=St.withP hxo S46
    change St F w0 w45 (keepP (OpX.Ok s a b m47)::stars (OpX.ast (fun g l=>KLog g gr l) s a b m47)::RW gr (OpX.dsk s m47)::keepP (OpX.Ok s a b c_)::stars (OpX.ast (fun g l=>PLog g gd l) s a b c_)::PW gd (OpX.dsk s c_)::row g1 (oC_ kind a b A d.length cd A2 ps.length cq) 39::row gw (eC_ gd gr AP cp AK ck E.length) 35::vec 60 1 (.slice AP E.length cp) E.length (E.map LogE.pv)::vec 91 1 (.slice AK E.length ck) E.length (E.map LogE.kv)::stars (E.map (LogE.pl gd))::stars (E.map (LogE.kl gr))::L) at S48
    refine ⟨(m47),rfl, ?_,S48⟩
    intro i_ hi_ hne_ hdp_
    rcases i_ with _|_|_|_|_|_|_|_|_|_|_|_|_|_|_|i_
    ·rfl
    ·rfl
    ·rfl
    ·rfl
    ·rfl
    ·rfl
    ·rfl
    ·rfl
    ·exact absurd rfl hne_
    ·exact dN_ hdp_
    ·exact dN_ hdp_
    ·exact dN_ hdp_
    ·exact dN_ hdp_
    ·exact dN_ hdp_
    ·exact dN_ hdp_
    ·exact absurd hi_ om_
   ·exact absurd hk_ (by simp)
  ·intro c2_ w1 hPh_
   have S49:=St.id hPh_
   refine (pv (iv (OpX.c c2_)) (wE ?_))
   refine nS (sR ?_)
   have S50:St F w0 w1 (keepP (OpX.Ok s a b c_)::keepP (OpX.Ok s a b c2_)::stars (OpX.ast (fun g l=>KLog g gr l) s a b c2_)::RW gr (OpX.dsk s c2_)::stars (OpX.ast (fun g l=>PLog g gd l) s a b c_)::PW gd (OpX.dsk s c_)::row g1 (oC_ kind a b A d.length cd A2 ps.length cq) 39::row gw (eC_ gd gr AP cp AK ck E.length) 35::vec 60 1 (.slice AP E.length cp) E.length (E.map LogE.pv)::vec 91 1 (.slice AK E.length ck) E.length (E.map LogE.kv)::stars (E.map (LogE.pl gd))::stars (E.map (LogE.kl gr))::L):=St.pm 12 [3,0,1,2,4,5,6,7,8,9,10,11] S49
   obtain ⟨hx1,S51⟩:=St.takeP S50
   obtain ⟨hx2,S52⟩:=St.takeP S51
   rcases open_det hx1 hx2 with ⟨e9,t9,rfl,rfl⟩|⟨p9,A9,c9,RV,k9,B9,d9,RK,ep,tl,h9,rfl,rfl,hre⟩
   ·obtain ⟨s2,hs2⟩:∃s2,OpX.dsk s (OpX.bad e9 t9)=s2:=⟨_,rfl⟩
    have hlv:=bad_lives hx1 hlf.1 om_
    have hin2:=bad_inv hI hk e9 t9
    rw [hs2] at hlv hin2
    change St F w0 w1 (stars (OpX.ast (fun g l=>KLog g gr l) s a b (OpX.bad e9 t9))::RW gr (OpX.dsk s (OpX.bad e9 t9))::stars (OpX.ast (fun g l=>PLog g gd l) s a b (OpX.bad e9 t9))::PW gd (OpX.dsk s (OpX.bad e9 t9))::row g1 (oC_ kind a b A d.length cd A2 ps.length cq) 39::row gw (eC_ gd gr AP cp AK ck E.length) 35::vec 60 1 (.slice AP E.length cp) E.length (E.map LogE.pv)::vec 91 1 (.slice AK E.length ck) E.length (E.map LogE.kv)::stars (E.map (LogE.pl gd))::stars (E.map (LogE.kl gr))::L) at S52
    have S54:St F w0 w1 (row gw (eC_ gd gr AP cp AK ck E.length) 35::vec 60 1 (.slice AP E.length cp) E.length (E.map LogE.pv)::vec 91 1 (.slice AK E.length ck) E.length (E.map LogE.kv)::stars (E.map (LogE.pl gd))::stars (E.map (LogE.kl gr))::PW gd (OpX.dsk s (OpX.bad e9 t9))::RW gr (OpX.dsk s (OpX.bad e9 t9))::L):=St.pm 10 [5,6,7,8,9,3,1] S52
    rw [hs2] at S54
    refine (pv (iv e9) (pv (iv e9) (dN e9 e9 (fun hd55=>False.elim (hd55 rfl)) fun _=>pv fv (pW pn (pW (.bool true) (pW pn (pW (.bool true) (pW (.bool false) (pv fv (pv fv (pW (nS_) (pW (nS_) ?_))))))))))))
    refine wl_when kr_ (gv_call (args:=#[nS_,nS_]) rfl Tryz.func61 kr_ rfl rfl kr_ ?_)
    have S56:St F w0 w1 (stars ((([]:List RecV)).map recD)::row gw (eC_ gd gr AP cp AK ck E.length) 35::vec 60 1 (.slice AP E.length cp) E.length (E.map LogE.pv)::vec 91 1 (.slice AK E.length ck) E.length (E.map LogE.kv)::stars (E.map (LogE.pl gd))::stars (E.map (LogE.kl gr))::PW gd s2::RW gr s2::L):=St.star_nil S54
    have S57:St F w0 w1 (vec 22 1 (nS_) (([]:List RecV)).length ((([]:List RecV)).map (·.1))::stars ((([]:List RecV)).map recD)::row gw (eC_ gd gr AP cp AK ck E.length) 35::vec 60 1 (.slice AP E.length cp) E.length (E.map LogE.pv)::vec 91 1 (.slice AK E.length ck) E.length (E.map LogE.kv)::stars (E.map (LogE.pl gd))::stars (E.map (LogE.kl gr))::PW gd s2::RW gr s2::L):=St.vec_nil S56
    have S58:St F w0 w1 (stars ((([]:List RecV)).map recD)::vec 22 1 (nS_) (([]:List RecV)).length ((([]:List RecV)).map (·.1))::stars ((([]:List RecV)).map recD)::row gw (eC_ gd gr AP cp AK ck E.length) 35::vec 60 1 (.slice AP E.length cp) E.length (E.map LogE.pv)::vec 91 1 (.slice AK E.length ck) E.length (E.map LogE.kv)::stars (E.map (LogE.pl gd))::stars (E.map (LogE.kl gr))::PW gd s2::RW gr s2::L):=St.star_nil S57
    have S59:St F w0 w1 (vec 22 1 (nS_) (([]:List RecV)).length ((([]:List RecV)).map (·.1))::stars ((([]:List RecV)).map recD)::vec 22 1 (nS_) (([]:List RecV)).length ((([]:List RecV)).map (·.1))::stars ((([]:List RecV)).map recD)::row gw (eC_ gd gr AP cp AK ck E.length) 35::vec 60 1 (.slice AP E.length cp) E.length (E.map LogE.pv)::vec 91 1 (.slice AK E.length ck) E.length (E.map LogE.kv)::stars (E.map (LogE.pl gd))::stars (E.map (LogE.kl gr))::PW gd s2::RW gr s2::L):=St.vec_nil S58
    refine Calls.mono (w_alike (RV:=[]) (RK:=[]) S59 rfl (Nat.zero_le _) (fun x hx=>by cases hx)) ?_
    rintro _ w60 ⟨rfl,S61⟩
    refine ⟨_,rfl,(pW (.bool false) (pv fv (pv fv (pW (pq gw) (pW (iv e9) (pW (.bool (decide (s.left=0))) (pW (iv s.life) (wl_when kr_ (gv_call (args:=#[pq gw,iv e9,.bool (decide (s.left=0)),iv s.life]) rfl Tryz.func22 kr_ rfl rfl kr_ ?_)))))))))⟩
    have S62:=St.pm 11 [4,9,0,1,2,3,5,6,7,8,10] S61
    refine Calls.mono (w_lives S62 hlv) ?_
    rintro _ w63 ⟨rfl,S64⟩
    refine ⟨_,rfl,(pW (.bool false) (pv fv (wE (nCF (wp_skip (nS (sR (pv pn (pv fv (pv fv (wN (wN (pv fv ?_)))))))))))))⟩
    refine wE (nCF (wp_skip (nSR (pv tv (wE (then_n (wp_ret (bA (.bool true) ?_))))))))
    have S65:=St.pm 11 [0,6,7,8,9,1,10] S64
    exact ⟨rfl,s2,E,hin2,by omega,(St.wclose (s:=s2) (E:=E) S65)⟩
   ·obtain ⟨s2,hs2⟩:∃s2,OpX.dsk s (OpX.good p9 A9 c9 RV ep tl h9)=s2:=⟨_,rfl⟩
    obtain ⟨ha0,hnr,htp,hrc,hno9⟩:=id hx1
    have hin2:=hI.open_ hokd hk ha0 hnr htp hrc
    have hz:s.left≠0:=(argsR_ok ha0).1
    have hm256:=(argsR_ok ha0).2.2.2.1
    have hlv:=take_life (f:=0) (b:=decide (s.left=0)) hlf.1 om_ rfl
    have hs2:s.take.flushR.1=s2:=hs2
    rw [hs2] at hlv hin2
    have hcnt:=hrc.count
    rw [List.length_map] at hcnt
    have hro:=hrc.room (n:=b.toNat) (fun p=>pcAt_round _ _ _ p) (by have:=(argsR_ok ha0).2.2.1;omega)
    have hsm:∀x∈RV,x.2.length≤9223372036854775807:=fun x hx=>Nat.le_trans (recs_small hrc _ (List.mem_map_of_mem hx)) dc_
    have S66:St F w0 w1 (stars (OpX.ast (fun g l=>PLog g gd l) s a b (OpX.good p9 A9 c9 RV ep tl h9))::stars (OpX.ast (fun g l=>KLog g gr l) s a b (OpX.good k9 B9 d9 RK ep tl h9))::RW gr (OpX.dsk s (OpX.good k9 B9 d9 RK ep tl h9))::PW gd (OpX.dsk s (OpX.good p9 A9 c9 RV ep tl h9))::row g1 (oC_ kind a b A d.length cd A2 ps.length cq) 39::row gw (eC_ gd gr AP cp AK ck E.length) 35::vec 60 1 (.slice AP E.length cp) E.length (E.map LogE.pv)::vec 91 1 (.slice AK E.length ck) E.length (E.map LogE.kv)::stars (E.map (LogE.pl gd))::stars (E.map (LogE.kl gr))::L):=St.pm 10 [2,0,1,3,4,5,6,7,8,9] S52
    have S67:St F w0 w1 (vec 22 1 (.slice A9 RV.length c9) RV.length (RV.map (·.1))::stars (RV.map recD)::PLog p9 gd (opLg s a b ep tl h9)::stars (OpX.ast (fun g l=>KLog g gr l) s a b (OpX.good k9 B9 d9 RK ep tl h9))::RW gr (OpX.dsk s (OpX.good k9 B9 d9 RK ep tl h9))::PW gd (OpX.dsk s (OpX.good p9 A9 c9 RV ep tl h9))::row g1 (oC_ kind a b A d.length cd A2 ps.length cq) 39::row gw (eC_ gd gr AP cp AK ck E.length) 35::vec 60 1 (.slice AP E.length cp) E.length (E.map LogE.pv)::vec 91 1 (.slice AK E.length ck) E.length (E.map LogE.kv)::stars (E.map (LogE.pl gd))::stars (E.map (LogE.kl gr))::L):=(St.flat (LA:=[vec 22 1 (.slice A9 RV.length c9) RV.length (RV.map (·.1)),stars (RV.map recD),PLog p9 gd (opLg s a b ep tl h9)]) S66)
    have S68:St F w0 w1 (stars (OpX.ast (fun g l=>KLog g gr l) s a b (OpX.good k9 B9 d9 RK ep tl h9))::vec 22 1 (.slice A9 RV.length c9) RV.length (RV.map (·.1))::stars (RV.map recD)::PLog p9 gd (opLg s a b ep tl h9)::RW gr (OpX.dsk s (OpX.good k9 B9 d9 RK ep tl h9))::PW gd (OpX.dsk s (OpX.good p9 A9 c9 RV ep tl h9))::row g1 (oC_ kind a b A d.length cd A2 ps.length cq) 39::row gw (eC_ gd gr AP cp AK ck E.length) 35::vec 60 1 (.slice AP E.length cp) E.length (E.map LogE.pv)::vec 91 1 (.slice AK E.length ck) E.length (E.map LogE.kv)::stars (E.map (LogE.pl gd))::stars (E.map (LogE.kl gr))::L):=St.pm 12 [3,0,1,2,4,5,6,7,8,9,10,11] S67
    have S69:St F w0 w1 (vec 22 1 (.slice B9 RK.length d9) RK.length (RK.map (·.1))::stars (RK.map recD)::KLog k9 gr (opLg s a b ep tl h9)::vec 22 1 (.slice A9 RV.length c9) RV.length (RV.map (·.1))::stars (RV.map recD)::PLog p9 gd (opLg s a b ep tl h9)::RW gr (OpX.dsk s (OpX.good k9 B9 d9 RK ep tl h9))::PW gd (OpX.dsk s (OpX.good p9 A9 c9 RV ep tl h9))::row g1 (oC_ kind a b A d.length cd A2 ps.length cq) 39::row gw (eC_ gd gr AP cp AK ck E.length) 35::vec 60 1 (.slice AP E.length cp) E.length (E.map LogE.pv)::vec 91 1 (.slice AK E.length ck) E.length (E.map LogE.kv)::stars (E.map (LogE.pl gd))::stars (E.map (LogE.kl gr))::L):=(St.flat (LA:=[vec 22 1 (.slice B9 RK.length d9) RK.length (RK.map (·.1)),stars (RK.map recD),KLog k9 gr (opLg s a b ep tl h9)]) S68)
    change St F w0 w1 (vec 22 1 (.slice B9 RK.length d9) RK.length (RK.map (·.1))::stars (RK.map recD)::KLog k9 gr (opLg s a b ep tl h9)::vec 22 1 (.slice A9 RV.length c9) RV.length (RV.map (·.1))::stars (RV.map recD)::PLog p9 gd (opLg s a b ep tl h9)::RW gr (s.take.flushR.1)::PW gd (s.take.flushR.1)::row g1 (oC_ kind a b A d.length cd A2 ps.length cq) 39::row gw (eC_ gd gr AP cp AK ck E.length) 35::vec 60 1 (.slice AP E.length cp) E.length (E.map LogE.pv)::vec 91 1 (.slice AK E.length ck) E.length (E.map LogE.kv)::stars (E.map (LogE.pl gd))::stars (E.map (LogE.kl gr))::L) at S69
    rw [hs2] at S69
    refine (pv (iv 0) (pv (iv 0) (dN 0 0 (fun hd70=>False.elim (hd70 rfl)) fun _=>pv fv (pW (pq p9) (pW (.bool false) (pW (pq k9) (pW (.bool false) (pW (.bool false) (pv fv (pv fv (pW (.slice A9 RV.length c9) (pW (.slice B9 RK.length d9) ?_))))))))))))
    refine wl_when kr_ (gv_call (args:=#[.slice A9 RV.length c9,.slice B9 RK.length d9]) rfl Tryz.func61 kr_ rfl rfl kr_ ?_)
    have S71:=St.pm 14 [3,4,0,1,2,5,6,7,8,9,10,11,12,13] S69
    refine Calls.mono (w_alike S71 hre om_ hsm) ?_
    rintro _ w72 ⟨rfl,S73⟩
    refine ⟨_,rfl,(pW (.bool false) (pv fv (pv fv (pW (pq gw) (pW (iv 0) (pW (.bool (decide (s.left=0))) (pW (iv s.life) (wl_when kr_ (gv_call (args:=#[pq gw,iv 0,.bool (decide (s.left=0)),iv s.life]) rfl Tryz.func22 kr_ rfl rfl kr_ ?_)))))))))⟩
    have S74:=St.pm 14 [9,7,0,1,2,3,4,5,6,8,10,11,12,13] S73
    refine Calls.mono (w_lives S74 hlv) ?_
    rintro _ w75 ⟨rfl,S76⟩
    refine ⟨_,rfl,(pW (.bool false) (pv fv (wE (nCF (wp_skip (nS (sR (pv (pq p9) (pv tv (pv tv (pW (pq k9) (pW (.bool true) (pv tv ?_)))))))))))))⟩
    refine wE (nCT (sR (pv (pq gw) (pv (pq gw) (pv (pq gw) (pv (po gw 2) (lR (.slice AP E.length cp) S76 0 2 (pv (pq p9) (g_ (gv_slit (e:=60) (sz:=1) (z:=pn) (by_:=8) (vs:=#[(0,pq p9)]) (cells:=#[pq p9]) S76 rfl kr_ ⟨by kernel_rfl⟩ kr_ kr_ kr_ kr_ (fun g77 w78 hg79 S80=> ?_)))))))))))
    have S81:=St.pm 15 [0,11,1,2,3,4,5,6,7,8,9,10,12,13,14] S80
    refine g_ (gv_append (e:=60) (sz:=1) (n:=E.length) (v:=(.slice AP E.length cp)) (vals:=(E.map LogE.pv)) (z:=pn) (by_:=8) (m:=1) (c':=1) (ad:=⟨g77,0,none⟩) (news:=[pq p9]) (St.swap S81) rfl kr_ ⟨by kernel_rfl⟩ rfl kr_ kr_ dc_ rfl (row_news (S81.blk 0 rfl)) (by intro u hu;simp at hu;subst hu;rfl) om_ om_ (fun v83 w82 S84=> ?_))
    obtain ⟨A85,c86,rfl⟩:=St.vecV S84 0 rfl
    refine pv (pq gw) (pv (po gw 2) (sS S84 2 rfl 2 (.slice A85 (E.length+1) c86) fun w87 S88=>wE ?_))
    refine nR (pv (pq gw) (pv (pq gw) (pv (pq gw) (pv (po gw 3) (lR (.slice AK E.length ck) S88 2 3 (pv (pq k9) (g_ (gv_slit (e:=91) (sz:=1) (z:=pn) (by_:=8) (vs:=#[(0,pq k9)]) (cells:=#[pq k9]) S88 rfl kr_ ⟨by kernel_rfl⟩ kr_ kr_ kr_ kr_ (fun g89 w90 hg91 S92=> ?_)))))))))
    have S93:=St.pm 16 [0,13,1,2,3,4,5,6,7,8,9,10,11,12,14,15] S92
    refine g_ (gv_append (e:=91) (sz:=1) (n:=E.length) (v:=(.slice AK E.length ck)) (vals:=(E.map LogE.kv)) (z:=pn) (by_:=8) (m:=1) (c':=1) (ad:=⟨g89,0,none⟩) (news:=[pq k9]) (St.swap S93) rfl kr_ ⟨by kernel_rfl⟩ rfl kr_ kr_ dc_ rfl (row_news (S93.blk 0 rfl)) (by intro u hu;simp at hu;subst hu;rfl) om_ om_ (fun v95 w94 S96=> ?_))
    obtain ⟨A97,c98,rfl⟩:=St.vecV S96 0 rfl
    refine pv (pq gw) (pv (po gw 3) (sS S96 4 rfl 3 (.slice A97 (E.length+1) c98) fun w99 S100=>wER (pv tv (wE (then_n (wp_ret (bA (.bool true) ?_)))))))
    have S101:=St.pm 16 [4,2,0,14,11,15,10,5,12] S100
    exact ⟨rfl,s2,E++[⟨p9,k9,opLg s a b ep tl h9⟩],by rw [List.map_append];exact hin2,by rw [List.length_append,List.length_singleton];omega,St.wpush S101⟩
end
theorem RoT.app {F:Nat→Prop}{w0:World}{L:List Ast}{A:Option Addr}{l:List UInt8}(h:RoT F w0 L A l):∀LA:List Ast,RoT F w0 (LA++L) A l
 |[]=>h
 |_::r=>(RoT.app h r).more
theorem ageR_cases (n:Nat)(a:Int):(n=0∧ageR n a= -1)∨∃j,j<n∧ageR n a=((j:Nat):Int):=by
 by_cases h:n=0
 ·exact .inl ⟨h,if_pos h⟩
 ·exact .inr ⟨n-1-a.toNat%n,by omega,if_neg h⟩
theorem St.wset {F:Nat→Prop}{w0 w:World}{L:List Ast}{gw gd gr cp ck j:Nat}{s:Dsk}{E:List LogE}{e:LogE}{l:Lg}{AP AK:Option Addr}(he:E[j]?=some e)(S:St F w0 w (PLog e.p gd l::stars ((E.take j).map (LogE.pl gd))::stars ((E.drop (j+1)).map (LogE.pl gd))::KLog e.k gr l::stars ((E.take j).map (LogE.kl gr))::stars ((E.drop (j+1)).map (LogE.kl gr))::row gw #[.pointer (some ⟨gd,0,none⟩),.pointer (some ⟨gr,0,none⟩),.slice AP E.length cp,.slice AK E.length ck] 35::vec 60 1 (.slice AP E.length cp) E.length (E.map LogE.pv)::vec 91 1 (.slice AK E.length ck) E.length (E.map LogE.kv)::PW gd s::RW gr s::L)):St F w0 w (WB gw s (E.set j ⟨e.p,e.k,l⟩)::L):=by
 have hj:j<E.length:=(List.getElem?_eq_some_iff.1 he).1
 refine St.wclose (gd:=gd) (gr:=gr) (AP:=AP) (cp:=cp) (AK:=AK) (ck:=ck) ?_
 have hp:(E.set j ⟨e.p,e.k,l⟩).map LogE.pv=E.map LogE.pv:=by
  rw [List.map_set];apply List.ext_getElem?;intro i;rw [List.getElem?_set]
  by_cases h:j=i
  ·subst h;rw [if_pos rfl,if_pos (by rw [List.length_map];exact hj),List.getElem?_map,he];rfl
  ·rw [if_neg h]
 have hk:(E.set j ⟨e.p,e.k,l⟩).map LogE.kv=E.map LogE.kv:=by
  rw [List.map_set];apply List.ext_getElem?;intro i;rw [List.getElem?_set]
  by_cases h:j=i
  ·subst h;rw [if_pos rfl,if_pos (by rw [List.length_map];exact hj),List.getElem?_map,he];rfl
  ·rw [if_neg h]
 unfold wparts
 rw [List.length_set,hp,hk]
 have S1:=St.fill (f:=LogE.pl gd) (x:=⟨e.p,e.k,l⟩) j hj S
 have S2:=St.permT [_,_,_,_,_,_,_,_,_] [1,2,3,0,4,5,6,7,8] dc_ rfl S1
 have S3:=St.fill (f:=LogE.kl gr) (x:=⟨e.p,e.k,l⟩) j hj S2
 exact St.permT [_,_,_,_,_,_,_] [2,3,4,1,0,5,6] dc_ rfl S3
theorem w_onLog {F:Nat→Prop}{w0 w:World}{L:List Ast}{gw:Nat}{s:Dsk}{E:List LogE}(S:St F w0 w (WB gw s E::L)){kind a b:Int}{A A2:Option Addr}{d:List UInt8}{ps:List Pick}{cd cq:Nat}(hr:RoT F w0 L A d)(hcap:d.length≤cd)(hdm:d.length≤140737488355328)(ham:a≤9223372036854775807){k:Nat}(hI:WInv k s (E.map LogE.l))(hk:k≤4398046511104)(hE:E.length≤k):Calls Tryz.prog 31 #[.pointer (some ⟨gw,0,none⟩),.agg #[.int .i64 kind,.int .i64 a,.int .i64 b,.slice A d.length cd,.slice A2 ps.length cq]] w fun e w'=>e=.returned (.bool true)∧∃s' E',WInv (k+1) s' (E'.map LogE.l)∧E'.length≤k+1∧St F w0 w' (WB gw s' E'::L):=by
 obtain ⟨gd,gr,AP,cp,AK,ck,S⟩:=St.wopen S
 have hok:DOk s:=St.pw_ok (L:=[]) (S.mem 5 rfl)
 have hpn:=hI.pend
 change St F w0 w (row gw (eC_ gd gr AP cp AK ck E.length) 35::vec 60 1 (.slice AP E.length cp) E.length (E.map LogE.pv)::vec 91 1 (.slice AK E.length ck) E.length (E.map LogE.kv)::stars (E.map (LogE.pl gd))::stars (E.map (LogE.kl gr))::PW gd s::RW gr s::L) at S
 refine eN (fr [pq gw,.agg (oC_ kind a b A d.length cd A2 ps.length cq)] 143) Tryz.func31 rfl (sR (nB rfl (.agg (oC_ kind a b A d.length cd A2 ps.length cq)) S fun g1 w2 hg3 S4=>pv fv (wER (pv (pq gw) (pv (po g1 1) (lR (iv a) S4 0 1 (g_ (gv_call (args:=#[pq gw,iv a]) rfl Tryz.func68 kr_ rfl rfl kr_ ?_))))))))
 have S5:=St.pm 8 [1,0,2,3,4,5,6,7] S4
 refine Calls.mono (w_age (a:=a) S5 om_ ham) ?_
 rintro _ w8 ⟨rfl,S7⟩
 refine ⟨_,rfl, ?_⟩
 rcases ageR_cases E.length a with ⟨h0,hag⟩|⟨j,hjl,hag⟩
 ·rw [hag]
  refine pv (iv (-1)) (wE (nS (sR (pv (iv (-1)) (dC (((-1):Int)<0) (fun hb9=> ?_) fun hb9=> ?_)))))
  ·refine wE (nCT (sR (pv tv (wE (then_n (rR (bA (.bool true) ?_)))))))
   have S10:=St.pm 8 [0,2,3,4,5,6,7] S7
   exact ⟨rfl,s,E,hI.next,by omega,(St.wclose (s:=s) (E:=E) S10)⟩
  ·exact absurd (show (-1:Int)<0 by decide) hb9
 ·rw [hag]
  obtain ⟨e,he⟩:∃e,E[j]?=some e:=⟨_,List.getElem?_eq_getElem hjl⟩
  have hil:(E.map LogE.l)[j]?=some e.l:=by rw [List.getElem?_map,he];rfl
  have hlo:=hI.ok e.l (List.mem_of_getElem? hil)
  have hfit:=hlo.fit
  have hl0:=hlo.ok
  have hpj:(E.map LogE.pv)[j]?=some (.pointer (some ⟨e.p,0,none⟩)):=by rw [List.getElem?_map,he];rfl
  have hkj:(E.map LogE.kv)[j]?=some (.pointer (some ⟨e.k,0,none⟩)):=by rw [List.getElem?_map,he];rfl
  have S11:=St.pm 8 [4,0,1,2,3,5,6,7] S7
  have S12:St F w0 w8 (PLog e.p gd e.l::stars ((E.take j).map (LogE.pl gd))::stars ((E.drop (j+1)).map (LogE.pl gd))::row gw (eC_ gd gr AP cp AK ck E.length) 35::row g1 (oC_ kind a b A d.length cd A2 ps.length cq) 39::vec 60 1 (.slice AP E.length cp) E.length (E.map LogE.pv)::vec 91 1 (.slice AK E.length ck) E.length (E.map LogE.kv)::stars (E.map (LogE.kl gr))::PW gd s::RW gr s::L):=St.nth S11 j he
  have S13:=St.pm 10 [7,0,1,2,3,4,5,6,8,9] S12
  have S14:St F w0 w8 (KLog e.k gr e.l::stars ((E.take j).map (LogE.kl gr))::stars ((E.drop (j+1)).map (LogE.kl gr))::PLog e.p gd e.l::stars ((E.take j).map (LogE.pl gd))::stars ((E.drop (j+1)).map (LogE.pl gd))::row gw (eC_ gd gr AP cp AK ck E.length) 35::row g1 (oC_ kind a b A d.length cd A2 ps.length cq) 39::vec 60 1 (.slice AP E.length cp) E.length (E.map LogE.pv)::vec 91 1 (.slice AK E.length ck) E.length (E.map LogE.kv)::PW gd s::RW gr s::L):=St.nth S13 j he
  obtain ⟨ad,hAd,hrp⟩:=(St.vec_rd S14 8 rfl) (by rw [List.length_map];omega)
  obtain ⟨ad2,hAd2,hrk⟩:=(St.vec_rd S14 9 rfl) (by rw [List.length_map];omega)
  subst hAd hAd2
  refine pv (nI_ j) (wE (nS (sR (pv (nI_ j) (dC ((((j:Nat):Int):Int)<0) (fun hb15=> ?_) fun hb15=> ?_)))))
  ·exact absurd hb15 om_
  ·refine wE (nCF (wp_skip (nSR (pv (pq gw) (pv (pq gw) (pv (po gw 2) (lR (.slice (some ad) E.length cp) S14 6 2 (pv (nI_ j) (g_ (gv_ixB (e:=60) (sz:=1) (n:=E.length) (c:=cp) (i:=((j:Nat):Int)) (k:=.i64) (ad:=ad) (ad':=(ad.add j)) (j:=j) rfl kr_ kr_ kr_ kr_ rfl hjl (by rw [Nat.mul_one]) (lQ (pq e.p) (hrp _ _ hpj) (pv (pq e.p) (wER (pv (pq gw) ?_))))))))))))))
   refine pv (pq gw) (pv (po gw 3) (lR (.slice (some ad2) E.length ck) S14 6 3 (pv (nI_ j) (g_ (gv_ixB (e:=91) (sz:=1) (n:=E.length) (c:=ck) (i:=((j:Nat):Int)) (k:=.i64) (ad:=ad2) (ad':=(ad2.add j)) (j:=j) rfl kr_ kr_ kr_ kr_ rfl hjl (by rw [Nat.mul_one]) (lQ (pq e.k) (hrk _ _ hkj) (pv (pq e.k) (wE (nS (sR (pv (pq g1) (lR (iv kind) S14 7 0 (wE (then_n ?_))))))))))))))
   refine wp_block (sR (dE kind 3 (fun hb16=> ?_) fun hb16=> ?_))
   ·refine pv tv (wE (nCT (sR (pv (pq e.p) (g_ (gv_call (args:=#[pq e.p]) rfl Tryz.func69 kr_ rfl rfl kr_ ?_))))))
    have S17:=St.pm 12 [3,10,0,1,2,4,5,6,7,8,9,11] S14
    refine Calls.mono (w_start S17 hl0 om_ (by have:=hl0.n0;omega) (hI.hstart hok hil)) ?_
    rintro _ w18 ⟨rfl,S19⟩
    refine ⟨_,rfl,(pv (iv ((startR s e.l).2.2)) (wER (pv (pq e.k) (g_ (gv_call (args:=#[pq e.k]) rfl Tryz.func70 kr_ rfl rfl kr_ ?_)))))⟩
    have S20:=St.pm 12 [2,11,0,1,3,4,5,6,7,8,9,10] S19
    refine Calls.mono (k_start S20 hl0 om_ (by have:=hl0.n0;omega) (hI.hstart hok hil)) ?_
    rintro _ w21 ⟨rfl,S22⟩
    refine ⟨_,rfl,(pv (iv ((startR s e.l).2.2)) (wER (pv (iv ((startR s e.l).2.2)) (pv (iv ((startR s e.l).2.2)) (dE ((startR s e.l).2.2) ((startR s e.l).2.2) (fun _=>pv tv (wE (then_n (wp_ret (inb_r (then_r (bA (.bool true) ?_))))))) fun hd23=>False.elim (hd23 rfl))))))⟩
    have S24:=St.pm 12 [2,6,7,0,4,5,8,10,11,3,1] S22
    exact ⟨rfl,(startR s e.l).1,E.set j ⟨e.p,e.k,(startR s e.l).2.1⟩,by rw [List.map_set];exact hI.log hil (hI.start1 hok hil),by rw [List.length_set];omega,St.wset he S24⟩
   ·refine pv fv (wE (nCF (sR (dE kind 4 (fun hb25=> ?_) fun hb25=> ?_))))
    ·refine pv tv (wE (nCT (sR (pv (pq e.p) (pv (po g1 3) (lR (.slice A d.length cd) S14 7 3 (sP1 Tryz.func46 #[.slice A d.length cd] (ltwinS (l:=d) S14 (RoT.app hr [KLog e.k gr e.l,stars ((E.take j).map (LogE.kl gr)),stars ((E.drop (j+1)).map (LogE.kl gr)),PLog e.p gd e.l,stars ((E.take j).map (LogE.pl gd)),stars ((E.drop (j+1)).map (LogE.pl gd)),row gw #[pq gd,pq gr,.slice (some ad) E.length cp,.slice (some ad2) E.length ck] 35,row g1 (oC_ kind a b A d.length cd A2 ps.length cq) 39,vec 60 1 (.slice (some ad) E.length cp) E.length (E.map LogE.pv),vec 91 1 (.slice (some ad2) E.length ck) E.length (E.map LogE.kv),PW gd s,RW gr s]) hdm) fun go26 w27 S28=>g_ (gv_call (args:=#[pq e.p,sl go26 0 d.length d.length]) rfl Tryz.func42 kr_ rfl rfl kr_ ?_))))))))
     have S29:=St.pm 13 [4,11,0,1,2,3,5,6,7,8,9,10,12] S28
     refine Calls.mono (w_append (d:=d) S29 hl0 hlo.hd (RoT.item 0 rfl 0 d.length d (by rw [List.drop_zero,List.take_length])) (Nat.le_refl _) hdm (fun _=>hfit) om_) ?_
     rintro _ w30 ⟨rfl,S31⟩
     refine ⟨_,rfl,(pv (iv ((appendR s e.l d).2.2)) (wER (pv (pq e.k) (pv (po g1 3) (lR (.slice A d.length cd) S31 9 3 (g_ (gv_call (args:=#[pq e.k,.slice A d.length cd]) rfl Tryz.func71 kr_ rfl rfl kr_ ?_)))))))⟩
     have S32:=St.pm 13 [3,12,0,1,2,4,5,6,7,8,9,10,11] S31
     refine Calls.mono (k_append (d:=d) S32 hl0 hlo.hd (RoT.app hr [PLog e.p gd ((appendR s e.l d).2.1),PW gd ((appendR s e.l d).1),row go26 (bvs d) 5,stars ((E.take j).map (LogE.kl gr)),stars ((E.drop (j+1)).map (LogE.kl gr)),stars ((E.take j).map (LogE.pl gd)),stars ((E.drop (j+1)).map (LogE.pl gd)),row gw #[pq gd,pq gr,.slice (some ad) E.length cp,.slice (some ad2) E.length ck] 35,row g1 (oC_ kind a b A d.length cd A2 ps.length cq) 39,vec 60 1 (.slice (some ad) E.length cp) E.length (E.map LogE.pv),vec 91 1 (.slice (some ad2) E.length ck) E.length (E.map LogE.kv)]) hcap hdm (fun _=>hfit) om_) ?_
     rintro _ w33 ⟨rfl,S34⟩
     refine ⟨_,rfl,(pv (iv ((appendR s e.l d).2.2)) (wE (nSR (pv (iv ((appendR s e.l d).2.2)) (pv (iv ((appendR s e.l d).2.2)) (dE ((appendR s e.l d).2.2) ((appendR s e.l d).2.2) (fun _=>pv tv (wE (then_n (wp_ret (inb_r (then_r (bA (.bool true) ?_))))))) fun hd35=>False.elim (hd35 rfl)))))))⟩
     have S36:=St.pm 13 [2,7,8,0,5,6,9,11,12,3,1] S34
     exact ⟨rfl,(appendR s e.l d).1,E.set j ⟨e.p,e.k,(appendR s e.l d).2.1⟩,by rw [List.map_set];exact hI.log hil (hI.append1 hok hil d),by rw [List.length_set];omega,St.wset he S36⟩
    ·refine pv fv (wE (nCF (sR (dE kind 5 (fun hb37=> ?_) fun hb37=> ?_))))
     ·refine pv tv (wE (nCT (sR (pv (pq e.p) (g_ (gv_call (args:=#[pq e.p]) rfl Tryz.func72 kr_ rfl rfl kr_ ?_))))))
      have S38:=St.pm 12 [3,10,0,1,2,4,5,6,7,8,9,11] S14
      refine Calls.mono (w_sync S38) ?_
      rintro _ w39 ⟨rfl,S40⟩
      refine ⟨_,rfl,(pv (iv ((syncR s e.l).2)) (wER (pv (pq e.k) (g_ (gv_call (args:=#[pq e.k]) rfl Tryz.func73 kr_ rfl rfl kr_ ?_)))))⟩
      have S41:=St.pm 12 [2,11,0,1,3,4,5,6,7,8,9,10] S40
      refine Calls.mono (k_sync S41) ?_
      rintro _ w42 ⟨rfl,S43⟩
      refine ⟨_,rfl,(pv (iv ((syncR s e.l).2)) (wER (pv (iv ((syncR s e.l).2)) (pv (iv ((syncR s e.l).2)) (dE ((syncR s e.l).2) ((syncR s e.l).2) (fun _=>pv tv (wE (then_n (wp_ret (inb_r (then_r (bA (.bool true) ?_))))))) fun hd44=>False.elim (hd44 rfl))))))⟩
      have S45:=St.pm 12 [2,6,7,0,4,5,8,10,11,3,1] S43
      exact ⟨rfl,(syncR s e.l).1,E.set j ⟨e.p,e.k,e.l⟩,by rw [List.map_set];exact hI.log hil (hI.sync1 hil),by rw [List.length_set];omega,St.wset he S45⟩
     ·refine pv fv (wE (nCF (sR (dE kind 6 (fun hb46=> ?_) fun hb46=> ?_))))
      ·refine pv tv (wE (nCT (sR (pv (pq e.p) (g_ (gv_call (args:=#[pq e.p]) rfl Tryz.func74 kr_ rfl rfl kr_ ?_))))))
       have S47:=St.pm 12 [3,10,0,1,2,4,5,6,7,8,9,11] S14
       refine Calls.mono (w_trim S47 hl0 hlo.hd om_ (by have:=hl0.n0;omega) (hI.htrim hok hil)) ?_
       rintro _ w48 ⟨rfl,S49⟩
       refine ⟨_,rfl,(pv (iv ((trimR s e.l).2.2)) (wER (pv (pq e.k) (g_ (gv_call (args:=#[pq e.k]) rfl Tryz.func75 kr_ rfl rfl kr_ ?_)))))⟩
       have S50:=St.pm 12 [2,11,0,1,3,4,5,6,7,8,9,10] S49
       refine Calls.mono (k_trim S50 hl0 hlo.hd om_ (by have:=hl0.n0;omega) (hI.htrim hok hil)) ?_
       rintro _ w51 ⟨rfl,S52⟩
       refine ⟨_,rfl,(pv (iv ((trimR s e.l).2.2)) (wE (nSR (pv (iv ((trimR s e.l).2.2)) (pv (iv ((trimR s e.l).2.2)) (dE ((trimR s e.l).2.2) ((trimR s e.l).2.2) (fun _=>pv tv (wE (then_n (wp_ret (inb_r (then_r (bA (.bool true) ?_))))))) fun hd53=>False.elim (hd53 rfl)))))))⟩
       have S54:=St.pm 12 [2,6,7,0,4,5,8,10,11,3,1] S52
       exact ⟨rfl,(trimR s e.l).1,E.set j ⟨e.p,e.k,(trimR s e.l).2.1⟩,by rw [List.map_set];exact hI.log hil (hI.trim1 hok hil),by rw [List.length_set];omega,St.wset he S54⟩
      ·refine pv fv (wE (nCF (sR (dE kind 7 (fun hb55=> ?_) fun hb55=> ?_))))
       ·refine pv tv (wE (nCT (sR (pv (pq e.p) (g_ (gv_call (args:=#[pq e.p]) rfl Tryz.func43 kr_ rfl rfl kr_ ?_))))))
        by_cases hrd:readyR s e.l=0
        ·have S56:=St.pm 12 [3,10,0,1,2,4,5,6,7,8,9,11] S14
         refine Calls.mono (w_room S56 hl0 hlo.hd hrd) ?_
         rintro _ w57 ⟨rfl,S58⟩
         refine ⟨_,rfl,(pv (.tuple #[iv ((e.l.n:Int)-((e.l.head:Int)-(e.l.tail:Int))),iv 0]) (pv (iv ((e.l.n:Int)-((e.l.head:Int)-(e.l.tail:Int)))) (pv (iv 0) (pv (iv ((e.l.n:Int)-((e.l.head:Int)-(e.l.tail:Int)))) (pv (iv 0) (wE (nSR (pv (pq e.k) (g_ (gv_call (args:=#[pq e.k]) rfl Tryz.func76 kr_ rfl rfl kr_ ?_))))))))))⟩
         have S59:=St.pm 12 [2,11,0,1,3,4,5,6,7,8,9,10] S58
         refine Calls.mono (k_room S59 hl0 hlo.hd hrd) ?_
         rintro _ w60 ⟨rfl,S61⟩
         refine ⟨_,rfl,(pv (.tuple #[iv ((e.l.n:Int)-((e.l.head:Int)-(e.l.tail:Int))),iv 0]) (pv (iv ((e.l.n:Int)-((e.l.head:Int)-(e.l.tail:Int)))) (pv (iv 0) (pv (iv ((e.l.n:Int)-((e.l.head:Int)-(e.l.tail:Int)))) (pv (iv 0) (wER (pv (iv 0) (pv (iv 0) (dE 0 0 (fun _=>pv tv (pW (iv ((e.l.n:Int)-((e.l.head:Int)-(e.l.tail:Int)))) (pW (iv ((e.l.n:Int)-((e.l.head:Int)-(e.l.tail:Int)))) (wl_when kr_ (gv_eq (x:=((e.l.n:Int)-((e.l.head:Int)-(e.l.tail:Int)))) (y:=((e.l.n:Int)-((e.l.head:Int)-(e.l.tail:Int)))) kr_ (fun _=> ?_) (fun hd63=>False.elim (hd63 rfl))))))) fun hd62=>False.elim (hd62 rfl))))))))))⟩
         refine pv tv (pv tv (wE (then_n (wp_ret (inb_r (then_r (bA (.bool true) ?_)))))))
         have S64:=St.pm 12 [2,6,7,0,4,5,8,10,11,3,1] S61
         exact ⟨rfl,s,E.set j ⟨e.p,e.k,e.l⟩,by rw [List.map_set];exact hI.log hil (hI.log1 hil),by rw [List.length_set];omega,St.wset he S64⟩
        ·have S65:=St.pm 12 [3,10,0,1,2,4,5,6,7,8,9,11] S14
         refine Calls.mono (w_room_no S65 hrd) ?_
         rintro _ w66 ⟨rfl,S67⟩
         refine ⟨_,rfl,(pv (.tuple #[iv 0,iv (readyR s e.l)]) (pv (iv 0) (pv (iv (readyR s e.l)) (pv (iv 0) (pv (iv (readyR s e.l)) (wE (nSR (pv (pq e.k) (g_ (gv_call (args:=#[pq e.k]) rfl Tryz.func76 kr_ rfl rfl kr_ ?_))))))))))⟩
         have S68:=St.pm 12 [2,11,0,1,3,4,5,6,7,8,9,10] S67
         refine Calls.mono (k_room_no S68 hrd) ?_
         rintro _ w69 ⟨rfl,S70⟩
         refine ⟨_,rfl,(pv (.tuple #[iv 0,iv (readyR s e.l)]) (pv (iv 0) (pv (iv (readyR s e.l)) (pv (iv 0) (pv (iv (readyR s e.l)) (wER (pv (iv (readyR s e.l)) (pv (iv (readyR s e.l)) (dE (readyR s e.l) (readyR s e.l) (fun _=>pv tv (pW (iv 0) (pW (iv 0) (wl_when kr_ (gv_eq (x:=0) (y:=0) kr_ (fun _=> ?_) (fun hd72=>False.elim (hd72 rfl))))))) fun hd71=>False.elim (hd71 rfl))))))))))⟩
         refine pv tv (pv tv (wE (then_n (wp_ret (inb_r (then_r (bA (.bool true) ?_)))))))
         have S73:=St.pm 12 [2,6,7,0,4,5,8,10,11,3,1] S70
         exact ⟨rfl,s,E.set j ⟨e.p,e.k,e.l⟩,by rw [List.map_set];exact hI.log hil (hI.log1 hil),by rw [List.length_set];omega,St.wset he S73⟩
       ·refine pv fv (wE (nCF (sR (dE kind 8 (fun hb74=> ?_) fun hb74=> ?_))))
        ·refine pv tv (wE (nCT (sR (pv (pq e.p) (g_ (gv_call (args:=#[pq e.p]) rfl Tryz.func44 kr_ rfl rfl kr_ ?_))))))
         by_cases hrd:aliveR s e.l=true
         ·have S75:=St.pm 12 [3,10,0,1,2,4,5,6,7,8,9,11] S14
          refine Calls.mono (w_marks S75 hrd) ?_
          rintro _ w76 ⟨rfl,S77⟩
          refine ⟨_,rfl,(pv (.tuple #[nI_ e.l.epoch,nI_ e.l.tail,nI_ e.l.head,iv 0]) (pv (nI_ e.l.epoch) (pv (nI_ e.l.tail) (pv (nI_ e.l.head) (pv (iv 0) (pv (nI_ e.l.epoch) (pv (nI_ e.l.tail) (pv (nI_ e.l.head) (pv (iv 0) (wE ?_))))))))))⟩
          refine nSR (pv (pq e.k) (g_ (gv_call (args:=#[pq e.k]) rfl Tryz.func77 kr_ rfl rfl kr_ ?_)))
          have S78:=St.pm 12 [2,11,0,1,3,4,5,6,7,8,9,10] S77
          refine Calls.mono (k_marks S78 hrd) ?_
          rintro _ w79 ⟨rfl,S80⟩
          refine ⟨_,rfl,(pv (.tuple #[nI_ e.l.epoch,nI_ e.l.tail,nI_ e.l.head,iv 0]) (pv (nI_ e.l.epoch) (pv (nI_ e.l.tail) (pv (nI_ e.l.head) (pv (iv 0) (pv (nI_ e.l.epoch) (pv (nI_ e.l.tail) (pv (nI_ e.l.head) (pv (iv 0) (wER (pv (iv 0) (pv (iv 0) (dE 0 0 (fun _=> ?_) fun hd81=>False.elim (hd81 rfl))))))))))))))⟩
          refine pv tv (pW (nI_ e.l.epoch) (pW (nI_ e.l.epoch) (wl_when kr_ (gv_eq (x:=((e.l.epoch:Nat):Int)) (y:=((e.l.epoch:Nat):Int)) kr_ (fun _=>pv tv (pv tv (pW (nI_ e.l.tail) (pW (nI_ e.l.tail) (wl_when kr_ (gv_eq (x:=((e.l.tail:Nat):Int)) (y:=((e.l.tail:Nat):Int)) kr_ (fun _=>pv tv (pv tv (pW (nI_ e.l.head) (pW (nI_ e.l.head) (wl_when kr_ (gv_eq (x:=((e.l.head:Nat):Int)) (y:=((e.l.head:Nat):Int)) kr_ (fun _=> ?_) (fun hd84=>False.elim (hd84 rfl)))))))) (fun hd83=>False.elim (hd83 rfl)))))))) (fun hd82=>False.elim (hd82 rfl))))))
          refine pv tv (pv tv (wE (then_n (wp_ret (inb_r (then_r (bA (.bool true) ?_)))))))
          have S85:=St.pm 12 [2,6,7,0,4,5,8,10,11,3,1] S80
          exact ⟨rfl,s,E.set j ⟨e.p,e.k,e.l⟩,by rw [List.map_set];exact hI.log hil (hI.log1 hil),by rw [List.length_set];omega,St.wset he S85⟩
         ·have S86:=St.pm 12 [3,10,0,1,2,4,5,6,7,8,9,11] S14
          refine Calls.mono (w_marks_no S86 (by simpa using hrd)) ?_
          rintro _ w87 ⟨rfl,S88⟩
          refine ⟨_,rfl,(pv (.tuple #[iv 0,iv 0,iv 0,iv 3]) (pv (iv 0) (pv (iv 0) (pv (iv 0) (pv (iv 3) (pv (iv 0) (pv (iv 0) (pv (iv 0) (pv (iv 3) (wE (nSR (pv (pq e.k) (g_ (gv_call (args:=#[pq e.k]) rfl Tryz.func77 kr_ rfl rfl kr_ ?_))))))))))))))⟩
          have S89:=St.pm 12 [2,11,0,1,3,4,5,6,7,8,9,10] S88
          refine Calls.mono (k_marks_no S89 (by simpa using hrd)) ?_
          rintro _ w90 ⟨rfl,S91⟩
          refine ⟨_,rfl,(pv (.tuple #[iv 0,iv 0,iv 0,iv 3]) (pv (iv 0) (pv (iv 0) (pv (iv 0) (pv (iv 3) (pv (iv 0) (pv (iv 0) (pv (iv 0) (pv (iv 3) (wER (pv (iv 3) (pv (iv 3) (dE 3 3 (fun _=> ?_) fun hd92=>False.elim (hd92 rfl))))))))))))))⟩
          refine pv tv (pW (iv 0) (pW (iv 0) (wl_when kr_ (gv_eq (x:=0) (y:=0) kr_ (fun _=>pv tv (pv tv (pW (iv 0) (pW (iv 0) (wl_when kr_ (gv_eq (x:=0) (y:=0) kr_ (fun _=>pv tv (pv tv (pW (iv 0) (pW (iv 0) (wl_when kr_ (gv_eq (x:=0) (y:=0) kr_ (fun _=> ?_) (fun hd95=>False.elim (hd95 rfl)))))))) (fun hd94=>False.elim (hd94 rfl)))))))) (fun hd93=>False.elim (hd93 rfl))))))
          refine pv tv (pv tv (wE (then_n (wp_ret (inb_r (then_r (bA (.bool true) ?_)))))))
          have S96:=St.pm 12 [2,6,7,0,4,5,8,10,11,3,1] S91
          exact ⟨rfl,s,E.set j ⟨e.p,e.k,e.l⟩,by rw [List.map_set];exact hI.log hil (hI.log1 hil),by rw [List.length_set];omega,St.wset he S96⟩
        ·refine pv fv (wE (nCF (wp_skip (inb_n (nSR (pv tv (wE (then_n (wp_ret (bA (.bool true) ?_))))))))))
         have S97:=St.pm 12 [3,4,5,0,1,2,6,8,9,10,11] S14
         exact ⟨rfl,s,E.set j ⟨e.p,e.k,e.l⟩,by rw [List.map_set];exact hI.log hil (hI.log1 hil),by rw [List.length_set];omega,St.wset he S97⟩
theorem RoV.app {F:Nat→Prop}{w0:World}{L:List Ast}{A:Option Addr}{l:List Value}(h:RoV F w0 L A l):∀LA:List Ast,RoV F w0 (LA++L) A l
 |[]=>h
 |_::r=>(RoV.app h r).more
theorem format_inv {k:Nat}{s:Dsk}{ls:List Lg}(hI:WInv k s ls)(hk:k≤4398046511104)(first n:Int):WInv (k+1) (formatR s first n).1 ls∧((formatR s first n).1.life==s.life)=refused (formatR s first n).2 (decide (s.left=0)):=by
 obtain ⟨h0,h1⟩:=hI.life
 by_cases ha:argsR s first n=0
 ·have g:=formatR_did ha
  have hz:=(argsR_ok ha).1
  have hp:=hI.room hz
  have gp:=g.pend
  refine ⟨(hI.die hk g.life g.len om_ (fun q=>by have:=g.room q;omega)).1, ?_⟩
  rw [g.life,inc_ok h0 om_,show (s.life+1==s.life)=false from by rw [beq_eq_false_iff_ne];omega,decide_eq_false hz]
  rcases g.err with e|e<;>rw [e]<;>rfl
 ·rw [formatR_no ha]
  exact ⟨hI.next,bad_lives (s:=s) (e:=argsR s first n) (t:=false) (.inl ⟨rfl,ha,rfl⟩) h0 om_⟩
theorem crash_inv {k:Nat}{s:Dsk}{ls:List Lg}(hI:WInv k s ls)(hk:k≤4398046511104)(ps:List Pick):WInv (k+1) (s.crashR ps) ls:=(hI.die hk (s':=s.crashR ps) rfl (crashR_len s ps) (Nat.zero_le _) (fun _=>Nat.zero_le _)).1
theorem take_inv {k:Nat}{s:Dsk}{ls:List Lg}(hI:WInv k s ls)(hk:k≤4398046511104):WInv (k+1) s.take ls:=(hI.die hk (s':=s.take) rfl rfl hI.pend hI.room).1
theorem w_step {F:Nat→Prop}{w0 w:World}{L:List Ast}{gw:Nat}{s:Dsk}{E:List LogE}(S:St F w0 w (WB gw s E::L)){kind a b:Int}{A A2:Option Addr}{d:List UInt8}{ps:List Pick}{cd cq:Nat}(hr:RoT F w0 L A d)(hrp:RoV F w0 L A2 (picksV ps))(hcap:d.length≤cd)(hdm:d.length≤140737488355328)(hpm:ps.length*24≤140737488355328)(ham:a≤9223372036854775807){k:Nat}(hI:WInv k s (E.map LogE.l))(hk:k≤4398046511104)(hE:E.length≤k):Calls Tryz.prog 14 #[.pointer (some ⟨gw,0,none⟩),.agg #[.int .i64 kind,.int .i64 a,.int .i64 b,.slice A d.length cd,.slice A2 ps.length cq]] w fun e w'=>e=.returned (.bool true)∧∃s' E',WInv (k+1) s' (E'.map LogE.l)∧E'.length≤k+1∧St F w0 w' (WB gw s' E'::L):=by
 obtain ⟨gd,gr,AP,cp,AK,ck,S⟩:=St.wopen S
 have hpn:=hI.pend
 change St F w0 w (row gw (eC_ gd gr AP cp AK ck E.length) 35::vec 60 1 (.slice AP E.length cp) E.length (E.map LogE.pv)::vec 91 1 (.slice AK E.length ck) E.length (E.map LogE.kv)::stars (E.map (LogE.pl gd))::stars (E.map (LogE.kl gr))::PW gd s::RW gr s::L) at S
 refine eN (fr [pq gw,.agg (oC_ kind a b A d.length cd A2 ps.length cq)] 117) Tryz.func14 rfl (sR (nB rfl (.agg (oC_ kind a b A d.length cd A2 ps.length cq)) S fun g1 w2 hg3 S4=>pv fv (wE (nS (sR (pv (pq g1) (lR (iv kind) S4 0 0 (wE (then_n (wp_block (sR (dE kind 1 (fun hb5=> ?_) fun hb5=> ?_))))))))))))
 ·refine pv tv (wE (nCT (sR (pv (pq gw) (pv (pq gw) (pv (pq gw) (lR (pq gd) S4 1 0 (sO Tryz.func18 #[pq gd] (pw_life S4 6 rfl) (pv (iv s.life) (wER (pv (pq gw) (pv (pq gw) (pv (po gw 1) ?_)))))))))))))
  refine lR (pq gr) S4 1 1 (g_ (gv_call (args:=#[pq gr]) rfl Tryz.func19 kr_ rfl rfl kr_ ?_))
  have S6:=St.pm 8 [7,0,1,2,3,4,5,6] S4
  refine Calls.mono (rw_burnt_b S6) ?_
  rintro _ w7 ⟨rfl,S8⟩
  refine ⟨_,rfl,(pv (.bool (decide (s.left=0))) (wE (nS (wp_region_phu (γ:=Unit) 9 [8] (fun (c_:Unit) (i_:Nat)=>(match i_ with|0=>pq gw|1=>pq gw|2=>pq gw|3=>pq gd|4=>po g1 1|5=>iv a|6=>po g1 2|7=>iv b|8=>iv ((formatR s a b).2)|_=>undef:Value)) (fun (c_:Unit) (p_:Nat) (w_:World)=>(match p_ with|0=>St F w0 w_ (RW gr s::row g1 (oC_ kind a b A d.length cd A2 ps.length cq) 39::row gw (eC_ gd gr AP cp AK ck E.length) 35::vec 60 1 (.slice AP E.length cp) E.length (E.map LogE.pv)::vec 91 1 (.slice AK E.length ck) E.length (E.map LogE.kv)::stars (E.map (LogE.pl gd))::stars (E.map (LogE.kl gr))::PW gd s::L)|_=>St F w0 w_ (PW gd (formatR s a b).1::RW gr s::row g1 (oC_ kind a b A d.length cd A2 ps.length cq) 39::row gw (eC_ gd gr AP cp AK ck E.length) 35::vec 60 1 (.slice AP E.length cp) E.length (E.map LogE.pv)::vec 91 1 (.slice AK E.length ck) E.length (E.map LogE.kv)::stars (E.map (LogE.pl gd))::stars (E.map (LogE.kl gr))::L):Prop)) () kr_ kr_ kr_ kr_ (S8.drew) ?_ ?_ ?_))))⟩
  ·intro i_ c_ p_ vals_ w1 hi_ hiE_ hp_ hk_ hu_ hPh_ hd_
   rcases i_ with _|_|_|_|_|_|_|_|_|i_
   ·exact tG_ rfl hd_ (gV (pq gw) ⟨rfl,rfl⟩)
   ·exact tG_ rfl hd_ (gV (pq gw) ⟨rfl,rfl⟩)
   ·exact tG_ rfl hd_ (gV (pq gw) ⟨rfl,rfl⟩)
   ·rcases p_ with _|_|p_
    ·have S12:=St.id hPh_
     exact tG_ rfl hd_ (gL (pq gd) rfl (((S12.blk 2 rfl).cell 0).trans rfl) ⟨rfl,rfl⟩)
    ·exact absurd (hu_ 0 dc_ kr_) dc_
    ·exact absurd hp_ (by simp)
   ·exact tG_ rfl hd_ (gV (po g1 1) ⟨rfl,rfl⟩)
   ·rcases p_ with _|_|p_
    ·have S14:=St.id hPh_
     exact tG_ rfl hd_ (gL (iv a) rfl (((S14.blk 1 rfl).cell 1).trans rfl) ⟨rfl,rfl⟩)
    ·exact absurd (hu_ 0 dc_ kr_) dc_
    ·exact absurd hp_ (by simp)
   ·exact tG_ rfl hd_ (gV (po g1 2) ⟨rfl,rfl⟩)
   ·rcases p_ with _|_|p_
    ·have S16:=St.id hPh_
     exact tG_ rfl hd_ (gL (iv b) rfl (((S16.blk 1 rfl).cell 2).trans rfl) ⟨rfl,rfl⟩)
    ·exact absurd (hu_ 0 dc_ kr_) dc_
    ·exact absurd hp_ (by simp)
   ·exact absurd hiE_ dc_
   ·exact absurd hi_ om_
  ·intro k_ c_ vals_ w1 hk_ hPh_ hd_
   rcases k_ with _|k_
   ·have S17:=St.id hPh_
    refine tG_ rfl hd_ (gv_call (args:=#[pq gd,iv a,iv b]) rfl Tryz.func20 kr_ rfl rfl kr_ ?_)
    have S18:=St.pm 8 [7,0,1,2,3,4,5,6] S17
    refine Calls.mono (w_format (first:=a) (n:=b) S18 om_) ?_
    rintro _ w19 ⟨rfl,S20⟩
    refine ⟨_,rfl,⟨(),rfl, ?_,S20⟩⟩
    intro i_ hi_ hne_ hdp_
    rcases i_ with _|_|_|_|_|_|_|_|_|i_
    ·rfl
    ·rfl
    ·rfl
    ·rfl
    ·rfl
    ·rfl
    ·rfl
    ·rfl
    ·exact absurd rfl hne_
    ·exact absurd hi_ om_
   ·exact absurd hk_ (by simp)
  ·intro c_ w1 hPh_
   have S21:=St.id hPh_
   refine (pv (iv ((formatR s a b).2)) (wE (nS (wp_region_phu (γ:=Unit) 9 [8] (fun (c2_:Unit) (i_:Nat)=>(match i_ with|0=>pq gw|1=>pq gw|2=>po gw 1|3=>pq gr|4=>po g1 1|5=>iv a|6=>po g1 2|7=>iv b|8=>iv ((formatR s a b).2)|_=>undef:Value)) (fun (c2_:Unit) (p_:Nat) (w_:World)=>(match p_ with|0=>St F w0 w_ (PW gd (formatR s a b).1::RW gr s::row g1 (oC_ kind a b A d.length cd A2 ps.length cq) 39::row gw (eC_ gd gr AP cp AK ck E.length) 35::vec 60 1 (.slice AP E.length cp) E.length (E.map LogE.pv)::vec 91 1 (.slice AK E.length ck) E.length (E.map LogE.kv)::stars (E.map (LogE.pl gd))::stars (E.map (LogE.kl gr))::L)|_=>St F w0 w_ (RW gr (formatR s a b).1::PW gd (formatR s a b).1::row g1 (oC_ kind a b A d.length cd A2 ps.length cq) 39::row gw (eC_ gd gr AP cp AK ck E.length) 35::vec 60 1 (.slice AP E.length cp) E.length (E.map LogE.pv)::vec 91 1 (.slice AK E.length ck) E.length (E.map LogE.kv)::stars (E.map (LogE.pl gd))::stars (E.map (LogE.kl gr))::L):Prop)) () kr_ kr_ kr_ kr_ (S21.drew) ?_ ?_ ?_))))
   ·intro i_ c2_ p_ vals_ w1 hi_ hiE_ hp_ hk_ hu_ hPh_ hd_
    rcases i_ with _|_|_|_|_|_|_|_|_|i_
    ·exact tG_ rfl hd_ (gV (pq gw) ⟨rfl,rfl⟩)
    ·exact tG_ rfl hd_ (gV (pq gw) ⟨rfl,rfl⟩)
    ·exact tG_ rfl hd_ (gV (po gw 1) ⟨rfl,rfl⟩)
    ·rcases p_ with _|_|p_
     ·have S25:=St.id hPh_
      exact tG_ rfl hd_ (gL (pq gr) rfl (((S25.blk 3 rfl).cell 1).trans rfl) ⟨rfl,rfl⟩)
     ·exact absurd (hu_ 0 dc_ kr_) dc_
     ·exact absurd hp_ (by simp)
    ·exact tG_ rfl hd_ (gV (po g1 1) ⟨rfl,rfl⟩)
    ·rcases p_ with _|_|p_
     ·have S27:=St.id hPh_
      exact tG_ rfl hd_ (gL (iv a) rfl (((S27.blk 2 rfl).cell 1).trans rfl) ⟨rfl,rfl⟩)
     ·exact absurd (hu_ 0 dc_ kr_) dc_
     ·exact absurd hp_ (by simp)
    ·exact tG_ rfl hd_ (gV (po g1 2) ⟨rfl,rfl⟩)
    ·rcases p_ with _|_|p_
     ·have S29:=St.id hPh_
      exact tG_ rfl hd_ (gL (iv b) rfl (((S29.blk 2 rfl).cell 2).trans rfl) ⟨rfl,rfl⟩)
     ·exact absurd (hu_ 0 dc_ kr_) dc_
     ·exact absurd hp_ (by simp)
    ·exact absurd hiE_ dc_
    ·exact absurd hi_ om_
   ·intro k_ c2_ vals_ w1 hk_ hPh_ hd_
    rcases k_ with _|k_
    ·have S30:=St.id hPh_
     refine tG_ rfl hd_ (gv_call (args:=#[pq gr,iv a,iv b]) rfl Tryz.func21 kr_ rfl rfl kr_ ?_)
     have S31:=St.pm 8 [1,0,2,3,4,5,6,7] S30
     refine Calls.mono (k_format (first:=a) (n:=b) S31 om_) ?_
     rintro _ w32 ⟨rfl,S33⟩
     refine ⟨_,rfl,⟨(),rfl, ?_,S33⟩⟩
     intro i_ hi_ hne_ hdp_
     rcases i_ with _|_|_|_|_|_|_|_|_|i_
     ·rfl
     ·rfl
     ·rfl
     ·rfl
     ·rfl
     ·rfl
     ·rfl
     ·rfl
     ·exact absurd rfl hne_
     ·exact absurd hi_ om_
    ·exact absurd hk_ (by simp)
   ·intro c2_ w1 hPh_
    have S34:=St.id hPh_
    refine (pv (iv ((formatR s a b).2)) (wE (nSR (pv (iv ((formatR s a b).2)) (pv (iv ((formatR s a b).2)) (dE ((formatR s a b).2) ((formatR s a b).2) (fun _=>pv tv (pW (pq gw) (pW (iv ((formatR s a b).2)) (pW (.bool (decide (s.left=0))) (pW (iv s.life) (wl_when kr_ (gv_call (args:=#[pq gw,iv ((formatR s a b).2),.bool (decide (s.left=0)),iv s.life]) rfl Tryz.func22 kr_ rfl rfl kr_ ?_))))))) fun hd35=>False.elim (hd35 rfl)))))))
    have S36:=St.pm 8 [3,1,0,2,4,5,6,7] S34
    refine Calls.mono (w_lives S36 (format_inv hI hk a b).2) ?_
    rintro _ w37 ⟨rfl,S38⟩
    refine ⟨_,rfl,(pv tv (pv tv (wE (then_n (wp_ret (inb_r (then_r (bA (.bool true) ?_))))))))⟩
    have S39:=St.pm 8 [0,4,5,6,7,1,2] S38
    exact ⟨rfl,(formatR s a b).1,E,(format_inv hI hk a b).1,by omega,(St.wclose (s:=(formatR s a b).1) (E:=E) S39)⟩
 ·refine pv fv (wE (nCF (sR (dE kind 2 (fun hb40=> ?_) fun hb40=> ?_))))
  ·refine pv tv (wE (nCT (sR (pv (pq gw) (g_ (gv_ldA (k:=0) (n:=5) (vs:=[iv kind,iv a,iv b,.slice A d.length cd,.slice A2 ps.length cq]) S4 0 rfl rfl kr_ kr_ rfl rfl (g_ (gv_call (args:=#[pq gw,.agg (oC_ kind a b A d.length cd A2 ps.length cq)]) rfl Tryz.func23 kr_ rfl rfl kr_ ?_))))))))
   have S41:=St.pm 8 [1,2,3,4,5,6,7,0] S4
   have S42:St F w0 w2 (WB gw s E::row g1 (oC_ kind a b A d.length cd A2 ps.length cq) 39::L):=St.wclose (s:=s) (E:=E) S41
   refine Calls.mono (w_opens S42 hI hk hE) ?_
   rintro _ w43 ⟨rfl,s2,E2,hi2,he2,S44⟩
   refine ⟨_,rfl,(pv tv (wE (then_n (wp_ret (inb_r (then_r (bA (.bool true) ?_)))))))⟩
   have S45:=St.pm 2 [0] S44
   exact ⟨rfl,s2,E2,hi2,he2,S45⟩
  ·refine pv fv (wE (nCF (sR (dE kind 9 (fun hb46=> ?_) fun hb46=> ?_))))
   ·refine pv tv (wE (nCT (wp_seq (wp_region_phu (γ:=Unit) 7 [6] (fun (c3_:Unit) (i_:Nat)=>(match i_ with|0=>pq gw|1=>pq gw|2=>pq gw|3=>pq gd|4=>po g1 1|5=>iv a|6=>.tuple #[]|_=>undef:Value)) (fun (c3_:Unit) (p_:Nat) (w_:World)=>(match p_ with|0=>St F w0 w_ (row g1 (oC_ kind a b A d.length cd A2 ps.length cq) 39::row gw (eC_ gd gr AP cp AK ck E.length) 35::vec 60 1 (.slice AP E.length cp) E.length (E.map LogE.pv)::vec 91 1 (.slice AK E.length ck) E.length (E.map LogE.kv)::stars (E.map (LogE.pl gd))::stars (E.map (LogE.kl gr))::PW gd s::RW gr s::L)|_=>St F w0 w_ (PW gd (s.fuseR a)::row g1 (oC_ kind a b A d.length cd A2 ps.length cq) 39::row gw (eC_ gd gr AP cp AK ck E.length) 35::vec 60 1 (.slice AP E.length cp) E.length (E.map LogE.pv)::vec 91 1 (.slice AK E.length ck) E.length (E.map LogE.kv)::stars (E.map (LogE.pl gd))::stars (E.map (LogE.kl gr))::RW gr s::L):Prop)) () kr_ kr_ kr_ kr_ (S4.drew) ?_ ?_ ?_))))
    ·intro i_ c3_ p_ vals_ w1 hi_ hiE_ hp_ hk_ hu_ hPh_ hd_
     rcases i_ with _|_|_|_|_|_|_|i_
     ·exact tG_ rfl hd_ (gV (pq gw) ⟨rfl,rfl⟩)
     ·exact tG_ rfl hd_ (gV (pq gw) ⟨rfl,rfl⟩)
     ·exact tG_ rfl hd_ (gV (pq gw) ⟨rfl,rfl⟩)
     ·rcases p_ with _|_|p_
      ·have S50:=St.id hPh_
       exact tG_ rfl hd_ (gL (pq gd) rfl (((S50.blk 1 rfl).cell 0).trans rfl) ⟨rfl,rfl⟩)
      ·exact absurd (hu_ 0 dc_ kr_) dc_
      ·exact absurd hp_ (by simp)
     ·exact tG_ rfl hd_ (gV (po g1 1) ⟨rfl,rfl⟩)
     ·rcases p_ with _|_|p_
      ·have S52:=St.id hPh_
       exact tG_ rfl hd_ (gL (iv a) rfl (((S52.blk 0 rfl).cell 1).trans rfl) ⟨rfl,rfl⟩)
      ·exact absurd (hu_ 0 dc_ kr_) dc_
      ·exact absurd hp_ (by simp)
     ·exact absurd hiE_ dc_
     ·exact absurd hi_ om_
    ·intro k_ c3_ vals_ w1 hk_ hPh_ hd_
     rcases k_ with _|k_
     ·have S53:=St.id hPh_
      refine tG_ rfl hd_ (gv_call (args:=#[pq gd,iv a]) rfl Tryz.func24 kr_ rfl rfl kr_ ?_)
      have S54:=St.pm 8 [6,0,1,2,3,4,5,7] S53
      refine Calls.mono (pw_fuse (n:=a) ham S54) ?_
      rintro _ w55 ⟨rfl,S56⟩
      refine ⟨_,rfl,⟨(),rfl, ?_,S56⟩⟩
      intro i_ hi_ hne_ hdp_
      rcases i_ with _|_|_|_|_|_|_|i_
      ·rfl
      ·rfl
      ·rfl
      ·rfl
      ·rfl
      ·rfl
      ·exact absurd rfl hne_
      ·exact absurd hi_ om_
     ·exact absurd hk_ (by simp)
    ·intro c3_ w1 hPh_
     have S57:=St.id hPh_
     refine (wE (nS (wp_region_phu (γ:=Unit) 7 [6] (fun (c4_:Unit) (i_:Nat)=>(match i_ with|0=>pq gw|1=>pq gw|2=>po gw 1|3=>pq gr|4=>po g1 1|5=>iv a|6=>.tuple #[]|_=>undef:Value)) (fun (c4_:Unit) (p_:Nat) (w_:World)=>(match p_ with|0=>St F w0 w_ (PW gd (s.fuseR a)::row g1 (oC_ kind a b A d.length cd A2 ps.length cq) 39::row gw (eC_ gd gr AP cp AK ck E.length) 35::vec 60 1 (.slice AP E.length cp) E.length (E.map LogE.pv)::vec 91 1 (.slice AK E.length ck) E.length (E.map LogE.kv)::stars (E.map (LogE.pl gd))::stars (E.map (LogE.kl gr))::RW gr s::L)|_=>St F w0 w_ (RW gr (s.fuseR a)::PW gd (s.fuseR a)::row g1 (oC_ kind a b A d.length cd A2 ps.length cq) 39::row gw (eC_ gd gr AP cp AK ck E.length) 35::vec 60 1 (.slice AP E.length cp) E.length (E.map LogE.pv)::vec 91 1 (.slice AK E.length ck) E.length (E.map LogE.kv)::stars (E.map (LogE.pl gd))::stars (E.map (LogE.kl gr))::L):Prop)) () kr_ kr_ kr_ kr_ (S57.drew) ?_ ?_ ?_)))
     ·intro i_ c4_ p_ vals_ w1 hi_ hiE_ hp_ hk_ hu_ hPh_ hd_
      rcases i_ with _|_|_|_|_|_|_|i_
      ·exact tG_ rfl hd_ (gV (pq gw) ⟨rfl,rfl⟩)
      ·exact tG_ rfl hd_ (gV (pq gw) ⟨rfl,rfl⟩)
      ·exact tG_ rfl hd_ (gV (po gw 1) ⟨rfl,rfl⟩)
      ·rcases p_ with _|_|p_
       ·have S61:=St.id hPh_
        exact tG_ rfl hd_ (gL (pq gr) rfl (((S61.blk 2 rfl).cell 1).trans rfl) ⟨rfl,rfl⟩)
       ·exact absurd (hu_ 0 dc_ kr_) dc_
       ·exact absurd hp_ (by simp)
      ·exact tG_ rfl hd_ (gV (po g1 1) ⟨rfl,rfl⟩)
      ·rcases p_ with _|_|p_
       ·have S63:=St.id hPh_
        exact tG_ rfl hd_ (gL (iv a) rfl (((S63.blk 1 rfl).cell 1).trans rfl) ⟨rfl,rfl⟩)
       ·exact absurd (hu_ 0 dc_ kr_) dc_
       ·exact absurd hp_ (by simp)
      ·exact absurd hiE_ dc_
      ·exact absurd hi_ om_
     ·intro k_ c4_ vals_ w1 hk_ hPh_ hd_
      rcases k_ with _|k_
      ·have S64:=St.id hPh_
       refine tG_ rfl hd_ (gv_call (args:=#[pq gr,iv a]) rfl Tryz.func25 kr_ rfl rfl kr_ ?_)
       have S65:=St.pm 8 [7,0,1,2,3,4,5,6] S64
       refine Calls.mono (rw_fuse (n:=a) ham S65) ?_
       rintro _ w66 ⟨rfl,S67⟩
       refine ⟨_,rfl,⟨(),rfl, ?_,S67⟩⟩
       intro i_ hi_ hne_ hdp_
       rcases i_ with _|_|_|_|_|_|_|i_
       ·rfl
       ·rfl
       ·rfl
       ·rfl
       ·rfl
       ·rfl
       ·exact absurd rfl hne_
       ·exact absurd hi_ om_
      ·exact absurd hk_ (by simp)
     ·intro c4_ w1 hPh_
      have S68:=St.id hPh_
      refine (wE (nSR (pv tv (wE (then_n (wp_ret (inb_r (then_r (bA (.bool true) ?_)))))))))
      have S69:=St.pm 8 [3,4,5,6,7,1,0] S68
      exact ⟨rfl,(s.fuseR a),E,hI.fuse a,by omega,(St.wclose (s:=(s.fuseR a)) (E:=E) S69)⟩
   ·refine pv fv (wE (nCF (sR (dE kind 10 (fun hb70=> ?_) fun hb70=> ?_))))
    ·refine pv tv (wE (nCT (wp_seq (wp_region_phu (γ:=Nat) 8 [6,7] (fun (c5_:Nat) (i_:Nat)=>(match i_ with|0=>pq gw|1=>pq gw|2=>pq gw|3=>pq gd|4=>po g1 4|5=>.slice A2 ps.length cq|6=>sl c5_ 0 ps.length ps.length|7=>.tuple #[]|_=>undef:Value)) (fun (c5_:Nat) (p_:Nat) (w_:World)=>(match p_ with|0=>St F w0 w_ (row g1 (oC_ kind a b A d.length cd A2 ps.length cq) 39::row gw (eC_ gd gr AP cp AK ck E.length) 35::vec 60 1 (.slice AP E.length cp) E.length (E.map LogE.pv)::vec 91 1 (.slice AK E.length ck) E.length (E.map LogE.kv)::stars (E.map (LogE.pl gd))::stars (E.map (LogE.kl gr))::PW gd s::RW gr s::L)|1=>St F w0 w_ (row c5_ ((picksV ps).toArray) 97::row g1 (oC_ kind a b A d.length cd A2 ps.length cq) 39::row gw (eC_ gd gr AP cp AK ck E.length) 35::vec 60 1 (.slice AP E.length cp) E.length (E.map LogE.pv)::vec 91 1 (.slice AK E.length ck) E.length (E.map LogE.kv)::stars (E.map (LogE.pl gd))::stars (E.map (LogE.kl gr))::PW gd s::RW gr s::L)|_=>St F w0 w_ (PW gd (s.crashR ps)::row c5_ ((picksV ps).toArray) 97::row g1 (oC_ kind a b A d.length cd A2 ps.length cq) 39::row gw (eC_ gd gr AP cp AK ck E.length) 35::vec 60 1 (.slice AP E.length cp) E.length (E.map LogE.pv)::vec 91 1 (.slice AK E.length ck) E.length (E.map LogE.kv)::stars (E.map (LogE.pl gd))::stars (E.map (LogE.kl gr))::RW gr s::L):Prop)) (0) kr_ kr_ kr_ kr_ (S4.drew) ?_ ?_ ?_))))
     ·intro i_ c5_ p_ vals_ w1 hi_ hiE_ hp_ hk_ hu_ hPh_ hd_
      rcases i_ with _|_|_|_|_|_|_|_|i_
      ·exact tG_ rfl hd_ (gV (pq gw) ⟨rfl,rfl⟩)
      ·exact tG_ rfl hd_ (gV (pq gw) ⟨rfl,rfl⟩)
      ·exact tG_ rfl hd_ (gV (pq gw) ⟨rfl,rfl⟩)
      ·rcases p_ with _|_|_|p_
       ·have S74:=St.id hPh_
        exact tG_ rfl hd_ (gL (pq gd) rfl (((S74.blk 1 rfl).cell 0).trans rfl) ⟨rfl,rfl⟩)
       ·have S75:=St.id hPh_
        exact tG_ rfl hd_ (gL (pq gd) rfl (((S75.blk 2 rfl).cell 0).trans rfl) ⟨rfl,rfl⟩)
       ·exact absurd (hu_ 1 dc_ kr_) dc_
       ·exact absurd hp_ (by simp)
      ·exact tG_ rfl hd_ (gV (po g1 4) ⟨rfl,rfl⟩)
      ·rcases p_ with _|_|_|p_
       ·have S77:=St.id hPh_
        exact tG_ rfl hd_ (gL (.slice A2 ps.length cq) rfl (((S77.blk 0 rfl).cell 4).trans rfl) ⟨rfl,rfl⟩)
       ·exact absurd (hu_ 0 dc_ kr_) dc_
       ·exact absurd (hu_ 0 dc_ kr_) dc_
       ·exact absurd hp_ (by simp)
      ·exact absurd hiE_ dc_
      ·exact absurd hiE_ dc_
      ·exact absurd hi_ om_
     ·intro k_ c5_ vals_ w1 hk_ hPh_ hd_
      rcases k_ with _|_|k_
      ·have S78:=St.id hPh_
       refine tG_ rfl hd_ (gv_call (args:=#[.slice A2 ps.length cq]) rfl Tryz.func27 kr_ rfl rfl kr_ (Calls.mono (tpicks (ps:=ps) S78 (RoV.app hrp [row g1 (oC_ kind a b A d.length cd A2 ps.length cq) 39,row gw (eC_ gd gr AP cp AK ck E.length) 35,vec 60 1 (.slice AP E.length cp) E.length (E.map LogE.pv),vec 91 1 (.slice AK E.length ck) E.length (E.map LogE.kv),stars (E.map (LogE.pl gd)),stars (E.map (LogE.kl gr)),PW gd s,RW gr s]) hpm) ?_))
       rintro _ w80 ⟨g79,rfl,S81⟩
       refine ⟨_,rfl,⟨(g79),rfl, ?_,S81⟩⟩
       intro i_ hi_ hne_ hdp_
       rcases i_ with _|_|_|_|_|_|_|_|i_
       ·rfl
       ·rfl
       ·rfl
       ·rfl
       ·rfl
       ·rfl
       ·exact absurd rfl hne_
       ·exact dN_ hdp_
       ·exact absurd hi_ om_
      ·have S82:=St.id hPh_
       refine tG_ rfl hd_ (gv_call (args:=#[pq gd,sl c5_ 0 ps.length ps.length]) rfl Tryz.func26 kr_ rfl rfl kr_ ?_)
       have S83:=St.pm 9 [7,0,1,2,3,4,5,6,8] S82
       refine Calls.mono (pw_crash (ps:=ps) S83 (RoV.item 0 rfl) rfl om_) ?_
       rintro _ w84 ⟨rfl,S85⟩
       refine ⟨_,rfl,⟨(c5_),rfl, ?_,S85⟩⟩
       intro i_ hi_ hne_ hdp_
       rcases i_ with _|_|_|_|_|_|_|_|i_
       ·rfl
       ·rfl
       ·rfl
       ·rfl
       ·rfl
       ·rfl
       ·rfl
       ·exact absurd rfl hne_
       ·exact absurd hi_ om_
      ·exact absurd hk_ (by simp)
     ·intro c5_ w1 hPh_
      have S86:=St.id hPh_
      refine (wE (nS (wp_region_phu (γ:=Unit) 7 [6] (fun (c6_:Unit) (i_:Nat)=>(match i_ with|0=>pq gw|1=>pq gw|2=>po gw 1|3=>pq gr|4=>po g1 4|5=>.slice A2 ps.length cq|6=>.tuple #[]|_=>undef:Value)) (fun (c6_:Unit) (p_:Nat) (w_:World)=>(match p_ with|0=>St F w0 w_ (PW gd (s.crashR ps)::row c5_ ((picksV ps).toArray) 97::row g1 (oC_ kind a b A d.length cd A2 ps.length cq) 39::row gw (eC_ gd gr AP cp AK ck E.length) 35::vec 60 1 (.slice AP E.length cp) E.length (E.map LogE.pv)::vec 91 1 (.slice AK E.length ck) E.length (E.map LogE.kv)::stars (E.map (LogE.pl gd))::stars (E.map (LogE.kl gr))::RW gr s::L)|_=>St F w0 w_ (RW gr (s.crashR ps)::PW gd (s.crashR ps)::row c5_ ((picksV ps).toArray) 97::row g1 (oC_ kind a b A d.length cd A2 ps.length cq) 39::row gw (eC_ gd gr AP cp AK ck E.length) 35::vec 60 1 (.slice AP E.length cp) E.length (E.map LogE.pv)::vec 91 1 (.slice AK E.length ck) E.length (E.map LogE.kv)::stars (E.map (LogE.pl gd))::stars (E.map (LogE.kl gr))::L):Prop)) () kr_ kr_ kr_ kr_ (S86.drew) ?_ ?_ ?_)))
      ·intro i_ c6_ p_ vals_ w1 hi_ hiE_ hp_ hk_ hu_ hPh_ hd_
       rcases i_ with _|_|_|_|_|_|_|i_
       ·exact tG_ rfl hd_ (gV (pq gw) ⟨rfl,rfl⟩)
       ·exact tG_ rfl hd_ (gV (pq gw) ⟨rfl,rfl⟩)
       ·exact tG_ rfl hd_ (gV (po gw 1) ⟨rfl,rfl⟩)
       ·rcases p_ with _|_|p_
        ·have S90:=St.id hPh_
         exact tG_ rfl hd_ (gL (pq gr) rfl (((S90.blk 3 rfl).cell 1).trans rfl) ⟨rfl,rfl⟩)
        ·exact absurd (hu_ 0 dc_ kr_) dc_
        ·exact absurd hp_ (by simp)
       ·exact tG_ rfl hd_ (gV (po g1 4) ⟨rfl,rfl⟩)
       ·rcases p_ with _|_|p_
        ·have S92:=St.id hPh_
         exact tG_ rfl hd_ (gL (.slice A2 ps.length cq) rfl (((S92.blk 2 rfl).cell 4).trans rfl) ⟨rfl,rfl⟩)
        ·exact absurd (hu_ 0 dc_ kr_) dc_
        ·exact absurd hp_ (by simp)
       ·exact absurd hiE_ dc_
       ·exact absurd hi_ om_
      ·intro k_ c6_ vals_ w1 hk_ hPh_ hd_
       rcases k_ with _|k_
       ·have S93:=St.id hPh_
        refine tG_ rfl hd_ (gv_call (args:=#[pq gr,.slice A2 ps.length cq]) rfl Tryz.func28 kr_ rfl rfl kr_ ?_)
        have S94:=St.pm 9 [8,0,1,2,3,4,5,6,7] S93
        refine Calls.mono (rw_crash (ps:=ps) S94 (RoV.app hrp [PW gd (s.crashR ps),row c5_ ((picksV ps).toArray) 97,row g1 (oC_ kind a b A d.length cd A2 ps.length cq) 39,row gw (eC_ gd gr AP cp AK ck E.length) 35,vec 60 1 (.slice AP E.length cp) E.length (E.map LogE.pv),vec 91 1 (.slice AK E.length ck) E.length (E.map LogE.kv),stars (E.map (LogE.pl gd)),stars (E.map (LogE.kl gr))]) rfl om_ om_) ?_
        rintro _ w95 ⟨rfl,S96⟩
        refine ⟨_,rfl,⟨(),rfl, ?_,S96⟩⟩
        intro i_ hi_ hne_ hdp_
        rcases i_ with _|_|_|_|_|_|_|i_
        ·rfl
        ·rfl
        ·rfl
        ·rfl
        ·rfl
        ·rfl
        ·exact absurd rfl hne_
        ·exact absurd hi_ om_
       ·exact absurd hk_ (by simp)
      ·intro c6_ w1 hPh_
       have S97:=St.id hPh_
       refine (wE (nSR (pv tv (wE (then_n (wp_ret (inb_r (then_r (bA (.bool true) ?_)))))))))
       have S98:=St.pm 9 [4,5,6,7,8,1,0] S97
       exact ⟨rfl,(s.crashR ps),E,crash_inv hI hk ps,by omega,(St.wclose (s:=(s.crashR ps)) (E:=E) S98)⟩
    ·refine pv fv (wE (nCF (sR (dE kind 11 (fun hb99=> ?_) fun hb99=> ?_))))
     ·refine pv tv (wE (nCT (sR (pv (pq gw) (pv (pq gw) (pv (pq gw) (lR (pq gd) S4 1 0 (sO Tryz.func18 #[pq gd] (pw_life S4 6 rfl) (pv (iv s.life) (wER (pv (pq gw) (pv (pq gw) (pv (pq gw) ?_)))))))))))))
      refine lR (pq gd) S4 1 0 (g_ (gv_call (args:=#[pq gd]) rfl Tryz.func29 kr_ rfl rfl kr_ ?_))
      have S100:=St.pm 8 [6,0,1,2,3,4,5,7] S4
      refine Calls.mono (pw_take S100) ?_
      rintro _ w101 ⟨rfl,S102⟩
      refine ⟨_,rfl,(pv (iv (inc s.life)) (wER (pv (pq gw) (pv (pq gw) (pv (po gw 1) (lR (pq gr) S102 2 1 (g_ (gv_call (args:=#[pq gr]) rfl Tryz.func30 kr_ rfl rfl kr_ ?_))))))))⟩
      have S103:=St.pm 8 [7,0,1,2,3,4,5,6] S102
      refine Calls.mono (rw_take S103) ?_
      rintro _ w104 ⟨rfl,S105⟩
      refine ⟨_,rfl,(wER (pv (iv (inc s.life)) (pv (iv s.life) (pv (iv (inc s.life)) (dE (inc s.life) (inc s.life) (fun _=>pv tv (wE (then_n (wp_ret (inb_r (then_r (bA (.bool true) ?_))))))) fun hd106=>False.elim (hd106 rfl))))))⟩
      have S107:=St.pm 8 [3,4,5,6,7,1,0] S105
      exact ⟨rfl,s.take,E,take_inv hI hk,by omega,(St.wclose (s:=s.take) (E:=E) S107)⟩
     ·refine pv fv (wE (nCF (sR (dE kind 12 (fun hb108=> ?_) fun hb108=> ?_))))
      ·refine pv tv (wE (nCT (sR (pv (pq gw) (g_ (gv_call (args:=#[pq gw]) rfl Tryz.func15 kr_ rfl rfl kr_ ?_))))))
       have S109:=St.pm 8 [1,2,3,4,5,6,7,0] S4
       have S110:St F w0 w2 (WB gw s E::row g1 (oC_ kind a b A d.length cd A2 ps.length cq) 39::L):=St.wclose (s:=s) (E:=E) S109
       refine Calls.mono (w_looks S110) ?_
       rintro _ w111 ⟨rfl,S112⟩
       refine ⟨_,rfl,(pv tv (wE (then_n (wp_ret (inb_r (then_r (bA (.bool true) ?_)))))))⟩
       have S113:=St.pm 2 [0] S112
       exact ⟨rfl,s,E,hI.next,by omega,S113⟩
      ·refine pv fv (wE (nCF (wp_skip (inb_n (nSR (pv (pq gw) (g_ (gv_ldA (k:=0) (n:=5) (vs:=[iv kind,iv a,iv b,.slice A d.length cd,.slice A2 ps.length cq]) S4 0 rfl rfl kr_ kr_ rfl rfl (g_ (gv_call (args:=#[pq gw,.agg (oC_ kind a b A d.length cd A2 ps.length cq)]) rfl Tryz.func31 kr_ rfl rfl kr_ ?_))))))))))
       have S114:=St.pm 8 [1,2,3,4,5,6,7,0] S4
       have S115:St F w0 w2 (WB gw s E::row g1 (oC_ kind a b A d.length cd A2 ps.length cq) 39::L):=St.wclose (s:=s) (E:=E) S114
       refine Calls.mono (w_onLog S115 (RoT.app hr [row g1 (oC_ kind a b A d.length cd A2 ps.length cq) 39]) hcap hdm ham hI hk hE) ?_
       rintro _ w116 ⟨rfl,s2,E2,hi2,he2,S117⟩
       refine ⟨_,rfl,(pv tv (wE (then_n (wp_ret (bA (.bool true) ?_)))))⟩
       have S118:=St.pm 2 [0] S117
       exact ⟨rfl,s2,E2,hi2,he2,S118⟩
theorem St.wnew {F:Nat→Prop}{w0 w:World}{L:List Ast}{gw gd gr:Nat}{s:Dsk}(S:St F w0 w (row gw #[.pointer (some ⟨gd,0,none⟩),.pointer (some ⟨gr,0,none⟩),.slice none 0 0,.slice none 0 0] 35::PDisk gd s::RDisk gr s::L)):St F w0 w (WB gw s []::L):=by
 refine St.wclose (gd:=gd) (gr:=gr) (AP:=none) (cp:=0) (AK:=none) (ck:=0) ?_
 have S1:=St.permT [_,_,_] [1,2,0] dc_ rfl S
 have S2:=St.permT [_,_,_] [1,2,0] dc_ rfl (St.pw0 S1)
 have S3:=St.permT [_,_,_] [1,2,0] dc_ rfl (St.rw0 S2)
 have S4:=St.star_nil (St.star_nil (St.vec_nil (e:=91) (sz:=1) (St.vec_nil (e:=60) (sz:=1) S3)))
 exact St.permT [_,_,_,_,_,_,_] [4,3,2,1,0,5,6] dc_ rfl S4
theorem w_begin {F:Nat→Prop}{w0 w:World}{L:List Ast}{A:Option Addr}{l:List UInt8}{ca:Nat}(S:St F w0 w L)(hr:RoT F w0 L A l)(hlm:l.length≤140737488351232)(hca:l.length≤ca)(n:Int):Calls Tryz.prog 13 #[.int .i64 n,.slice A l.length ca] w fun e w'=>∃gw,e=.returned (.tuple #[.pointer (some ⟨gw,0,none⟩),.bool true])∧(St F w0 w' (row gw #[.pointer none,.pointer none,.slice none 0 0,.slice none 0 0] 35::L)∨∃s,s.pend=[]∧s.life=1∧St F w0 w' (WB gw s []::L)):=by
 refine eN (fr [iv n,.slice A l.length ca] 19) Tryz.func13 rfl (sR (pv pn (pv fv (wER (pv (iv n) (pv (.slice A l.length ca) (g_ (gv_call (args:=#[iv n,.slice A l.length ca]) rfl Tryz.func17 kr_ rfl rfl kr_ (Calls.mono (begin_all S hr hlm hca n) ?_)))))))))
 rintro _ w1 (⟨rfl,S2⟩|⟨gd,gr,s,rfl,hsp,hsl,S2⟩)
 ·refine ⟨_,rfl,(pv (.tuple #[pn,pn,tv]) (pv pn (pv pn (pv tv (pv pn (pv pn (pv tv (wER (pv pn (pv pn (pv (.agg #[pn,pn,nS_,nS_]) (nB rfl (.agg #[pn,pn,nS_,nS_]) S2 fun g3 w4 hg5 S6=>pv tv ?_))))))))))))⟩
  exact pv (pq g3) (pv tv (wE (then_n (wp_ret (bB (pq g3) (.bool true) ⟨_,rfl,.inl S6⟩)))))
 ·refine ⟨_,rfl,(pv (.tuple #[pq gd,pq gr,tv]) (pv (pq gd) (pv (pq gr) (pv tv (pv (pq gd) (pv (pq gr) (pv tv (wER (pv (pq gd) (pv (pq gr) (pv (.agg #[pq gd,pq gr,nS_,nS_]) (nB rfl (.agg #[pq gd,pq gr,nS_,nS_]) S2 fun g7 w8 hg9 S10=>pv tv ?_))))))))))))⟩
  exact pv (pq g7) (pv tv (wE (then_n (wp_ret (bB (pq g7) (.bool true) ⟨_,rfl,.inr ⟨s,hsp,hsl,St.wnew S10⟩⟩)))))
structure OpE where
 kind:Int
 a:Int
 b:Int
 A:Option Addr
 d:List UInt8
 cd:Nat
 A2:Option Addr
 ps:List Pick
 cq:Nat
def OpE.cells (o:OpE):List Value:=[.int .i64 o.kind,.int .i64 o.a,.int .i64 o.b,.slice o.A o.d.length o.cd,.slice o.A2 o.ps.length o.cq]
def opeV (l:List OpE):List Value:=l.flatMap OpE.cells
theorem length_opeV (l:List OpE):(opeV l).length=l.length*5:=by
 induction l with
 |nil=>rfl
 |cons p r ih=>simp [opeV,OpE.cells] at ih ⊢;omega
theorem opeV_at:∀(l:List OpE) (i:Nat) (p:OpE),l[i]?=some p→∀j u,p.cells[j]?=some u→(opeV l)[i*5+j]?=some u
 |[],i,p,h,_,_,_=>by simp at h
 |q::r,0,p,h,j,u,hu=>by
  simp at h;subst h
  have:=(List.getElem?_eq_some_iff.1 hu).1
  show ((q.cells++opeV r))[0*5+j]?=some u
  rw [List.getElem?_append_left om_];simpa using hu
 |q::r,i+1,p,h,j,u,hu=>by
  have ih:=opeV_at r i p (by simpa using h) j u hu
  show ((q.cells++opeV r))[(i+1)*5+j]?=some u
  rw [List.getElem?_append_right (by simp [OpE.cells];omega)]
  simpa [OpE.cells,show (i+1)*5+j-5=i*5+j from by omega] using ih
structure OpE.Ok (w:World)(o:OpE):Prop where
 d:RdB w o.A o.d
 p:RdV w o.A2 (picksV o.ps)
 cap:o.d.length≤o.cd
 dm:o.d.length≤140737488355328
 pm:o.ps.length*24≤140737488355328
 ha:o.a≤9223372036854775807
theorem walApart_all (w:World){A3 A4:Option Addr}{c3 c4:Nat}{ops:List OpE}{zs:List Int}(n n2:Int)(hs:RdV w A3 (opeV ops))(hsm:ops.length≤2199023255552)(hok:∀o∈ops,o.Ok w)(hz:RdV w A4 (zs.map (Value.int .i64)))(hzm:zs.length≤9223372036854775807):Calls Tryz.prog 4 #[.int .i64 n,.int .i64 n2,.slice A3 ops.length c3,.slice A4 zs.length c4] w fun e w'=>e=.returned (.bool true)∧Below w.heap.size w w':=by
 have S0:St none' w w []:=St.init none' w
 refine eN (fr [iv n,iv n2,.slice A3 ops.length c3,.slice A4 zs.length c4] 79) Tryz.func4 rfl (sR (pv fv (wER (pv (iv n) (g_ (gv_call (args:=#[iv n,nS_]) rfl Tryz.func13 kr_ rfl rfl kr_ (Calls.mono (w_begin S0 (A:=none) (l:=[]) (ca:=0) RoT.nil (Nat.zero_le _) (Nat.le_refl _) n) ?_)))))))
 rintro _ w1 ⟨gw,rfl,(S2|⟨s,hsp,hsl,S2⟩)⟩
 ·refine ⟨_,rfl,(pv (.tuple #[pq gw,tv]) (pv (pq gw) (pv tv (pv (pq gw) (pv tv (wE (nS (sR (pv tv (pv fv (wE (nCF (wp_skip ?_)))))))))))))⟩
  refine nSR (pv (iv n2) (g_ (gv_call (args:=#[iv n2,nS_]) rfl Tryz.func13 kr_ rfl rfl kr_ (Calls.mono (w_begin S2 (A:=none) (l:=[]) (ca:=0) RoT.nil (Nat.zero_le _) (Nat.le_refl _) n2) ?_))))
  rintro _ w3 ⟨gwb,rfl,(S4|⟨sb,hsbp,hsbl,S4⟩)⟩
  ·refine ⟨_,rfl,(pv (.tuple #[pq gwb,tv]) (pv (pq gwb) (pv tv (pv (pq gwb) (pv tv (wE (nS (sR (pv tv (pv fv (wE (nCF (wp_skip ?_)))))))))))))⟩
   refine nS (sR (pv (pq gw) (pv (pq gw) (pv (pq gw) (lR pn S4 1 0 (pv tv (pv tv (wN (wN (wN (wN (wN (pv tv ?_)))))))))))))
   exact wE (nCT (sR (pv tv (wE (then_n (rR (bA (.bool true) ⟨rfl,S4.fr.below⟩)))))))
  ·refine ⟨_,rfl, ?_⟩
   obtain ⟨gdb,grb,APb,cpb,AKb,ckb,S5⟩:=St.wopen S4
   change St none' w w3 [row gwb #[pq gdb,pq grb,.slice APb (([]:List LogE).length) cpb,.slice AKb (([]:List LogE).length) ckb] 35,vec 60 1 (.slice APb (([]:List LogE).length) cpb) (([]:List LogE).length) (([]:List LogE).map LogE.pv),vec 91 1 (.slice AKb (([]:List LogE).length) ckb) (([]:List LogE).length) (([]:List LogE).map LogE.kv),stars (([]:List LogE).map (LogE.pl gdb)),stars (([]:List LogE).map (LogE.kl grb)),PW gdb sb,RW grb sb,row gw #[pn,pn,nS_,nS_] 35] at S5
   refine pv (.tuple #[pq gwb,tv]) (pv (pq gwb) (pv tv (pv (pq gwb) (pv tv (wE (nS (sR (pv tv (pv fv (wE (nCF (wp_skip (nS ?_)))))))))))))
   refine sR (pv (pq gw) (pv (pq gw) (pv (pq gw) (lR pn S5 7 0 (pv tv (pv tv (wN (wN (wN (wN (wN (pv tv (wE ?_)))))))))))))
   exact nCT (sR (pv tv (wE (then_n (rR (bA (.bool true) ⟨rfl,S5.fr.below⟩))))))
 ·refine ⟨_,rfl, ?_⟩
  obtain ⟨gd,gr,AP,cp,AK,ck,S6⟩:=St.wopen S2
  change St none' w w1 [row gw #[pq gd,pq gr,.slice AP (([]:List LogE).length) cp,.slice AK (([]:List LogE).length) ck] 35,vec 60 1 (.slice AP (([]:List LogE).length) cp) (([]:List LogE).length) (([]:List LogE).map LogE.pv),vec 91 1 (.slice AK (([]:List LogE).length) ck) (([]:List LogE).length) (([]:List LogE).map LogE.kv),stars (([]:List LogE).map (LogE.pl gd)),stars (([]:List LogE).map (LogE.kl gr)),PW gd s,RW gr s] at S6
  refine pv (.tuple #[pq gw,tv]) (pv (pq gw) (pv tv (pv (pq gw) (pv tv (wE (nS (sR (pv tv (pv fv (wE (nCF (wp_skip (nSR ?_)))))))))))))
  refine pv (iv n2) (g_ (gv_call (args:=#[iv n2,nS_]) rfl Tryz.func13 kr_ rfl rfl kr_ (Calls.mono (w_begin S6 (A:=none) (l:=[]) (ca:=0) RoT.nil (Nat.zero_le _) (Nat.le_refl _) n2) ?_)))
  rintro _ w7 ⟨gwb,rfl,(S8|⟨sb,hsbp,hsbl,S8⟩)⟩
  ·refine ⟨_,rfl,(pv (.tuple #[pq gwb,tv]) (pv (pq gwb) (pv tv (pv (pq gwb) (pv tv (wE (nS (sR (pv tv (pv fv (wE (nCF (wp_skip ?_)))))))))))))⟩
   refine nS (sR (pv (pq gw) (pv (pq gw) (pv (pq gw) (lR (pq gd) S8 1 0 (pv fv (pv fv (pW (pq gwb) (pW (pq gwb) (pW (pq gwb) (wl_when kr_ (gv_ldR (v:=pn) rfl kr_ kr_ (((S8.blk 0 rfl).cell 0).trans rfl) (pW (.bool true) (pv tv ?_))))))))))))))
   exact wE (nCT (sR (pv tv (wE (then_n (rR (bA (.bool true) ⟨rfl,S8.fr.below⟩)))))))
  ·refine ⟨_,rfl, ?_⟩
   obtain ⟨gdb,grb,APb,cpb,AKb,ckb,S9⟩:=St.wopen S8
   change St none' w w7 [row gwb #[pq gdb,pq grb,.slice APb (([]:List LogE).length) cpb,.slice AKb (([]:List LogE).length) ckb] 35,vec 60 1 (.slice APb (([]:List LogE).length) cpb) (([]:List LogE).length) (([]:List LogE).map LogE.pv),vec 91 1 (.slice AKb (([]:List LogE).length) ckb) (([]:List LogE).length) (([]:List LogE).map LogE.kv),stars (([]:List LogE).map (LogE.pl gdb)),stars (([]:List LogE).map (LogE.kl grb)),PW gdb sb,RW grb sb,row gw #[pq gd,pq gr,.slice AP (([]:List LogE).length) cp,.slice AK (([]:List LogE).length) ck] 35,vec 60 1 (.slice AP (([]:List LogE).length) cp) (([]:List LogE).length) (([]:List LogE).map LogE.pv),vec 91 1 (.slice AK (([]:List LogE).length) ck) (([]:List LogE).length) (([]:List LogE).map LogE.kv),stars (([]:List LogE).map (LogE.pl gd)),stars (([]:List LogE).map (LogE.kl gr)),PW gd s,RW gr s] at S9
   refine pv (.tuple #[pq gwb,tv]) (pv (pq gwb) (pv tv (pv (pq gwb) (pv tv (wE (nS (sR (pv tv (pv fv (wE (nCF (wp_skip (nS ?_)))))))))))))
   refine sR (pv (pq gw) (pv (pq gw) (pv (pq gw) (lR (pq gd) S9 7 0 (pv fv (pv fv (pW (pq gwb) (pW (pq gwb) (pW (pq gwb) (wl_when kr_ (gv_ldR (v:=pq gdb) rfl kr_ kr_ (((S9.blk 0 rfl).cell 0).trans rfl) (pW (.bool false) (pv fv (wE ?_))))))))))))))
   refine nCF (wp_skip (nS (sR (pv (iv 0) (wE (then_n (wp_block ?_)))))))
   have S10:=St.pm 14 [7,8,9,10,11,12,13,0,1,2,3,4,5,6] S9
   have S11:St none' w w7 [WB gw s [],row gwb #[pq gdb,pq grb,.slice APb (([]:List LogE).length) cpb,.slice AKb (([]:List LogE).length) ckb] 35,vec 60 1 (.slice APb (([]:List LogE).length) cpb) (([]:List LogE).length) (([]:List LogE).map LogE.pv),vec 91 1 (.slice AKb (([]:List LogE).length) ckb) (([]:List LogE).length) (([]:List LogE).map LogE.kv),stars (([]:List LogE).map (LogE.pl gdb)),stars (([]:List LogE).map (LogE.kl grb)),PW gdb sb,RW grb sb]:=St.wclose (s:=s) (E:=[]) S10
   have S12:=St.pm 8 [1,2,3,4,5,6,7,0] S11
   have S13:St none' w w7 [WB gwb sb [],WB gw s []]:=St.wclose (s:=sb) (E:=[]) S12
   have S14:=St.pm 2 [1,0] S13
   refine wp_loop_g (G:=Nat×Dsk×List LogE×Dsk×List LogE) (fun (g_:Nat×Dsk×List LogE×Dsk×List LogE) (a_:Act) (w_:World)=>∃J:Nat→Value,a_=(fr ([iv n,iv n2,.slice A3 ops.length c3,.slice A4 zs.length c4,ud,ud,ud,ud,J 8,pq gw,tv,pq gwb,tv,nI_ g_.1,J 14,J 15,.tuple #[pq gw,tv],iv n,.tuple #[pq gw,tv],pq gw,tv,tv,fv,.tuple #[pq gwb,tv],iv n2,.tuple #[pq gwb,tv],pq gwb,tv,tv,fv,pq gw,pq gw,pq gw,pq gd,fv,fv,pq gwb,pq gwb,pq gwb,pq gdb,fv,fv]++jR J 42 35) 6)∧St none' w w_ [WB gw g_.2.1 g_.2.2.1,WB gwb g_.2.2.2.1 g_.2.2.2.2]∧(g_.1≤ops.length∧WInv g_.1 g_.2.1 (g_.2.2.1.map LogE.l)∧g_.2.2.1.length≤g_.1∧WInv g_.1 g_.2.2.2.1 (g_.2.2.2.2.map LogE.l)∧g_.2.2.2.2.length≤g_.1)) (fun g_=>ops.length-g_.1) (0,s,[],sb,[]) (jE_ ⟨S14,⟨Nat.zero_le _,WInv.start hsp hsl,Nat.le_refl _,WInv.start hsbp hsbl,Nat.le_refl _⟩⟩) ?_
   rintro ⟨i,s1,E1,t1,D1⟩ a_ w15 ⟨J,rfl,S16,⟨hI1,hI2,hI3,hI4,hI5⟩⟩
   skip
   have S16:St none' w w15 [WB gw s1 E1,WB gwb t1 D1]:=S16
   refine wp_seq (sR (pv (nI_ i) (pv (.slice A3 ops.length c3) (pv (iv (ops.length:Nat)) (dC ((((i:Nat):Int):Int)<(ops.length:Nat)) (fun hb18=> ?_) fun hb18=> ?_)))))
   ·have hi:i<ops.length:=by omega
    obtain ⟨o,ho⟩:∃o,ops[i]?=some o:=⟨_,List.getElem?_eq_getElem hi⟩
    have hk:=hok o (List.mem_of_getElem? ho)
    obtain ⟨ad,hAd,hrs⟩:=(RoV.of_rd hs []).out w15 _ (show St none' w w15 ([WB gw s1 E1,WB gwb t1 D1]++[]) from S16) (by rw [length_opeV];omega)
    have hrq:RdV w15 (some ad) (opeV ops):=fun _=>⟨ad,rfl,hrs⟩
    refine wE (nCT (wp_skip (nS (wp_block (sR (pv (.slice A4 zs.length c4) (pv (iv (zs.length:Nat)) (dC (((zs.length:Nat):Int)>0) (fun hb19=> ?_) fun hb19=> ?_))))))))
    ·have hz0:0<zs.length:=by omega
     have hn1:zs.length=zs.length-1+1:=by omega
     have hzi:i%zs.length<zs.length:=Nat.mod_lt _ hz0
     obtain ⟨z,hzz⟩:∃z,zs[i%zs.length]?=some z:=⟨_,List.getElem?_eq_getElem hzi⟩
     obtain ⟨ad4,hAd4,hr4⟩:=(RoV.of_rd hz []).out w15 _ (show St none' w w15 ([WB gw s1 E1,WB gwb t1 D1]++[]) from S16) (by rw [List.length_map];omega)
     refine pv tv (pW (.slice A4 zs.length c4) (pW (nI_ i) (pW (.slice A4 zs.length c4) (pW (iv (zs.length:Nat)) (wl_when kr_ (gv_int (k:=.i64) (z:=Int.tmod ((i:Nat):Int) (zs.length:Nat)) (z':=((i%zs.length:Nat):Int)) (by rw [hn1];kernel_rfl) (tmod_nat' rfl rfl) (wl_when kr_ (gv_ixB (e:=3) (sz:=1) (n:=zs.length) (c:=c4) (i:=((i%zs.length:Nat):Int)) (k:=.i64) (ad:=ad4) (ad':=(ad4.add (i%zs.length))) (j:=(i%zs.length)) rfl kr_ kr_ (by rw [←hAd4];kernel_rfl) kr_ rfl om_ (by rw [Nat.mul_one]) (wl_when kr_ (gv_ldR (v:=iv z) rfl kr_ kr_ (hr4 (i%zs.length) _ (by rw [List.getElem?_map,hzz];rfl)) ?_))))))))))
     refine wl_when kr_ (gv_int (k:=.i64) (z:=Int.tmod z 2) (z':=Int.tmod z 2) kr_ rfl (wl_when kr_ (gv_ne (x:=(Int.tmod z 2)) (y:=0) kr_ (fun hb20=> ?_) (fun hb20=> ?_))))
     ·refine pv tv (pv tv (wE (nSR (pv fv (wE (nS (sR (pv tv (wE (nCT (wp_region_lit (pv (pq gwb) (pv (.slice A3 ops.length c3) ?_)))))))))))))
      refine pv (nI_ i) (g_ (gv_ixB (e:=39) (sz:=5) (n:=ops.length) (c:=c3) (i:=((i:Nat):Int)) (k:=.i64) (ad:=ad) (ad':=(ad.add (i*5))) (j:=i) rfl kr_ kr_ (by rw [←hAd];kernel_rfl) kr_ rfl om_ rfl (g_ (gv_ldRA (ad:=ad.add (i*5)) (vs:=[iv o.kind,iv o.a,iv o.b,.slice o.A o.d.length o.cd,.slice o.A2 o.ps.length o.cq]) (n:=5) rfl kr_ kr_ rfl (RoV.cells hrq (i*5) (fun j u hu=>opeV_at ops _ _ ho j u hu) (Nat.succ_pos _)) (g_ (gv_call (args:=#[pq gwb,.agg #[iv o.kind,iv o.a,iv o.b,.slice o.A o.d.length o.cd,.slice o.A2 o.ps.length o.cq]]) rfl Tryz.func14 kr_ rfl rfl kr_ ?_))))))
      have S21:=St.pm 2 [1,0] S16
      refine Calls.mono (w_step S21 (Ro.of_C hk.d (fun _ h=>h)).T (RoV.of_rd hk.p _) hk.cap hk.dm hk.pm hk.ha hI4 om_ hI5) ?_
      rintro _ w22 ⟨rfl,d24,E25,hi26,he27,S23⟩
      refine ⟨_,rfl,(pv tv (wER (pv tv (pv fv (wE (nCF (wp_skip (inb_n (nR (pv (nI_ i) (gI .i64 (IntKind.i64.wrap (((i:Nat):Int)+1)) ((i+1:Nat):Int) wq_ (pv (nI_ (i+1)) (wE ?_)))))))))))))⟩
      refine then_n ?_
      have S28:=St.pm 2 [1,0] S23
      exact ⟨(i+1,s1,E1,d24,E25),(jE_ ⟨S28,⟨by omega,hI2.next,Nat.le_succ_of_le hI3,hi26,he27⟩⟩),(by show ops.length-(i+1)<ops.length-i;omega)⟩
     ·refine pv fv (pv fv (wE (nSR (pv fv (wE (nS (sR (pv fv (wE (nCF (wp_region_lit (pv (pq gw) (pv (.slice A3 ops.length c3) ?_)))))))))))))
      refine pv (nI_ i) (g_ (gv_ixB (e:=39) (sz:=5) (n:=ops.length) (c:=c3) (i:=((i:Nat):Int)) (k:=.i64) (ad:=ad) (ad':=(ad.add (i*5))) (j:=i) rfl kr_ kr_ (by rw [←hAd];kernel_rfl) kr_ rfl om_ rfl (g_ (gv_ldRA (ad:=ad.add (i*5)) (vs:=[iv o.kind,iv o.a,iv o.b,.slice o.A o.d.length o.cd,.slice o.A2 o.ps.length o.cq]) (n:=5) rfl kr_ kr_ rfl (RoV.cells hrq (i*5) (fun j u hu=>opeV_at ops _ _ ho j u hu) (Nat.succ_pos _)) (g_ (gv_call (args:=#[pq gw,.agg #[iv o.kind,iv o.a,iv o.b,.slice o.A o.d.length o.cd,.slice o.A2 o.ps.length o.cq]]) rfl Tryz.func14 kr_ rfl rfl kr_ (Calls.mono (w_step S16 (Ro.of_C hk.d (fun _ h=>h)).T (RoV.of_rd hk.p _) hk.cap hk.dm hk.pm hk.ha hI2 om_ hI3) ?_)))))))
      rintro _ w29 ⟨rfl,d31,E32,hi33,he34,S30⟩
      refine ⟨_,rfl,(pv tv (wER (pv tv (pv fv (wE (nCF (wp_skip (inb_n (nR (pv (nI_ i) (gI .i64 (IntKind.i64.wrap (((i:Nat):Int)+1)) ((i+1:Nat):Int) wq_ (pv (nI_ (i+1)) (wE ?_)))))))))))))⟩
      exact then_n ⟨(i+1,d31,E32,t1,D1),(jE_ ⟨S30,⟨by omega,hi33,he34,hI4.next,Nat.le_succ_of_le hI5⟩⟩),(by show ops.length-(i+1)<ops.length-i;omega)⟩
    ·refine pv fv (wN (wN (wN (wN (wN (wN (wN (wN (wN (pv fv (pv fv (wE (nSR ?_)))))))))))))
     refine pv fv (wE (nS (sR (pv fv (wE (nCF (wp_region_lit (pv (pq gw) (pv (.slice A3 ops.length c3) (pv (nI_ i) (g_ (gv_ixB (e:=39) (sz:=5) (n:=ops.length) (c:=c3) (i:=((i:Nat):Int)) (k:=.i64) (ad:=ad) (ad':=(ad.add (i*5))) (j:=i) rfl kr_ kr_ (by rw [←hAd];kernel_rfl) kr_ rfl om_ rfl (g_ (gv_ldRA (ad:=ad.add (i*5)) (vs:=[iv o.kind,iv o.a,iv o.b,.slice o.A o.d.length o.cd,.slice o.A2 o.ps.length o.cq]) (n:=5) rfl kr_ kr_ rfl (RoV.cells hrq (i*5) (fun j u hu=>opeV_at ops _ _ ho j u hu) (Nat.succ_pos _)) (g_ (gv_call (args:=#[pq gw,.agg #[iv o.kind,iv o.a,iv o.b,.slice o.A o.d.length o.cd,.slice o.A2 o.ps.length o.cq]]) rfl Tryz.func14 kr_ rfl rfl kr_ ?_))))))))))))))))
     refine Calls.mono (w_step S16 (Ro.of_C hk.d (fun _ h=>h)).T (RoV.of_rd hk.p _) hk.cap hk.dm hk.pm hk.ha hI2 om_ hI3) ?_
     rintro _ w35 ⟨rfl,d37,E38,hi39,he40,S36⟩
     refine ⟨_,rfl,(pv tv (wER (pv tv (pv fv (wE (nCF (wp_skip (inb_n (nR (pv (nI_ i) (gI .i64 (IntKind.i64.wrap (((i:Nat):Int)+1)) ((i+1:Nat):Int) wq_ (pv (nI_ (i+1)) (wE ?_)))))))))))))⟩
     exact then_n ⟨(i+1,d37,E38,t1,D1),(jE_ ⟨S36,⟨by omega,hi39,he40,hI4.next,Nat.le_succ_of_le hI5⟩⟩),(by show ops.length-(i+1)<ops.length-i;omega)⟩
   ·refine wE (nCF (wp_exit (then_x (then_x (inb_x (nSR (pv (pq gw) (sP Tryz.func15 #[pq gw] (w_looks S16) fun w41 S42=>pv tv (pW (pq gwb) (wl_when kr_ (gv_call (args:=#[pq gwb]) rfl Tryz.func15 kr_ rfl rfl kr_ ?_)))))))))))
    have S43:=St.pm 2 [1,0] S42
    refine Calls.mono (w_looks S43) ?_
    rintro _ w44 ⟨rfl,S45⟩
    exact ⟨_,rfl,(pv tv (pv tv (wE (then_n (wp_ret (bA (.bool true) ⟨rfl,S45.fr.below⟩))))))⟩
end Go.Proofs
end
section
open Go Go.RowKit Go.Deep Go.Proofs.YtgelippmcflppaaGreatW.PrintWords Go.Proofs.YtgelippmcflppaaGreatW.PrintMore
namespace Go.Vel
section
def Opens {H:Type}(enc:TypeId×Value→H)(P:Program)(W:World)(t:TypeId){α:Type}(d:Kd α)(Q:α→Prop):Prop:=
 ∀fuel cs x,DataW.trod enc P W 0 (fun _=>true) true fuel t cs=some x→(∀n∈x.1.weights P t,n≤reachBytes)→∃a,d.K W a cs∧Q a
section
variable {H:Type}{enc:TypeId×Value→H}{P:Program}{W:World}{α:Type}
theorem Opens.bool {t:TypeId}(ht:P.underlying t=some .bool):Opens enc P W t Kd.bool (fun _=>True):=by
 intro fuel cs x h _
 obtain ⟨n,e,_⟩:=DataW.trod_bool ht h
 exact ⟨n,e,trivial⟩
theorem Opens.mono {t:TypeId}{d:Kd α}{Q Q':α→Prop}(h:Opens enc P W t d Q)(hq:∀a,Q a→Q' a):Opens enc P W t d Q':=fun fuel cs x hx hw=>by
 obtain ⟨a,h1,h2⟩:=h fuel cs x hx hw
 exact ⟨a,h1,hq a h2⟩
theorem add_add (a:Addr)(i j:Nat):(a.add i).add j=a.add (i+j):=by
 unfold Addr.add
 by_cases h0:i=0
 ·subst h0;simp
 ·by_cases h1:j=0
  ·subst h1;simp
  ·have h2:¬(i+j=0):=by omega
   simp only [h0,h1,h2,if_false,Nat.add_assoc]
theorem weightsAll_mem {e:TypeId}:∀{ds:List (DataW H)} {d:DataW H},d∈ds→∀n∈d.weights P e,n∈DataW.weightsAll P e ds
 |[],_,h=>by cases h
 |x::r,d,h=>fun n hn=>by
  unfold DataW.weightsAll
  rcases List.mem_cons.1 h with rfl|h
  ·exact List.mem_append_left _ hn
  ·exact List.mem_append_right _ (weightsAll_mem h n hn)
theorem Opens.slice [Inhabited α]{t e:TypeId}{d:Kd α}{Q:α→Prop}{B:Nat}(ht:P.underlying t=some (.slice e))(hd:Opens enc P W e d Q)(hsz:d.sz=P.cellsOf e)(hB:P.bytesOf e=B):Opens enc P W t (Kd.slice e d) (fun xs=>xs.length≤maxLen∧xs.length*B≤reachBytes∧∀x∈xs,Q x):=by
 intro fuel cs x h hw
 rcases open_slice ht h with ⟨rfl,_⟩|⟨a,len,cap,m,n,D,Pl,rfl,_,hl,hm,hmm,hx,he⟩
 ·exact ⟨[],⟨none,0,rfl,Nat.le_refl _,rfl,Nat.zero_le _,fun h=>absurd h (Nat.lt_irrefl 0)⟩,Nat.zero_le _,by simp,fun x hx=>by cases hx⟩
 ·rw [if_pos rfl] at hmm
  subst hmm
  have hw1:∀n∈((((List.range len).map D).length*P.bytesOf e+((List.range (m-len)).map fun j=>D (len+j)).length*P.bytesOf e)::(DataW.weightsAll P e ((List.range len).map D)++DataW.weightsAll P e ((List.range (m-len)).map fun j=>D (len+j))):List Nat),n≤reachBytes:=by
   rw [hx] at hw
   simp only [DataW.weights,ht] at hw
   rw [Nat.add_mul] at hw
   exact hw
  have hfirst:=hw1 _ List.mem_cons_self
  have hex:∀i,i<len→∃y:α,∃cs',W.cells? 0 (a.add (i*P.cellsOf e)) (P.cellsOf e)=some cs'∧d.K W y cs'∧Q y:=by
   intro i hi
   obtain ⟨cs',h1,h2⟩:=he i om_
   obtain ⟨y,h3,h4⟩:=hd _ _ _ h2 (fun n hn=>hw1 n (List.mem_cons_of_mem _ (List.mem_append_left _ (weightsAll_mem (d:=D i) (List.mem_map.2 ⟨i,List.mem_range.2 hi,rfl⟩) n hn))))
   exact ⟨y,cs',h1,h3,h4⟩
  obtain ⟨f,hf⟩:=choose_lt hex
  have hlen:((List.range len).map f).length=len:=by simp
  have hmx:maxLen≤9223372036854775807:=by decide
  refine ⟨(List.range len).map f,⟨some a,m,by rw [hlen],by rw [hlen];exact hl,rfl,by rw [hlen];omega,fun _=>⟨a,rfl,fun j p hp=> ?_⟩⟩,by rw [hlen];omega, ?_, ?_⟩
  ·have hj:j<len:=by
    have:=(List.getElem?_eq_some_iff.1 hp).1
    rwa [hlen] at this
   rw [List.getElem?_map,List.getElem?_range hj] at hp
   simp only [Option.map_some,Option.some.injEq] at hp
   subst hp
   obtain ⟨cs',h1,h2,_⟩:=hf j hj
   obtain ⟨_,hl2,hc⟩:=World.cells?_some h1
   refine ⟨cs',by rw [hl2,hsz],h2,fun i u hu=> ?_⟩
   have hi:i<P.cellsOf e:=by
    have:=(List.getElem?_eq_some_iff.1 hu).1
    omega
   have:=hc i hi
   rw [hu,add_add] at this
   rw [hsz];exact this
  ·rw [hlen,←hB]
   simp only [List.length_map,List.length_range] at hfirst
   exact Nat.le_trans (Nat.le_add_right _ _) hfirst
  ·intro x hx
   obtain ⟨i,hi,rfl⟩:=List.mem_map.1 hx
   obtain ⟨_,_,_,hq⟩:=hf i (List.mem_range.1 hi)
   exact hq
end
end
end Go.Vel
end
section
open Go Go.RowKit Go.Deep Go.Proofs.YtgelippmcflppaaGreatW.PrintWords
namespace Go.Vel
def Opn {H:Type}(enc:TypeId×Value→H)(P:Program)(W:World)(t:TypeId)(Q:List Value→Prop):Prop:=
 ∀fuel cs x,DataW.trod enc P W 0 (fun _=>true) true fuel t cs=some x→(∀n∈x.1.weights P t,n≤reachBytes)→Q cs
theorem flatten_get {sz:Nat}:∀{els:List (List Value)} {j:Nat} {u:Value},(∀e∈els,e.length=sz)→els.flatten[j]?=some u→∃i r e,j=i*sz+r∧els[i]?=some e∧e[r]?=some u
 |[],j,u,_,h=>by simp at h
 |e::l,j,u,hl,h=>by
  have he:=hl e List.mem_cons_self
  rw [List.flatten_cons] at h
  by_cases hj:j<e.length
  ·rw [List.getElem?_append_left hj] at h
   exact ⟨0,j,e,by rw [Nat.zero_mul,Nat.zero_add],rfl,h⟩
  ·rw [List.getElem?_append_right om_] at h
   obtain ⟨i,r,e',h1,h2,h3⟩:=flatten_get (fun y hy=>hl y (List.mem_cons_of_mem _ hy)) h
   exact ⟨i+1,r,e',by rw [Nat.add_mul,Nat.one_mul];omega,by simpa using h2,h3⟩
theorem all_map {α:Type}{f:α→List Value}{Q:α→Prop}:∀{els:List (List Value)},(∀e∈els,∃a,e=f a∧Q a)→∃l:List α,els=l.map f∧∀a∈l,Q a
 |[],_=>⟨[],rfl,fun a h=>by cases h⟩
 |e::r,h=>by
  obtain ⟨a,rfl,ha⟩:=h e List.mem_cons_self
  obtain ⟨l,rfl,hl⟩:=all_map fun y hy=>h y (List.mem_cons_of_mem _ hy)
  exact ⟨a::l,rfl,fun b hb=>(List.mem_cons.1 hb).elim (fun e=>e▸ha) (hl b)⟩
section
variable {H:Type}{enc:TypeId×Value→H}{P:Program}{W:World}
theorem Opn.int {t:TypeId}{k:IntKind}(ht:P.underlying t=some (.int k)):Opn enc P W t (fun cs=>∃n,cs=[.int k n]∧(Lit.int k n).wf=true):=by
 intro fuel cs x h _
 obtain ⟨n,e,_,hw⟩:=DataW.trod_int ht h
 exact ⟨n,e,hw⟩
def LstQ (W:World)(B:Nat)(Q:List Value→Prop)(cs:List Value):Prop:=∃(A:Option Addr) (c:Nat) (els:List (List Value)),cs=[.slice A els.length c]∧els.length≤c∧els.length≤maxLen∧els.length*B≤reachBytes∧(∀e∈els,Q e)∧RdV W A els.flatten
theorem Opn.slice {t e:TypeId}{Q:List Value→Prop}{B:Nat}(ht:P.underlying t=some (.slice e))(hd:Opn enc P W e Q)(hB:P.bytesOf e=B):Opn enc P W t (LstQ W B Q):=by
 intro fuel cs x h hw
 rcases open_slice ht h with ⟨rfl,_⟩|⟨a,len,cap,m,n,D,Pl,rfl,_,hl,hm,hmm,hx,he⟩
 ·exact ⟨none,0,[],rfl,Nat.le_refl _,Nat.zero_le _,by simp,fun x hx=>(by cases hx),fun h=>absurd h (Nat.lt_irrefl 0)⟩
 ·rw [if_pos rfl] at hmm
  subst hmm
  have hw1:∀n∈((((List.range len).map D).length*P.bytesOf e+((List.range (m-len)).map fun j=>D (len+j)).length*P.bytesOf e)::(DataW.weightsAll P e ((List.range len).map D)++DataW.weightsAll P e ((List.range (m-len)).map fun j=>D (len+j))):List Nat),n≤reachBytes:=by
   rw [hx] at hw
   simp only [DataW.weights,ht] at hw
   rw [Nat.add_mul] at hw
   exact hw
  have hfirst:=hw1 _ List.mem_cons_self
  have hex:∀i,i<len→∃cs',W.cells? 0 (a.add (i*P.cellsOf e)) (P.cellsOf e)=some cs'∧Q cs':=by
   intro i hi
   obtain ⟨cs',h1,h2⟩:=he i om_
   exact ⟨cs',h1,hd _ _ _ h2 (fun n hn=>hw1 n (List.mem_cons_of_mem _ (List.mem_append_left _ (weightsAll_mem (d:=D i) (List.mem_map.2 ⟨i,List.mem_range.2 hi,rfl⟩) n hn))))⟩
  obtain ⟨f,hf⟩:=choose_lt hex
  have hlen:((List.range len).map f).length=len:=by simp
  have hmx:maxLen≤9223372036854775807:=by decide
  have hget:∀i e',((List.range len).map f)[i]?=some e'→i<len∧f i=e':=fun i e' hi=>by
   have hj:i<len:=by
    have:=(List.getElem?_eq_some_iff.1 hi).1
    rwa [hlen] at this
   rw [List.getElem?_map,List.getElem?_range hj] at hi
   exact ⟨hj,by simpa using hi⟩
  refine ⟨some a,m,(List.range len).map f,by rw [hlen],by rw [hlen];exact hl,by rw [hlen];omega, ?_, ?_,fun _=>⟨a,rfl,fun j u hu=> ?_⟩⟩
  ·rw [hlen,←hB]
   simp only [List.length_map,List.length_range] at hfirst
   exact Nat.le_trans (Nat.le_add_right _ _) hfirst
  ·intro x hx
   obtain ⟨i,hi,rfl⟩:=List.mem_map.1 hx
   exact (hf i (List.mem_range.1 hi)).2
  ·have hall:∀y∈(List.range len).map f,y.length=P.cellsOf e:=fun y hy=>by
    obtain ⟨i,hi,rfl⟩:=List.mem_map.1 hy
    exact (World.cells?_some (hf i (List.mem_range.1 hi)).1).2.1
   obtain ⟨i,r,e',rfl,h2,h3⟩:=flatten_get hall hu
   obtain ⟨hi,rfl⟩:=hget i e' h2
   obtain ⟨_,hl2,hc⟩:=World.cells?_some (hf i hi).1
   have hr:r<P.cellsOf e:=by have:=(List.getElem?_eq_some_iff.1 h3).1;omega
   have:=hc r hr
   rw [h3,add_add] at this
   exact this
theorem Opn.field {fs:Array Field}{t:TypeId}{fuel:Nat}{cs:List Value}{x:DataW H×List MemPlace}{Q:List Value→Prop}(ht:P.underlying t=some (.struct fs))(h:DataW.trod enc P W 0 (fun _=>true) true fuel t cs=some x)(hw:∀n∈x.1.weights P t,n≤reachBytes)(i:Nat){f:Field}(hf:fs[i]?=some f)(ho:f.offset=i)(hc:P.cellsOf f.type=1)(hd:Opn enc P W f.type Q):Q ((cs.drop i).take 1):=by
 obtain ⟨xs,n,_,hx,_,hl,hh⟩:=DataW.trod_struct ht h
 have h1:=hh i f hf
 have hi:i<xs.length:=by
  rw [hl]
  have:=(Array.getElem?_eq_some_iff.1 hf).1
  exact this
 rw [ho,hc,List.getElem?_eq_getElem hi] at h1
 refine hd _ _ _ h1 (fun n hn=>hw n ?_)
 rw [hx]
 simp only [DataW.weights,ht]
 refine DataW.weights_mem_each (j:=i) (t:=f.type) (d:=xs[i].1) ?_ ?_ n hn
 ·rw [List.getElem?_map,Array.getElem?_toList,hf];rfl
 ·rw [List.getElem?_map,List.getElem?_eq_getElem hi];rfl
theorem Opn.row {t:TypeId}{Q:List Value→Prop}{v:Value}{D:DataW H}{p:List MemPlace}(ho:Opn enc P W t Q)(h:DataW.Trod enc P W 0 (fun _=>true) true t v D p)(hw:∀n∈D.weights P t,n≤reachBytes):Q v.cells.toList:=by
 obtain ⟨fuel,hf⟩:=h
 exact ho _ _ _ hf hw
end
theorem flat_one:∀l:List UInt8,(l.map (fun b:UInt8=>[bv b])).flatten=l.map bv
 |[]=>rfl
 |x::r=>by rw [List.map_cons,List.flatten_cons,flat_one r];rfl
theorem lst_bytes {W:World}{Q:List Value→Prop}{cs:List Value}(h:LstQ W 1 Q cs)(hq:∀e,Q e→∃n,e=[.int .u8 n]∧(Lit.int .u8 n).wf=true):∃A c,∃b:List UInt8,cs=[.slice A b.length c]∧b.length≤c∧b.length≤140737488351232∧RdB W A b:=by
 obtain ⟨A,c,els,rfl,h1,_,h3,h4,h5⟩:=h
 obtain ⟨l,rfl,_⟩:=all_map (f:=fun b:UInt8=>[bv b]) (Q:=fun _=>True) (els:=els) (fun e he=>by
  obtain ⟨n,rfl,hn⟩:=hq e (h4 e he)
  refine ⟨UInt8.ofNat n.toNat, ?_,trivial⟩
  simp [Lit.wf,IntKind.min,IntKind.max,IntKind.signed,IntKind.bits] at hn
  simp only [bv,UInt8.toNat_ofNat']
  rw [Nat.mod_eq_of_lt om_]
  congr 2;omega)
 rw [List.length_map] at h1 h3 ⊢
 have hrb:reachBytes=140737488351232:=by decide
 rw [flat_one] at h5
 exact ⟨A,c,l,rfl,h1,by omega,fun h0=>h5 (by rw [List.length_map];exact h0)⟩
end Go.Vel
namespace Go.Proofs
open Go.Vel
set_option maxRecDepth 100000
theorem flat_picks (l:List Pick):(l.map pickCells).flatten=picksV l:=by unfold picksV;rw [List.flatMap_def]
theorem flat_ints:∀l:List Int,(l.map (fun z:Int=>[Value.int .i64 z])).flatten=l.map (Value.int .i64)
 |[]=>rfl
 |x::r=>by rw [List.map_cons,List.flatten_cons,flat_ints r];rfl
section
variable {H:Type}{enc:TypeId×Value→H}{W:World}
theorem opnBytes:Opn enc Tryz.prog W 22 (LstQ W 1 fun cs=>∃n,cs=[.int .u8 n]∧(Lit.int .u8 n).wf=true):=Opn.slice Tryz.underlying22 (Opn.int Tryz.underlying5) kr_
theorem opnPick:Opn enc Tryz.prog W 97 (fun cs=>∃p:Pick,cs=pickCells p∧True):=by
 intro fuel cs x h hw
 obtain ⟨_,_,_,_,hl,_,_⟩:=DataW.trod_struct Tryz.underlying97 h
 have h4:Tryz.prog.cellsOf 97=3:=by kernel_rfl
 rw [h4] at hl
 obtain ⟨n0,k0,_⟩:=Opn.field Tryz.underlying97 h hw 0 rfl rfl kr_ (Opn.int Tryz.underlying3)
 obtain ⟨n1,k1,_⟩:=Opn.field Tryz.underlying97 h hw 1 rfl rfl kr_ (Opn.int Tryz.underlying3)
 obtain ⟨n2,k2,_⟩:=Opn.field Tryz.underlying97 h hw 2 rfl rfl kr_ (Opn.int Tryz.underlying3)
 match cs,hl with
 |[v0,v1,v2],_=>
  simp at k0 k1 k2
  subst k0 k1 k2
  exact ⟨(n0,n1,n2),rfl,trivial⟩
theorem opnPicks:Opn enc Tryz.prog W 37 (LstQ W 24 fun cs=>∃p:Pick,cs=pickCells p∧True):=Opn.slice Tryz.underlying37 opnPick kr_
theorem opnOp:Opn enc Tryz.prog W 39 (fun cs=>∃o:OpE,cs=o.cells∧o.Ok W):=by
 intro fuel cs x h hw
 obtain ⟨_,_,_,_,hl,_,_⟩:=DataW.trod_struct Tryz.underlying39 h
 have h4:Tryz.prog.cellsOf 39=5:=by kernel_rfl
 rw [h4] at hl
 obtain ⟨n0,k0,w0⟩:=Opn.field Tryz.underlying39 h hw 0 rfl rfl kr_ (Opn.int Tryz.underlying3)
 obtain ⟨n1,k1,w1⟩:=Opn.field Tryz.underlying39 h hw 1 rfl rfl kr_ (Opn.int Tryz.underlying3)
 obtain ⟨n2,k2,w2⟩:=Opn.field Tryz.underlying39 h hw 2 rfl rfl kr_ (Opn.int Tryz.underlying3)
 obtain ⟨A2,c2,b,k3,i2,m2,r2⟩:=lst_bytes (Opn.field Tryz.underlying39 h hw 3 rfl rfl kr_ opnBytes) (fun e he=>he)
 obtain ⟨A3,c3,els,k4,_,_,m3,q3,r3⟩:=Opn.field Tryz.underlying39 h hw 4 rfl rfl kr_ opnPicks
 obtain ⟨ps,rfl,_⟩:=all_map q3
 rw [List.length_map] at k4 m3
 have hrb:reachBytes=140737488351232:=by decide
 have hw1:n1≤9223372036854775807:=by
  simp [Lit.wf,IntKind.min,IntKind.max,IntKind.signed,IntKind.bits] at w1;omega
 match cs,hl with
 |[v0,v1,v2,v3,v4],_=>
  simp at k0 k1 k2 k3 k4
  subst k0 k1 k2 k3 k4
  exact ⟨⟨n0,n1,n2,A2,b,c2,A3,ps,c3⟩,rfl,⟨r2,by rw [flat_picks] at r3;exact r3,i2,by show b.length≤_;omega,by show ps.length*24≤_;omega,hw1⟩⟩
theorem flat_ope (l:List OpE):(l.map OpE.cells).flatten=opeV l:=by unfold opeV;rw [List.flatMap_def]
theorem opnOps:Opn enc Tryz.prog W 23 (LstQ W 72 fun cs=>∃o:OpE,cs=o.cells∧o.Ok W):=Opn.slice Tryz.underlying23 opnOp kr_
theorem open_bytes9 {A:Option Addr}{n c:Nat}{D:DataW H}{p:List MemPlace}(h:DataW.Trod enc Tryz.prog W 0 (fun _=>true) true 22 (.slice A n c) D p)(hw:∀n∈D.weights Tryz.prog 22,n≤reachBytes):
  ∃b:List UInt8,n=b.length∧b.length≤c∧RdB W A b∧b.length≤140737488351232:=by
 obtain ⟨A',c',b,e,h1,h2,h3⟩:=lst_bytes (Opn.row opnBytes h hw) (fun e he=>he)
 simp [Value.cells] at e
 obtain ⟨rfl,rfl,rfl⟩:=e
 exact ⟨b,rfl,h1,h3,h2⟩
theorem open_ope {A:Option Addr}{n c:Nat}{D:DataW H}{p:List MemPlace}(h:DataW.Trod enc Tryz.prog W 0 (fun _=>true) true 23 (.slice A n c) D p)(hw:∀n∈D.weights Tryz.prog 23,n≤reachBytes):
  ∃ops:List OpE,n=ops.length∧RdV W A (opeV ops)∧ops.length≤2199023255552∧∀o∈ops,o.Ok W:=by
 obtain ⟨A',c',els,e,_,_,hm,hq,hr⟩:=Opn.row opnOps h hw
 obtain ⟨ops,rfl,ho⟩:=all_map hq
 simp [Value.cells] at e
 obtain ⟨rfl,rfl,rfl⟩:=e
 rw [List.length_map] at hm
 have hrb:reachBytes=140737488351232:=by decide
 exact ⟨ops,rfl,by rw [flat_ope] at hr;exact hr,by omega,ho⟩
theorem opnInts:Opn enc Tryz.prog W 26 (LstQ W 8 fun cs=>∃n,cs=[.int .i64 n]∧(Lit.int .i64 n).wf=true):=Opn.slice Tryz.underlying26 (Opn.int Tryz.underlying3) kr_
theorem open_ints {A:Option Addr}{n c:Nat}{D:DataW H}{p:List MemPlace}(h:DataW.Trod enc Tryz.prog W 0 (fun _=>true) true 26 (.slice A n c) D p)(hw:∀n∈D.weights Tryz.prog 26,n≤reachBytes):
  ∃zs:List Int,n=zs.length∧RdV W A (zs.map (Value.int .i64))∧zs.length≤9223372036854775807:=by
 obtain ⟨A',c',els,e,_,hl,hm,hq,hr⟩:=Opn.row opnInts h hw
 obtain ⟨zs,rfl,ho⟩:=all_map (f:=fun z:Int=>[Value.int .i64 z]) hq
 simp [Value.cells] at e
 obtain ⟨rfl,rfl,rfl⟩:=e
 rw [List.length_map] at hm
 have hrb:reachBytes=140737488351232:=by decide
 exact ⟨zs,rfl,by rw [flat_ints] at hr;exact hr,by omega⟩
end
end Go.Proofs
end
