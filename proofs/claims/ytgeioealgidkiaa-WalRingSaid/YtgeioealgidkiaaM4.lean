/- Part 4 of 4 of what the proof stands on: the words, the laws of the walk, the walks, the plain laws; each section is one text. -/
import Derived.Test.YtgeioealgidkiaaM3
import Derived.Deep.Slices
import Derived.ChangeArms
import Derived.SizedLaws
section
open Go Go.RowKit Go.Proofs.YtgeioealgidkiaaW.PrintWords Go.Proofs.YtgeioealgidkiaaW.PrintMore
namespace Go.Proofs
open Go.Vel
set_option linter.unusedVariables false
theorem leB_cons (v n:Nat):leB v (n+1)=UInt8.ofNat (v%256)::leB (v/256) n:=by
 unfold leB
 rw [List.range_succ_eq_map,List.map_cons,List.map_map]
 congr 1
 ·simp
 ·apply List.map_congr_left
  intro i _
  simp only [Function.comp]
  rw [Nat.pow_succ',Nat.div_div_eq_div_mul]
theorem leN_leB:∀(n v:Nat),leN (leB v n)=v%256^n
 |0,v=>by simp [leB,leN,Nat.mod_one]
 |n+1,v=>by
  rw [leB_cons,leN,leN_leB n,UInt8.toNat_ofNat',Nat.mod_eq_of_lt (show v%256<2^8 from by omega),Nat.pow_succ',Nat.mod_mul]
theorem leN_leB_lt {n v:Nat}(h:v<256^n):leN (leB v n)=v:=by rw [leN_leB,Nat.mod_eq_of_lt h]
theorem cut_app {α:Type}(a b c:List α){i n:Nat}(hi:a.length=i)(hn:b.length=n):((a++(b++c)).drop i).take n=b:=by
 subst hi hn
 rw [List.drop_append,List.drop_of_length_le (Nat.le_refl _),List.nil_append,Nat.sub_self,List.drop_zero,List.take_append,List.take_of_length_le (Nat.le_refl _),Nat.sub_self,List.take_zero,List.append_nil]
theorem pcOf_body {E p i c:Nat}{d:List UInt8}(hE:E<4294967296)(hp:p<4294967296)(hi:i<65536)(hc:c<65536):pcOf (bodyR E p i c d)=⟨E,p,i,c,d⟩:=by
 have l4:=length_leB E 4
 have m4:=length_leB p 4
 have l2:=length_leB i 2
 have m2:=length_leB c 2
 unfold pcOf numN bodyR
 have e1:((leB E 4++leB p 4++leB i 2++leB c 2++d).drop 0).take 4=leB E 4:=by
  have:=cut_app [] (leB E 4) (leB p 4++(leB i 2++(leB c 2++d))) rfl l4
  simpa [List.append_assoc] using this
 have e2:((leB E 4++leB p 4++leB i 2++leB c 2++d).drop 4).take 4=leB p 4:=by
  have:=cut_app (leB E 4) (leB p 4) (leB i 2++(leB c 2++d)) l4 m4
  simpa [List.append_assoc] using this
 have e3:((leB E 4++leB p 4++leB i 2++leB c 2++d).drop 8).take 2=leB i 2:=by
  have:=cut_app (leB E 4++leB p 4) (leB i 2) (leB c 2++d) (i:=8) (by rw [List.length_append];omega) l2
  simpa [List.append_assoc] using this
 have e4:((leB E 4++leB p 4++leB i 2++leB c 2++d).drop 10).take 2=leB c 2:=by
  have:=cut_app (leB E 4++leB p 4++leB i 2) (leB c 2) d (i:=10) (by rw [List.length_append,List.length_append];omega) m2
  simpa [List.append_assoc] using this
 have e5:(leB E 4++leB p 4++leB i 2++leB c 2++d).drop 12=d:=by
  rw [List.drop_append,List.drop_of_length_le (by simp only [List.length_append];omega),List.nil_append]
  rw [show 12-(leB E 4++leB p 4++leB i 2++leB c 2).length=0 by simp only [List.length_append];omega,List.drop_zero]
 rw [e1,e2,e3,e4,e5,leN_leB_lt om_,leN_leB_lt om_,leN_leB_lt om_,leN_leB_lt om_]
def partF (o:List UInt8)(E p i c:Nat)(d:List UInt8):List UInt8:=(sealF o (bodyR E p i c d)).1
theorem partF_form {o:List UInt8}{E p i c:Nat}{d:List UInt8}(ho:o.length=512)(hd:d.length≤492):partF o E p i c d=form (turnOf (o.getD 0 0) (o.getD 511 0)) (bodyR E p i c d):=by
 unfold partF sealF
 rw [if_neg om_,if_neg (by rw [length_bodyR];omega)]
theorem pcF_part {o:List UInt8}{E p i c:Nat}{d:List UInt8}(ho:o.length=512)(hd:d.length≤492)(hE:E<4294967296)(hp:p<4294967296)(hi:i<65536)(hc:c<65536):pcF (partF o E p i c d)=⟨E,p,i,c,d⟩:=by
 have h:=openF_form (turnOf (o.getD 0 0) (o.getD 511 0)) (bodyR E p i c d) (turn_ne _ _).2.2 (by rw [length_bodyR];omega)
 unfold pcF
 rw [partF_form ho hd,h,if_pos ⟨rfl,by rw [length_bodyR];omega⟩]
 exact pcOf_body hE hp hi hc
theorem pcF_torn {m:List UInt8}(h:openF m=([],30)):pcF m=pcNo:=by
 unfold pcF;rw [h,if_neg (by simp)]
def Over (o x:List UInt8):Prop:=o.length=512∧∃b,b.length≤504∧x=form (turnOf (o.getD 0 0) (o.getD 511 0)) b
structure Sgl (s:Dsk):Prop where
 nodup:(s.pend.map (·.1)).Nodup
 over:∀x∈s.pend,Over (s.last.getD x.1 []) x.2
theorem Sgl.nil {s:Dsk}(h:s.pend=[]):Sgl s:=⟨by rw [h];exact List.nodup_nil,fun x hx=>by rw [h] at hx;cases hx⟩
theorem pend_one:∀{l:List (Nat×List UInt8)},(l.map (·.1)).Nodup→∀{x:Nat×List UInt8},x∈l→(l.filter (fun y=>y.1==x.1)).map (·.2)=[x.2]
 |[],_,x,h=>by cases h
 |y::r,hn,x,h=>by
  rw [List.map_cons,List.nodup_cons] at hn
  by_cases hxy:y.1=x.1
  ·have hno:r.filter (fun z=>z.1==x.1)=[]:=by
    rw [List.filter_eq_nil_iff]
    intro z hz hb
    exact hn.1 (List.mem_map.2 ⟨z,hz,by rw [hxy];simpa using hb⟩)
   rcases List.mem_cons.1 h with rfl|h
   ·rw [List.filter_cons_of_pos (by simp),hno];rfl
   ·exact absurd (List.mem_map.2 ⟨x,h,hxy.symm⟩) hn.1
  ·rw [List.filter_cons_of_neg (by simpa using hxy)]
   rcases List.mem_cons.1 h with rfl|h
   ·exact absurd rfl hxy
   ·exact pend_one hn.2 h
theorem Sgl.now {s:Dsk}(h:Sgl s){x:Nat×List UInt8}(hx:x∈s.pend):pendOf s x.1=[x.2]∧s.now x.1=x.2:=by
 have e:pendOf s x.1=[x.2]:=pend_one h.nodup hx
 refine ⟨e, ?_⟩
 unfold Dsk.now;rw [e];rfl
theorem now_free {s:Dsk}{k:Nat}(h:∀x∈s.pend,x.1≠k):pendOf s k=[]∧s.now k=s.last.getD k []:=by
 have e:pendOf s k=[]:=by
  unfold pendOf
  rw [List.map_eq_nil_iff,List.filter_eq_nil_iff]
  intro x hx hb
  exact h x hx (by simpa using hb)
 exact ⟨e,Dsk.now_none e⟩
structure CutOf (s x:Dsk):Prop where
 pend:x.pend=[]
 len:x.last.length=s.last.length
 free:∀k,k<s.last.length→(∀y∈s.pend,y.1≠k)→x.last.getD k []=s.last.getD k []
 one:∀y∈s.pend,x.last.getD y.1 []=s.last.getD y.1 []∨x.last.getD y.1 []=y.2∨openF (x.last.getD y.1 [])=([],30)
section
theorem Recs.congr {pc pc':Nat→Pc}{E a:Nat}{R:List (List UInt8)}{h:Nat}(r:Recs pc E a R h)(hq:∀p i c,a≤p→p<h→(pc p).Part E p i c→pc' p=pc p):Recs pc' E a R h:=by
 induction r with
 |nil=>exact .nil
 |@step R h c r hr ih=>
  have hp:∀j,j<c→pc' (h+j)=pc (h+j):=fun j hj=>hq (h+j) j c (by have:=r.le;omega) om_ (hr.part j hj)
  have e:catF pc h c=catF pc' h c:=by
   unfold catF
   congr 1
   apply List.map_congr_left
   intro j hj
   rw [hp j (List.mem_range.1 hj)]
  rw [e]
  have hc:=hr.c1
  refine Recs.step (ih fun p i c' h1 h2 h3=>hq p i c' h1 om_ h3) ⟨hr.c1,hr.c17, ?_,fun j hj=> ?_⟩
  ·have:=hp 0 om_
   rw [Nat.add_zero] at this
   rw [this];exact hr.cnt
  ·rw [hp j hj];exact hr.part j hj
theorem Recs.pre {pc:Nat→Pc}{e:Nat}:∀(k:Nat) {a:Nat} {R R':List (List UInt8)} {h h':Nat},R.length≤k→Recs pc e a R h→Recs pc e a R' h'→NoRec pc e h'→R.length≤R'.length∧R=R'.take R.length
 |k,a,R,R',h,h',hk,r,r',e'=>by
  by_cases hx:∃c,IsRec pc e a c
  ·obtain ⟨c,hc⟩:=hx
   rcases r.uncons hc with ⟨rfl,rfl⟩|⟨R1,rfl,r1⟩
   ·exact ⟨Nat.zero_le _,by simp⟩
   ·rcases r'.uncons hc with ⟨rfl,rfl⟩|⟨R2,rfl,r2⟩
    ·exact absurd hc (e' c)
    ·cases k with
     |zero=>exact absurd hk (by simp)
     |succ k=>
      obtain ⟨q1,q2⟩:=Recs.pre k (by simpa using hk) r1 r2 e'
      refine ⟨by simpa using q1, ?_⟩
      rw [List.length_cons,List.take_succ_cons,←q2]
  ·have hno:∀{R h},Recs pc e a R h→R=[]:=fun {R h} r=>by
    have h1:R=[]∧h=a∨False:=by
     induction r with
     |nil=>exact .inl ⟨rfl,rfl⟩
     |step _ hr ih=>
      rcases ih with ⟨rfl,rfl⟩|h
      ·exact .inr (hx ⟨_,hr⟩)
      ·exact .inr h
    exact (h1.elim id False.elim).1
   have e0:=hno r
   subst e0
   exact ⟨Nat.zero_le _,by simp⟩
def Dsk.lst (s:Dsk)(k:Nat):List UInt8:=s.last.getD k []
structure Core (s:Dsk)(n E T Y H H':Nat)(R:List (List UInt8))(low:Nat):Prop where
 n0:18≤n∧n≤256
 len:s.last.length=n+2
 sgl:Sgl s
 ends:T≤Y∧Y≤H∧H≤H'∧H'≤T+n
 keys:∀y∈s.pend,∃p,Y≤p∧p<H'∧y.1=2+p%n∧(pcF y.2).epoch=E∧(pcF y.2).pos=p
 pair:∃x,newestF (s.lst 0) (s.lst 1)=(x,E*4294967296+T,[],0)
 old:∀k,k<n→(pcF (s.lst (2+k))).epoch≤E∧((pcF (s.lst (2+k))).epoch=E→(pcF (s.lst (2+k))).data≠[]→(pcF (s.lst (2+k))).pos<Y)
 recs:Recs (pcAt s 0 n) E T R H
 low:low≤R.length∧Recs (pcAt s 0 n) E T (R.take low) Y
theorem pcAt_lst {s:Dsk}{n p:Nat}(h:∀y∈s.pend,y.1≠2+p%n):pcAt s 0 n p=pcF (s.lst (2+p%n)):=by
 unfold pcAt Dsk.lst
 rw [Nat.zero_add,(now_free h).2]
theorem pcAt_new {s:Dsk}{n p:Nat}(hs:Sgl s){y:Nat×List UInt8}(hy:y∈s.pend)(h:y.1=2+p%n):pcAt s 0 n p=pcF y.2:=by
 unfold pcAt
 rw [Nat.zero_add,←h,(hs.now hy).2]
theorem mod_eq_far {n p q:Nat}(h:p%n=q%n)(h1:p<q+n)(h2:q<p+n):p=q:=by
 rcases Nat.lt_or_ge p q with hlt|hge
 ·have e:(q-p)%n=0:=by
   have:=Nat.sub_mod_eq_zero_of_mod_eq h.symm
   exact this
  rw [Nat.mod_eq_of_lt om_] at e;omega
 ·have e:(p-q)%n=0:=Nat.sub_mod_eq_zero_of_mod_eq h
  rw [Nat.mod_eq_of_lt om_] at e;omega
section
variable {s:Dsk}{n E T Y H H':Nat}{R:List (List UInt8)}{low:Nat}
theorem Core.none (h:Core s n E T Y H H' R low){q i c:Nat}(hq:H'≤q):¬(pcAt s 0 n q).Part E q i c:=by
 intro hp
 have hn:=h.n0
 have he:=h.ends
 have hm:=Nat.mod_lt q (show 0<n by omega)
 by_cases hx:∃y∈s.pend,y.1=2+q%n
 ·obtain ⟨y,hy,e⟩:=hx
  obtain ⟨p,h1,h2,h3,h4,h5⟩:=h.keys y hy
  rw [pcAt_new h.sgl hy e] at hp
  have:=hp.pos;omega
 ·rw [pcAt_lst (fun y hy e=>hx ⟨y,hy,e⟩)] at hp
  have:=(h.old (q%n) hm).2 hp.epoch hp.data
  have:=hp.pos;omega
theorem Core.no (h:Core s n E T Y H H R low):NoRec (pcAt s 0 n) E H:=fun c hr=>h.none (Nat.le_refl _) (by have:=hr.part 0 hr.c1;rwa [Nat.add_zero] at this)
structure Left (x:Dsk)(n E T:Nat)(R:List (List UInt8))(low:Nat):Prop where
 pair:∃q,newestF (x.lst 0) (x.lst 1)=(q,E*4294967296+T,[],0)
 old:∀k,k<n→(pcF (x.lst (2+k))).epoch≤E
 tell:∀R' h',Recs (pcAt x 0 n) E T R' h'→NoRec (pcAt x 0 n) E h'→low≤R'.length∧R'.length≤R.length∧R'=R.take R'.length
theorem Core.cut (h:Core s n E T Y H H' R low)(hno:NoRec (pcAt s 0 n) E H){x:Dsk}(c:CutOf s x):Left x n E T R low:=by
 have hn:=h.n0
 have he:=h.ends
 have hl:=h.len
 have hpn:∀p,pcAt x 0 n p=pcF (x.lst (2+p%n)):=fun p=>pcAt_lst (by rw [c.pend];intro y hy;cases hy)
 have hfree:∀k,k<2→∀y∈s.pend,y.1≠k:=fun k hk y hy e=>by
  obtain ⟨p,_,_,h3,_,_⟩:=h.keys y hy
  omega
 have key:∀k,k<n→pcF (x.lst (2+k))=pcF (s.lst (2+k))∨(∃y∈s.pend,y.1=2+k∧pcF (x.lst (2+k))=pcF y.2)∨pcF (x.lst (2+k))=pcNo:=fun k hk=>by
  by_cases hx:∃y∈s.pend,y.1=2+k
  ·obtain ⟨y,hy,e⟩:=hx
   rcases c.one y hy with e1|e1|e1
   ·left;unfold Dsk.lst;rw [←e,e1]
   ·right;left;exact ⟨y,hy,e,by unfold Dsk.lst;rw [←e,e1]⟩
   ·right;right;exact pcF_torn (by unfold Dsk.lst;rw [←e];exact e1)
  ·left;unfold Dsk.lst;rw [c.free (2+k) om_ (fun y hy e=>hx ⟨y,hy,e⟩)]
 refine ⟨?_,fun k hk=> ?_,fun R' h' r' n'=> ?_⟩
 ·obtain ⟨q,hq⟩:=h.pair
  refine ⟨q, ?_⟩
  unfold Dsk.lst at hq ⊢
  rw [c.free 0 om_ (hfree 0 om_),c.free 1 om_ (hfree 1 om_)];exact hq
 ·rcases key k hk with e|⟨y,hy,_,e⟩|e
  ·rw [e];exact (h.old k hk).1
  ·obtain ⟨p,_,_,_,h4,_⟩:=h.keys y hy
   rw [e];omega
  ·rw [e];exact Nat.zero_le _
 ·have hA:Recs (pcAt s 0 n) E T R' h':=r'.congr fun p i cc h1 h2 h3=>by
   have hm:=Nat.mod_lt p (show 0<n by omega)
   rw [hpn] at h3 ⊢
   rcases key (p%n) hm with e|⟨y,hy,ey,e⟩|e
   ·by_cases hx:∃y∈s.pend,y.1=2+p%n
    ·obtain ⟨y,hy,ey⟩:=hx
     obtain ⟨q,q1,q2,q3,q4,q5⟩:=h.keys y hy
     rw [e] at h3
     have hlt:=(h.old (p%n) hm).2 h3.epoch h3.data
     have hpos:=h3.pos
     have:=mod_eq_far (n:=n) (p:=p) (q:=q) om_ om_ om_
     omega
    ·rw [e,pcAt_lst (fun y hy ey=>hx ⟨y,hy,ey⟩)]
   ·rw [e,pcAt_new h.sgl hy ey]
   ·rw [e] at h3;exact absurd rfl h3.data
  have hB:Recs (pcAt x 0 n) E T (R.take low) Y:=h.low.2.congr fun p i cc h1 h2 h3=>by
   have hm:=Nat.mod_lt p (show 0<n by omega)
   have hf:∀y∈s.pend,y.1≠2+p%n:=fun y hy ey=>by
    obtain ⟨q,q1,q2,q3,q4,q5⟩:=h.keys y hy
    have:=mod_eq_far (n:=n) (p:=p) (q:=q) om_ om_ om_
    omega
   rw [hpn,pcAt_lst hf]
   unfold Dsk.lst;rw [c.free _ om_ hf]
  obtain ⟨a1,a2⟩:=Recs.pre _ (Nat.le_refl _) hA h.recs hno
  obtain ⟨b1,b2⟩:=Recs.pre _ (Nat.le_refl _) hB r' n'
  have hlow:=h.low.1
  rw [List.length_take] at b1
  exact ⟨by omega,a1,a2⟩
theorem Core.same {s':Dsk}(h:Core s n E T Y H H' R low)(h1:s'.last=s.last)(h2:s'.pend=s.pend):Core s' n E T Y H H' R low:=by
 have e:pcAt s' 0 n=pcAt s 0 n:=by funext p;unfold pcAt;rw [now_congr h1 h2]
 have el:∀k,s'.lst k=s.lst k:=fun k=>by unfold Dsk.lst;rw [h1]
 exact ⟨h.n0,by rw [h1];exact h.len,⟨by rw [h2];exact h.sgl.nodup,by rw [h1,h2];exact h.sgl.over⟩,h.ends,by rw [h2];exact h.keys,by rw [el,el];exact h.pair,fun k hk=>by rw [el];exact h.old k hk,by rw [e];exact h.recs,by rw [e];exact h.low⟩
theorem lst_flush {s':Dsk}(h1:s'=s.flushR.1)(hz:s.left≠0){k:Nat}(hk:k<s.last.length):s'.lst k=s.now k:=by
 have hp:s'.pend=[]:=by
  rcases flushR_err s with q|q
  ·rw [h1];exact q.2.1
  ·exact absurd q.2.2 hz
 have:=now_flushR (s:=s) hk
 rw [←h1,now_nil hp] at this
 exact this
theorem Core.flush (h:Core s n E T Y H H R low)(hz:s.left≠0):Core s.flushR.1 n E T H H H R R.length:=by
 have hn:=h.n0
 have he:=h.ends
 have hl:=h.len
 obtain ⟨s',hs'⟩:∃s',s'=s.flushR.1:=⟨_,rfl⟩
 have hp:s'.pend=[]:=by
  rcases flushR_err s with q|q
  ·rw [hs'];exact q.2.1
  ·exact absurd q.2.2 hz
 have hlen:s'.last.length=s.last.length:=by rw [hs'];exact (Did.flush s).len
 have hlst:∀k,k<s.last.length→s'.lst k=s.now k:=fun k hk=>lst_flush hs' hz hk
 rw [←hs']
 have hfree:∀k,k<2→∀y∈s.pend,y.1≠k:=fun k hk y hy e=>by
  obtain ⟨p,_,_,h3,_,_⟩:=h.keys y hy
  omega
 have e:pcAt s' 0 n=pcAt s 0 n:=by
  funext p
  have hm:=Nat.mod_lt p (show 0<n by omega)
  unfold pcAt
  rw [hs',now_flushR om_]
 refine ⟨hn,by omega,Sgl.nil hp,by omega,(by rw [hp];intro y hy;cases hy), ?_,fun k hk=> ?_,by rw [e];exact h.recs,Nat.le_refl _,by rw [e,List.take_length];exact h.recs⟩
 ·obtain ⟨q,hq⟩:=h.pair
  refine ⟨q, ?_⟩
  rw [hlst 0 om_,hlst 1 om_,(now_free (hfree 0 om_)).2,(now_free (hfree 1 om_)).2];exact hq
 ·rw [hlst (2+k) om_]
  by_cases hx:∃y∈s.pend,y.1=2+k
  ·obtain ⟨y,hy,ey⟩:=hx
   obtain ⟨p,h1,h2,h3,h4,h5⟩:=h.keys y hy
   rw [←ey,(h.sgl.now hy).2]
   exact ⟨by omega,fun _ _=>by omega⟩
  ·rw [(now_free (fun y hy e=>hx ⟨y,hy,e⟩)).2]
   have:=h.old k hk
   exact ⟨this.1,fun a b=>by have:=this.2 a b;unfold Dsk.lst at this;omega⟩
end
end
section
section
variable {s:Dsk}{n E T Y H H':Nat}{R:List (List UInt8)}{low:Nat}
theorem Core.free (h:Core s n E T Y H H' R low){q:Nat}(h1:H'≤q)(h2:q<T+n):∀y∈s.pend,y.1≠2+q%n:=fun y hy e=>by
 have he:=h.ends
 obtain ⟨p,q1,q2,q3,_,_⟩:=h.keys y hy
 have:=mod_eq_far (n:=n) (p:=p) (q:=q) om_ om_ om_
 omega
theorem Core.write (h:Core s n E T Y H H' R low)(hok:DOk s){i c:Nat}{d:List UInt8}(hH:H'<T+n)(hd:d.length≤492)(hE:E<4294967296)(hp:H'<4294967296)(hi:i<65536)(hc:c<65536){K:Nat}(hK:K=2+H'%n){X:List UInt8}(hX:X=partF (s.now K) E H' i c d):
  Core (s.wrote K X) n E T Y H (H'+1) R low∧pcAt (s.wrote K X) 0 n H'=⟨E,H',i,c,d⟩∧∀q,q%n≠H'%n→pcAt (s.wrote K X) 0 n q=pcAt s 0 n q:=by
 have hn:=h.n0
 have he:=h.ends
 have hl:=h.len
 have hm:=Nat.mod_lt H' (show 0<n by omega)
 have hf:=h.free (Nat.le_refl H') hH
 rw [←hK] at hf
 have hnow:s.now K=s.last.getD K []:=(now_free hf).2
 have h512:(s.now K).length=512:=hok.now om_
 have hx:pcF X=⟨E,H',i,c,d⟩:=by rw [hX];exact pcF_part h512 hd hE hp hi hc
 have hov:Over (s.last.getD K []) X:=by
  rw [←hnow]
  exact ⟨h512,bodyR E H' i c d,by rw [length_bodyR];omega,by rw [hX];exact partF_form h512 hd⟩
 obtain ⟨s',hs'⟩:∃s',s'=s.wrote K X:=⟨_,rfl⟩
 have h1:s'.last=s.last:=by rw [hs'];rfl
 have h2:s'.pend=s.pend++[(K,X)]:=by rw [hs'];rfl
 rw [←hs']
 have hnw:=now_write (s:=s) (s':=s') h1 h2
 have hat:pcAt s' 0 n H'=⟨E,H',i,c,d⟩:=by
  unfold pcAt
  rw [Nat.zero_add,←hK,hnw,if_pos rfl,hx]
 have hoth:∀q,q%n≠H'%n→pcAt s' 0 n q=pcAt s 0 n q:=fun q hq=>by
  unfold pcAt
  rw [hnw,if_neg om_]
 have hlst:∀k,s'.lst k=s.lst k:=fun k=>by unfold Dsk.lst;rw [h1]
 have hback:∀p i c,T≤p→p<H'→(pcAt s 0 n p).Part E p i c→pcAt s' 0 n p=pcAt s 0 n p:=fun p i c q1 q2 _=>hoth p fun e=>by
  have:=mod_eq_far (n:=n) (p:=p) (q:=H') e om_ om_
  omega
 refine ⟨⟨hn,by rw [h1];exact hl,⟨?_,fun y hy=> ?_⟩,by omega,fun y hy=> ?_,by rw [hlst,hlst];exact h.pair,fun k hk=>by rw [hlst];exact h.old k hk,h.recs.congr fun p i c q1 q2 q3=>hback p i c q1 om_ q3,h.low.1,h.low.2.congr fun p i c q1 q2 q3=>hback p i c q1 om_ q3⟩,hat,hoth⟩
 ·rw [h2,List.map_append]
  refine List.nodup_append.2 ⟨h.sgl.nodup,by simp,fun a ha b hb e=> ?_⟩
  obtain ⟨y,hy,rfl⟩:=List.mem_map.1 ha
  simp at hb
  exact hf y hy (e.trans hb)
 ·rw [h2] at hy
  rcases List.mem_append.1 hy with hy|hy
  ·rw [h1];exact h.sgl.over y hy
  ·rw [List.mem_singleton] at hy;subst hy;rw [h1];exact hov
 ·rw [h2] at hy
  rcases List.mem_append.1 hy with hy|hy
  ·obtain ⟨p,q1,q2,q3⟩:=h.keys y hy
   exact ⟨p,q1,by omega,q3⟩
  ·rw [List.mem_singleton] at hy;subst hy
   exact ⟨H',by omega,by omega,hK,by rw [hx],by rw [hx]⟩
end
theorem parts_take (d:List UInt8):∀c,((List.range c).map (partR d)).flatten=d.take (c*492)
 |0=>by simp
 |c+1=>by
  rw [List.range_succ,List.map_append,List.flatten_append,parts_take d c,List.map_singleton,List.flatten_singleton]
  unfold partR
  rw [←List.take_add,Nat.add_mul,Nat.one_mul]
theorem parts_cat {pc:Nat→Pc}{H c:Nat}{d:List UInt8}(hc:c=countR d.length)(h:∀i,i<c→(pc (H+i)).data=partR d i):catF pc H c=d:=by
 unfold catF
 have e:(List.range c).map (fun j=>(pc (H+j)).data)=(List.range c).map (partR d):=List.map_congr_left fun j hj=>h j (List.mem_range.1 hj)
 rw [e,parts_take,List.take_of_length_le]
 unfold countR at hc;omega
theorem parts_rec {pc:Nat→Pc}{E H c:Nat}{d:List UInt8}(hc:c=countR d.length)(h0:1≤d.length)(h1:d.length≤8364)(h:∀i,i<c→pc (H+i)=⟨E,H+i,i,c,partR d i⟩):IsRec pc E H c:=by
 have hc1:1≤c:=by unfold countR at hc;omega
 refine ⟨hc1,by unfold countR at hc;omega, ?_,fun j hj=> ?_⟩
 ·have:=h 0 om_
  rw [Nat.add_zero] at this
  rw [this]
 ·obtain ⟨q1,q2,q3⟩:=partR_len (d:=d) (i:=j) hc hj
  rw [h j hj]
  refine ⟨fun e=> ?_,rfl,rfl,rfl,rfl, ?_⟩
  ·have e:partR d j=[]:=e
   rw [e] at q2;exact absurd q2 dc_
  ·by_cases hj1:j+1=c
   ·exact .inl hj1
   ·right
    show (partR d j).length=492
    rw [q1]
    unfold countR at hc;omega
section
variable {n E T Y H top tl:Nat}{life:Int}{b:Bool}{R:List (List UInt8)}{low:Nat}{d:List UInt8}{c:Nat}
theorem lays_core {l:Lg}(hl:l=⟨0,n,life,E,top,tl,H,b⟩)(hc:c=countR d.length)(h1:d.length≤8364)(hE:E<4294967296)(hH:H+c≤T+n)(hp:H+c<4294967296):
  ∀(k i:Nat) (s:Dsk),i+k=c→Core s n E T Y H (H+i) R low→DOk s→(∀j,j<i→pcAt s 0 n (H+j)=⟨E,H+j,j,c,partR d j⟩)→
   ∃j,j≤c∧Core (laysR l d c s i k).1 n E T Y H (H+j) R low∧(∀m,m<j→pcAt (laysR l d c s i k).1 0 n (H+m)=⟨E,H+m,m,c,partR d m⟩)∧((laysR l d c s i k).2=0∧j=c∨(laysR l d c s i k).2=3∧j<c∧(laysR l d c s i k).1.left=0)∧(laysR l d c s i k).1.life=s.life∧(s.left= -1→(laysR l d c s i k).2=0∧(laysR l d c s i k).1.left= -1)
 |0,i,s,hk,h,_,hat=>⟨i,by omega,h,hat,.inl ⟨rfl,by omega⟩,rfl,fun q=>⟨rfl,q⟩⟩
 |k+1,i,s,hk,h,hok,hat=>by
  have hn:=h.n0
  have he:=h.ends
  have hlen:=h.len
  have hm:=Nat.mod_lt (H+i) (show 0<n by omega)
  have hpl:=partR_len (d:=d) (i:=i) hc om_
  have hc17:c≤17:=by unfold countR at hc;omega
  obtain ⟨K,hK⟩:∃K,K=2+(H+i)%n:=⟨_,rfl⟩
  obtain ⟨X,hX⟩:∃X,X=partF (s.now K) E (H+i) i c (partR d i):=⟨_,rfl⟩
  have hlay:layR s l d i c=s.writeR ((K:Nat):Int) X:=by
   rw [hl,hX,hK]
   show s.writeR ((0+2+(H+i)%n:Nat):Int) (sealF (s.now (0+2+(H+i)%n)) (bodyR E (H+i) i c (partR d i))).1=_
   rw [Nat.zero_add];rfl
  have hXl:X.length=512:=by
   rw [hX,partF_form (hok.now om_) hpl.2.2]
   exact length_form _ (by rw [length_bodyR];omega)
  unfold laysR
  rw [hlay]
  by_cases hz:s.left=0
  ·have hne:(s.writeR ((K:Nat):Int) X).2≠0:=by
    intro q
    exact (writeR_ok q).2.2.2.1 hz
   obtain ⟨e1,e2,e3,_,e5⟩:=writeR_no hne
   have el:=(Did.write s ((K:Nat):Int) X).life
   rw [if_pos hne]
   obtain ⟨s',hs'⟩:∃s',s'=(s.writeR ((K:Nat):Int) X).1:=⟨_,rfl⟩
   rw [←hs'] at e1 e2 e3 el ⊢
   refine ⟨i,by omega,h.same e1 e2,fun m hm=> ?_,.inr ⟨e5 hz,by omega,by rw [e3];exact hz⟩,el,fun q=>by omega⟩
   rw [←hat m hm]
   unfold pcAt
   rw [now_congr e1 e2]
  ·have hgo:=writeR_go (k:=K) (d:=X) hz om_ hXl
   rw [hgo,if_neg (fun q=>q rfl)]
   obtain ⟨g1,g2,g3⟩:=h.write hok (i:=i) (c:=c) (d:=partR d i) om_ hpl.2.2 hE om_ om_ om_ hK hX
   have hok':DOk (s.wrote K X):=by
    have:=hok.write ((K:Nat):Int) X
    rw [hgo] at this;exact this
   obtain ⟨j,j1,j2,j3,j4,j5,j6⟩:=lays_core hl hc h1 hE hH hp k (i+1) (s.wrote K X) om_ g1 hok' (fun m hm=>by
    by_cases hmi:m=i
    ·rw [hmi];exact g2
    ·rw [g3 (H+m) fun e=>by
      have:=mod_eq_far (n:=n) (p:=H+m) (q:=H+i) e om_ om_
      omega]
     exact hat m om_)
   refine ⟨j,j1,j2,j3,j4,j5,fun q=>j6 ?_⟩
   show spent s.left= -1
   rw [q];rfl
theorem append_core {s:Dsk}{l:Lg}(hl:l=⟨0,n,s.life,E,top,T,H,true⟩)(h:Core s n E T Y H H R low)(hok:DOk s)(hz:s.left≠0)(hE:E<4294967296)(hb:H+17≤1073741824)(d:List UInt8):
  ((appendR s l d).2.2=0∧1≤d.length∧d.length≤8364∧(appendR s l d).2.1=⟨0,n,s.life,E,top,T,H+countR d.length,true⟩∧countR d.length≤17∧H+countR d.length≤T+n∧Core (appendR s l d).1 n E T Y (H+countR d.length) (H+countR d.length) (R++[d]) low∧(s.left= -1→(appendR s l d).1.left= -1)∧(appendR s l d).1.life=s.life)∨
  ((appendR s l d).2.2≠0∧(appendR s l d).2.2≠3∧appendR s l d=(s,l,(appendR s l d).2.2)∧(1≤d.length→d.length≤8364→(appendR s l d).2.2=40∧T+n<H+countR d.length))∨
  ((appendR s l d).2.2=3∧(appendR s l d).1.left=0∧(appendR s l d).2.1=l∧s.left≠ -1∧(appendR s l d).1.life=s.life∧∃j,Core (appendR s l d).1 n E T Y H (H+j) R low∧NoRec (pcAt (appendR s l d).1 0 n) E H):=by
 have he:=h.ends
 have ha:aliveR s l=true:=alive_iff.2 ⟨hz,by rw [hl]⟩
 have hr:readyR s l=0:=ready_iff.2 ⟨ha,by rw [hl]⟩
 have e1:l.head=H:=by rw [hl]
 have e2:l.tail=T:=by rw [hl]
 have e3:l.n=n:=by rw [hl]
 unfold appendR
 rw [if_neg om_,e1,e2,e3]
 by_cases h0:d.length=0
 ·rw [if_pos h0];exact .inr (.inl ⟨by show (2:Int)≠0;decide,by show (2:Int)≠3;decide,rfl,fun q=>by omega⟩)
 ·rw [if_neg h0]
  by_cases h7:8364<d.length
  ·rw [if_pos h7];exact .inr (.inl ⟨by show (7:Int)≠0;decide,by show (7:Int)≠3;decide,rfl,fun _ q=>by omega⟩)
  ·rw [if_neg h7]
   obtain ⟨c,hc⟩:∃c,c=countR d.length:=⟨_,rfl⟩
   have hc17:c≤17:=by unfold countR at hc;omega
   rw [←hc,if_neg om_]
   by_cases h40:n<H-T+c
   ·rw [if_pos h40];exact .inr (.inl ⟨by show (40:Int)≠0;decide,by show (40:Int)≠3;decide,rfl,fun _ _=>⟨rfl,by omega⟩⟩)
   ·rw [if_neg h40]
    obtain ⟨j,j1,j2,j3,j4,j5,j6⟩:=lays_core hl hc om_ hE om_ om_ c 0 s om_ h hok (fun j hj=>absurd hj (Nat.not_lt_zero _))
    obtain ⟨r,hrr⟩:∃r,r=laysR l d c s 0 c:=⟨_,rfl⟩
    rw [←hrr] at j2 j3 j4 j5 j6
    simp only []
    rw [←hrr]
    rcases j4 with ⟨q1,rfl⟩|⟨q1,q2,q3⟩
    ·rw [if_neg om_]
     have hrec:=parts_rec hc om_ om_ j3
     have hcat:=parts_cat (pc:=pcAt r.1 0 n) (H:=H) hc (fun i hi=>by rw [j3 i hi])
     refine .inl ⟨rfl,by omega,by omega,by rw [hl],by omega,by omega, ?_,fun q=>(j6 q).2,j5⟩
     show Core r.1 n E T Y (H+j) (H+j) (R++[d]) low
     have hR:=j2.recs.step hrec
     rw [hcat] at hR
     have hlow:=j2.low
     refine ⟨j2.n0,j2.len,j2.sgl,by omega,j2.keys,j2.pair,j2.old,hR,by rw [List.length_append];omega, ?_⟩
     rw [List.take_append_of_le_length hlow.1];exact hlow.2
    ·rw [if_pos om_]
     refine .inr (.inr ⟨q1,q3,rfl,fun q=>by have:=(j6 q).2;omega,j5,j,j2,fun c' hr'=> ?_⟩)
     by_cases hj0:j=0
     ·subst hj0
      exact j2.none (q:=H) om_ (by have:=hr'.part 0 hr'.c1;rwa [Nat.add_zero] at this)
     ·have e0:=j3 0 om_
      rw [Nat.add_zero] at e0
      have hcc:c=c':=by have:=hr'.cnt;rw [e0] at this;exact this
      exact j2.none (q:=H+j) (Nat.le_refl _) (hr'.part j om_)
end
end
section
theorem renew_over {a b:List UInt8}{no:Int}(ha:a.length=512)(hb:b.length=512)(h:(renewF a b no []).2.2=0):Over (if (renewF a b no []).1=1 then b else a) (renewF a b no []).2.1:=by
 have h8:(le8 no++[]).length≤504:=by simp [le8]
 have key:∀o:List UInt8,o.length=512→Over o (sealF o (le8 no++[])).1:=fun o ho=>⟨ho,_,h8,by unfold sealF;rw [if_neg om_,if_neg om_]⟩
 by_cases h1:no<1
 ·exfalso
  unfold renewF at h
  rw [if_neg (fun hh=>hh ⟨ha,hb⟩),if_pos h1] at h
  cases h
 ·have e:=renew_mid (l:=a) (r:=b) (no:=no) (d:=[]) ⟨ha,hb⟩ h1 dc_
  by_cases h3:(newestF a b).2.2.2=0∧no≤((newestF a b).2.1:Int)
  ·rw [if_pos h3] at e
   rw [e] at h;cases h
  ·rw [if_neg h3] at e
   by_cases hC:(newestF a b).2.2.2=0∧(newestF a b).1=0
   ·rw [if_pos hC] at e
    rw [e]
    show Over (if (1:Nat)=1 then b else a) _
    rw [if_pos rfl];exact key b hb
   ·rw [if_neg hC] at e
    rw [e]
    show Over (if (0:Nat)=1 then b else a) _
    rw [if_neg dc_];exact key a ha
theorem now_lst {s:Dsk}(hp:s.pend=[])(k:Nat):s.now k=s.lst k:=now_nil hp k
theorem renew_two {s:Dsk}(hok:DOk s)(hp:s.pend=[])(hz:s.left≠0)(hf:2≤s.last.length){no:Nat}(hno:no≤9223372036854775807)(hren:(renewF (s.now 0) (s.now (0+1)) (no:Int) []).2.2=0):
  ((renewR s 0 no).2=0∧(renewR s 0 no).1.pend=[]∧(∃x,newestF ((renewR s 0 no).1.lst 0) ((renewR s 0 no).1.lst 1)=(x,no,[],0))∧∀k,2≤k→k<s.last.length→(renewR s 0 no).1.lst k=s.lst k)∨
  ((renewR s 0 no).2=3∧(renewR s 0 no).1.left=0∧Sgl (renewR s 0 no).1∧∀x,CutOf (renewR s 0 no).1 x→((∃q,newestF (x.lst 0) (x.lst 1)=(q,no,[],0))∨newestF (x.lst 0) (x.lst 1)=newestF (s.lst 0) (s.lst 1))∧∀k,2≤k→k<s.last.length→x.lst k=s.lst k):=by
 have h0:=hok.now (k:=0) om_
 have h1:=hok.now (k:=1) om_
 obtain ⟨q1,q5⟩:=renew_ok h0 (hok.now (k:=0+1) om_) hren
 obtain ⟨g1,g2,g3,g4⟩:=renewR_good hok (f:=0) om_ hno hren
 have hgo:=renewR_go (first:=0) hz om_ q1 q5
 have hov:=renew_over h0 h1 hren
 have hdid:=(renewR_did s 0 no).2
 rcases flushR_err (s.anch 0 no) with ⟨f1,f2,f3⟩|⟨f1,f2,f3⟩
 ·left
  have e0:(renewR s 0 no).2=0:=by rw [hgo];exact f1
  have ep:(renewR s 0 no).1.pend=[]:=by rw [hgo];exact f2
  obtain ⟨x,hx⟩:=g1 e0
  refine ⟨e0,ep,⟨x, ?_⟩,fun k k1 k2=> ?_⟩
  ·rw [←now_lst ep,←now_lst ep];exact hx
  ·rw [←now_lst ep,←now_lst hp];exact g4 k om_ om_ k2
 ·right
  rcases renew_told (a:=s.now 0) (b:=s.now (0+1)) (no:=(no:Int)) (d:=[]) ⟨h0,h1⟩ (Nat.zero_le _) om_ with ⟨g,_⟩|⟨_,_,g⟩
  ·exact absurd hren g
  have hslot:=g.slot
  have htorn:=g.torn
  have hnew:=g.new
  obtain ⟨r,hr⟩:∃r,renewF (s.now 0) (s.now (0+1)) (no:Int) []=r:=⟨_,rfl⟩
  have hov:Over (if r.1=1 then s.now (0+1) else s.now 0) r.2.1:=by rw [←hr];exact hov
  rw [hr] at hslot htorn hnew q1 q5
  have hs1:(renewR s 0 no).1=s.anch 0 no:=by rw [hgo];exact f2
  have hap:(s.anch 0 no).pend=[(r.1,r.2.1)]:=by
   show s.pend++[(0+(renewF (s.now 0) (s.now (0+1)) (no:Int) []).1,(renewF (s.now 0) (s.now (0+1)) (no:Int) []).2.1)]=_
   rw [hp,hr,Nat.zero_add];rfl
  have hal:(s.anch 0 no).last=s.last:=rfl
  refine ⟨by rw [hgo];exact f1,by rw [hs1];exact f3, ?_,fun x c=> ?_⟩
  ·rw [hs1]
   refine ⟨by rw [hap];simp,fun y hy=> ?_⟩
   rw [hap,List.mem_singleton] at hy
   subst hy
   rw [hal]
   rcases hslot with e|e
   ·rw [if_neg (by rw [e];decide),now_lst hp] at hov
    rw [e];exact hov
   ·rw [if_pos e,now_lst hp] at hov
    rw [e];exact hov
  ·rw [hs1] at c
   have c1:=c.one (r.1,r.2.1) (by rw [hap];exact List.mem_singleton.2 rfl)
   have cf:∀k,k≠r.1→k<s.last.length→x.lst k=s.lst k:=fun k k1 k2=>c.free k k2 (fun y hy e=>by
    rw [hap,List.mem_singleton] at hy
    subst hy
    exact k1 e.symm)
   refine ⟨?_,fun k k1 k2=>cf k om_ k2⟩
   rw [hal] at c1
   have hlen:(x.lst r.1).length=512:=by
    rcases c1 with e|e|e
    ·show (x.last.getD r.1 []).length=512
     rw [e,List.getD_eq_getElem?_getD,List.getElem?_eq_getElem (show r.1<s.last.length by omega)]
     exact hok.len _ (List.getElem_mem _)
    ·show (x.last.getD r.1 []).length=512
     rw [e];exact q5
    ·show (x.last.getD r.1 []).length=512
     refine Classical.byContradiction fun hne=> ?_
     have:openF (x.last.getD r.1 [])=([],2):=by unfold openF;rw [if_pos hne]
     rw [this] at e
     exact absurd (congrArg (·.2) e) dc_
   have hx:=htorn (x.lst r.1) (by
    rcases c1 with e|e|e
    ·left
     show x.last.getD r.1 []=_
     rw [e]
     rcases hslot with e2|e2
     ·rw [if_neg (by rw [e2];decide),e2,now_lst hp];rfl
     ·rw [if_pos e2,e2,now_lst hp];rfl
    ·exact .inr (.inl e)
    ·exact .inr (.inr e)) hlen
   have hpair:(putIn (s.now 0) (s.now (0+1)) r.1 (x.lst r.1)).1=x.lst 0∧(putIn (s.now 0) (s.now (0+1)) r.1 (x.lst r.1)).2=x.lst 1:=by
    rcases hslot with e|e
    ·rw [e]
     exact ⟨rfl,by show s.now (0+1)=_;rw [now_lst hp,cf 1 om_ om_]⟩
    ·rw [e]
     exact ⟨by show s.now 0=_;rw [now_lst hp,cf 0 om_ om_],rfl⟩
   rw [hpair.1,hpair.2] at hx
   rcases hx with hx|hx
   ·left;exact ⟨r.1,hx⟩
   ·right;rw [hx,now_lst hp,now_lst hp]
section
variable {s:Dsk}{n E T Y H H':Nat}{R:List (List UInt8)}{low:Nat}
structure Flat (s:Dsk)(n E T:Nat)(R:List (List UInt8))(H:Nat):Prop where
 n0:18≤n∧n≤256
 len:s.last.length=n+2
 pend:s.pend=[]
 pair:∃x,newestF (s.lst 0) (s.lst 1)=(x,E*4294967296+T,[],0)
 old:∀k,k<n→(pcF (s.lst (2+k))).epoch≤E
 recs:Recs (pcAt s 0 n) E T R H
 no:NoRec (pcAt s 0 n) E H
theorem pcAt_flat {s x:Dsk}(hp:s.pend=[])(hx:x.pend=[]){n:Nat}(hn:0<n)(hl:n+2≤s.last.length)(h:∀k,2≤k→k<s.last.length→x.lst k=s.lst k):pcAt x 0 n=pcAt s 0 n:=by
 funext p
 have hm:=Nat.mod_lt p hn
 unfold pcAt
 rw [now_lst hp,now_lst hx,h _ om_ om_]
theorem recs_of_none {pc:Nat→Pc}{E a:Nat}(h:∀c,¬IsRec pc E a c){R:List (List UInt8)}{hd:Nat}(r:Recs pc E a R hd):R=[]:=by
 have h1:R=[]∧hd=a∨False:=by
  induction r with
  |nil=>exact .inl ⟨rfl,rfl⟩
  |step _ hr ih=>
   rcases ih with ⟨rfl,rfl⟩|q
   ·exact .inr (h _ hr)
   ·exact .inr q
 exact (h1.elim id False.elim).1
theorem Flat.left (h:Flat s n E T R H){x:Dsk}(hx:x.pend=[])(hpair:newestF (x.lst 0) (x.lst 1)=newestF (s.lst 0) (s.lst 1))(hr:∀k,2≤k→k<s.last.length→x.lst k=s.lst k):Left x n E T R R.length:=by
 have hn:=h.n0
 have hl:=h.len
 have e:=pcAt_flat h.pend hx (n:=n) om_ om_ hr
 refine ⟨by rw [hpair];exact h.pair,fun k hk=>by rw [hr (2+k) om_ om_];exact h.old k hk,fun R' h' r n'=> ?_⟩
 rw [e] at r n'
 obtain ⟨q1,q2⟩:=Recs.pre _ (Nat.le_refl _) r h.recs h.no
 obtain ⟨q3,_⟩:=Recs.pre _ (Nat.le_refl _) h.recs r n'
 exact ⟨q3,q1,q2⟩
theorem left_none {s x:Dsk}{n E T:Nat}(hs:s.pend=[])(hx:x.pend=[])(hn:18≤n)(hl:s.last.length=n+2)(hpair:∃q,newestF (x.lst 0) (x.lst 1)=(q,E*4294967296+T,[],0))(hr:∀k,2≤k→k<s.last.length→x.lst k=s.lst k)(hold:∀k,k<n→(pcF (s.lst (2+k))).epoch≤E)(hno:NoRec (pcAt s 0 n) E T)(low:Nat)(hlow:low=0):Left x n E T [] low:=by
 have e:=pcAt_flat hs hx (n:=n) om_ om_ hr
 refine ⟨hpair,fun k hk=>by rw [hr (2+k) om_ om_];exact hold k hk,fun R' h' r n'=> ?_⟩
 rw [e] at r
 have:=recs_of_none hno r
 subst this
 exact ⟨by omega,Nat.le_refl _,rfl⟩
theorem trim_core (h:Core s n E T Y H H R low)(hok:DOk s){l:Lg}{top:Nat}(hl:l=⟨0,n,s.life,E,top,T,H,true⟩)(hz:s.left≠0)(hE:E<1073741824)(hH:H≤1073741824):
  ((trimR s l).2.2=0∧(trimR s l).2.1=⟨0,n,s.life,E,top,H,H,true⟩∧Core (trimR s l).1 n E H H H H [] 0∧(trimR s l).1.life=s.life)∨
  ((trimR s l).2.2=3∧(trimR s l).1.left=0∧(trimR s l).2.1=l∧Sgl (trimR s l).1∧(trimR s l).1.life=s.life∧∀x,CutOf (trimR s l).1 x→Left x n E T R R.length∨Left x n E H [] 0):=by
 have hn:=h.n0
 have he:=h.ends
 have hlen:=h.len
 have ha:aliveR s l=true:=alive_iff.2 ⟨hz,by rw [hl]⟩
 have hr0:readyR s l=0:=ready_iff.2 ⟨ha,by rw [hl]⟩
 have e1:l.head=H:=by rw [hl]
 have e2:l.tail=T:=by rw [hl]
 have e3:l.first=0:=by rw [hl]
 have e4:l.epoch=E:=by rw [hl]
 have hc:=h.flush hz
 obtain ⟨f1,f2⟩:s.flushR.2=0∧s.flushR.1.pend=[]:=by
  rcases flushR_err s with q|q
  ·exact ⟨q.1,q.2.1⟩
  ·exact absurd q.2.2 hz
 have flife:=(Did.flush s).life
 obtain ⟨f,hf⟩:∃f,f=s.flushR:=⟨_,rfl⟩
 have hokf:DOk f.1:=by rw [hf];exact hok.flush
 rw [←hf] at hc f1 f2 flife
 unfold trimR
 rw [if_neg om_,←hf,e1,e2,e3,e4]
 have hcl:=hc.len
 by_cases ht:T=H
 ·rw [if_pos (.inr ht)]
  subst ht
  have hR:R=[]:=by
   have:=h.recs.count
   exact List.eq_nil_of_length_eq_zero om_
  subst hR
  exact .inl ⟨f1,hl,hc,flife⟩
 ·rw [if_neg (fun q=>q.elim (fun q=>q f1) ht)]
  by_cases hz2:f.1.left=0
  ·rw [renewR_dead hz2]
   simp only []
   rw [if_pos dc_]
   refine .inr ⟨rfl,hz2,rfl,hc.sgl,flife,fun x c=>.inl ?_⟩
   exact hc.cut hc.no c
  ·have hno:E*4294967296+H≤9223372036854775807:=by omega
   have hlw:Low f.1 0 (E*4294967296+T):=by
    obtain ⟨x,hx⟩:=hc.pair
    refine .inr ?_
    show (newestF (f.1.now 0) (f.1.now 1)).2.1≤_
    rw [now_lst f2,now_lst f2,hx];exact Nat.le_refl _
   have hren:=hlw.ren hokf om_ (no':=E*4294967296+H) om_ hno
   have hlife:=(renewR_did f.1 0 (E*4294967296+H)).1.life
   have hlen2:=(renewR_did f.1 0 (E*4294967296+H)).1.len
   have hflat:Flat f.1 n E T R H:=⟨hn,hcl,f2,hc.pair,fun k hk=>(hc.old k hk).1,hc.recs,hc.no⟩
   rcases renew_two hokf f2 hz2 om_ hno hren with ⟨q1,q2,q3,q4⟩|⟨q1,q2,q3,q4⟩
   ·obtain ⟨r,hr⟩:∃r,r=renewR f.1 0 (E*4294967296+H):=⟨_,rfl⟩
    rw [←hr] at q1 q2 q3 q4 hlife hlen2
    simp only []
    rw [←hr,if_neg om_]
    refine .inl ⟨rfl,by rw [hl], ?_,hlife.trans flife⟩
    show Core r.1 n E H H H H [] 0
    exact ⟨hn,by omega,Sgl.nil q2,by omega,(by rw [q2];intro y hy;cases hy),q3,fun k hk=>by rw [q4 (2+k) om_ om_];exact hc.old k hk,.nil,Nat.le_refl _,.nil⟩
   ·obtain ⟨r,hr⟩:∃r,r=renewR f.1 0 (E*4294967296+H):=⟨_,rfl⟩
    rw [←hr] at q1 q2 q3 q4 hlife hlen2
    simp only []
    rw [←hr,if_pos om_]
    refine .inr ⟨q1,q2,rfl,q3,hlife.trans flife,fun x c=> ?_⟩
    obtain ⟨a1,a2⟩:=q4 x c
    rcases a1 with a1|a1
    ·exact .inr (left_none f2 c.pend hn.1 hcl a1 a2 (fun k hk=>(hc.old k hk).1) hc.no 0 rfl)
    ·exact .inl (hflat.left c.pend a1 a2)
end
end
theorem write_m {s:Dsk}{k:Nat}{d:List UInt8}(h:s.left= -1)(hk:k<s.last.length)(hd:d.length=512):(s.writeR (k:Int) d).2=0∧(s.writeR (k:Int) d).1=s.wrote k d∧(s.wrote k d).left= -1:=by
 rw [writeR_go om_ hk hd]
 exact ⟨rfl,rfl,by show spent s.left= -1;rw [h];rfl⟩
theorem flush_m {s:Dsk}(h:s.left= -1):s.flushR.2=0∧s.flushR.1.left= -1:=by
 rcases flushR_cases s with ⟨q,e⟩|⟨q,e⟩
 ·omega
 ·rw [e];exact ⟨rfl,by show spent s.left= -1;rw [h];rfl⟩
structure Zero (s:Dsk):Prop where
 left:s.left= -1
 len:s.last.length=20
 now:∀j,j<20→s.now j=zsec
structure FrD (s:Dsk)(no:Nat):Prop where
 left:s.left= -1
 len:s.last.length=20
 pair:∃x,newestF (s.now 0) (s.now 1)=(x,no,[],0)
 ring:∀j,2≤j→j<20→s.now j=zsec
theorem Zero.flush {s:Dsk}(h:Zero s):Zero s.flushR.1:=⟨(flush_m h.left).2,(Did.flush s).len.trans h.len,fun j hj=>(now_flushR (by rw [h.len];exact hj)).trans (h.now j hj)⟩
theorem DOk.take {s:Dsk}(h:DOk s):DOk s.take:=⟨h.len,h.plen,h.n1,h.n2,h.lb⟩
theorem DOk.zeros:∀(k a:Nat) (s:Dsk),DOk s→DOk (zerosR s a k).1
 |0,_,_,h=>h
 |k+1,a,s,h=>by
  unfold zerosR
  split
  ·exact h.write _ _
  ·exact DOk.zeros k (a+1) _ (h.write _ _)
theorem pc_zero:pcF zsec=pcNo:=by
 have h:(openF zsec).1.length<12:=by
  unfold openF
  split
  ·decide
  ·split
   ·decide
   ·split
    ·rw [List.length_take,show (zsec.getD 1 0).toNat+256*(zsec.getD 2 0).toNat=0 from by decide];omega
    ·decide
 unfold pcF;rw [if_neg om_]
theorem FrD.take {s:Dsk}{no:Nat}(h:FrD s no):FrD s.take no:=⟨h.left,h.len,h.pair,h.ring⟩
theorem FrD.flush {s:Dsk}{no:Nat}(h:FrD s no):FrD s.flushR.1 no:=by
 have hl:=h.len
 refine ⟨(flush_m h.left).2,(Did.flush s).len.trans hl, ?_,fun j h2 h3=>(now_flushR om_).trans (h.ring j h2 h3)⟩
 rw [now_flushR om_,now_flushR om_];exact h.pair
theorem FrD.newR {s:Dsk}(h:FrD s 4294967296):newR s 0=some (1,0):=by
 obtain ⟨x,hx⟩:=h.pair
 have hx':newestF (s.now 0) (s.now (0+1))=(x,4294967296,[],0):=hx
 rw [newR_some (f:=0) (by rw [hx'];simp),hx']
 exact congrArg some (Prod.ext (show 4294967296/4294967296=1 by decide) (show 4294967296%4294967296=0 by decide))
theorem topTo_no {pc:Nat→Pc}(h:∀p,pc p=pcNo)(e:Nat):∀k,topTo pc e k=e
 |0=>rfl
 |k+1=>by
  unfold topTo
  rw [h,topTo_no h e k]
  exact (if_pos (show pcNo.epoch≤1073741824 from Nat.zero_le _)).trans (Nat.max_eq_left (Nat.zero_le _))
theorem recs_no {pc:Nat→Pc}(h:∀p,pc p=pcNo){e a:Nat}{R:List (List UInt8)}{hd:Nat}(r:Recs pc e a R hd):R=[]∧hd=a:=by
 cases r with
 |nil=>exact ⟨rfl,rfl⟩
 |step _ hr=>exact absurd (show (pc _).data=[] from by rw [h];rfl) (hr.part 0 hr.c1).data
structure ZeroN (n:Nat)(s:Dsk):Prop where
 left:s.left= -1
 len:s.last.length=n+2
 now:∀j,j<n+2→s.now j=zsec
theorem zeros_zN {n:Nat}:∀(k a:Nat) (s:Dsk),a+k≤n+2→ZeroN n s→(zerosR s a k).2=0∧ZeroN n (zerosR s a k).1
 |0,_,_,_,h=>⟨rfl,h⟩
 |k+1,a,s,ha,h=>by
  obtain ⟨h1,h2,h3⟩:=write_m (k:=a) (d:=zsec) h.left (by rw [h.len];omega) zsec_len
  unfold zerosR
  rw [if_neg om_,h2]
  refine zeros_zN k (a+1) _ om_ ⟨h3,h.len,fun j hj=> ?_⟩
  rw [now_write (s:=s) (s':=s.wrote a zsec) rfl rfl j]
  split
  ·rfl
  ·exact h.now j hj
structure FrN (n:Nat)(s:Dsk)(no:Nat):Prop where
 left:s.left= -1
 len:s.last.length=n+2
 pair:∃x,newestF (s.now 0) (s.now 1)=(x,no,[],0)
 ring:∀j,2≤j→j<n+2→s.now j=zsec
theorem renew_N {n:Nat}{s:Dsk}(hok:DOk s){no:Nat}(h:s.left= -1)(hlen:s.last.length=n+2)(hr:∀j,2≤j→j<n+2→s.now j=zsec)(hno:no≤9223372036854775807)(hren:(renewF (s.now 0) (s.now (0+1)) (no:Int) []).2.2=0):(renewR s 0 no).2=0∧FrN n (renewR s 0 no).1 no∧(renewR s 0 no).1.pend=[]∧(renewR s 0 no).1.life=s.life:=by
 obtain ⟨g1,g2,g3,g4⟩:=renewR_good hok (f:=0) (no:=no) om_ hno hren
 obtain ⟨q1,q5⟩:=renew_ok (hok.now om_) (hok.now om_) hren
 have hl:(renewR s 0 no).1.left= -1:=by
  rw [renewR_go om_ om_ q1 q5]
  exact (flush_m (s:=s.anch 0 no) (by show spent s.left= -1;rw [h];rfl)).2
 have he:(renewR s 0 no).2=0:=Classical.not_not.1 fun q=>by have:=g2 q;omega
 exact ⟨he,⟨hl,(renewR_did s 0 no).1.len.trans hlen,g1 he,fun j h2 h3=>(g4 j om_ om_ om_).trans (hr j h2 h3)⟩,g3 om_,(renewR_did s 0 no).1.life⟩
theorem ZeroN.flush {n:Nat}{s:Dsk}(h:ZeroN n s):ZeroN n s.flushR.1:=⟨(flush_m h.left).2,(Did.flush s).len.trans h.len,fun j hj=>(now_flushR (by rw [h.len];exact hj)).trans (h.now j hj)⟩
theorem args_N {n:Nat}{s:Dsk}(h:s.left= -1)(hl:s.last.length=n+2)(h1:18≤n)(h2:n≤256):argsR s 0 (n:Int)=0:=by
 unfold argsR
 rw [if_neg om_,if_neg om_,if_neg om_,if_neg om_]
theorem format_N {n:Nat}{s:Dsk}(hok:DOk s)(h:ZeroN n s)(h1:18≤n)(h2:n≤256):(formatR s 0 (n:Int)).2=0∧FrN n (formatR s 0 (n:Int)).1 4294967296∧(formatR s 0 (n:Int)).1.pend=[]∧(formatR s 0 (n:Int)).1.life=inc s.life:=by
 have ht:ZeroN n s.take:=⟨h.left,h.len,h.now⟩
 obtain ⟨g1,g2⟩:=zeros_zN (n+2) 0 s.take om_ ht
 have hk:DOk (zerosR s.take 0 (n+2)).1.flushR.1:=(DOk.zeros (n+2) 0 s.take hok.take).flush
 have hf:=flush_m g2.left
 have hz:=g2.flush
 have ha:=args_N h.left h.len h1 h2
 have e:formatR s 0 (n:Int)=renewR (zerosR s.take 0 (n+2)).1.flushR.1 0 4294967296:=by
  unfold formatR
  rw [if_neg om_]
  show (if (zerosR s.take 0 ((n:Int).toNat+2)).2≠0 then zerosR s.take 0 ((n:Int).toNat+2) else if (zerosR s.take 0 ((n:Int).toNat+2)).1.flushR.2≠0 then (zerosR s.take 0 ((n:Int).toNat+2)).1.flushR else renewR (zerosR s.take 0 ((n:Int).toNat+2)).1.flushR.1 0 4294967296)=_
  rw [Int.toNat_natCast,if_neg om_,if_neg om_]
 obtain ⟨r1,r2,r3,r4⟩:=renew_N hk hz.left hz.len (fun j _ h3=>hz.now j h3) (no:=4294967296) dc_ (by rw [hz.now 0 om_,hz.now (0+1) om_];exact renew_zeros dc_)
 refine ⟨by rw [e];exact r1,by rw [e];exact r2,by rw [e];exact r3, ?_⟩
 exact (formatR_did ha).life
theorem FrN.pc {n:Nat}{s:Dsk}{no:Nat}(h:FrN n s no)(hn:0<n)(p:Nat):pcAt s 0 n p=pcNo:=by
 have:=Nat.mod_lt p hn
 unfold pcAt
 rw [h.ring _ om_ om_];exact pc_zero
theorem FrN.take {n:Nat}{s:Dsk}{no:Nat}(h:FrN n s no):FrN n s.take no:=⟨h.left,h.len,h.pair,h.ring⟩
theorem FrN.flush {n:Nat}{s:Dsk}{no:Nat}(h:FrN n s no):FrN n s.flushR.1 no:=by
 have hl:=h.len
 refine ⟨(flush_m h.left).2,(Did.flush s).len.trans hl, ?_,fun j h2 h3=>(now_flushR om_).trans (h.ring j h2 h3)⟩
 rw [now_flushR om_,now_flushR om_];exact h.pair
theorem FrN.newR {n:Nat}{s:Dsk}(h:FrN n s 4294967296):newR s 0=some (1,0):=by
 obtain ⟨x,hx⟩:=h.pair
 have hx':newestF (s.now 0) (s.now (0+1))=(x,4294967296,[],0):=hx
 rw [newR_some (f:=0) (by rw [hx'];simp),hx']
 exact congrArg some (Prod.ext (show 4294967296/4294967296=1 by decide) (show 4294967296%4294967296=0 by decide))
theorem start_N {n:Nat}{s:Dsk}(hok:DOk s)(h:FrN n s 4294967296){l:Lg}(hl:l=⟨0,n,s.life,1,1,0,0,false⟩):(startR s l).2.2=0∧(startR s l).2.1=⟨0,n,s.life,2,1,0,0,true⟩∧FrN n (startR s l).1 8589934592∧(startR s l).1.life=s.life∧(startR s l).1.pend=[]:=by
 have hlen:=h.len
 have hleft:=h.left
 obtain ⟨g1,g2,g3,g4⟩:=renew_N hok (no:=8589934592) h.left h.len h.ring dc_ ((Low.of (no:=4294967296) h.pair).ren hok om_ dc_ dc_)
 have ha:aliveR s l=true:=alive_iff.2 ⟨by omega,by rw [hl]⟩
 have e8:(l.top+1)*4294967296+0=8589934592:=by rw [hl];show (1+1)*4294967296+0=8589934592;decide
 have ef:l.first=0:=by rw [hl]
 have hb:l.begun=false:=by rw [hl]
 have e:startR s l=((renewR s 0 8589934592).1,{l with epoch:=l.top+1,tail:=0,head:=0,begun:=true},0):=by
  unfold startR
  rw [if_neg (by rw [ha];decide),if_neg (by rw [hb];decide),e8,ef]
  simp only []
  rw [if_neg om_]
 rw [e];exact ⟨rfl,by rw [hl],g2,g4,g3⟩
theorem zero_mkN {n:Nat}:ZeroN n (Dsk.mk0 (List.replicate (n+2) zsec)):=⟨rfl,by show (List.replicate (n+2) zsec).length=n+2;rw [List.length_replicate],fun j hj=>by
 rw [now_nil rfl]
 show (List.replicate (n+2) zsec).getD j []=zsec
 rw [List.getD_eq_getElem?_getD,List.getElem?_replicate,if_pos hj];rfl⟩
section
def May (B:List (List UInt8))(low:Nat)(none:Bool)(told:List (List UInt8)):Prop:=
 (none=true∧told=[])∨(low≤told.length∧told.length≤B.length∧told=B.take told.length)
structure Cutted (k n:Nat)(x:Dsk)(B:List (List UInt8))(low:Nat)(none:Bool)(E T:Nat):Prop where
 e1:1≤E
 e2:E≤k+2
 t:T≤17*k
 pair:∃q,newestF (x.lst 0) (x.lst 1)=(q,E*4294967296+T,[],0)
 old:∀j,j<n→(pcF (x.lst (2+j))).epoch≤E
 tell:∀R' h',Recs (pcAt x 0 n) E T R' h'→NoRec (pcAt x 0 n) E h'→May B low none R'
def Back (k n:Nat)(s:Dsk)(B:List (List UInt8))(low:Nat)(none:Bool):Prop:=∀x,CutOf s x→∃E T,Cutted k n x B low none E T
theorem Left.cutted {k n E T low low':Nat}{x:Dsk}{R B:List (List UInt8)}{none:Bool}(h:Left x n E T R low)(h1:1≤E)(h2:E≤k+2)(h3:T≤17*k)(hm:∀R',low≤R'.length→R'.length≤R.length→R'=R.take R'.length→May B low' none R'):Cutted k n x B low' none E T:=
 ⟨h1,h2,h3,h.pair,h.old,fun R' h' r n'=>by obtain ⟨q1,q2,q3⟩:=h.tell R' h' r n';exact hm R' q1 q2 q3⟩
theorem Left.cut1 {k n E T low:Nat}{x:Dsk}{R B:List (List UInt8)}{none:Bool}(h:Left x n E T R low)(h1:1≤E)(h2:E≤k+2)(h3:T≤17*k)(hb:R=B.take R.length)(hl:R.length≤B.length):Cutted k n x B low none E T:=
 h.cutted h1 h2 h3 fun R' q1 q2 q3=>.inr ⟨q1,by omega,by
  rw [hb,List.take_take,Nat.min_eq_left q2] at q3;exact q3⟩
theorem Cutted.next {k n E T low:Nat}{x:Dsk}{B:List (List UInt8)}{none:Bool}(h:Cutted k n x B low none E T):Cutted (k+1) n x B low none E T:=⟨h.e1,by have:=h.e2;omega,by have:=h.t;omega,h.pair,h.old,h.tell⟩
theorem Cutted.mono {k n E T low:Nat}{x:Dsk}{B:List (List UInt8)}{none:Bool}(h:Cutted k n x B low none E T):Cutted k n x B low true E T:=⟨h.e1,h.e2,h.t,h.pair,h.old,fun R' h' r n'=>(h.tell R' h' r n').elim (fun q=>.inl ⟨rfl,q.2⟩) .inr⟩
structure PInv (k n:Nat)(s:Dsk)(l:Lg)(B:List (List UInt8))(low:Nat)(none:Bool):Prop where
 n0:18≤n∧n≤256
 len:s.last.length=n+2
 ok:DOk s
 life:0≤s.life∧s.life≤2*(k:Int)+5
 lg:LgOk (n+2) l
 pend:s.pend.length≤20*k+300
 st:(none=false∧∃E top T H Y,l=⟨0,n,s.life,E,top,T,H,true⟩∧1≤E∧E≤k+2∧top≤k+2∧H≤17*k∧Core s n E T Y H H B low)∨(s.left=0∧Sgl s∧Back k n s B low none)
theorem PInv.back {k n:Nat}{s:Dsk}{l:Lg}{B:List (List UInt8)}{low:Nat}{none:Bool}(h:PInv k n s l B low none):Back k n s B low none:=by
 rcases h.st with ⟨_,E,top,T,H,Y,_,h1,h2,_,h3,hc⟩|⟨_,_,q⟩
 ·intro x c
  have he:=hc.ends
  exact ⟨E,T,(hc.cut hc.no c).cut1 h1 h2 om_ (by rw [List.take_length]) (Nat.le_refl _)⟩
 ·exact q
theorem Back.next {k n:Nat}{s:Dsk}{B:List (List UInt8)}{low:Nat}{none:Bool}(h:Back k n s B low none):Back (k+1) n s B low none:=fun x c=>by obtain ⟨E,T,q⟩:=h x c;exact ⟨E,T,q.next⟩
theorem PInv.next {k n:Nat}{s:Dsk}{l:Lg}{B:List (List UInt8)}{low:Nat}{none:Bool}(h:PInv k n s l B low none):PInv (k+1) n s l B low none:=
 ⟨h.n0,h.len,h.ok,by have:=h.life;omega,h.lg,by have:=h.pend;omega,by
  rcases h.st with ⟨q,E,top,T,H,Y,h0,h1,h2,h3,h4,hc⟩|⟨q1,q2,q3⟩
  ·exact .inl ⟨q,E,top,T,H,Y,h0,h1,by omega,by omega,by omega,hc⟩
  ·exact .inr ⟨q1,q2,q3.next⟩⟩
theorem appendR_did {s:Dsk}{l:Lg}(hok:DOk s)(hn:1≤l.n)(hin:l.first+2+l.n≤s.last.length)(d:List UInt8):Did s (appendR s l d).1 17:=by
 have hs:Did s s 17:=⟨rfl,rfl,by omega,id⟩
 unfold appendR
 split
 ·exact hs
 ·split
  ·exact hs
  ·rename_i h0
   split
   ·exact hs
   ·rename_i h1
    split
    ·exact hs
    ·split
     ·exact hs
     ·have g:=(laysR_did (l:=l) (d:=d) rfl hn (countR d.length) 0 s (Nat.zero_add _) hok hin).1
      have hc:countR d.length≤17:=by unfold countR;omega
      simp only []
      split
      ·exact g.le hc
      ·exact g.le hc
theorem trimR_did {s:Dsk}{l:Lg}:Did s (trimR s l).1 17:=by
 unfold trimR
 split
 ·exact ⟨rfl,rfl,Nat.le_add_right _ _,id⟩
 ·split
  ·exact (Did.flush s).le om_
  ·simp only []
   split
   ·exact ((Did.flush s).trans (renewR_did _ _ _).1).le om_
   ·exact ((Did.flush s).trans (renewR_did _ _ _).1).le om_
section
variable {F:Nat→Prop}{w0 w:World}{L:List Ast}{g gd k n:Nat}{l:Lg}{s:Dsk}{B:List (List UInt8)}{low:Nat}{none:Bool}
theorem dead_append {s:Dsk}{l:Lg}(hz:s.left=0)(d:List UInt8):appendR s l d=(s,l,3):=by
 have hr:readyR s l=3:=by unfold readyR;rw [if_pos (alive_burnt hz)]
 unfold appendR;rw [if_pos om_,hr]
theorem PInv.append (h:PInv k n s l B low none)(hk:k≤70000){s':Dsk}(hok':DOk s')(d:List UInt8)(hs':s'=(appendR s l d).1):
  ((appendR s l d).2.2=0∧s.left≠0∧1≤d.length∧d.length≤8364∧PInv (k+1) n s' (appendR s l d).2.1 (B++[d]) low none)∨
  ((appendR s l d).2.2=3∧s.left≠0∧PInv (k+1) n s' (appendR s l d).2.1 (B++[d]) low none)∨
  ((appendR s l d).2.2=3∧s.left=0∧PInv (k+1) n s' (appendR s l d).2.1 B low none)∨
  ((appendR s l d).2.2≠0∧(appendR s l d).2.2≠3∧PInv (k+1) n s' (appendR s l d).2.1 B low none):=by
 have hd:=appendR_did h.ok (l:=l) (by have:=h.lg.ok.n0;omega) (by have:=h.lg.fit;have:=h.len;omega) d
 have hdp:=hd.pend
 have hdl:=hd.len
 have hlife:=h.life
 have hpend:=h.pend
 have hlen:=h.len
 rw [←hs'] at hd hdp hdl
 by_cases hz:s.left=0
 ·have e:=dead_append (l:=l) hz d
  refine .inr (.inr (.inl ⟨by rw [e],hz, ?_⟩))
  rw [hs',e];exact h.next
 ·rcases h.st with ⟨hnone,E,top,T,H,Y,hl,h1,h2,h3,h4,hc⟩|⟨q,_⟩
  ·have hn:=hc.n0
   have he:=hc.ends
   rcases append_core hl hc h.ok hz om_ om_ d with ⟨e,a1,a2,a3,a4,a5,a6,_,a7⟩|⟨e0,e3,a1,_⟩|⟨e,a1,a2,_,a3,j,a4,a5⟩
   ·refine .inl ⟨e,hz,a1,a2, ?_⟩
    rw [a3]
    rw [←hs'] at a6 a7
    refine ⟨hn,by omega,hok',by rw [a7];omega,⟨⟨Nat.zero_le _,hn.1,hn.2,by show E≤_;omega,by show top<_;omega,by show T≤_;omega⟩,⟨by show T≤H+_;omega,by show H+_≤T+n;omega⟩,by show 0+2+n≤n+2;omega,fun _=>by show H+_≤_;omega⟩,by omega,.inl ⟨hnone,E,top,T,H+countR d.length,Y,by rw [a7],h1,by omega,by omega,by omega,a6⟩⟩
   ·refine .inr (.inr (.inr ⟨e0,e3, ?_⟩))
    have e1:s'=s:=by rw [hs',a1]
    rw [e1,show (appendR s l d).2.1=l from by rw [a1]]
    exact h.next
   ·refine .inr (.inl ⟨e,hz, ?_⟩)
    rw [a2]
    rw [←hs'] at a1 a3 a4 a5
    refine ⟨hn,by omega,hok',by rw [a3];omega,h.lg,by omega,.inr ⟨a1,a4.sgl,fun x c=>⟨E,T, ?_⟩⟩⟩
    exact (a4.cut a5 c).cut1 h1 om_ om_ (by rw [List.take_append_of_le_length (Nat.le_refl _),List.take_length]) (by rw [List.length_append];omega)
  ·exact absurd q hz
theorem CutOf.fuse {s x:Dsk}{a:Int}(c:CutOf (s.fuseR a) x):CutOf s x:=by
 obtain ⟨e1,e2⟩:=fuseR_same s a
 refine ⟨c.pend,c.len.trans (by rw [e1]),fun j hj hf=> ?_,fun y hy=> ?_⟩
 ·have:=c.free j (by rw [e1];exact hj) (by rw [e2];exact hf)
  rw [this,e1]
 ·have:=c.one y (by rw [e2];exact hy)
  rw [e1] at this;exact this
theorem fuseR_life (s:Dsk)(a:Int):(s.fuseR a).life=s.life:=by unfold Dsk.fuseR;split<;>rfl
theorem PInv.fuse (h:PInv k n s l B low none)(a:Int)(hok':DOk (s.fuseR a)):PInv (k+1) n (s.fuseR a) l B low none:=by
 obtain ⟨e1,e2⟩:=fuseR_same s a
 have hlife:=h.life
 have hpend:=h.pend
 have hlen:=h.len
 refine ⟨h.n0,by rw [e1];exact hlen,hok',by rw [fuseR_life];omega,h.lg,by rw [e2];omega, ?_⟩
 rcases h.st with ⟨hnone,E,top,T,H,Y,hl,h1,h2,h3,h4,hc⟩|⟨q1,q2,q3⟩
 ·exact .inl ⟨hnone,E,top,T,H,Y,by rw [fuseR_life];exact hl,h1,by omega,by omega,by omega,hc.same e1 e2⟩
 ·refine .inr ⟨by unfold Dsk.fuseR;rw [if_pos q1];exact q1,⟨by rw [e2];exact q2.nodup,by rw [e1,e2];exact q2.over⟩,fun x c=>q3.next x c.fuse⟩
end
end
end Go.Proofs
end
section
open Go Go.RowKit Go.Proofs.YtgeioealgidkiaaW.PrintWords Go.Proofs.YtgeioealgidkiaaW.PrintMore
namespace Go.Proofs
open Go.Vel
set_option linter.unusedVariables false
set_option maxRecDepth 100000
section
structure PCut (k n:Nat)(x:Dsk)(B:List (List UInt8))(low:Nat)(nn:Bool):Prop where
 n0:18≤n∧n≤256
 len:x.last.length=n+2
 ok:DOk x
 pend:x.pend=[]
 left:x.left= -1
 life:0≤x.life∧x.life≤2*(k:Int)+6
 cut:∃E T,Cutted k n x B low nn E T
theorem Cutted.flat {k n E T low:Nat}{x y:Dsk}{B:List (List UInt8)}{nn:Bool}(h:Cutted k n x B low nn E T)(hx:x.pend=[])(hy:y.pend=[])(hn:0<n)(hl:x.last.length=n+2)(e:∀j,j<n+2→y.lst j=x.lst j):Cutted k n y B low nn E T:=by
 have e1:=pcAt_flat hx hy (n:=n) hn om_ (fun j _ h2=>e j om_)
 exact ⟨h.e1,h.e2,h.t,by rw [e 0 om_,e 1 om_];exact h.pair,fun j hj=>by rw [e (2+j) om_];exact h.old j hj,by rw [e1];exact h.tell⟩
theorem PCut.load {k n low:Nat}{x y:Dsk}{B:List (List UInt8)}{nn:Bool}(h:PCut k n x B low nn)(hy:y=Dsk.mk0 x.last)(hok:DOk y):PCut k n y B low nn:=by
 obtain ⟨E,T,hc⟩:=h.cut
 have hn:=h.n0
 have el:y.last=x.last:=by rw [hy];rfl
 refine ⟨h.n0,by rw [el];exact h.len,hok,by rw [hy];rfl,by rw [hy];rfl,by rw [show y.life=1 by rw [hy];rfl];omega,E,T,hc.flat h.pend (by rw [hy];rfl) om_ h.len fun j _=>by unfold Dsk.lst;rw [el]⟩
section
variable {F:Nat→Prop}{w0 w:World}{L:List Ast}{g gd k n:Nat}{l:Lg}{s:Dsk}{B:List (List UInt8)}{low:Nat}{nn:Bool}
end
end
end Go.Proofs
end
section
open Go Go.RowKit Go.Proofs.YtgeioealgidkiaaW.PrintWords Go.Proofs.YtgeioealgidkiaaW.PrintMore
namespace Go.Proofs
open Go.Vel
set_option linter.unusedVariables false
set_option maxRecDepth 100000
set_option maxHeartbeats 4000000
attribute [local irreducible] gives wpList Code.wp
theorem RdV.fr {F:Nat→Prop}{w w':World}{A:Option Addr}{vs:List Value}(h:RdV w A vs)(hf:Fr F w w')(hF:∀k,F k→False):RdV w' A vs:=fun h0=>by
 obtain ⟨ad,e,hc⟩:=h h0
 refine ⟨ad,e,fun j u hu=> ?_⟩
 have h1:=hc j u hu
 have hb:(ad.add j).block<w.heap.size:=by
  unfold World.cell? at h1
  cases hq:w.heap[(ad.add j).block]? with
  |none=>simp [hq] at h1
  |some o=>exact (Array.getElem?_eq_some_iff.1 hq).1
 rw [←h1]
 unfold World.cell?
 rw [hf.block _ hb (fun hk=>hF _ hk)]
theorem RoV.of_rd {w:World}{A:Option Addr}{vs:List Value}(h:RdV w A vs)(L:List Ast):RoV none' w L A vs:=⟨fun w' L' S=>RdV.fr h S.fr (fun _ h=>h)⟩
structure RoL (F:Nat→Prop)(w0:World)(L:List Ast)(A:Option Addr)(R:List RecV):Prop where
 vs:RoV F w0 L A (R.map (·.1))
 el:∀x∈R,∃B c,x.1=.slice B x.2.length c∧RoT F w0 L B x.2∧x.2.length≤140737488355328
theorem RoL.more {F:Nat→Prop}{w0:World}{L:List Ast}{A:Option Addr}{R:List RecV}(h:RoL F w0 L A R)(X:Ast):RoL F w0 (X::L) A R:=⟨h.vs.more,fun x hx=>by obtain ⟨B,c,h1,h2,h3⟩:=h.el x hx;exact ⟨B,c,h1,h2.more,h3⟩⟩
section
theorem w_open_N {F:Nat→Prop}{w0 w:World}{L:List Ast}{gd n:Nat}{s:Dsk}(h1:18≤n)(h2:n≤256)(S:St F w0 w (PW gd s::L))(h:FrN n s 4294967296):Calls Try.prog 61 #[.pointer (some ⟨gd,0,none⟩),.int .i64 0,.int .i64 ((n:Nat):Int)] w fun e w'=>∃gl A c,e=.returned (.tuple #[.pointer (some ⟨gl,0,none⟩),.slice A 0 c,.int .i64 0])∧St F w0 w' (PLog gl gd ⟨0,n,inc s.life,1,1,0,0,false⟩::PW gd s.take.flushR.1::L):=by
 have hn:newR s.take (0:Int).toNat=some (1,0):=h.take.newR
 have ht:∀ep,topTo (pcAt s.take (0:Int).toNat (n:Int).toNat) ep (n:Int).toNat=ep:=fun ep=>topTo_no (fun p=>h.take.pc om_ p) ep n
 refine (w_open_go S (args_N h.left h.len h1 h2)).mono fun e w' hh=> ?_
 rcases hh with ⟨h1,_⟩|⟨ep,tl,h1,h2,_⟩|⟨ep,tl,gl,v,RV,hd,h1,h2,h3,_,rfl,S2⟩
 ·rw [hn] at h1;cases h1
 ·rw [hn] at h1;cases h1;rw [ht] at h2;exact absurd h2 dc_
 ·rw [hn] at h1;cases h1
  obtain ⟨e1,rfl⟩:=recs_no (fun p=>h.take.pc om_ p) h3
  have e2:RV=[]:=List.map_eq_nil_iff.1 e1
  subst e2
  rw [ht] at S2
  obtain ⟨A,c,rfl⟩:=St.vecV S2 0 rfl
  exact ⟨gl,A,c,rfl,S2.tail.tail⟩
theorem w_freshN {F:Nat→Prop}{w0 w:World}{L:List Ast}{n:Nat}(h18:18≤n)(h256:n≤256)(S:St F w0 w L):Calls Try.prog 54 #[.int .i64 ((n:Nat):Int)] w fun e w'=>∃gd gl s4,e=.returned (.tuple #[.pointer (some ⟨gd,0,none⟩),.pointer (some ⟨gl,0,none⟩)])∧FrN n s4 8589934592∧s4.pend=[]∧s4.life=3∧St F w0 w' (PLog gl gd ⟨0,n,s4.life,2,1,0,0,true⟩::PW gd s4::L):=by
 refine eN (fr [nI_ n] 51) Try.func54 rfl (sR (pv pn (pv pn (wER (pv (nI_ n) (gI .i64 (IntKind.i64.wrap (((n:Nat):Int)+2)) ((n+2:Nat):Int) wq_ (sP1 Try.func13 #[nI_ (n+2)] (pd_new (m:=n+2) om_ om_ S) fun gd w1 S2=> ?_)))))))
 have S3:=St.pw0 S2
 have hok0:=St.pw_ok S3
 have hz0:=zero_mkN (n:=n)
 have hp0:(Dsk.mk0 (List.replicate (n+2) zsec)).pend.length=0:=rfl
 have hq0:(Dsk.mk0 (List.replicate (n+2) zsec)).life=1:=rfl
 obtain ⟨s0,hs0⟩:∃s0,Dsk.mk0 (List.replicate (n+2) zsec)=s0:=⟨_,rfl⟩
 rw [hs0] at S3 hok0 hz0 hp0 hq0
 obtain ⟨hf1,hf2,hfe,hfl⟩:=format_N hok0 hz0 h18 h256
 obtain ⟨s1,hs1⟩:∃s1,(formatR s0 0 ((n:Nat):Int)).1=s1:=⟨_,rfl⟩
 rw [hs1] at hf2 hfe hfl
 have hl1:s1.life=2:=by rw [hfl,hq0];decide
 refine pv (.tuple #[pq gd,iv 0]) (pv (pq gd) (pv (iv 0) (pv (pq gd) (pv (iv 0) (wE (nS (sR (pv (pq gd) (pv fv (pv fv (pW (iv 0) (wl_when kr_ (gv_ne (x:=0) (y:=0) kr_ (fun hd4=>False.elim (hd4 rfl)) (fun _=>pv fv ?_))))))))))))))
 refine wE (nCF (wp_skip (nSR (pv (pq gd) (pv (nI_ n) (g_ (gv_call (args:=#[pq gd,iv 0,nI_ n]) rfl Try.func62 kr_ rfl rfl kr_ ?_)))))))
 have hff:=w_format (first:=0) (n:=((n:Nat):Int)) S3 om_
 rw [hf1,hs1] at hff
 refine Calls.mono hff ?_
 rintro _ w5 ⟨rfl,S6⟩
 refine ⟨_,rfl,(pv (iv 0) (wE (nS (sR (pv (iv 0) (dN 0 0 (fun hd7=>False.elim (hd7 rfl)) fun _=>wE (nCF (wp_skip (nSR (pv (pq gd) (pv (nI_ n) (g_ (gv_call (args:=#[pq gd,iv 0,nI_ n]) rfl Try.func61 kr_ rfl rfl kr_ ?_)))))))))))))⟩
 refine Calls.mono (w_open_N h18 h256 S6 hf2) ?_
 rintro _ w8 ⟨gl,A2,c2,rfl,S9⟩
 refine ⟨_,rfl, ?_⟩
 have hf3:=hf2.take.flush
 have hl3:s1.take.flushR.1.life=inc s1.life:=(Did.flush s1.take).life
 have hp3:=(Did.flush s1.take).pend
 have hp3:s1.take.flushR.1.pend.length≤s1.pend.length+0:=hp3
 obtain ⟨s3,hs3⟩:∃s3,s1.take.flushR.1=s3:=⟨_,rfl⟩
 rw [hs3] at S9 hf3 hl3 hp3
 rw [←hl3] at S9
 have hl33:s3.life=3:=by rw [hl3,hl1];decide
 have hp33:s3.pend.length=0:=by rw [hfe] at hp3;exact Nat.le_zero.1 hp3
 refine pv (.tuple #[pq gl,.slice A2 0 c2,iv 0]) (pv (pq gl) (pv (.slice A2 0 c2) (pv (iv 0) (pv (pq gl) (pv (.slice A2 0 c2) (pv (iv 0) (wE (nS (sR (pv (pq gl) (pv fv (pv fv (pW (iv 0) ?_)))))))))))))
 refine wl_when kr_ (gv_ne (x:=0) (y:=0) kr_ (fun hd10=>False.elim (hd10 rfl)) (fun _=>pv fv (pv fv (pW (.slice A2 0 c2) (pW (iv 0) (wl_when kr_ (gv_ne (x:=0) (y:=0) kr_ (fun hd11=>False.elim (hd11 rfl)) (fun _=>pv fv (wE (nCF (wp_skip (nSR (pv (pq gl) (g_ (gv_call (args:=#[pq gl]) rfl Try.func71 kr_ rfl rfl kr_ ?_)))))))))))))))
 have hok3:=St.pw_ok (L:=[]) (S9.mem 1 rfl)
 have hl4:=hf3.len
 obtain ⟨q1,q2,q3,q4,q5⟩:=start_N hok3 hf3 (l:=⟨0,n,s3.life,1,1,0,0,false⟩) rfl
 have hst:=w_start S9 ⟨Nat.zero_le _,h18,h256,show 1≤1073741824 by decide,show 1<1073741824 by decide,Nat.zero_le _⟩ om_ (by show 0+1<s3.last.length;omega) (fun _ _=>(Low.of (no:=4294967296) hf3.pair).ren hok3 (by show 0+1<s3.last.length;omega) (show 4294967296<(1+1)*4294967296+0 by decide) (show (1+1)*4294967296+0≤9223372036854775807 by decide))
 obtain ⟨s4,hs4⟩:∃s4,(startR s3 ⟨0,n,s3.life,1,1,0,0,false⟩).1=s4:=⟨_,rfl⟩
 rw [q1,q2,hs4] at hst
 rw [hs4] at q3 q4 q5
 rw [←q4] at hst
 refine Calls.mono hst ?_
 rintro _ w12 ⟨rfl,S13⟩
 refine ⟨_,rfl,(pv (iv 0) (wE (nS (sR (pv (iv 0) (dN 0 0 (fun hd14=>False.elim (hd14 rfl)) fun _=>wE (nCF (wp_skip (nSR (pv (pq gd) (pv (pq gl) (pv (pq gd) ?_))))))))))))⟩
 exact pv (pq gl) (wE (then_n (wp_ret (bB (pq gd) (pq gl) ⟨gd,gl,s4,rfl,q3,q5,by omega,S13⟩))))
theorem writeR_left (s:Dsk)(a:Int)(d:List UInt8)(h:s.left= -1):(s.writeR a d).1.left= -1:=by
 unfold Dsk.writeR
 rw [if_neg om_]
 split
 ·exact h
 ·split
  ·exact h
  ·show spent s.left= -1;rw [h];rfl
theorem renewR_m {s:Dsk}(f no:Nat)(h:s.left= -1):(renewR s f no).1.left= -1:=by
 unfold renewR
 simp only []
 have h1:=writeR_left s ((f+(renewF (s.now f) (s.now (f+1)) (no:Int) []).1:Nat):Int) (renewF (s.now f) (s.now (f+1)) (no:Int) []).2.1 h
 split
 ·exact h1
 ·exact (flush_m h1).2
theorem trimR_m {s:Dsk}{l:Lg}(h:s.left= -1):(trimR s l).1.left= -1:=by
 unfold trimR
 split
 ·exact h
 ·split
  ·exact (flush_m h).2
  ·simp only []
   split
   ·exact renewR_m _ _ (flush_m h).2
   ·exact renewR_m _ _ (flush_m h).2
structure RingI (i n T H:Nat)(s:Dsk):Prop where
 core:∃R low Y,Core s n 2 T Y H H R low
 left:s.left= -1
 h:H≤17*i
 pend:s.pend.length≤20*i+300
 life:s.life=3
def rlg (n T H:Nat):Lg:=⟨0,n,3,2,1,T,H,true⟩
theorem FrN.core {n:Nat}{s:Dsk}(h:FrN n s 8589934592)(hp:s.pend=[])(h1:18≤n)(h2:n≤256):Core s n 2 0 0 0 0 [] 0:=by
 have hpc:∀k,k<n→pcF (s.lst (2+k))=pcNo:=fun k hk=>by rw [←now_lst hp,h.ring _ om_ om_];exact pc_zero
 obtain ⟨x,hx⟩:=h.pair
 refine ⟨⟨h1,h2⟩,h.len,Sgl.nil hp,by omega,(by rw [hp];intro y hy;cases hy),⟨x,by rw [←now_lst hp,←now_lst hp];exact hx⟩,fun k hk=> ?_,.nil,Nat.le_refl _,.nil⟩
 rw [hpc k hk]
 exact ⟨Nat.zero_le _,fun e=>absurd (show (0:Nat)=2 from e) dc_⟩
theorem RingI.next {i n T H:Nat}{s:Dsk}(h:RingI i n T H s):RingI (i+1) n T H s:=⟨h.core,h.left,by have:=h.h;omega,by have:=h.pend;omega,h.life⟩
theorem RingI.lg {i n T H:Nat}{s:Dsk}(h:RingI i n T H s)(hi:i≤70000):LOk (rlg n T H)∧LHd (rlg n T H)∧aliveR s (rlg n T H)=true∧readyR s (rlg n T H)=0∧T≤H∧H≤T+n∧18≤n∧n≤256∧s.last.length=n+2:=by
 obtain ⟨R,low,Y,hc⟩:=h.core
 have hn:=hc.n0
 have he:=hc.ends
 have hh:=h.h
 have ha:aliveR s (rlg n T H)=true:=alive_iff.2 ⟨by rw [h.left];decide,h.life⟩
 exact ⟨⟨Nat.zero_le _,hn.1,hn.2,show 2≤1073741824 by decide,show 1<1073741824 by decide,by show T≤_;omega⟩,⟨by show T≤H;omega,by show H≤T+n;omega⟩,ha,ready_iff.2 ⟨ha,rfl⟩,by omega,by omega,hn.1,hn.2,hc.len⟩
section
variable {F:Nat→Prop}{w0 w:World}{L:List Ast}{gl gd i n T H:Nat}{s:Dsk}
theorem ring_trim (h:RingI i n T H s)(hi:i≤65536)(S:St F w0 w (PLog gl gd (rlg n T H)::PW gd s::L)):Calls Try.prog 55 #[.pointer (some ⟨gl,0,none⟩)] w fun e w'=>∃s',e=.returned (.int .i64 0)∧RingI (i+1) n H H s'∧St F w0 w' (PLog gl gd (rlg n H H)::PW gd s'::L):=by
 obtain ⟨R,low,Y,hc⟩:=h.core
 have hok:=St.pw_ok (L:=[]) (S.mem 1 rfl)
 obtain ⟨a1,a2,a3,a4,a5,a6,a7,a8,a9⟩:=h.lg om_
 have hh:=h.h
 have hp:=h.pend
 have hz:s.left≠0:=by rw [h.left];decide
 have hlf:=h.life
 have hl:rlg n T H=⟨0,n,s.life,2,1,T,H,true⟩:=by rw [hlf];rfl
 have hd:=trimR_did (s:=s) (l:=rlg n T H)
 have hdp:=hd.pend
 have hm:=trimR_m (l:=rlg n T H) h.left
 have hren:readyR s (rlg n T H)=0→s.flushR.1.left≠0→(rlg n T H).tail≠(rlg n T H).head→(renewF (s.flushR.1.now (rlg n T H).first) (s.flushR.1.now ((rlg n T H).first+1)) (((rlg n T H).epoch*4294967296+(rlg n T H).head:Nat):Int) []).2.2=0:=fun _ _ ht=>by
  have hcf:=hc.flush hz
  have hlen:=hcf.len
  have hp0:s.flushR.1.pend=[]:=by
   rcases flushR_err s with q|q
   ·exact q.2.1
   ·exact absurd q.2.2 hz
  have hlw:Low s.flushR.1 0 (2*4294967296+T):=by
   obtain ⟨x,hx⟩:=hcf.pair
   refine .inr ?_
   show (newestF (s.flushR.1.now 0) (s.flushR.1.now 1)).2.1≤_
   rw [now_lst hp0,now_lst hp0,hx];exact Nat.le_refl _
  have ht:T≠H:=ht
  exact hlw.ren hok.flush om_ (no':=2*4294967296+H) om_ om_
 refine (w_trim S a1 a2 om_ (by show 0+1<_;omega) hren).mono fun e w' hh2=> ?_
 obtain ⟨he,S2⟩:=hh2
 rcases trim_core hc hok hl hz dc_ om_ with ⟨q1,q2,q3,q4⟩|⟨_,q,_⟩
 ·rw [q2] at S2
  refine ⟨(trimR s (rlg n T H)).1,by rw [he,q1],⟨⟨_,_,_,q3⟩,hm,by omega,by omega,q4.trans hlf⟩, ?_⟩
  have e:(⟨0,n,s.life,2,1,H,H,true⟩:Lg)=rlg n H H:=by rw [hlf];rfl
  rw [e] at S2;exact S2
 ·rw [hm] at q;exact absurd q dc_
theorem ring_append {k cd:Nat}{A:Option Addr}{d:List UInt8}(h:RingI i n T H s)(hi:i≤65536)(S:St F w0 w (PLog gl gd (rlg n T H)::PW gd s::L))(hd:RoT F w0 L A d)(hk:k=d.length)(h1:1≤k)(h8:k≤8364)(hcap:k≤cd):Calls Try.prog 57 #[.pointer (some ⟨gl,0,none⟩),.slice A k cd] w fun e w'=>(e=.returned (.int .i64 0)∧∃s',H+countR k≤T+n∧RingI (i+1) n T (H+countR k) s'∧St F w0 w' (PLog gl gd (rlg n T (H+countR k))::PW gd s'::L))∨(e=.returned (.int .i64 40)∧T+n<H+countR k∧St F w0 w' (PLog gl gd (rlg n T H)::PW gd s::L)):=by
 obtain ⟨R,low,Y,hc⟩:=h.core
 subst hk
 have hok:=St.pw_ok (L:=[]) (S.mem 1 rfl)
 obtain ⟨a1,a2,a3,a4,a5,a6,a7,a8,a9⟩:=h.lg om_
 have hh:=h.h
 have hp:=h.pend
 have hz:s.left≠0:=by rw [h.left];decide
 have hlf:=h.life
 have hl:rlg n T H=⟨0,n,s.life,2,1,T,H,true⟩:=by rw [hlf];rfl
 have hdd:=appendR_did hok (l:=rlg n T H) (by show 1≤n;omega) (by show 0+2+n≤_;omega) d
 have hdp:=hdd.pend
 refine (w_append S a1 a2 hd hcap om_ (fun _=>by show 0+2+n≤_;omega) om_).mono fun e w' hh2=> ?_
 obtain ⟨he,S2⟩:=hh2
 rcases append_core hl hc hok hz dc_ om_ d with ⟨q1,_,_,q2,q3,q4,q5,q6,q7⟩|⟨_,_,q1,q2⟩|⟨_,_,_,q,_⟩
 ·rw [q2] at S2
  refine .inl ⟨by rw [he,q1],(appendR s (rlg n T H) d).1,q4,⟨⟨_,_,_,q5⟩,q6 h.left,by omega,by omega,q7.trans hlf⟩, ?_⟩
  have e:(⟨0,n,s.life,2,1,T,H+countR d.length,true⟩:Lg)=rlg n T (H+countR d.length):=by rw [hlf];rfl
  rw [e] at S2;exact S2
 ·obtain ⟨e1,e2⟩:=q2 h1 h8
  rw [q1] at S2
  exact .inr ⟨by rw [he,e1],e2,S2⟩
 ·exact absurd h.left q
end
theorem walRing_all (w:World){A3:Option Addr}{c3:Nat}{zs:List Int}(nn:Int)(hz:RdV w A3 (zs.map (Value.int .i64)))(hzm:zs.length≤9223372036854775807):Calls Try.prog 7 #[.int .i64 nn,.slice A3 zs.length c3] w fun e w'=>e=.returned (.bool true)∧Below w.heap.size w w':=by
 have S0:St none' w w []:=St.init none' w
 by_cases hbad:nn<18∨256<nn∨65536<zs.length
 ·refine eN (fr [iv nn,.slice A3 zs.length c3] 157) Try.func7 rfl (sR (pv fv (wE (nS (sR (pv (iv nn) (dC ((nn:Int)<18) (fun hb1=> ?_) fun hb1=> ?_)))))))
  ·refine pv tv (wN (wN (pv tv (pv tv (wN (wN (wN (pv tv (wE (nCT (sR (pv tv (wE ?_)))))))))))))
   exact then_n (rR (bA (.bool true) ⟨rfl,S0.fr.below⟩))
  ·refine pv fv (pW (iv nn) (wl_when kr_ (gv_dec (p:=(nn:Int)>256) kr_ (fun hb2=> ?_) (fun hb2=> ?_))))
   ·exact pv tv (pv tv (wN (wN (wN (pv tv (wE (nCT (sR (pv tv (wE (then_n (rR (bA (.bool true) ⟨rfl,S0.fr.below⟩)))))))))))))
   ·refine pv fv (pv fv (pW (.slice A3 zs.length c3) (pW (iv (zs.length:Nat)) (wl_when kr_ (gv_dec (p:=((zs.length:Nat):Int)>65536) kr_ (fun hb3=> ?_) (fun hb3=> ?_))))))
    ·exact pv tv (wE (nCT (sR (pv tv (wE (then_n (rR (bA (.bool true) ⟨rfl,S0.fr.below⟩))))))))
    ·exact absurd hbad om_
 obtain ⟨n,rfl⟩:∃n:Nat,nn=(n:Int):=⟨nn.toNat,by omega⟩
 have h18:18≤n:=by omega
 have h256:n≤256:=by omega
 have hzl:zs.length≤65536:=by omega
 refine eN (fr [nI_ n,.slice A3 zs.length c3] 157) Try.func7 rfl (sR (pv fv (wE (nS (sR (pv (nI_ n) (dC ((((n:Nat):Int):Int)<18) (fun hd1=>False.elim om_) fun _=>pv fv (pW (nI_ n) (wl_when kr_ (gv_dec (p:=(((n:Nat):Int):Int)>256) kr_ (fun hd2=>False.elim om_) (fun _=>pv fv (pv fv (pW (.slice A3 zs.length c3) ?_)))))))))))))
 refine pW (iv (zs.length:Nat)) (wl_when kr_ (gv_dec (p:=((zs.length:Nat):Int)>65536) kr_ (fun hd3=>False.elim om_) (fun _=>pv fv (wE (nCF (wp_skip (nSR (pv (nI_ n) (g_ (gv_call (args:=#[nI_ n]) rfl Try.func54 kr_ rfl rfl kr_ (Calls.mono (w_freshN h18 h256 S0) ?_)))))))))))
 rintro _ w4 ⟨gd,gl,s4,rfl,hf4,hp4,hl4,S5⟩
 refine ⟨_,rfl, ?_⟩
 have hr0:RingI 0 n 0 0 s4:=⟨⟨_,_,_,hf4.core hp4 h18 h256⟩,hf4.left,Nat.zero_le _,by rw [hp4];exact Nat.zero_le _,hl4⟩
 rw [hl4] at S5
 change St none' w w4 [PLog gl gd (rlg n 0 0),PW gd s4] at S5
 refine pv (.tuple #[pq gd,pq gl]) (pv (pq gd) (pv (pq gl) (pv (pq gd) (pv (pq gl) (wE (nS (sR (pv (pq gd) (pv fv (pv fv (pW (pq gl) (pW (.bool false) (pv fv ?_)))))))))))))
 refine wE (nCF (wp_skip (nS (sR (pv (iv 0) (wE (then_n (wp_block (wp_loop_g (G:=Nat×Dsk×Nat×Nat) (fun (g_:Nat×Dsk×Nat×Nat) (a_:Act) (w_:World)=>∃J:Nat→Value,a_=(fr ([nI_ n,.slice A3 zs.length c3,ud,ud,J 4,pq gd,pq gl,nI_ g_.1]++jR J 8 10++[ud,ud,ud,ud,ud,ud,nI_ n,fv,fv,nI_ n,fv,fv,fv,.slice A3 zs.length c3,iv (zs.length:Nat),fv,fv,.tuple #[pq gd,pq gl],nI_ n,.tuple #[pq gd,pq gl],pq gd,pq gl,pq gd,fv,fv,pq gl,fv,fv]++jR J 46 82) 31)∧St none' w w_ [PLog gl gd (rlg n g_.2.2.1 g_.2.2.2),PW gd g_.2.1]∧(g_.1≤zs.length∧RingI g_.1 n g_.2.2.1 g_.2.2.2 g_.2.1)) (fun g_=>zs.length-g_.1) (0,s4,0,0) (jE_ ⟨S5,⟨Nat.zero_le _,hr0⟩⟩) ?_)))))))))
 rintro ⟨i,s,T,H⟩ a_ w6 ⟨J,rfl,S7,⟨hi1,hR⟩⟩
 skip
 have S7:St none' w w6 [PLog gl gd (rlg n T H),PW gd s]:=S7
 refine wp_seq (sR (pv (nI_ i) (pv (.slice A3 zs.length c3) (pv (iv (zs.length:Nat)) (dC ((((i:Nat):Int):Int)<(zs.length:Nat)) (fun hb9=> ?_) fun hb9=> ?_)))))
 ·have hR:RingI i n T H s:=hR
  have hi:i<zs.length:=by omega
  obtain ⟨z,hzz⟩:∃z,zs[i]?=some z:=⟨_,List.getElem?_eq_getElem hi⟩
  obtain ⟨ad4,hAd4,hr4⟩:=(RoV.of_rd hz []).out w6 _ (show St none' w w6 ([PLog gl gd (rlg n T H),PW gd s]++[]) from S7) (by rw [List.length_map];omega)
  obtain ⟨a1,a2,a3,a4,a5,a6,a7,a8,a9⟩:=hR.lg om_
  refine wE (nCT (wp_skip (nS (wp_block (sR (pv (.slice A3 zs.length c3) (pv (nI_ i) (g_ (gv_ixB (e:=3) (sz:=1) (n:=zs.length) (c:=c3) (i:=((i:Nat):Int)) (k:=.i64) (ad:=ad4) (ad':=(ad4.add i)) (j:=i) rfl kr_ kr_ (by rw [←hAd4];kernel_rfl) kr_ rfl om_ (by rw [Nat.mul_one]) (lQ (iv z) (hr4 i _ (by rw [List.getElem?_map,hzz];rfl)) ?_))))))))))
  refine pv (iv z) (wE (nS (sR (pv (iv z) (dC ((z:Int)<0) (fun hb10=> ?_) fun hb10=> ?_)))))
  ·refine wE (nCT (sR (pv (pq gl) (g_ (gv_call (args:=#[pq gl]) rfl Try.func55 kr_ rfl rfl kr_ (Calls.mono (ring_trim hR om_ S7) ?_))))))
   rintro _ w11 ⟨s5,rfl,hR5,S12⟩
   refine ⟨_,rfl, ?_⟩
   obtain ⟨b1,b2,b3,b4,_⟩:=hR5.lg om_
   refine pv (iv 0) (wER (pv (pq gl) (sP Try.func56 #[pq gl] (w_room S12 b1 b2 b4) fun w13 S14=>pv (.tuple #[iv (((n:Nat):Int)-(((H:Nat):Int)-((H:Nat):Int))),iv 0]) (pv (iv (((n:Nat):Int)-(((H:Nat):Int)-((H:Nat):Int)))) (pv (iv 0) (pv (iv (((n:Nat):Int)-(((H:Nat):Int)-((H:Nat):Int)))) (pv (iv 0) (wE (nS (sR (pv (iv 0) (dN 0 0 (fun hd15=>False.elim (hd15 rfl)) fun _=> ?_))))))))))))
   refine pv fv (pW (iv 0) (wl_when kr_ (gv_ne (x:=0) (y:=0) kr_ (fun hd16=>False.elim (hd16 rfl)) (fun _=>pv fv (pv fv (pW (iv (((n:Nat):Int)-(((H:Nat):Int)-((H:Nat):Int)))) (pW (nI_ n) (wl_when kr_ (gv_ne (x:=(((n:Nat):Int)-(((H:Nat):Int)-((H:Nat):Int)))) (y:=((n:Nat):Int)) kr_ (fun hd17=>False.elim (hd17 om_)) (fun _=>pv fv (wE (nCF (kN (wp_exit (then_x ?_)))))))))))))))
   exact inb_x (nR (pv (nI_ i) (gI .i64 (IntKind.i64.wrap (((i:Nat):Int)+1)) ((i+1:Nat):Int) wq_ (pv (nI_ (i+1)) (wE (then_n ⟨(i+1,s5,H,H),(jE_ ⟨S14,⟨by omega,hR5⟩⟩),(by show zs.length-(i+1)<zs.length-i;omega)⟩))))))
  ·obtain ⟨k,hk⟩:∃k:Nat,k=z.toNat%8364+1:=⟨_,rfl⟩
   have hk9:=Nat.mod_lt z.toNat (show 0<8364 by decide)
   have hc9:countR k=(k+491)/492:=rfl
   refine wE (nCF (wp_skip (nSR (pv (iv z) (gI .i64 (Int.tmod z 8364) ((z.toNat%8364:Nat):Int) (tmod_nat' om_ rfl) (gI .i64 (IntKind.i64.wrap (((z.toNat%8364:Nat):Int)+1)) ((k:Nat):Int) (wr_eq om_ om_ om_) (pv (nI_ k) (wE (nSR (pv (nI_ k) (gI .i64 (IntKind.i64.wrap (((k:Nat):Int)+491)) ((k+491:Nat):Int) (wr_eq om_ om_ om_) (gI .i64 (IntKind.i64.wrap (Int.tdiv ((k+491:Nat):Int) 492)) ((countR k:Nat):Int) (wr_eq (by rw [Int.tdiv_eq_ediv_of_nonneg om_];omega) om_ om_) (pv (nI_ (countR k)) ?_)))))))))))))
   refine wER (pv (pq gl) (sP Try.func56 #[pq gl] (w_room S7 a1 a2 a4) fun w18 S19=>pv (.tuple #[iv (((n:Nat):Int)-(((H:Nat):Int)-((T:Nat):Int))),iv 0]) (pv (iv (((n:Nat):Int)-(((H:Nat):Int)-((T:Nat):Int)))) (pv (iv 0) (pv (iv (((n:Nat):Int)-(((H:Nat):Int)-((T:Nat):Int)))) (pv (iv 0) (wER (pv (pq gl) (pv (nI_ k) (g_ (gv_make (e:=5) (u:=((k:Nat):Int)) (v:=((k:Nat):Int)) (z:=.int .u8 0) (sz:=1) (by_:=1) (n:=k) (c:=k) (cs:=(bvs (List.replicate k 0))) S19 rfl kr_ ⟨by kernel_rfl⟩ kr_ kr_ rfl rfl (Nat.le_refl _) om_ om_ (mk_bytes _) (fun g20 w21 hg22 S23=>g_ (gv_call (args:=#[pq gl,sl g20 0 k k]) rfl Try.func57 kr_ rfl rfl kr_ ?_)))))))))))))
   have S24:=St.pm 3 [1,2,0] S23
   refine Calls.mono (ring_append (d:=List.replicate k 0) hR om_ S24 (RoT.item 0 rfl 0 k (List.replicate k 0) (by rw [List.drop_zero,List.take_of_length_le (by rw [List.length_replicate];exact Nat.le_refl _)])) (by rw [List.length_replicate]) om_ om_ (Nat.le_refl _)) ?_
   rintro _ w25 (⟨rfl,s5,hfit,hR5,S26⟩|⟨rfl,hfit,S26⟩)
   ·refine ⟨_,rfl, ?_⟩
    obtain ⟨b1,b2,b3,b4,_⟩:=hR5.lg om_
    have S27:=St.pm 3 [0,1] S26
    refine pv (iv 0) (wER (pv (pq gl) (sP Try.func56 #[pq gl] (w_room S27 b1 b2 b4) fun w28 S29=>pv (.tuple #[iv (((n:Nat):Int)-(((H+countR k:Nat):Int)-((T:Nat):Int))),iv 0]) (pv (iv (((n:Nat):Int)-(((H+countR k:Nat):Int)-((T:Nat):Int)))) (pv (iv 0) (pv (iv (((n:Nat):Int)-(((H+countR k:Nat):Int)-((T:Nat):Int)))) (pv (iv 0) (wE (nS (sR (pv (iv 0) (dN 0 0 (fun hd30=>False.elim (hd30 rfl)) fun _=> ?_))))))))))))
    refine pv fv (pW (iv 0) (wl_when kr_ (gv_ne (x:=0) (y:=0) kr_ (fun hd31=>False.elim (hd31 rfl)) (fun _=>pv fv (wE (nCF (wp_skip (nS (sR (pv (nI_ (countR k)) (pv (iv (((n:Nat):Int)-(((H:Nat):Int)-((T:Nat):Int)))) (dC ((((countR k:Nat):Int):Int)≤(((n:Nat):Int)-(((H:Nat):Int)-((T:Nat):Int)))) (fun _=>pv tv (pW (iv 0) ?_)) fun hd32=>False.elim om_))))))))))))
    refine wl_when kr_ (gv_ne (x:=0) (y:=0) kr_ (fun hd33=>False.elim (hd33 rfl)) (fun _=>pW (.bool false) (pW (iv (((n:Nat):Int)-(((H+countR k:Nat):Int)-((T:Nat):Int)))) (pW (iv (((n:Nat):Int)-(((H:Nat):Int)-((T:Nat):Int)))) (pW (nI_ (countR k)) (wl_when kr_ (gv_int (k:=.i64) (z:=IntKind.i64.wrap ((((n:Nat):Int)-(((H:Nat):Int)-((T:Nat):Int)))-((countR k:Nat):Int))) (z':=(((n:Nat):Int)-(((H:Nat):Int)-((T:Nat):Int)))-((countR k:Nat):Int)) kr_ (wr_ok om_ om_) (wl_when kr_ (gv_ne (x:=(((n:Nat):Int)-(((H+countR k:Nat):Int)-((T:Nat):Int)))) (y:=((((n:Nat):Int)-(((H:Nat):Int)-((T:Nat):Int)))-((countR k:Nat):Int))) kr_ (fun hd34=>False.elim (hd34 om_)) (fun _=>pW (.bool false) (pv fv (wE ?_))))))))))))
    refine nCF (wp_skip (nSR (pv (nI_ (countR k)) (pv (iv (((n:Nat):Int)-(((H:Nat):Int)-((T:Nat):Int)))) (dC ((((countR k:Nat):Int):Int)>(((n:Nat):Int)-(((H:Nat):Int)-((T:Nat):Int)))) (fun hd35=>False.elim om_) fun _=>pv fv (wN (wN (wN (wN (wN (wN (wN ?_))))))))))))
    exact pv fv (wE (nCF (wp_skip (inb_n (nR (pv (nI_ i) (gI .i64 (IntKind.i64.wrap (((i:Nat):Int)+1)) ((i+1:Nat):Int) wq_ (pv (nI_ (i+1)) (wE (then_n ⟨(i+1,s5,T,H+countR k),(jE_ ⟨S29,⟨by omega,hR5⟩⟩),(by show zs.length-(i+1)<zs.length-i;omega)⟩))))))))))
   ·refine ⟨_,rfl, ?_⟩
    have S36:=St.pm 3 [0,1] S26
    refine pv (iv 40) (wER (pv (pq gl) (sP Try.func56 #[pq gl] (w_room S36 a1 a2 a4) fun w37 S38=>pv (.tuple #[iv (((n:Nat):Int)-(((H:Nat):Int)-((T:Nat):Int))),iv 0]) (pv (iv (((n:Nat):Int)-(((H:Nat):Int)-((T:Nat):Int)))) (pv (iv 0) (pv (iv (((n:Nat):Int)-(((H:Nat):Int)-((T:Nat):Int)))) (pv (iv 0) (wE (nS (sR (pv (iv 0) (dN 0 0 (fun hd39=>False.elim (hd39 rfl)) fun _=> ?_))))))))))))
    refine pv fv (pW (iv 0) (wl_when kr_ (gv_ne (x:=0) (y:=0) kr_ (fun hd40=>False.elim (hd40 rfl)) (fun _=>pv fv (wE (nCF (wp_skip (nS (sR (pv (nI_ (countR k)) (pv (iv (((n:Nat):Int)-(((H:Nat):Int)-((T:Nat):Int)))) (dC ((((countR k:Nat):Int):Int)≤(((n:Nat):Int)-(((H:Nat):Int)-((T:Nat):Int)))) (fun hd41=>False.elim om_) fun _=>pv fv (wN ?_)))))))))))))
    refine wN (wN (wN (wN (wN (wN (wN (wN (pv fv (wE ?_)))))))))
    refine nCF (wp_skip (nSR (pv (nI_ (countR k)) (pv (iv (((n:Nat):Int)-(((H:Nat):Int)-((T:Nat):Int)))) (dC ((((countR k:Nat):Int):Int)>(((n:Nat):Int)-(((H:Nat):Int)-((T:Nat):Int)))) (fun _=>pv tv (pW (iv 40) (wl_when kr_ (gv_ne (x:=40) (y:=40) kr_ (fun hd43=>False.elim (hd43 rfl)) (fun _=>pW (.bool false) (pW (iv (((n:Nat):Int)-(((H:Nat):Int)-((T:Nat):Int)))) (pW (iv (((n:Nat):Int)-(((H:Nat):Int)-((T:Nat):Int)))) (wl_when kr_ (gv_ne (x:=(((n:Nat):Int)-(((H:Nat):Int)-((T:Nat):Int)))) (y:=(((n:Nat):Int)-(((H:Nat):Int)-((T:Nat):Int)))) kr_ (fun hd44=>False.elim (hd44 rfl)) (fun _=>pW (.bool false) ?_)))))))))) fun hd42=>False.elim om_)))))
    exact pv fv (wE (nCF (wp_skip (inb_n (nR (pv (nI_ i) (gI .i64 (IntKind.i64.wrap (((i:Nat):Int)+1)) ((i+1:Nat):Int) wq_ (pv (nI_ (i+1)) (wE (then_n ⟨(i+1,s,T,H),(jE_ ⟨S38,⟨by omega,hR.next⟩⟩),(by show zs.length-(i+1)<zs.length-i;omega)⟩))))))))))
 ·refine wE (nCF (wp_exit (then_x (then_x (inb_x (nSR (pv (pq gl) (g_ (gv_call (args:=#[pq gl]) rfl Try.func58 kr_ rfl rfl kr_ ?_)))))))))
  have hR:RingI i n T H s:=hR
  have hi1:i≤zs.length:=hi1
  obtain ⟨a1,a2,a3,a4,a5,a6,a7,a8,a9⟩:=hR.lg om_
  refine Calls.mono (w_marks S7 a3) ?_
  rintro _ w45 ⟨rfl,S46⟩
  refine ⟨_,rfl,(pv (.tuple #[nI_ 2,nI_ T,nI_ H,iv 0]) (pv (nI_ 2) (pv (nI_ T) (pv (nI_ H) (pv (iv 0) (pv (nI_ 2) (pv (nI_ T) (pv (nI_ H) (pv (iv 0) (wE (nSR (pv (pq gl) (sP Try.func56 #[pq gl] (w_room S46 a1 a2 a4) fun w47 S48=> ?_)))))))))))))⟩
  refine pv (.tuple #[iv (((n:Nat):Int)-(((H:Nat):Int)-((T:Nat):Int))),iv 0]) (pv (iv (((n:Nat):Int)-(((H:Nat):Int)-((T:Nat):Int)))) (pv (iv 0) (pv (iv (((n:Nat):Int)-(((H:Nat):Int)-((T:Nat):Int)))) (pv (iv 0) (wER (pv (iv 0) (dE 0 0 (fun _=>pv tv (pW (iv 0) (wl_when kr_ (gv_eq (x:=0) (y:=0) kr_ (fun _=>pv tv (pv tv (pW (nI_ 2) ?_))) (fun hd50=>False.elim (hd50 rfl)))))) fun hd49=>False.elim (hd49 rfl))))))))
  refine wl_when kr_ (gv_eq (x:=((2:Nat):Int)) (y:=2) kr_ (fun _=>pv tv (pv tv (pW (iv (((n:Nat):Int)-(((H:Nat):Int)-((T:Nat):Int)))) (pW (nI_ n) (pW (nI_ H) (pW (nI_ T) (wl_when kr_ (gv_int (k:=.i64) (z:=IntKind.i64.wrap (((H:Nat):Int)-((T:Nat):Int))) (z':=((H:Nat):Int)-((T:Nat):Int)) kr_ (wr_ok om_ om_) (wl_when kr_ (gv_int (k:=.i64) (z:=IntKind.i64.wrap (((n:Nat):Int)-(((H:Nat):Int)-((T:Nat):Int)))) (z':=((n:Nat):Int)-(((H:Nat):Int)-((T:Nat):Int))) kr_ (wr_ok om_ om_) (wl_when kr_ (gv_eq (x:=(((n:Nat):Int)-(((H:Nat):Int)-((T:Nat):Int)))) (y:=(((n:Nat):Int)-(((H:Nat):Int)-((T:Nat):Int)))) kr_ (fun _=>pv tv (pv tv (wE (then_n ?_)))) (fun hd52=>False.elim (hd52 rfl)))))))))))))) (fun hd51=>False.elim (hd51 dc_)))
  exact wp_ret (bA (.bool true) ⟨rfl,S48.fr.below⟩)
end
end Go.Proofs
end
section
open Go Go.RowKit Go.Deep Go.Proofs.YtgeioealgidkiaaW.PrintWords Go.Proofs.YtgeioealgidkiaaW.PrintMore
namespace Go.Vel
section
def Opens {H:Type}(enc:TypeId×Value→H)(P:Program)(W:World)(t:TypeId){α:Type}(d:Kd α)(Q:α→Prop):Prop:=
 ∀fuel cs x,DataW.trod enc P W 0 (fun _=>true) true fuel t cs=some x→(∀n∈x.1.weights P t,n≤reachBytes)→∃a,d.K W a cs∧Q a
section
variable {H:Type}{enc:TypeId×Value→H}{P:Program}{W:World}{α:Type}
theorem Opens.bool {t:TypeId}(ht:P.underlying t=some .bool):Opens enc P W t Kd.bool (fun _=>True):=by
 intro fuel cs x h _
 obtain ⟨n,e,_⟩:=DataW.trod_bool ht h
 exact ⟨n,e,trivial⟩
theorem Opens.mono {t:TypeId}{d:Kd α}{Q Q':α→Prop}(h:Opens enc P W t d Q)(hq:∀a,Q a→Q' a):Opens enc P W t d Q':=fun fuel cs x hx hw=>by
 obtain ⟨a,h1,h2⟩:=h fuel cs x hx hw
 exact ⟨a,h1,hq a h2⟩
theorem add_add (a:Addr)(i j:Nat):(a.add i).add j=a.add (i+j):=by
 unfold Addr.add
 by_cases h0:i=0
 ·subst h0;simp
 ·by_cases h1:j=0
  ·subst h1;simp
  ·have h2:¬(i+j=0):=by omega
   simp only [h0,h1,h2,if_false,Nat.add_assoc]
theorem weightsAll_mem {e:TypeId}:∀{ds:List (DataW H)} {d:DataW H},d∈ds→∀n∈d.weights P e,n∈DataW.weightsAll P e ds
 |[],_,h=>by cases h
 |x::r,d,h=>fun n hn=>by
  unfold DataW.weightsAll
  rcases List.mem_cons.1 h with rfl|h
  ·exact List.mem_append_left _ hn
  ·exact List.mem_append_right _ (weightsAll_mem h n hn)
theorem Opens.slice [Inhabited α]{t e:TypeId}{d:Kd α}{Q:α→Prop}{B:Nat}(ht:P.underlying t=some (.slice e))(hd:Opens enc P W e d Q)(hsz:d.sz=P.cellsOf e)(hB:P.bytesOf e=B):Opens enc P W t (Kd.slice e d) (fun xs=>xs.length≤maxLen∧xs.length*B≤reachBytes∧∀x∈xs,Q x):=by
 intro fuel cs x h hw
 rcases open_slice ht h with ⟨rfl,_⟩|⟨a,len,cap,m,n,D,Pl,rfl,_,hl,hm,hmm,hx,he⟩
 ·exact ⟨[],⟨none,0,rfl,Nat.le_refl _,rfl,Nat.zero_le _,fun h=>absurd h (Nat.lt_irrefl 0)⟩,Nat.zero_le _,by simp,fun x hx=>by cases hx⟩
 ·rw [if_pos rfl] at hmm
  subst hmm
  have hw1:∀n∈((((List.range len).map D).length*P.bytesOf e+((List.range (m-len)).map fun j=>D (len+j)).length*P.bytesOf e)::(DataW.weightsAll P e ((List.range len).map D)++DataW.weightsAll P e ((List.range (m-len)).map fun j=>D (len+j))):List Nat),n≤reachBytes:=by
   rw [hx] at hw
   simp only [DataW.weights,ht] at hw
   rw [Nat.add_mul] at hw
   exact hw
  have hfirst:=hw1 _ List.mem_cons_self
  have hex:∀i,i<len→∃y:α,∃cs',W.cells? 0 (a.add (i*P.cellsOf e)) (P.cellsOf e)=some cs'∧d.K W y cs'∧Q y:=by
   intro i hi
   obtain ⟨cs',h1,h2⟩:=he i om_
   obtain ⟨y,h3,h4⟩:=hd _ _ _ h2 (fun n hn=>hw1 n (List.mem_cons_of_mem _ (List.mem_append_left _ (weightsAll_mem (d:=D i) (List.mem_map.2 ⟨i,List.mem_range.2 hi,rfl⟩) n hn))))
   exact ⟨y,cs',h1,h3,h4⟩
  obtain ⟨f,hf⟩:=choose_lt hex
  have hlen:((List.range len).map f).length=len:=by simp
  have hmx:maxLen≤9223372036854775807:=by decide
  refine ⟨(List.range len).map f,⟨some a,m,by rw [hlen],by rw [hlen];exact hl,rfl,by rw [hlen];omega,fun _=>⟨a,rfl,fun j p hp=> ?_⟩⟩,by rw [hlen];omega, ?_, ?_⟩
  ·have hj:j<len:=by
    have:=(List.getElem?_eq_some_iff.1 hp).1
    rwa [hlen] at this
   rw [List.getElem?_map,List.getElem?_range hj] at hp
   simp only [Option.map_some,Option.some.injEq] at hp
   subst hp
   obtain ⟨cs',h1,h2,_⟩:=hf j hj
   obtain ⟨_,hl2,hc⟩:=World.cells?_some h1
   refine ⟨cs',by rw [hl2,hsz],h2,fun i u hu=> ?_⟩
   have hi:i<P.cellsOf e:=by
    have:=(List.getElem?_eq_some_iff.1 hu).1
    omega
   have:=hc i hi
   rw [hu,add_add] at this
   rw [hsz];exact this
  ·rw [hlen,←hB]
   simp only [List.length_map,List.length_range] at hfirst
   exact Nat.le_trans (Nat.le_add_right _ _) hfirst
  ·intro x hx
   obtain ⟨i,hi,rfl⟩:=List.mem_map.1 hx
   obtain ⟨_,_,_,hq⟩:=hf i (List.mem_range.1 hi)
   exact hq
end
end
end Go.Vel
end
section
open Go Go.RowKit Go.Deep Go.Proofs.YtgeioealgidkiaaW.PrintWords
namespace Go.Vel
/-- Whatever is read as type t has cells of which Q holds. -/
def Opn {H : Type} (enc : TypeId × Value → H) (P : Program) (W : World) (t : TypeId) (Q : List Value → Prop) : Prop :=
  ∀ fuel cs x, DataW.trod enc P W 0 (fun _ => true) true fuel t cs = some x → (∀ n ∈ x.1.weights P t, n ≤ reachBytes) → Q cs
theorem flatten_get {sz : Nat} : ∀ {els : List (List Value)} {j : Nat} {u : Value}, (∀ e ∈ els, e.length = sz) → els.flatten[j]? = some u → ∃ i r e, j = i * sz + r ∧ els[i]? = some e ∧ e[r]? = some u
  | [], j, u, _, h => by simp at h
  | e :: l, j, u, hl, h => by
    have he := hl e List.mem_cons_self
    rw [List.flatten_cons] at h
    by_cases hj : j < e.length
    · rw [List.getElem?_append_left hj] at h
      exact ⟨0, j, e, by rw [Nat.zero_mul, Nat.zero_add], rfl, h⟩
    · rw [List.getElem?_append_right (by omega)] at h
      obtain ⟨i, r, e', h1, h2, h3⟩ := flatten_get (fun y hy => hl y (List.mem_cons_of_mem _ hy)) h
      exact ⟨i + 1, r, e', by rw [Nat.add_mul, Nat.one_mul]; omega, by simpa using h2, h3⟩
theorem all_map {α : Type} {f : α → List Value} {Q : α → Prop} : ∀ {els : List (List Value)}, (∀ e ∈ els, ∃ a, e = f a ∧ Q a) → ∃ l : List α, els = l.map f ∧ ∀ a ∈ l, Q a
  | [], _ => ⟨[], rfl, fun a h => by cases h⟩
  | e :: r, h => by
    obtain ⟨a, rfl, ha⟩ := h e List.mem_cons_self
    obtain ⟨l, rfl, hl⟩ := all_map fun y hy => h y (List.mem_cons_of_mem _ hy)
    exact ⟨a :: l, rfl, fun b hb => (List.mem_cons.1 hb).elim (fun e => e ▸ ha) (hl b)⟩
section
variable {H : Type} {enc : TypeId × Value → H} {P : Program} {W : World}
theorem Opn.int {t : TypeId} {k : IntKind} (ht : P.underlying t = some (.int k)) : Opn enc P W t (fun cs => ∃ n, cs = [.int k n] ∧ (Lit.int k n).wf = true) := by
  intro fuel cs x h _
  obtain ⟨n, e, _, hw⟩ := DataW.trod_int ht h
  exact ⟨n, e, hw⟩
/-- What a list's cell says. -/
def LstQ (W : World) (B : Nat) (Q : List Value → Prop) (cs : List Value) : Prop := ∃ (A : Option Addr) (c : Nat) (els : List (List Value)), cs = [.slice A els.length c] ∧ els.length ≤ c ∧ els.length ≤ maxLen ∧ els.length * B ≤ reachBytes ∧ (∀ e ∈ els, Q e) ∧ RdV W A els.flatten
theorem Opn.slice {t e : TypeId} {Q : List Value → Prop} {B : Nat} (ht : P.underlying t = some (.slice e)) (hd : Opn enc P W e Q) (hB : P.bytesOf e = B) : Opn enc P W t (LstQ W B Q) := by
  intro fuel cs x h hw
  rcases open_slice ht h with ⟨rfl, _⟩ | ⟨a, len, cap, m, n, D, Pl, rfl, _, hl, hm, hmm, hx, he⟩
  · exact ⟨none, 0, [], rfl, Nat.le_refl _, Nat.zero_le _, by simp, fun x hx => (by cases hx), fun h => absurd h (Nat.lt_irrefl 0)⟩
  · rw [if_pos rfl] at hmm
    subst hmm
    have hw1 : ∀ n ∈ ((((List.range len).map D).length * P.bytesOf e + ((List.range (m - len)).map fun j => D (len + j)).length * P.bytesOf e) :: (DataW.weightsAll P e ((List.range len).map D) ++ DataW.weightsAll P e ((List.range (m - len)).map fun j => D (len + j))) : List Nat), n ≤ reachBytes := by
      rw [hx] at hw
      simp only [DataW.weights, ht] at hw
      rw [Nat.add_mul] at hw
      exact hw
    have hfirst := hw1 _ List.mem_cons_self
    have hex : ∀ i, i < len → ∃ cs', W.cells? 0 (a.add (i * P.cellsOf e)) (P.cellsOf e) = some cs' ∧ Q cs' := by
      intro i hi
      obtain ⟨cs', h1, h2⟩ := he i (by omega)
      exact ⟨cs', h1, hd _ _ _ h2 (fun n hn => hw1 n (List.mem_cons_of_mem _ (List.mem_append_left _ (weightsAll_mem (d := D i) (List.mem_map.2 ⟨i, List.mem_range.2 hi, rfl⟩) n hn))))⟩
    obtain ⟨f, hf⟩ := choose_lt hex
    have hlen : ((List.range len).map f).length = len := by simp
    have hmx : maxLen ≤ 9223372036854775807 := by decide
    have hget : ∀ i e', ((List.range len).map f)[i]? = some e' → i < len ∧ f i = e' := fun i e' hi => by
      have hj : i < len := by
        have := (List.getElem?_eq_some_iff.1 hi).1
        rwa [hlen] at this
      rw [List.getElem?_map, List.getElem?_range hj] at hi
      exact ⟨hj, by simpa using hi⟩
    refine ⟨some a, m, (List.range len).map f, by rw [hlen], by rw [hlen]; exact hl, by rw [hlen]; omega, ?_, ?_, fun _ => ⟨a, rfl, fun j u hu => ?_⟩⟩
    · rw [hlen, ← hB]
      simp only [List.length_map, List.length_range] at hfirst
      exact Nat.le_trans (Nat.le_add_right _ _) hfirst
    · intro x hx
      obtain ⟨i, hi, rfl⟩ := List.mem_map.1 hx
      exact (hf i (List.mem_range.1 hi)).2
    · have hall : ∀ y ∈ (List.range len).map f, y.length = P.cellsOf e := fun y hy => by
        obtain ⟨i, hi, rfl⟩ := List.mem_map.1 hy
        exact (World.cells?_some (hf i (List.mem_range.1 hi)).1).2.1
      obtain ⟨i, r, e', rfl, h2, h3⟩ := flatten_get hall hu
      obtain ⟨hi, rfl⟩ := hget i e' h2
      obtain ⟨_, hl2, hc⟩ := World.cells?_some (hf i hi).1
      have hr : r < P.cellsOf e := by have := (List.getElem?_eq_some_iff.1 h3).1; omega
      have := hc r hr
      rw [h3, add_add] at this
      exact this
/-- A field of one cell. -/
theorem Opn.field {fs : Array Field} {t : TypeId} {fuel : Nat} {cs : List Value} {x : DataW H × List MemPlace} {Q : List Value → Prop} (ht : P.underlying t = some (.struct fs)) (h : DataW.trod enc P W 0 (fun _ => true) true fuel t cs = some x) (hw : ∀ n ∈ x.1.weights P t, n ≤ reachBytes) (i : Nat) {f : Field} (hf : fs[i]? = some f) (ho : f.offset = i) (hc : P.cellsOf f.type = 1) (hd : Opn enc P W f.type Q) : Q ((cs.drop i).take 1) := by
  obtain ⟨xs, n, _, hx, _, hl, hh⟩ := DataW.trod_struct ht h
  have h1 := hh i f hf
  have hi : i < xs.length := by
    rw [hl]
    have := (Array.getElem?_eq_some_iff.1 hf).1
    exact this
  rw [ho, hc, List.getElem?_eq_getElem hi] at h1
  refine hd _ _ _ h1 (fun n hn => hw n ?_)
  rw [hx]
  simp only [DataW.weights, ht]
  refine DataW.weights_mem_each (j := i) (t := f.type) (d := xs[i].1) ?_ ?_ n hn
  · rw [List.getElem?_map, Array.getElem?_toList, hf]; rfl
  · rw [List.getElem?_map, List.getElem?_eq_getElem hi]; rfl
theorem Opn.row {t : TypeId} {Q : List Value → Prop} {v : Value} {D : DataW H} {p : List MemPlace} (ho : Opn enc P W t Q) (h : DataW.Trod enc P W 0 (fun _ => true) true t v D p) (hw : ∀ n ∈ D.weights P t, n ≤ reachBytes) : Q v.cells.toList := by
  obtain ⟨fuel, hf⟩ := h
  exact ho _ _ _ hf hw
end
theorem flat_one : ∀ l : List UInt8, (l.map (fun b : UInt8 => [bv b])).flatten = l.map bv
  | [] => rfl
  | x :: r => by rw [List.map_cons, List.flatten_cons, flat_one r]; rfl
theorem lst_bytes {W : World} {Q : List Value → Prop} {cs : List Value} (h : LstQ W 1 Q cs) (hq : ∀ e, Q e → ∃ n, e = [.int .u8 n] ∧ (Lit.int .u8 n).wf = true) : ∃ A c, ∃ b : List UInt8, cs = [.slice A b.length c] ∧ b.length ≤ c ∧ b.length ≤ 140737488351232 ∧ RdB W A b := by
  obtain ⟨A, c, els, rfl, h1, _, h3, h4, h5⟩ := h
  obtain ⟨l, rfl, _⟩ := all_map (f := fun b : UInt8 => [bv b]) (Q := fun _ => True) (els := els) (fun e he => by
    obtain ⟨n, rfl, hn⟩ := hq e (h4 e he)
    refine ⟨UInt8.ofNat n.toNat, ?_, trivial⟩
    simp [Lit.wf, IntKind.min, IntKind.max, IntKind.signed, IntKind.bits] at hn
    simp only [bv, UInt8.toNat_ofNat']
    rw [Nat.mod_eq_of_lt (by omega)]
    congr 2; omega)
  rw [List.length_map] at h1 h3 ⊢
  have hrb : reachBytes = 140737488351232 := by decide
  rw [flat_one] at h5
  exact ⟨A, c, l, rfl, h1, by omega, fun h0 => h5 (by rw [List.length_map]; exact h0)⟩
end Go.Vel
namespace Go.Proofs
open Go.Vel
set_option maxRecDepth 100000
theorem flat_ints : ∀ l : List Int, (l.map (fun z : Int => [Value.int .i64 z])).flatten = l.map (Value.int .i64)
  | [] => rfl
  | x :: r => by rw [List.map_cons, List.flatten_cons, flat_ints r]; rfl
section
variable {H : Type} {enc : TypeId × Value → H} {W : World}
theorem opnBytes : Opn enc Try.prog W 31 (LstQ W 1 fun cs => ∃ n, cs = [.int .u8 n] ∧ (Lit.int .u8 n).wf = true) := Opn.slice Try.underlying31 (Opn.int Try.underlying5) (by kernel_rfl)
/-- Bytes that came in. -/
theorem open_bytes9 {A : Option Addr} {n c : Nat} {D : DataW H} {p : List MemPlace} (h : DataW.Trod enc Try.prog W 0 (fun _ => true) true 31 (.slice A n c) D p) (hw : ∀ n ∈ D.weights Try.prog 31, n ≤ reachBytes) :
    ∃ b : List UInt8, n = b.length ∧ b.length ≤ c ∧ RdB W A b ∧ b.length ≤ 140737488351232 := by
  obtain ⟨A', c', b, e, h1, h2, h3⟩ := lst_bytes (Opn.row opnBytes h hw) (fun e he => he)
  simp [Value.cells] at e
  obtain ⟨rfl, rfl, rfl⟩ := e
  exact ⟨b, rfl, h1, h3, h2⟩
theorem opnInts : Opn enc Try.prog W 92 (LstQ W 8 fun cs => ∃ n, cs = [.int .i64 n] ∧ (Lit.int .i64 n).wf = true) := Opn.slice Try.underlying92 (Opn.int Try.underlying3) (by kernel_rfl)
/-- Numbers that came in. -/
theorem open_ints {A : Option Addr} {n c : Nat} {D : DataW H} {p : List MemPlace} (h : DataW.Trod enc Try.prog W 0 (fun _ => true) true 92 (.slice A n c) D p) (hw : ∀ n ∈ D.weights Try.prog 92, n ≤ reachBytes) :
    ∃ zs : List Int, n = zs.length ∧ RdV W A (zs.map (Value.int .i64)) ∧ zs.length ≤ 9223372036854775807 := by
  obtain ⟨A', c', els, e, _, hl, hm, hq, hr⟩ := Opn.row opnInts h hw
  obtain ⟨zs, rfl, ho⟩ := all_map (f := fun z : Int => [Value.int .i64 z]) hq
  simp [Value.cells] at e
  obtain ⟨rfl, rfl, rfl⟩ := e
  rw [List.length_map] at hm
  have hrb : reachBytes = 140737488351232 := by decide
  exact ⟨zs, rfl, by rw [flat_ints] at hr; exact hr, by omega⟩
end
end Go.Proofs
end
