/- Part 3 of 4 of what the proof stands on: the words, the laws of the walk, the walks, the plain laws; each section is one text. -/
import Derived.Test.YtgeioealgidkiaaM2
section
open Go Go.RowKit Go.Proofs.YtgeioealgidkiaaW.PrintWords
namespace Go.Proofs
open Go.Vel
set_option linter.unusedVariables false
theorem openF_form (t:UInt8)(b:List UInt8)(ht:t.toNat≤2)(hb:b.length≤504):openF (form t b)=(b,0):=by
 obtain ⟨s0,s1,s2,s3,hs⟩:∃s0 s1 s2 s3,le4 (crc (text b))=[s0,s1,s2,s3]:=⟨_,_,_,_,rfl⟩
 have hf:=form_eq t b s0 s1 s2 s3 hs
 have h1:(form t b).getD 1 0=UInt8.ofNat (b.length%256):=by rw [hf];rfl
 have h2:(form t b).getD 2 0=UInt8.ofNat (b.length/256):=by rw [hf];rfl
 have hn:b.length=((form t b).getD 1 0).toNat+256*((form t b).getD 2 0).toNat:=by
  rw [h1,h2,UInt8.toNat_ofNat',UInt8.toNat_ofNat',Nat.mod_eq_of_lt (show b.length%256<2^8 by omega),Nat.mod_eq_of_lt (show b.length/256<2^8 by omega)];omega
 have h0:t=(form t b).getD 0 0:=rfl
 rw [openF_at (length_form t hb) h0 hn,if_neg om_]
 have hd:((form t b).drop 7).take b.length=b:=by
  rw [hf];simp
 rw [hd,if_pos rfl]
theorem turn_ne (x y:UInt8):turnOf x y≠x∧turnOf x y≠y∧(turnOf x y).toNat≤2:=by
 have e0:∀z:UInt8,(0:UInt8)≠z↔z.toNat≠0:=fun z=>by rw [ne_eq,←UInt8.toNat_inj];simp;omega
 have e1:∀z:UInt8,(1:UInt8)≠z↔z.toNat≠1:=fun z=>by rw [ne_eq,←UInt8.toNat_inj];simp;omega
 have e2:∀z:UInt8,(2:UInt8)≠z↔z.toNat≠2:=fun z=>by rw [ne_eq,←UInt8.toNat_inj];simp;omega
 unfold turnOf
 split
 ·rename_i h;exact ⟨h.1,h.2,by decide⟩
 ·split
  ·rename_i h;exact ⟨h.1,h.2,by decide⟩
  ·rename_i h h'
   rw [e0,e0] at h
   rw [e1,e1] at h'
   exact ⟨(e2 x).2 om_,(e2 y).2 om_,by decide⟩
structure Did (s s':Dsk)(m:Nat):Prop where
 len:s'.last.length=s.last.length
 life:s'.life=s.life
 pend:s'.pend.length≤s.pend.length+m
 left:s'.left≠0→s.left≠0
theorem Did.trans {s s1 s2:Dsk}{m n:Nat}(h:Did s s1 m)(g:Did s1 s2 n):Did s s2 (m+n):=
 ⟨g.len.trans h.len,g.life.trans h.life,by have:=h.pend;have:=g.pend;omega,fun q=>h.left (g.left q)⟩
theorem Did.le {s s1:Dsk}{m n:Nat}(h:Did s s1 m)(hmn:m≤n):Did s s1 n:=⟨h.len,h.life,by have:=h.pend;omega,h.left⟩
theorem Did.write (s:Dsk)(a:Int)(d:List UInt8):Did s (s.writeR a d).1 1:=by
 unfold Dsk.writeR
 split
 ·exact ⟨rfl,rfl,Nat.le_succ _,id⟩
 ·rename_i h
  split
  ·exact ⟨rfl,rfl,Nat.le_succ _,id⟩
  ·split
   ·exact ⟨rfl,rfl,Nat.le_succ _,id⟩
   ·exact ⟨rfl,rfl,by simp,fun _=>h⟩
theorem DOk.write {s:Dsk}(h:DOk s)(a:Int)(d:List UInt8):DOk (s.writeR a d).1:=by
 by_cases hw:(s.writeR a d).2=0
 ·obtain ⟨h1,h2,h3,h4,e⟩:=writeR_ok hw
  rw [e]
  refine ⟨h.len,fun x hx=> ?_,h.n1,h.n2, ?_⟩
  ·rcases List.mem_append.1 hx with hx|hx
   ·exact h.plen x hx
   ·rw [List.mem_singleton] at hx;subst hx;exact ⟨h3,by show a.toNat<s.last.length;omega⟩
  ·have:=h.lb
   show-1≤spent s.left∧spent s.left≤_
   unfold spent;split<;>omega
 ·obtain ⟨e1,e2,e3,_⟩:=writeR_no hw
  exact ⟨by rw [e1];exact h.len,by rw [e1,e2];exact h.plen,by rw [e1];exact h.n1,by rw [e1];exact h.n2,by rw [e3];exact h.lb⟩
def Low (s:Dsk)(f no:Nat):Prop:=(newestF (s.now f) (s.now (f+1))).2.2.2≠0∨(newestF (s.now f) (s.now (f+1))).2.1≤no
theorem Low.congr {s s':Dsk}{f no:Nat}(h:Low s f no)(h0:s'.now f=s.now f)(h1:s'.now (f+1)=s.now (f+1)):Low s' f no:=by
 unfold Low at*;rw [h0,h1];exact h
theorem laysR_did {l:Lg}{d:List UInt8}{c:Nat}(hc:c=countR d.length)(hn:1≤l.n):∀(k i:Nat) (s:Dsk),i+k=c→DOk s→l.first+2+l.n≤s.last.length→
  Did s (laysR l d c s i k).1 k∧((laysR l d c s i k).2=0∨(laysR l d c s i k).1.left=0)∧∀j,j<l.first+2→(laysR l d c s i k).1.now j=s.now j
 |0,i,s,_,_,_=>⟨⟨rfl,rfl,Nat.le_refl _,id⟩,.inl rfl,fun _ _=>rfl⟩
 |k+1,i,s,hk,hok,hin=>by
  have hp:=partR_len (d:=d) (i:=i) hc om_
  have hmod:(l.head+i)%l.n<l.n:=Nat.mod_lt _ om_
  have h5:(sealF (s.now (l.first+2+(l.head+i)%l.n)) (bodyR l.epoch (l.head+i) i c (partR d i))).1.length=512:=(sealF_len (hok.now om_) (by rw [length_bodyR];omega)).1
  have hlay:layR s l d i c=s.writeR ((l.first+2+(l.head+i)%l.n:Nat):Int) (sealF (s.now (l.first+2+(l.head+i)%l.n)) (bodyR l.epoch (l.head+i) i c (partR d i))).1:=rfl
  unfold laysR
  rw [hlay]
  obtain ⟨x,hx⟩:∃x,(sealF (s.now (l.first+2+(l.head+i)%l.n)) (bodyR l.epoch (l.head+i) i c (partR d i))).1=x:=⟨_,rfl⟩
  rw [hx] at h5 ⊢
  have hw:=Did.write s ((l.first+2+(l.head+i)%l.n:Nat):Int) x
  by_cases h0:(s.writeR ((l.first+2+(l.head+i)%l.n:Nat):Int) x).2≠0
  ·rw [if_pos h0]
   obtain ⟨e1,e2,e3,e4,_⟩:=writeR_no h0
   obtain ⟨_,g2⟩:=e4 om_ om_ h5
   exact ⟨hw.le om_,.inr (by rw [e3];exact g2),fun j _=>now_congr e1 e2 j⟩
  ·rw [if_neg h0]
   obtain ⟨_,_,_,_,e⟩:=writeR_ok (Classical.not_not.1 h0)
   obtain ⟨g1,g2,g3⟩:=laysR_did hc hn k (i+1) _ om_ (hok.write ((l.first+2+(l.head+i)%l.n:Nat):Int) x) (by rw [hw.len];exact hin)
   refine ⟨(hw.trans g1).le om_,g2,fun j hj=>(g3 j hj).trans ?_⟩
   rw [e,Int.toNat_natCast];exact (now_write (s:=s) (s':=s.wrote (l.first+2+(l.head+i)%l.n) x) rfl rfl j).trans (if_neg om_)
structure LgOk (m:Nat)(l:Lg):Prop where
 ok:LOk l
 hd:LHd l
 fit:l.first+2+l.n≤m
 end_:l.begun=true→l.head≤1073741824
structure Live (s:Dsk)(l:Lg):Prop where
 low:Low s l.first (l.epoch*4294967296+l.tail)
 pend:l.begun=true→s.pend.length≤l.head-l.tail
 top:l.begun=false→l.epoch≤l.top
structure WInv (k:Nat)(s:Dsk)(ls:List Lg):Prop where
 pend:s.pend.length≤1000
 room:s.left≠0→s.pend.length≤256
 life:0≤s.life∧s.life≤(k:Int)+1
 inj:∀(i j:Nat) (a b:Lg),ls[i]?=some a→ls[j]?=some b→a.life=b.life→i=j
 le:∀a∈ls,a.life≤s.life
 ok:∀a∈ls,LgOk s.last.length a
 live:∀a∈ls,aliveR s a=true→Live s a
theorem alive_iff {s:Dsk}{l:Lg}:aliveR s l=true↔s.left≠0∧s.life=l.life:=by unfold aliveR;simp
theorem WInv.next {k:Nat}{s:Dsk}{ls:List Lg}(h:WInv k s ls):WInv (k+1) s ls:=⟨h.pend,h.room,⟨h.life.1,by have:=h.life.2;omega⟩,h.inj,h.le,h.ok,h.live⟩
theorem WInv.push {k:Nat}{s:Dsk}{ls:List Lg}(h:WInv k s ls)(hlt:∀a∈ls,a.life<s.life){l:Lg}(hl:l.life=s.life)(ok:LgOk s.last.length l)(hv:Live s l):WInv k s (ls++[l]):=by
 have hg:∀i a,(ls++[l])[i]?=some a→(ls[i]?=some a∧a.life<s.life)∨(i=ls.length∧a=l):=fun i a q=>by
  by_cases hi:i<ls.length
  ·rw [List.getElem?_append_left hi] at q;exact .inl ⟨q,hlt a (List.mem_of_getElem? q)⟩
  ·rw [List.getElem?_append_right om_] at q
   have hi2:=(List.getElem?_eq_some_iff.1 q).1
   have:i-ls.length=0:=by simp at hi2;omega
   rw [this] at q
   simp at q
   exact .inr ⟨by omega,q.symm⟩
 have hm:∀a,a∈ls++[l]→a∈ls∨a=l:=fun a q=>by simpa using q
 refine ⟨h.pend,h.room,h.life,fun i j a b qi qj hab=> ?_,fun a q=> ?_,fun a q=> ?_,fun a q hq=> ?_⟩
 ·rcases hg i a qi with ⟨p1,p2⟩|⟨p1,p2⟩<;>rcases hg j b qj with ⟨q1,q2⟩|⟨q1,q2⟩
  ·exact h.inj i j a b p1 q1 hab
  ·subst q2;omega
  ·subst p2;omega
  ·omega
 ·rcases hm a q with q|rfl
  ·exact h.le a q
  ·omega
 ·rcases hm a q with q|rfl
  ·exact h.ok a q
  ·exact ok
 ·rcases hm a q with q|rfl
  ·exact h.live a q hq
  ·exact hv
theorem WInv.fuse {k:Nat}{s:Dsk}{ls:List Lg}(h:WInv k s ls)(n:Int):WInv (k+1) (s.fuseR n) ls:=by
 obtain ⟨e1,e2⟩:=fuseR_same s n
 have e3:(s.fuseR n).life=s.life:=by unfold Dsk.fuseR;split<;>rfl
 have e4:(s.fuseR n).left≠0→s.left≠0:=fun q hz=>q (by unfold Dsk.fuseR;rw [if_pos hz];exact hz)
 refine ⟨by rw [e2];exact h.pend,fun q=>by rw [e2];exact h.room (e4 q),by rw [e3];have:=h.life;omega,h.inj,fun a q=>by rw [e3];exact h.le a q,fun a q=>by rw [e1];exact h.ok a q,fun a q hq=> ?_⟩
 obtain ⟨g1,g2⟩:=alive_iff.1 hq
 have hv:=h.live a q (alive_iff.2 ⟨e4 g1,by rw [←e3];exact g2⟩)
 exact ⟨hv.low.congr (now_congr e1 e2 _) (now_congr e1 e2 _),fun b=>by rw [e2];exact hv.pend b,hv.top⟩
theorem ready_iff {s:Dsk}{l:Lg}:readyR s l=0↔aliveR s l=true∧l.begun=true:=by
 unfold readyR
 split
 ·rename_i h;rw [h];simp
 ·rename_i h
  split
  ·rename_i h2;rw [h2];simp
  ·rename_i h2;simp at h h2;simp [h,h2]
theorem leB_cons (v n:Nat):leB v (n+1)=UInt8.ofNat (v%256)::leB (v/256) n:=by
 unfold leB
 rw [List.range_succ_eq_map,List.map_cons,List.map_map]
 congr 1
 ·simp
 ·apply List.map_congr_left
  intro i _
  simp only [Function.comp]
  rw [Nat.pow_succ',Nat.div_div_eq_div_mul]
theorem leN_leB:∀(n v:Nat),leN (leB v n)=v%256^n
 |0,v=>by simp [leB,leN,Nat.mod_one]
 |n+1,v=>by
  rw [leB_cons,leN,leN_leB n,UInt8.toNat_ofNat',Nat.mod_eq_of_lt (show v%256<2^8 from by omega),Nat.pow_succ',Nat.mod_mul]
theorem leN_leB_lt {n v:Nat}(h:v<256^n):leN (leB v n)=v:=by rw [leN_leB,Nat.mod_eq_of_lt h]
theorem cut_app {α:Type}(a b c:List α){i n:Nat}(hi:a.length=i)(hn:b.length=n):((a++(b++c)).drop i).take n=b:=by
 subst hi hn
 rw [List.drop_append,List.drop_of_length_le (Nat.le_refl _),List.nil_append,Nat.sub_self,List.drop_zero,List.take_append,List.take_of_length_le (Nat.le_refl _),Nat.sub_self,List.take_zero,List.append_nil]
theorem pcOf_body {E p i c:Nat}{d:List UInt8}(hE:E<4294967296)(hp:p<4294967296)(hi:i<65536)(hc:c<65536):pcOf (bodyR E p i c d)=⟨E,p,i,c,d⟩:=by
 have l4:=length_leB E 4
 have m4:=length_leB p 4
 have l2:=length_leB i 2
 have m2:=length_leB c 2
 unfold pcOf numN bodyR
 have e1:((leB E 4++leB p 4++leB i 2++leB c 2++d).drop 0).take 4=leB E 4:=by
  have:=cut_app [] (leB E 4) (leB p 4++(leB i 2++(leB c 2++d))) rfl l4
  simpa [List.append_assoc] using this
 have e2:((leB E 4++leB p 4++leB i 2++leB c 2++d).drop 4).take 4=leB p 4:=by
  have:=cut_app (leB E 4) (leB p 4) (leB i 2++(leB c 2++d)) l4 m4
  simpa [List.append_assoc] using this
 have e3:((leB E 4++leB p 4++leB i 2++leB c 2++d).drop 8).take 2=leB i 2:=by
  have:=cut_app (leB E 4++leB p 4) (leB i 2) (leB c 2++d) (i:=8) (by rw [List.length_append];omega) l2
  simpa [List.append_assoc] using this
 have e4:((leB E 4++leB p 4++leB i 2++leB c 2++d).drop 10).take 2=leB c 2:=by
  have:=cut_app (leB E 4++leB p 4++leB i 2) (leB c 2) d (i:=10) (by rw [List.length_append,List.length_append];omega) m2
  simpa [List.append_assoc] using this
 have e5:(leB E 4++leB p 4++leB i 2++leB c 2++d).drop 12=d:=by
  rw [List.drop_append,List.drop_of_length_le (by simp only [List.length_append];omega),List.nil_append]
  rw [show 12-(leB E 4++leB p 4++leB i 2++leB c 2).length=0 by simp only [List.length_append];omega,List.drop_zero]
 rw [e1,e2,e3,e4,e5,leN_leB_lt om_,leN_leB_lt om_,leN_leB_lt om_,leN_leB_lt om_]
def partF (o:List UInt8)(E p i c:Nat)(d:List UInt8):List UInt8:=(sealF o (bodyR E p i c d)).1
theorem partF_form {o:List UInt8}{E p i c:Nat}{d:List UInt8}(ho:o.length=512)(hd:d.length≤492):partF o E p i c d=form (turnOf (o.getD 0 0) (o.getD 511 0)) (bodyR E p i c d):=by
 unfold partF sealF
 rw [if_neg om_,if_neg (by rw [length_bodyR];omega)]
theorem pcF_part {o:List UInt8}{E p i c:Nat}{d:List UInt8}(ho:o.length=512)(hd:d.length≤492)(hE:E<4294967296)(hp:p<4294967296)(hi:i<65536)(hc:c<65536):pcF (partF o E p i c d)=⟨E,p,i,c,d⟩:=by
 have h:=openF_form (turnOf (o.getD 0 0) (o.getD 511 0)) (bodyR E p i c d) (turn_ne _ _).2.2 (by rw [length_bodyR];omega)
 unfold pcF
 rw [partF_form ho hd,h,if_pos ⟨rfl,by rw [length_bodyR];omega⟩]
 exact pcOf_body hE hp hi hc
theorem pcF_torn {m:List UInt8}(h:openF m=([],30)):pcF m=pcNo:=by
 unfold pcF;rw [h,if_neg (by simp)]
def Over (o x:List UInt8):Prop:=o.length=512∧∃b,b.length≤504∧x=form (turnOf (o.getD 0 0) (o.getD 511 0)) b
structure Sgl (s:Dsk):Prop where
 nodup:(s.pend.map (·.1)).Nodup
 over:∀x∈s.pend,Over (s.last.getD x.1 []) x.2
theorem Sgl.nil {s:Dsk}(h:s.pend=[]):Sgl s:=⟨by rw [h];exact List.nodup_nil,fun x hx=>by rw [h] at hx;cases hx⟩
theorem pend_one:∀{l:List (Nat×List UInt8)},(l.map (·.1)).Nodup→∀{x:Nat×List UInt8},x∈l→(l.filter (fun y=>y.1==x.1)).map (·.2)=[x.2]
 |[],_,x,h=>by cases h
 |y::r,hn,x,h=>by
  rw [List.map_cons,List.nodup_cons] at hn
  by_cases hxy:y.1=x.1
  ·have hno:r.filter (fun z=>z.1==x.1)=[]:=by
    rw [List.filter_eq_nil_iff]
    intro z hz hb
    exact hn.1 (List.mem_map.2 ⟨z,hz,by rw [hxy];simpa using hb⟩)
   rcases List.mem_cons.1 h with rfl|h
   ·rw [List.filter_cons_of_pos (by simp),hno];rfl
   ·exact absurd (List.mem_map.2 ⟨x,h,hxy.symm⟩) hn.1
  ·rw [List.filter_cons_of_neg (by simpa using hxy)]
   rcases List.mem_cons.1 h with rfl|h
   ·exact absurd rfl hxy
   ·exact pend_one hn.2 h
theorem Sgl.now {s:Dsk}(h:Sgl s){x:Nat×List UInt8}(hx:x∈s.pend):pendOf s x.1=[x.2]∧s.now x.1=x.2:=by
 have e:pendOf s x.1=[x.2]:=pend_one h.nodup hx
 refine ⟨e, ?_⟩
 unfold Dsk.now;rw [e];rfl
theorem now_free {s:Dsk}{k:Nat}(h:∀x∈s.pend,x.1≠k):pendOf s k=[]∧s.now k=s.last.getD k []:=by
 have e:pendOf s k=[]:=by
  unfold pendOf
  rw [List.map_eq_nil_iff,List.filter_eq_nil_iff]
  intro x hx hb
  exact h x hx (by simpa using hb)
 exact ⟨e,Dsk.now_none e⟩
structure CutOf (s x:Dsk):Prop where
 pend:x.pend=[]
 len:x.last.length=s.last.length
 free:∀k,k<s.last.length→(∀y∈s.pend,y.1≠k)→x.last.getD k []=s.last.getD k []
 one:∀y∈s.pend,x.last.getD y.1 []=s.last.getD y.1 []∨x.last.getD y.1 []=y.2∨openF (x.last.getD y.1 [])=([],30)
section
theorem Recs.congr {pc pc':Nat→Pc}{E a:Nat}{R:List (List UInt8)}{h:Nat}(r:Recs pc E a R h)(hq:∀p i c,a≤p→p<h→(pc p).Part E p i c→pc' p=pc p):Recs pc' E a R h:=by
 induction r with
 |nil=>exact .nil
 |@step R h c r hr ih=>
  have hp:∀j,j<c→pc' (h+j)=pc (h+j):=fun j hj=>hq (h+j) j c (by have:=r.le;omega) om_ (hr.part j hj)
  have e:catF pc h c=catF pc' h c:=by
   unfold catF
   congr 1
   apply List.map_congr_left
   intro j hj
   rw [hp j (List.mem_range.1 hj)]
  rw [e]
  have hc:=hr.c1
  refine Recs.step (ih fun p i c' h1 h2 h3=>hq p i c' h1 om_ h3) ⟨hr.c1,hr.c17, ?_,fun j hj=> ?_⟩
  ·have:=hp 0 om_
   rw [Nat.add_zero] at this
   rw [this];exact hr.cnt
  ·rw [hp j hj];exact hr.part j hj
theorem Recs.pre {pc:Nat→Pc}{e:Nat}:∀(k:Nat) {a:Nat} {R R':List (List UInt8)} {h h':Nat},R.length≤k→Recs pc e a R h→Recs pc e a R' h'→NoRec pc e h'→R.length≤R'.length∧R=R'.take R.length
 |k,a,R,R',h,h',hk,r,r',e'=>by
  by_cases hx:∃c,IsRec pc e a c
  ·obtain ⟨c,hc⟩:=hx
   rcases r.uncons hc with ⟨rfl,rfl⟩|⟨R1,rfl,r1⟩
   ·exact ⟨Nat.zero_le _,by simp⟩
   ·rcases r'.uncons hc with ⟨rfl,rfl⟩|⟨R2,rfl,r2⟩
    ·exact absurd hc (e' c)
    ·cases k with
     |zero=>exact absurd hk (by simp)
     |succ k=>
      obtain ⟨q1,q2⟩:=Recs.pre k (by simpa using hk) r1 r2 e'
      refine ⟨by simpa using q1, ?_⟩
      rw [List.length_cons,List.take_succ_cons,←q2]
  ·have hno:∀{R h},Recs pc e a R h→R=[]:=fun {R h} r=>by
    have h1:R=[]∧h=a∨False:=by
     induction r with
     |nil=>exact .inl ⟨rfl,rfl⟩
     |step _ hr ih=>
      rcases ih with ⟨rfl,rfl⟩|h
      ·exact .inr (hx ⟨_,hr⟩)
      ·exact .inr h
    exact (h1.elim id False.elim).1
   have e0:=hno r
   subst e0
   exact ⟨Nat.zero_le _,by simp⟩
def Dsk.lst (s:Dsk)(k:Nat):List UInt8:=s.last.getD k []
structure Core (s:Dsk)(n E T Y H H':Nat)(R:List (List UInt8))(low:Nat):Prop where
 n0:18≤n∧n≤256
 len:s.last.length=n+2
 sgl:Sgl s
 ends:T≤Y∧Y≤H∧H≤H'∧H'≤T+n
 keys:∀y∈s.pend,∃p,Y≤p∧p<H'∧y.1=2+p%n∧(pcF y.2).epoch=E∧(pcF y.2).pos=p
 pair:∃x,newestF (s.lst 0) (s.lst 1)=(x,E*4294967296+T,[],0)
 old:∀k,k<n→(pcF (s.lst (2+k))).epoch≤E∧((pcF (s.lst (2+k))).epoch=E→(pcF (s.lst (2+k))).data≠[]→(pcF (s.lst (2+k))).pos<Y)
 recs:Recs (pcAt s 0 n) E T R H
 low:low≤R.length∧Recs (pcAt s 0 n) E T (R.take low) Y
theorem pcAt_lst {s:Dsk}{n p:Nat}(h:∀y∈s.pend,y.1≠2+p%n):pcAt s 0 n p=pcF (s.lst (2+p%n)):=by
 unfold pcAt Dsk.lst
 rw [Nat.zero_add,(now_free h).2]
theorem pcAt_new {s:Dsk}{n p:Nat}(hs:Sgl s){y:Nat×List UInt8}(hy:y∈s.pend)(h:y.1=2+p%n):pcAt s 0 n p=pcF y.2:=by
 unfold pcAt
 rw [Nat.zero_add,←h,(hs.now hy).2]
theorem mod_eq_far {n p q:Nat}(h:p%n=q%n)(h1:p<q+n)(h2:q<p+n):p=q:=by
 rcases Nat.lt_or_ge p q with hlt|hge
 ·have e:(q-p)%n=0:=by
   have:=Nat.sub_mod_eq_zero_of_mod_eq h.symm
   exact this
  rw [Nat.mod_eq_of_lt om_] at e;omega
 ·have e:(p-q)%n=0:=Nat.sub_mod_eq_zero_of_mod_eq h
  rw [Nat.mod_eq_of_lt om_] at e;omega
section
variable {s:Dsk}{n E T Y H H':Nat}{R:List (List UInt8)}{low:Nat}
theorem Core.none (h:Core s n E T Y H H' R low){q i c:Nat}(hq:H'≤q):¬(pcAt s 0 n q).Part E q i c:=by
 intro hp
 have hn:=h.n0
 have he:=h.ends
 have hm:=Nat.mod_lt q (show 0<n by omega)
 by_cases hx:∃y∈s.pend,y.1=2+q%n
 ·obtain ⟨y,hy,e⟩:=hx
  obtain ⟨p,h1,h2,h3,h4,h5⟩:=h.keys y hy
  rw [pcAt_new h.sgl hy e] at hp
  have:=hp.pos;omega
 ·rw [pcAt_lst (fun y hy e=>hx ⟨y,hy,e⟩)] at hp
  have:=(h.old (q%n) hm).2 hp.epoch hp.data
  have:=hp.pos;omega
theorem Core.no (h:Core s n E T Y H H R low):NoRec (pcAt s 0 n) E H:=fun c hr=>h.none (Nat.le_refl _) (by have:=hr.part 0 hr.c1;rwa [Nat.add_zero] at this)
structure Left (x:Dsk)(n E T:Nat)(R:List (List UInt8))(low:Nat):Prop where
 pair:∃q,newestF (x.lst 0) (x.lst 1)=(q,E*4294967296+T,[],0)
 old:∀k,k<n→(pcF (x.lst (2+k))).epoch≤E
 tell:∀R' h',Recs (pcAt x 0 n) E T R' h'→NoRec (pcAt x 0 n) E h'→low≤R'.length∧R'.length≤R.length∧R'=R.take R'.length
theorem Core.cut (h:Core s n E T Y H H' R low)(hno:NoRec (pcAt s 0 n) E H){x:Dsk}(c:CutOf s x):Left x n E T R low:=by
 have hn:=h.n0
 have he:=h.ends
 have hl:=h.len
 have hpn:∀p,pcAt x 0 n p=pcF (x.lst (2+p%n)):=fun p=>pcAt_lst (by rw [c.pend];intro y hy;cases hy)
 have hfree:∀k,k<2→∀y∈s.pend,y.1≠k:=fun k hk y hy e=>by
  obtain ⟨p,_,_,h3,_,_⟩:=h.keys y hy
  omega
 have key:∀k,k<n→pcF (x.lst (2+k))=pcF (s.lst (2+k))∨(∃y∈s.pend,y.1=2+k∧pcF (x.lst (2+k))=pcF y.2)∨pcF (x.lst (2+k))=pcNo:=fun k hk=>by
  by_cases hx:∃y∈s.pend,y.1=2+k
  ·obtain ⟨y,hy,e⟩:=hx
   rcases c.one y hy with e1|e1|e1
   ·left;unfold Dsk.lst;rw [←e,e1]
   ·right;left;exact ⟨y,hy,e,by unfold Dsk.lst;rw [←e,e1]⟩
   ·right;right;exact pcF_torn (by unfold Dsk.lst;rw [←e];exact e1)
  ·left;unfold Dsk.lst;rw [c.free (2+k) om_ (fun y hy e=>hx ⟨y,hy,e⟩)]
 refine ⟨?_,fun k hk=> ?_,fun R' h' r' n'=> ?_⟩
 ·obtain ⟨q,hq⟩:=h.pair
  refine ⟨q, ?_⟩
  unfold Dsk.lst at hq ⊢
  rw [c.free 0 om_ (hfree 0 om_),c.free 1 om_ (hfree 1 om_)];exact hq
 ·rcases key k hk with e|⟨y,hy,_,e⟩|e
  ·rw [e];exact (h.old k hk).1
  ·obtain ⟨p,_,_,_,h4,_⟩:=h.keys y hy
   rw [e];omega
  ·rw [e];exact Nat.zero_le _
 ·have hA:Recs (pcAt s 0 n) E T R' h':=r'.congr fun p i cc h1 h2 h3=>by
   have hm:=Nat.mod_lt p (show 0<n by omega)
   rw [hpn] at h3 ⊢
   rcases key (p%n) hm with e|⟨y,hy,ey,e⟩|e
   ·by_cases hx:∃y∈s.pend,y.1=2+p%n
    ·obtain ⟨y,hy,ey⟩:=hx
     obtain ⟨q,q1,q2,q3,q4,q5⟩:=h.keys y hy
     rw [e] at h3
     have hlt:=(h.old (p%n) hm).2 h3.epoch h3.data
     have hpos:=h3.pos
     have:=mod_eq_far (n:=n) (p:=p) (q:=q) om_ om_ om_
     omega
    ·rw [e,pcAt_lst (fun y hy ey=>hx ⟨y,hy,ey⟩)]
   ·rw [e,pcAt_new h.sgl hy ey]
   ·rw [e] at h3;exact absurd rfl h3.data
  have hB:Recs (pcAt x 0 n) E T (R.take low) Y:=h.low.2.congr fun p i cc h1 h2 h3=>by
   have hm:=Nat.mod_lt p (show 0<n by omega)
   have hf:∀y∈s.pend,y.1≠2+p%n:=fun y hy ey=>by
    obtain ⟨q,q1,q2,q3,q4,q5⟩:=h.keys y hy
    have:=mod_eq_far (n:=n) (p:=p) (q:=q) om_ om_ om_
    omega
   rw [hpn,pcAt_lst hf]
   unfold Dsk.lst;rw [c.free _ om_ hf]
  obtain ⟨a1,a2⟩:=Recs.pre _ (Nat.le_refl _) hA h.recs hno
  obtain ⟨b1,b2⟩:=Recs.pre _ (Nat.le_refl _) hB r' n'
  have hlow:=h.low.1
  rw [List.length_take] at b1
  exact ⟨by omega,a1,a2⟩
theorem Core.same {s':Dsk}(h:Core s n E T Y H H' R low)(h1:s'.last=s.last)(h2:s'.pend=s.pend):Core s' n E T Y H H' R low:=by
 have e:pcAt s' 0 n=pcAt s 0 n:=by funext p;unfold pcAt;rw [now_congr h1 h2]
 have el:∀k,s'.lst k=s.lst k:=fun k=>by unfold Dsk.lst;rw [h1]
 exact ⟨h.n0,by rw [h1];exact h.len,⟨by rw [h2];exact h.sgl.nodup,by rw [h1,h2];exact h.sgl.over⟩,h.ends,by rw [h2];exact h.keys,by rw [el,el];exact h.pair,fun k hk=>by rw [el];exact h.old k hk,by rw [e];exact h.recs,by rw [e];exact h.low⟩
end
end
section
section
variable {s:Dsk}{n E T Y H H':Nat}{R:List (List UInt8)}{low:Nat}
theorem Core.free (h:Core s n E T Y H H' R low){q:Nat}(h1:H'≤q)(h2:q<T+n):∀y∈s.pend,y.1≠2+q%n:=fun y hy e=>by
 have he:=h.ends
 obtain ⟨p,q1,q2,q3,_,_⟩:=h.keys y hy
 have:=mod_eq_far (n:=n) (p:=p) (q:=q) om_ om_ om_
 omega
theorem Core.write (h:Core s n E T Y H H' R low)(hok:DOk s){i c:Nat}{d:List UInt8}(hH:H'<T+n)(hd:d.length≤492)(hE:E<4294967296)(hp:H'<4294967296)(hi:i<65536)(hc:c<65536){K:Nat}(hK:K=2+H'%n){X:List UInt8}(hX:X=partF (s.now K) E H' i c d):
  Core (s.wrote K X) n E T Y H (H'+1) R low∧pcAt (s.wrote K X) 0 n H'=⟨E,H',i,c,d⟩∧∀q,q%n≠H'%n→pcAt (s.wrote K X) 0 n q=pcAt s 0 n q:=by
 have hn:=h.n0
 have he:=h.ends
 have hl:=h.len
 have hm:=Nat.mod_lt H' (show 0<n by omega)
 have hf:=h.free (Nat.le_refl H') hH
 rw [←hK] at hf
 have hnow:s.now K=s.last.getD K []:=(now_free hf).2
 have h512:(s.now K).length=512:=hok.now om_
 have hx:pcF X=⟨E,H',i,c,d⟩:=by rw [hX];exact pcF_part h512 hd hE hp hi hc
 have hov:Over (s.last.getD K []) X:=by
  rw [←hnow]
  exact ⟨h512,bodyR E H' i c d,by rw [length_bodyR];omega,by rw [hX];exact partF_form h512 hd⟩
 obtain ⟨s',hs'⟩:∃s',s'=s.wrote K X:=⟨_,rfl⟩
 have h1:s'.last=s.last:=by rw [hs'];rfl
 have h2:s'.pend=s.pend++[(K,X)]:=by rw [hs'];rfl
 rw [←hs']
 have hnw:=now_write (s:=s) (s':=s') h1 h2
 have hat:pcAt s' 0 n H'=⟨E,H',i,c,d⟩:=by
  unfold pcAt
  rw [Nat.zero_add,←hK,hnw,if_pos rfl,hx]
 have hoth:∀q,q%n≠H'%n→pcAt s' 0 n q=pcAt s 0 n q:=fun q hq=>by
  unfold pcAt
  rw [hnw,if_neg om_]
 have hlst:∀k,s'.lst k=s.lst k:=fun k=>by unfold Dsk.lst;rw [h1]
 have hback:∀p i c,T≤p→p<H'→(pcAt s 0 n p).Part E p i c→pcAt s' 0 n p=pcAt s 0 n p:=fun p i c q1 q2 _=>hoth p fun e=>by
  have:=mod_eq_far (n:=n) (p:=p) (q:=H') e om_ om_
  omega
 refine ⟨⟨hn,by rw [h1];exact hl,⟨?_,fun y hy=> ?_⟩,by omega,fun y hy=> ?_,by rw [hlst,hlst];exact h.pair,fun k hk=>by rw [hlst];exact h.old k hk,h.recs.congr fun p i c q1 q2 q3=>hback p i c q1 om_ q3,h.low.1,h.low.2.congr fun p i c q1 q2 q3=>hback p i c q1 om_ q3⟩,hat,hoth⟩
 ·rw [h2,List.map_append]
  refine List.nodup_append.2 ⟨h.sgl.nodup,by simp,fun a ha b hb e=> ?_⟩
  obtain ⟨y,hy,rfl⟩:=List.mem_map.1 ha
  simp at hb
  exact hf y hy (e.trans hb)
 ·rw [h2] at hy
  rcases List.mem_append.1 hy with hy|hy
  ·rw [h1];exact h.sgl.over y hy
  ·rw [List.mem_singleton] at hy;subst hy;rw [h1];exact hov
 ·rw [h2] at hy
  rcases List.mem_append.1 hy with hy|hy
  ·obtain ⟨p,q1,q2,q3⟩:=h.keys y hy
   exact ⟨p,q1,by omega,q3⟩
  ·rw [List.mem_singleton] at hy;subst hy
   exact ⟨H',by omega,by omega,hK,by rw [hx],by rw [hx]⟩
end
theorem parts_take (d:List UInt8):∀c,((List.range c).map (partR d)).flatten=d.take (c*492)
 |0=>by simp
 |c+1=>by
  rw [List.range_succ,List.map_append,List.flatten_append,parts_take d c,List.map_singleton,List.flatten_singleton]
  unfold partR
  rw [←List.take_add,Nat.add_mul,Nat.one_mul]
theorem parts_cat {pc:Nat→Pc}{H c:Nat}{d:List UInt8}(hc:c=countR d.length)(h:∀i,i<c→(pc (H+i)).data=partR d i):catF pc H c=d:=by
 unfold catF
 have e:(List.range c).map (fun j=>(pc (H+j)).data)=(List.range c).map (partR d):=List.map_congr_left fun j hj=>h j (List.mem_range.1 hj)
 rw [e,parts_take,List.take_of_length_le]
 unfold countR at hc;omega
theorem parts_rec {pc:Nat→Pc}{E H c:Nat}{d:List UInt8}(hc:c=countR d.length)(h0:1≤d.length)(h1:d.length≤8364)(h:∀i,i<c→pc (H+i)=⟨E,H+i,i,c,partR d i⟩):IsRec pc E H c:=by
 have hc1:1≤c:=by unfold countR at hc;omega
 refine ⟨hc1,by unfold countR at hc;omega, ?_,fun j hj=> ?_⟩
 ·have:=h 0 om_
  rw [Nat.add_zero] at this
  rw [this]
 ·obtain ⟨q1,q2,q3⟩:=partR_len (d:=d) (i:=j) hc hj
  rw [h j hj]
  refine ⟨fun e=> ?_,rfl,rfl,rfl,rfl, ?_⟩
  ·have e:partR d j=[]:=e
   rw [e] at q2;exact absurd q2 dc_
  ·by_cases hj1:j+1=c
   ·exact .inl hj1
   ·right
    show (partR d j).length=492
    rw [q1]
    unfold countR at hc;omega
section
variable {n E T Y H top tl:Nat}{life:Int}{b:Bool}{R:List (List UInt8)}{low:Nat}{d:List UInt8}{c:Nat}
theorem lays_core {l:Lg}(hl:l=⟨0,n,life,E,top,tl,H,b⟩)(hc:c=countR d.length)(h1:d.length≤8364)(hE:E<4294967296)(hH:H+c≤T+n)(hp:H+c<4294967296):
  ∀(k i:Nat) (s:Dsk),i+k=c→Core s n E T Y H (H+i) R low→DOk s→(∀j,j<i→pcAt s 0 n (H+j)=⟨E,H+j,j,c,partR d j⟩)→
   ∃j,j≤c∧Core (laysR l d c s i k).1 n E T Y H (H+j) R low∧(∀m,m<j→pcAt (laysR l d c s i k).1 0 n (H+m)=⟨E,H+m,m,c,partR d m⟩)∧((laysR l d c s i k).2=0∧j=c∨(laysR l d c s i k).2=3∧j<c∧(laysR l d c s i k).1.left=0)∧(laysR l d c s i k).1.life=s.life∧(s.left= -1→(laysR l d c s i k).2=0∧(laysR l d c s i k).1.left= -1)
 |0,i,s,hk,h,_,hat=>⟨i,by omega,h,hat,.inl ⟨rfl,by omega⟩,rfl,fun q=>⟨rfl,q⟩⟩
 |k+1,i,s,hk,h,hok,hat=>by
  have hn:=h.n0
  have he:=h.ends
  have hlen:=h.len
  have hm:=Nat.mod_lt (H+i) (show 0<n by omega)
  have hpl:=partR_len (d:=d) (i:=i) hc om_
  have hc17:c≤17:=by unfold countR at hc;omega
  obtain ⟨K,hK⟩:∃K,K=2+(H+i)%n:=⟨_,rfl⟩
  obtain ⟨X,hX⟩:∃X,X=partF (s.now K) E (H+i) i c (partR d i):=⟨_,rfl⟩
  have hlay:layR s l d i c=s.writeR ((K:Nat):Int) X:=by
   rw [hl,hX,hK]
   show s.writeR ((0+2+(H+i)%n:Nat):Int) (sealF (s.now (0+2+(H+i)%n)) (bodyR E (H+i) i c (partR d i))).1=_
   rw [Nat.zero_add];rfl
  have hXl:X.length=512:=by
   rw [hX,partF_form (hok.now om_) hpl.2.2]
   exact length_form _ (by rw [length_bodyR];omega)
  unfold laysR
  rw [hlay]
  by_cases hz:s.left=0
  ·have hne:(s.writeR ((K:Nat):Int) X).2≠0:=by
    intro q
    exact (writeR_ok q).2.2.2.1 hz
   obtain ⟨e1,e2,e3,_,e5⟩:=writeR_no hne
   have el:=(Did.write s ((K:Nat):Int) X).life
   rw [if_pos hne]
   obtain ⟨s',hs'⟩:∃s',s'=(s.writeR ((K:Nat):Int) X).1:=⟨_,rfl⟩
   rw [←hs'] at e1 e2 e3 el ⊢
   refine ⟨i,by omega,h.same e1 e2,fun m hm=> ?_,.inr ⟨e5 hz,by omega,by rw [e3];exact hz⟩,el,fun q=>by omega⟩
   rw [←hat m hm]
   unfold pcAt
   rw [now_congr e1 e2]
  ·have hgo:=writeR_go (k:=K) (d:=X) hz om_ hXl
   rw [hgo,if_neg (fun q=>q rfl)]
   obtain ⟨g1,g2,g3⟩:=h.write hok (i:=i) (c:=c) (d:=partR d i) om_ hpl.2.2 hE om_ om_ om_ hK hX
   have hok':DOk (s.wrote K X):=by
    have:=hok.write ((K:Nat):Int) X
    rw [hgo] at this;exact this
   obtain ⟨j,j1,j2,j3,j4,j5,j6⟩:=lays_core hl hc h1 hE hH hp k (i+1) (s.wrote K X) om_ g1 hok' (fun m hm=>by
    by_cases hmi:m=i
    ·rw [hmi];exact g2
    ·rw [g3 (H+m) fun e=>by
      have:=mod_eq_far (n:=n) (p:=H+m) (q:=H+i) e om_ om_
      omega]
     exact hat m om_)
   refine ⟨j,j1,j2,j3,j4,j5,fun q=>j6 ?_⟩
   show spent s.left= -1
   rw [q];rfl
theorem append_core {s:Dsk}{l:Lg}(hl:l=⟨0,n,s.life,E,top,T,H,true⟩)(h:Core s n E T Y H H R low)(hok:DOk s)(hz:s.left≠0)(hE:E<4294967296)(hb:H+17≤1073741824)(d:List UInt8):
  ((appendR s l d).2.2=0∧1≤d.length∧d.length≤8364∧(appendR s l d).2.1=⟨0,n,s.life,E,top,T,H+countR d.length,true⟩∧countR d.length≤17∧H+countR d.length≤T+n∧Core (appendR s l d).1 n E T Y (H+countR d.length) (H+countR d.length) (R++[d]) low∧(s.left= -1→(appendR s l d).1.left= -1)∧(appendR s l d).1.life=s.life)∨
  ((appendR s l d).2.2≠0∧(appendR s l d).2.2≠3∧appendR s l d=(s,l,(appendR s l d).2.2)∧(1≤d.length→d.length≤8364→(appendR s l d).2.2=40∧T+n<H+countR d.length))∨
  ((appendR s l d).2.2=3∧(appendR s l d).1.left=0∧(appendR s l d).2.1=l∧s.left≠ -1∧(appendR s l d).1.life=s.life∧∃j,Core (appendR s l d).1 n E T Y H (H+j) R low∧NoRec (pcAt (appendR s l d).1 0 n) E H):=by
 have he:=h.ends
 have ha:aliveR s l=true:=alive_iff.2 ⟨hz,by rw [hl]⟩
 have hr:readyR s l=0:=ready_iff.2 ⟨ha,by rw [hl]⟩
 have e1:l.head=H:=by rw [hl]
 have e2:l.tail=T:=by rw [hl]
 have e3:l.n=n:=by rw [hl]
 unfold appendR
 rw [if_neg om_,e1,e2,e3]
 by_cases h0:d.length=0
 ·rw [if_pos h0];exact .inr (.inl ⟨by show (2:Int)≠0;decide,by show (2:Int)≠3;decide,rfl,fun q=>by omega⟩)
 ·rw [if_neg h0]
  by_cases h7:8364<d.length
  ·rw [if_pos h7];exact .inr (.inl ⟨by show (7:Int)≠0;decide,by show (7:Int)≠3;decide,rfl,fun _ q=>by omega⟩)
  ·rw [if_neg h7]
   obtain ⟨c,hc⟩:∃c,c=countR d.length:=⟨_,rfl⟩
   have hc17:c≤17:=by unfold countR at hc;omega
   rw [←hc,if_neg om_]
   by_cases h40:n<H-T+c
   ·rw [if_pos h40];exact .inr (.inl ⟨by show (40:Int)≠0;decide,by show (40:Int)≠3;decide,rfl,fun _ _=>⟨rfl,by omega⟩⟩)
   ·rw [if_neg h40]
    obtain ⟨j,j1,j2,j3,j4,j5,j6⟩:=lays_core hl hc om_ hE om_ om_ c 0 s om_ h hok (fun j hj=>absurd hj (Nat.not_lt_zero _))
    obtain ⟨r,hrr⟩:∃r,r=laysR l d c s 0 c:=⟨_,rfl⟩
    rw [←hrr] at j2 j3 j4 j5 j6
    simp only []
    rw [←hrr]
    rcases j4 with ⟨q1,rfl⟩|⟨q1,q2,q3⟩
    ·rw [if_neg om_]
     have hrec:=parts_rec hc om_ om_ j3
     have hcat:=parts_cat (pc:=pcAt r.1 0 n) (H:=H) hc (fun i hi=>by rw [j3 i hi])
     refine .inl ⟨rfl,by omega,by omega,by rw [hl],by omega,by omega, ?_,fun q=>(j6 q).2,j5⟩
     show Core r.1 n E T Y (H+j) (H+j) (R++[d]) low
     have hR:=j2.recs.step hrec
     rw [hcat] at hR
     have hlow:=j2.low
     refine ⟨j2.n0,j2.len,j2.sgl,by omega,j2.keys,j2.pair,j2.old,hR,by rw [List.length_append];omega, ?_⟩
     rw [List.take_append_of_le_length hlow.1];exact hlow.2
    ·rw [if_pos om_]
     refine .inr (.inr ⟨q1,q3,rfl,fun q=>by have:=(j6 q).2;omega,j5,j,j2,fun c' hr'=> ?_⟩)
     by_cases hj0:j=0
     ·subst hj0
      exact j2.none (q:=H) om_ (by have:=hr'.part 0 hr'.c1;rwa [Nat.add_zero] at this)
     ·have e0:=j3 0 om_
      rw [Nat.add_zero] at e0
      have hcc:c=c':=by have:=hr'.cnt;rw [e0] at this;exact this
      exact j2.none (q:=H+j) (Nat.le_refl _) (hr'.part j om_)
end
end
section
theorem now_lst {s:Dsk}(hp:s.pend=[])(k:Nat):s.now k=s.lst k:=now_nil hp k
section
variable {s:Dsk}{n E T Y H H':Nat}{R:List (List UInt8)}{low:Nat}
structure Flat (s:Dsk)(n E T:Nat)(R:List (List UInt8))(H:Nat):Prop where
 n0:18≤n∧n≤256
 len:s.last.length=n+2
 pend:s.pend=[]
 pair:∃x,newestF (s.lst 0) (s.lst 1)=(x,E*4294967296+T,[],0)
 old:∀k,k<n→(pcF (s.lst (2+k))).epoch≤E
 recs:Recs (pcAt s 0 n) E T R H
 no:NoRec (pcAt s 0 n) E H
theorem pcAt_flat {s x:Dsk}(hp:s.pend=[])(hx:x.pend=[]){n:Nat}(hn:0<n)(hl:n+2≤s.last.length)(h:∀k,2≤k→k<s.last.length→x.lst k=s.lst k):pcAt x 0 n=pcAt s 0 n:=by
 funext p
 have hm:=Nat.mod_lt p hn
 unfold pcAt
 rw [now_lst hp,now_lst hx,h _ om_ om_]
theorem Flat.left (h:Flat s n E T R H){x:Dsk}(hx:x.pend=[])(hpair:newestF (x.lst 0) (x.lst 1)=newestF (s.lst 0) (s.lst 1))(hr:∀k,2≤k→k<s.last.length→x.lst k=s.lst k):Left x n E T R R.length:=by
 have hn:=h.n0
 have hl:=h.len
 have e:=pcAt_flat h.pend hx (n:=n) om_ om_ hr
 refine ⟨by rw [hpair];exact h.pair,fun k hk=>by rw [hr (2+k) om_ om_];exact h.old k hk,fun R' h' r n'=> ?_⟩
 rw [e] at r n'
 obtain ⟨q1,q2⟩:=Recs.pre _ (Nat.le_refl _) r h.recs h.no
 obtain ⟨q3,_⟩:=Recs.pre _ (Nat.le_refl _) h.recs r n'
 exact ⟨q3,q1,q2⟩
end
end
structure FrD (s:Dsk)(no:Nat):Prop where
 left:s.left= -1
 len:s.last.length=20
 pair:∃x,newestF (s.now 0) (s.now 1)=(x,no,[],0)
 ring:∀j,2≤j→j<20→s.now j=zsec
theorem DOk.take {s:Dsk}(h:DOk s):DOk s.take:=⟨h.len,h.plen,h.n1,h.n2,h.lb⟩
theorem pc_zero:pcF zsec=pcNo:=by
 have h:(openF zsec).1.length<12:=by
  unfold openF
  split
  ·decide
  ·split
   ·decide
   ·split
    ·rw [List.length_take,show (zsec.getD 1 0).toNat+256*(zsec.getD 2 0).toNat=0 from by decide];omega
    ·decide
 unfold pcF;rw [if_neg om_]
theorem FrD.take {s:Dsk}{no:Nat}(h:FrD s no):FrD s.take no:=⟨h.left,h.len,h.pair,h.ring⟩
structure FrN (n:Nat)(s:Dsk)(no:Nat):Prop where
 left:s.left= -1
 len:s.last.length=n+2
 pair:∃x,newestF (s.now 0) (s.now 1)=(x,no,[],0)
 ring:∀j,2≤j→j<n+2→s.now j=zsec
theorem FrN.take {n:Nat}{s:Dsk}{no:Nat}(h:FrN n s no):FrN n s.take no:=⟨h.left,h.len,h.pair,h.ring⟩
section
def May (B:List (List UInt8))(low:Nat)(none:Bool)(told:List (List UInt8)):Prop:=
 (none=true∧told=[])∨(low≤told.length∧told.length≤B.length∧told=B.take told.length)
structure Cutted (k n:Nat)(x:Dsk)(B:List (List UInt8))(low:Nat)(none:Bool)(E T:Nat):Prop where
 e1:1≤E
 e2:E≤k+2
 t:T≤17*k
 pair:∃q,newestF (x.lst 0) (x.lst 1)=(q,E*4294967296+T,[],0)
 old:∀j,j<n→(pcF (x.lst (2+j))).epoch≤E
 tell:∀R' h',Recs (pcAt x 0 n) E T R' h'→NoRec (pcAt x 0 n) E h'→May B low none R'
def Back (k n:Nat)(s:Dsk)(B:List (List UInt8))(low:Nat)(none:Bool):Prop:=∀x,CutOf s x→∃E T,Cutted k n x B low none E T
theorem Left.cutted {k n E T low low':Nat}{x:Dsk}{R B:List (List UInt8)}{none:Bool}(h:Left x n E T R low)(h1:1≤E)(h2:E≤k+2)(h3:T≤17*k)(hm:∀R',low≤R'.length→R'.length≤R.length→R'=R.take R'.length→May B low' none R'):Cutted k n x B low' none E T:=
 ⟨h1,h2,h3,h.pair,h.old,fun R' h' r n'=>by obtain ⟨q1,q2,q3⟩:=h.tell R' h' r n';exact hm R' q1 q2 q3⟩
theorem Left.cut1 {k n E T low:Nat}{x:Dsk}{R B:List (List UInt8)}{none:Bool}(h:Left x n E T R low)(h1:1≤E)(h2:E≤k+2)(h3:T≤17*k)(hb:R=B.take R.length)(hl:R.length≤B.length):Cutted k n x B low none E T:=
 h.cutted h1 h2 h3 fun R' q1 q2 q3=>.inr ⟨q1,by omega,by
  rw [hb,List.take_take,Nat.min_eq_left q2] at q3;exact q3⟩
theorem Cutted.next {k n E T low:Nat}{x:Dsk}{B:List (List UInt8)}{none:Bool}(h:Cutted k n x B low none E T):Cutted (k+1) n x B low none E T:=⟨h.e1,by have:=h.e2;omega,by have:=h.t;omega,h.pair,h.old,h.tell⟩
theorem Cutted.mono {k n E T low:Nat}{x:Dsk}{B:List (List UInt8)}{none:Bool}(h:Cutted k n x B low none E T):Cutted k n x B low true E T:=⟨h.e1,h.e2,h.t,h.pair,h.old,fun R' h' r n'=>(h.tell R' h' r n').elim (fun q=>.inl ⟨rfl,q.2⟩) .inr⟩
structure PInv (k n:Nat)(s:Dsk)(l:Lg)(B:List (List UInt8))(low:Nat)(none:Bool):Prop where
 n0:18≤n∧n≤256
 len:s.last.length=n+2
 ok:DOk s
 life:0≤s.life∧s.life≤2*(k:Int)+5
 lg:LgOk (n+2) l
 pend:s.pend.length≤20*k+300
 st:(none=false∧∃E top T H Y,l=⟨0,n,s.life,E,top,T,H,true⟩∧1≤E∧E≤k+2∧top≤k+2∧H≤17*k∧Core s n E T Y H H B low)∨(s.left=0∧Sgl s∧Back k n s B low none)
theorem PInv.back {k n:Nat}{s:Dsk}{l:Lg}{B:List (List UInt8)}{low:Nat}{none:Bool}(h:PInv k n s l B low none):Back k n s B low none:=by
 rcases h.st with ⟨_,E,top,T,H,Y,_,h1,h2,_,h3,hc⟩|⟨_,_,q⟩
 ·intro x c
  have he:=hc.ends
  exact ⟨E,T,(hc.cut hc.no c).cut1 h1 h2 om_ (by rw [List.take_length]) (Nat.le_refl _)⟩
 ·exact q
theorem Back.next {k n:Nat}{s:Dsk}{B:List (List UInt8)}{low:Nat}{none:Bool}(h:Back k n s B low none):Back (k+1) n s B low none:=fun x c=>by obtain ⟨E,T,q⟩:=h x c;exact ⟨E,T,q.next⟩
theorem PInv.next {k n:Nat}{s:Dsk}{l:Lg}{B:List (List UInt8)}{low:Nat}{none:Bool}(h:PInv k n s l B low none):PInv (k+1) n s l B low none:=
 ⟨h.n0,h.len,h.ok,by have:=h.life;omega,h.lg,by have:=h.pend;omega,by
  rcases h.st with ⟨q,E,top,T,H,Y,h0,h1,h2,h3,h4,hc⟩|⟨q1,q2,q3⟩
  ·exact .inl ⟨q,E,top,T,H,Y,h0,h1,by omega,by omega,by omega,hc⟩
  ·exact .inr ⟨q1,q2,q3.next⟩⟩
theorem appendR_did {s:Dsk}{l:Lg}(hok:DOk s)(hn:1≤l.n)(hin:l.first+2+l.n≤s.last.length)(d:List UInt8):Did s (appendR s l d).1 17:=by
 have hs:Did s s 17:=⟨rfl,rfl,by omega,id⟩
 unfold appendR
 split
 ·exact hs
 ·split
  ·exact hs
  ·rename_i h0
   split
   ·exact hs
   ·rename_i h1
    split
    ·exact hs
    ·split
     ·exact hs
     ·have g:=(laysR_did (l:=l) (d:=d) rfl hn (countR d.length) 0 s (Nat.zero_add _) hok hin).1
      have hc:countR d.length≤17:=by unfold countR;omega
      simp only []
      split
      ·exact g.le hc
      ·exact g.le hc
section
variable {F:Nat→Prop}{w0 w:World}{L:List Ast}{g gd k n:Nat}{l:Lg}{s:Dsk}{B:List (List UInt8)}{low:Nat}{none:Bool}
theorem dead_append {s:Dsk}{l:Lg}(hz:s.left=0)(d:List UInt8):appendR s l d=(s,l,3):=by
 have hr:readyR s l=3:=by unfold readyR;rw [if_pos (alive_burnt hz)]
 unfold appendR;rw [if_pos om_,hr]
theorem PInv.append (h:PInv k n s l B low none)(hk:k≤70000){s':Dsk}(hok':DOk s')(d:List UInt8)(hs':s'=(appendR s l d).1):
  ((appendR s l d).2.2=0∧s.left≠0∧1≤d.length∧d.length≤8364∧PInv (k+1) n s' (appendR s l d).2.1 (B++[d]) low none)∨
  ((appendR s l d).2.2=3∧s.left≠0∧PInv (k+1) n s' (appendR s l d).2.1 (B++[d]) low none)∨
  ((appendR s l d).2.2=3∧s.left=0∧PInv (k+1) n s' (appendR s l d).2.1 B low none)∨
  ((appendR s l d).2.2≠0∧(appendR s l d).2.2≠3∧PInv (k+1) n s' (appendR s l d).2.1 B low none):=by
 have hd:=appendR_did h.ok (l:=l) (by have:=h.lg.ok.n0;omega) (by have:=h.lg.fit;have:=h.len;omega) d
 have hdp:=hd.pend
 have hdl:=hd.len
 have hlife:=h.life
 have hpend:=h.pend
 have hlen:=h.len
 rw [←hs'] at hd hdp hdl
 by_cases hz:s.left=0
 ·have e:=dead_append (l:=l) hz d
  refine .inr (.inr (.inl ⟨by rw [e],hz, ?_⟩))
  rw [hs',e];exact h.next
 ·rcases h.st with ⟨hnone,E,top,T,H,Y,hl,h1,h2,h3,h4,hc⟩|⟨q,_⟩
  ·have hn:=hc.n0
   have he:=hc.ends
   rcases append_core hl hc h.ok hz om_ om_ d with ⟨e,a1,a2,a3,a4,a5,a6,_,a7⟩|⟨e0,e3,a1,_⟩|⟨e,a1,a2,_,a3,j,a4,a5⟩
   ·refine .inl ⟨e,hz,a1,a2, ?_⟩
    rw [a3]
    rw [←hs'] at a6 a7
    refine ⟨hn,by omega,hok',by rw [a7];omega,⟨⟨Nat.zero_le _,hn.1,hn.2,by show E≤_;omega,by show top<_;omega,by show T≤_;omega⟩,⟨by show T≤H+_;omega,by show H+_≤T+n;omega⟩,by show 0+2+n≤n+2;omega,fun _=>by show H+_≤_;omega⟩,by omega,.inl ⟨hnone,E,top,T,H+countR d.length,Y,by rw [a7],h1,by omega,by omega,by omega,a6⟩⟩
   ·refine .inr (.inr (.inr ⟨e0,e3, ?_⟩))
    have e1:s'=s:=by rw [hs',a1]
    rw [e1,show (appendR s l d).2.1=l from by rw [a1]]
    exact h.next
   ·refine .inr (.inl ⟨e,hz, ?_⟩)
    rw [a2]
    rw [←hs'] at a1 a3 a4 a5
    refine ⟨hn,by omega,hok',by rw [a3];omega,h.lg,by omega,.inr ⟨a1,a4.sgl,fun x c=>⟨E,T, ?_⟩⟩⟩
    exact (a4.cut a5 c).cut1 h1 om_ om_ (by rw [List.take_append_of_le_length (Nat.le_refl _),List.take_length]) (by rw [List.length_append];omega)
  ·exact absurd q hz
theorem CutOf.fuse {s x:Dsk}{a:Int}(c:CutOf (s.fuseR a) x):CutOf s x:=by
 obtain ⟨e1,e2⟩:=fuseR_same s a
 refine ⟨c.pend,c.len.trans (by rw [e1]),fun j hj hf=> ?_,fun y hy=> ?_⟩
 ·have:=c.free j (by rw [e1];exact hj) (by rw [e2];exact hf)
  rw [this,e1]
 ·have:=c.one y (by rw [e2];exact hy)
  rw [e1] at this;exact this
theorem fuseR_life (s:Dsk)(a:Int):(s.fuseR a).life=s.life:=by unfold Dsk.fuseR;split<;>rfl
theorem PInv.fuse (h:PInv k n s l B low none)(a:Int)(hok':DOk (s.fuseR a)):PInv (k+1) n (s.fuseR a) l B low none:=by
 obtain ⟨e1,e2⟩:=fuseR_same s a
 have hlife:=h.life
 have hpend:=h.pend
 have hlen:=h.len
 refine ⟨h.n0,by rw [e1];exact hlen,hok',by rw [fuseR_life];omega,h.lg,by rw [e2];omega, ?_⟩
 rcases h.st with ⟨hnone,E,top,T,H,Y,hl,h1,h2,h3,h4,hc⟩|⟨q1,q2,q3⟩
 ·exact .inl ⟨hnone,E,top,T,H,Y,by rw [fuseR_life];exact hl,h1,by omega,by omega,by omega,hc.same e1 e2⟩
 ·refine .inr ⟨by unfold Dsk.fuseR;rw [if_pos q1];exact q1,⟨by rw [e2];exact q2.nodup,by rw [e1,e2];exact q2.over⟩,fun x c=>q3.next x c.fuse⟩
end
end
end Go.Proofs
end
section
open Go Go.RowKit Go.Proofs.YtgeioealgidkiaaW.PrintWords
namespace Go.Proofs
open Go.Vel
set_option linter.unusedVariables false
set_option maxRecDepth 100000
section
structure PCut (k n:Nat)(x:Dsk)(B:List (List UInt8))(low:Nat)(nn:Bool):Prop where
 n0:18≤n∧n≤256
 len:x.last.length=n+2
 ok:DOk x
 pend:x.pend=[]
 left:x.left= -1
 life:0≤x.life∧x.life≤2*(k:Int)+6
 cut:∃E T,Cutted k n x B low nn E T
theorem Cutted.flat {k n E T low:Nat}{x y:Dsk}{B:List (List UInt8)}{nn:Bool}(h:Cutted k n x B low nn E T)(hx:x.pend=[])(hy:y.pend=[])(hn:0<n)(hl:x.last.length=n+2)(e:∀j,j<n+2→y.lst j=x.lst j):Cutted k n y B low nn E T:=by
 have e1:=pcAt_flat hx hy (n:=n) hn om_ (fun j _ h2=>e j om_)
 exact ⟨h.e1,h.e2,h.t,by rw [e 0 om_,e 1 om_];exact h.pair,fun j hj=>by rw [e (2+j) om_];exact h.old j hj,by rw [e1];exact h.tell⟩
theorem PCut.load {k n low:Nat}{x y:Dsk}{B:List (List UInt8)}{nn:Bool}(h:PCut k n x B low nn)(hy:y=Dsk.mk0 x.last)(hok:DOk y):PCut k n y B low nn:=by
 obtain ⟨E,T,hc⟩:=h.cut
 have hn:=h.n0
 have el:y.last=x.last:=by rw [hy];rfl
 refine ⟨h.n0,by rw [el];exact h.len,hok,by rw [hy];rfl,by rw [hy];rfl,by rw [show y.life=1 by rw [hy];rfl];omega,E,T,hc.flat h.pend (by rw [hy];rfl) om_ h.len fun j _=>by unfold Dsk.lst;rw [el]⟩
section
variable {F:Nat→Prop}{w0 w:World}{L:List Ast}{g gd k n:Nat}{l:Lg}{s:Dsk}{B:List (List UInt8)}{low:Nat}{nn:Bool}
end
end
end Go.Proofs
end
section
open Go Go.RowKit Go.Proofs.YtgeioealgidkiaaW.PrintWords
namespace Go.Proofs
open Go.Vel
set_option linter.unusedVariables false
set_option maxRecDepth 100000
set_option maxHeartbeats 4000000
attribute [local irreducible] gives wpList Code.wp
section
variable {F:Nat→Prop} {w0 w:World} {L:List Ast}
theorem byte_eq {a b:List UInt8}{k:Nat}(h:¬((a.getD k 0).toNat:Int)=((b.getD k 0).toNat:Int)):a≠b:=fun e=>h (by rw [e])
theorem bytes_ext {a b:List UInt8}(hl:a.length=b.length)(h:∀m,m<a.length→((a.getD m 0).toNat:Int)=((b.getD m 0).toNat:Int)):a=b:=by
 apply List.ext_getElem hl
 intro m h1 h2
 have:=h m h1
 rw [List.getD_eq_getElem?_getD,List.getD_eq_getElem?_getD,List.getElem?_eq_getElem h1,List.getElem?_eq_getElem h2] at this
 simp only [Option.getD_some] at this
 exact UInt8.toNat_inj.1 om_
theorem same_spec {A B:Option Addr}{a b:List UInt8}{ca cb:Nat}(S:St F w0 w L)(hx:RoT F w0 L A a)(hy:RoT F w0 L B b)(hm:a.length≤9223372036854775807)(hm2:b.length≤9223372036854775807):
  Calls Try.prog 24 #[.slice A a.length ca,.slice B b.length cb] w fun e w'=>e=.returned (.bool (decide (a=b)))∧St F w0 w' L:=by
 refine eN (fr [.slice A a.length ca,.slice B b.length cb] 24) Try.func24 rfl (sR (pv fv (wE (nS (sR (pv (.slice A a.length ca) (pv (iv (a.length:Nat)) (pv (.slice B b.length cb) (pv (iv (b.length:Nat)) (dN (a.length:Nat) (b.length:Nat) (fun hb1=> ?_) fun hb1=> ?_))))))))))
 ·have hlen:¬a.length=b.length:=fun e=>hb1 (by rw [e])
  exact wE (nCT (sR (pv fv (wE (then_n (rR (bA (.bool false) ⟨by rw [decide_eq_false (fun e=>hlen (by rw [e]))],S⟩)))))))
 ·have hlen:a.length=b.length:=Int.ofNat.inj hb1
  refine wE (nCF (wp_skip (nS (sR (pv (iv 0) (wE (then_n (wp_block (wp_loop_g (G:=Nat) (fun (g_:Nat) (a_:Act) (w_:World)=>∃J:Nat→Value,a_=(fr ([.slice A a.length ca,.slice B b.length cb,ud,ud,J 4,nI_ g_,.slice A a.length ca,iv (a.length:Nat),.slice B b.length cb,iv (b.length:Nat),fv]++jR J 11 15) 0)∧St F w0 w_ (L)∧(g_≤a.length∧∀m,m<g_→((a.getD m 0).toNat:Int)=((b.getD m 0).toNat:Int))) (fun g_=>a.length-g_) 0 (jE_ ⟨S,⟨Nat.zero_le _,fun m h=>absurd h (Nat.not_lt_zero _)⟩⟩) ?_)))))))))
  rintro k a_ w2 ⟨J,rfl,S3,hI4⟩
  skip
  have S3:St F w0 w2 (L):=S3
  have hI4:(k≤a.length∧∀m,m<k→((a.getD m 0).toNat:Int)=((b.getD m 0).toNat:Int)):=hI4
  refine wp_seq (sR (pv (nI_ k) (pv (.slice A a.length ca) (pv (iv (a.length:Nat)) (dC ((((k:Nat):Int):Int)<(a.length:Nat)) (fun hb5=> ?_) fun hb5=> ?_)))))
  ·have hk:k<a.length:=by omega
   obtain ⟨ada,rfl⟩:=(hx.now S3).at hk
   obtain ⟨adb,rfl⟩:=(hy.now S3).at (hlen▸hk)
   refine wE (nCT (wp_skip (nS (wp_block (wp_seq (wp_region_phu (γ:=Unit) 9 [] (fun (c_:Unit) (i_:Nat)=>(match i_ with|0=>.slice (some ada) a.length ca|1=>nI_ k|2=>.pointer (some (ada.add k))|3=>.int .u8 ((a.getD k 0).toNat:Int)|4=>.slice (some adb) b.length cb|5=>nI_ k|6=>.pointer (some (adb.add k))|7=>.int .u8 ((b.getD k 0).toNat:Int)|8=>.bool (((a.getD k 0).toNat:Int) !=((b.getD k 0).toNat:Int))|_=>undef:Value)) (fun (c_:Unit) (p_:Nat) (w_:World)=>(match p_ with|_=>St F w0 w_ (L):Prop)) () kr_ kr_ kr_ kr_ (S3.drew) ?_ ?_ ?_))))))
   ·intro i_ c_ p_ vals_ w1 hi_ hiE_ hp_ hk_ hu_ hPh_ hd_
    rcases i_ with _|_|_|_|_|_|_|_|_|i_
    ·exact tG_ rfl hd_ (gV (.slice (some ada) a.length ca) ⟨rfl,rfl⟩)
    ·exact tG_ rfl hd_ (gV (nI_ k) ⟨rfl,rfl⟩)
    ·exact tG_ rfl hd_ (gv_ixB (e:=5) (sz:=1) (n:=a.length) (c:=ca) (i:=((k:Nat):Int)) (k:=.i64) (ad:=ada) (ad':=(ada.add k)) (j:=k) rfl kr_ kr_ kr_ kr_ rfl hk (by rw [Nat.mul_one]) ⟨rfl,rfl⟩)
    ·have S9:=St.id hPh_
     exact tG_ rfl hd_ (gL (.int .u8 ((a.getD k 0).toNat:Int)) rfl ((hx.now S9).cell hk) ⟨rfl,rfl⟩)
    ·exact tG_ rfl hd_ (gV (.slice (some adb) b.length cb) ⟨rfl,rfl⟩)
    ·exact tG_ rfl hd_ (gV (nI_ k) ⟨rfl,rfl⟩)
    ·exact tG_ rfl hd_ (gv_ixB (e:=5) (sz:=1) (n:=b.length) (c:=cb) (i:=((k:Nat):Int)) (k:=.i64) (ad:=adb) (ad':=(adb.add k)) (j:=k) rfl kr_ kr_ kr_ kr_ rfl (hlen▸hk) (by rw [Nat.mul_one]) ⟨rfl,rfl⟩)
    ·have S13:=St.id hPh_
     exact tG_ rfl hd_ (gL (.int .u8 ((b.getD k 0).toNat:Int)) rfl ((hy.now S13).cell (hlen▸hk)) ⟨rfl,rfl⟩)
    ·exact tG_ rfl hd_ (gV (.bool (((a.getD k 0).toNat:Int) !=((b.getD k 0).toNat:Int))) ⟨rfl,rfl⟩)
    ·exact absurd hi_ om_
   ·intro k_ c_ vals_ w1 hk_ hPh_ hd_
    exact absurd hk_ (Nat.not_lt_zero _)
   ·intro c_ w1 hPh_
    have S15:=St.id hPh_
    refine (wE (then_n (wp_cond_split (t:=((a.getD k 0).toNat:Int) !=((b.getD k 0).toNat:Int)) kr_ (fun hc16=> ?_) (fun hc16=> ?_))))
    ·exact sR (pv fv (wE (then_n (wp_ret (inb_r (then_r (then_r (inb_r (then_r (bA (.bool false) ⟨by rw [decide_eq_false (byte_eq (by simpa using hc16))],S15⟩))))))))))
    ·have heqk:((a.getD k 0).toNat:Int)=((b.getD k 0).toNat:Int):=by simpa using hc16
     exact wp_skip (inb_n (nR (pv (nI_ k) (gI .i64 (IntKind.i64.wrap (((k:Nat):Int)+1)) (((k:Nat):Int)+1) (wr_ok om_ om_) (pv (iv (((k:Nat):Int)+1)) (wE (then_n ⟨k+1,(jE_ ⟨S15,⟨by omega,fun m hm=>(Nat.lt_succ_iff_lt_or_eq.1 hm).elim (hI4.2 m) (fun e=>e▸heqk)⟩⟩),(by show a.length-(k+1)<a.length-k;omega)⟩)))))))
  ·have hke:k=a.length:=by omega
   exact wE (nCF (wp_exit (then_x (then_x (inb_x (nSR (pv tv (wE (then_n (wp_ret (bA (.bool true) ⟨by rw [decide_eq_true (bytes_ext hlen (fun m hm=>hI4.2 m om_))],S3⟩)))))))))))
theorem same_b {A B:Option Addr}{a b:List UInt8}{ca cb:Nat}{t:Bool}(ht:decide (a=b)=t)(S:St F w0 w L)(hx:RoT F w0 L A a)(hy:RoT F w0 L B b)(hm:a.length≤9223372036854775807)(hm2:b.length≤9223372036854775807):
  Calls Try.prog 24 #[.slice A a.length ca,.slice B b.length cb] w fun e w'=>e=.returned (.bool t)∧St F w0 w' L:=ht▸same_spec S hx hy hm hm2
theorem ltwinS {A:Option Addr}{l:List UInt8}{c:Nat}(S:St F w0 w L)(hr:RoT F w0 L A l)(hlm:l.length≤140737488355328):Calls Try.prog 59 #[.slice A l.length c] w fun e w'=>∃go,e=.returned (.slice (some ⟨go,0,none⟩) l.length l.length)∧St F w0 w' (row go (bvs l) 5::L):=by
 refine eN (fr [.slice A l.length c] 10) Try.func59 rfl (sR (pv (.slice none 0 0) (wER (pv (.slice A l.length c) (pv (iv (l.length:Nat)) (g_ (gv_make (e:=5) (u:=(l.length:Nat)) (v:=(l.length:Nat)) (z:=.int .u8 0) (sz:=1) (by_:=1) (n:=l.length) (c:=l.length) (cs:=(bvs (List.replicate l.length 0))) S rfl kr_ ⟨by kernel_rfl⟩ kr_ kr_ rfl rfl (Nat.le_refl _) om_ om_ (mk_bytes _) (fun g1 w2 hg3 S4=>pv (sl g1 0 l.length l.length) (wER (pv (sl g1 0 l.length l.length) (pv (.slice A l.length c) (g_ (gv_copy (e:=5) (off:=0) (dLen:=l.length) (dCap:=l.length) (sLen:=l.length) (sCap:=c) (A:=A) (B:=(List.replicate l.length 0)) (l:=l) S4 0 rfl rfl kr_ kr_ kr_ kr_ rfl (hr.out _ [row g1 (bvs (List.replicate l.length 0)) 5] S4) (by simp) (L':=(row g1 (bvs l) 5::L)) (by rw [copy_all rfl];rfl) (fun w5 m7 S6=>wER (pv (sl g1 0 l.length l.length) ?_)))))))))))))))
 exact pv (sl g1 0 l.length l.length) (wE (then_n (wp_ret (bA (sl g1 0 l.length l.length) ⟨_,rfl,S6⟩))))
theorem splice_full {α:Type}{a b:List α}(h:b.length=a.length):splice a 0 b=b:=by
 simp [splice,h]
theorem len_zc (z:Array Value)(n:Nat):(madeCells z n).toList.length=n:=by simp [madeCells]
theorem picks_one:∀(ps:List Pick),∀u∈picksV ps,u.oneCell'=true:=fun ps u hu=>by
 obtain ⟨p,_,hp⟩:=List.mem_flatMap.1 hu
 simp [pickCells] at hp
 rcases hp with rfl|rfl|rfl<;>rfl
theorem tpicks {A:Option Addr}{ps:List Pick}{c:Nat}(S:St F w0 w L)(hr:RoV F w0 L A (picksV ps))(hlm:ps.length*24≤140737488355328):Calls Try.prog 69 #[.slice A ps.length c] w fun e w'=>∃go,e=.returned (.slice (some ⟨go,0,none⟩) ps.length ps.length)∧St F w0 w' (row go (picksV ps).toArray 145::L):=by
 refine eN (fr [.slice A ps.length c] 10) Try.func69 rfl (sR (pv (.slice none 0 0) (wER (pv (.slice A ps.length c) (pv (iv (ps.length:Nat)) (g_ (gv_make (e:=145) (u:=((ps.length:Nat):Int)) (v:=((ps.length:Nat):Int)) (z:=.agg #[iv 0,iv 0,iv 0]) (sz:=3) (by_:=24) (n:=ps.length) (c:=ps.length) (cs:=(madeCells (Value.agg #[iv 0,iv 0,iv 0]).cells (ps.length*3)).toList.toArray) S rfl kr_ ⟨by kernel_rfl⟩ kr_ kr_ rfl rfl (Nat.le_refl _) om_ om_ (by simp) (fun g1 w2 hg3 S4=>pv (sl g1 0 ps.length ps.length) (wER (pv (sl g1 0 ps.length ps.length) (pv (.slice A ps.length c) (g_ (gv_copyV (e:=145) (sz:=3) (g:=g1) (off:=0) (dLen:=ps.length) (dCap:=ps.length) (sLen:=ps.length) (sCap:=c) (A:=A) (cs:=(madeCells (Value.agg #[iv 0,iv 0,iv 0]).cells (ps.length*3)).toList) (news:=picksV ps) S4 0 rfl rfl kr_ kr_ kr_ kr_ (by rw [length_picksV];show _=min ps.length ps.length*3;rw [Nat.min_self]) (hr.out _ [_] S4) (picks_one ps) (by rw [length_picksV,len_zc];omega) (L':=(row g1 ((picksV ps).toArray) 145::L)) (by rw [splice_full (by rw [length_picksV,len_zc])];rfl) (fun w5 m6 S7=>wER (pv (sl g1 0 ps.length ps.length) ?_)))))))))))))))
 exact pv (sl g1 0 ps.length ps.length) (wE (then_n (wp_ret (bA (sl g1 0 ps.length ps.length) ⟨_,rfl,S7⟩))))
theorem RdV.fr {F:Nat→Prop}{w w':World}{A:Option Addr}{vs:List Value}(h:RdV w A vs)(hf:Fr F w w')(hF:∀k,F k→False):RdV w' A vs:=fun h0=>by
 obtain ⟨ad,e,hc⟩:=h h0
 refine ⟨ad,e,fun j u hu=> ?_⟩
 have h1:=hc j u hu
 have hb:(ad.add j).block<w.heap.size:=by
  unfold World.cell? at h1
  cases hq:w.heap[(ad.add j).block]? with
  |none=>simp [hq] at h1
  |some o=>exact (Array.getElem?_eq_some_iff.1 hq).1
 rw [←h1]
 unfold World.cell?
 rw [hf.block _ hb (fun hk=>hF _ hk)]
theorem RoV.of_rd {w:World}{A:Option Addr}{vs:List Value}(h:RdV w A vs)(L:List Ast):RoV none' w L A vs:=⟨fun w' L' S=>RdV.fr h S.fr (fun _ h=>h)⟩
structure RoL (F:Nat→Prop)(w0:World)(L:List Ast)(A:Option Addr)(R:List RecV):Prop where
 vs:RoV F w0 L A (R.map (·.1))
 el:∀x∈R,∃B c,x.1=.slice B x.2.length c∧RoT F w0 L B x.2∧x.2.length≤140737488355328
theorem RoL.more {F:Nat→Prop}{w0:World}{L:List Ast}{A:Option Addr}{R:List RecV}(h:RoL F w0 L A R)(X:Ast):RoL F w0 (X::L) A R:=⟨h.vs.more,fun x hx=>by obtain ⟨B,c,h1,h2,h3⟩:=h.el x hx;exact ⟨B,c,h1,h2.more,h3⟩⟩
end
end Go.Proofs
end
section
open Go Go.RowKit Go.Proofs.YtgeioealgidkiaaW.PrintWords
namespace Go.Vel
set_option linter.unusedVariables false
theorem growBy_le (need:Nat):∀(k c:Nat),c≤need+(need+768)/4→Builtin.growBy need k c≤need+(need+768)/4
 |0,c,h=>h
 |k+1,c,h=>by
  unfold Builtin.growBy
  split
  ·exact h
  ·exact growBy_le need k _ om_
theorem nsc_le (need c:Nat)(h:c<need):Builtin.nextslicecap need c≤need+need/4+512:=by
 unfold Builtin.nextslicecap
 split
 ·omega
 ·split
  ·omega
  ·exact Nat.le_trans (growBy_le need 4 c om_) om_
section
variable {P:Program}{ops:Array Oper}{rest:List Oper}{o:Oper}{a:Act}{w w0:World}{F:Nat→Prop}{L:List Ast}{ρ:Operand→Value}{K:Value→World→Prop}{e:TypeId}{sz n:Nat}{v:Value}{vals:List Value}
theorem gv_append2 {s x:Operand}{t:TypeId}{z:Value}{by_ m c' g c:Nat}{ad:Addr}{news junk:List Value}(S1:St F w0 w (row g (vals++junk).toArray e::L))(r2:n≤c)(r3:vals.length=n*sz)(r4:(vals++junk).length=c*sz)(ho:o.op=.call {callee:=.builtin .append,args:=#[s,x],argTypes:=#[t,t]})(ht:P.underlying t=some (.slice e))(hE:Elt P e z sz by_)(hzs:z.cells.size=sz)
  (hs:ρ s=.slice (some ⟨g,0,none⟩) n c) (hx:ρ x=.slice (some ad) m c') (hm:0<m) (hn:news.length=m*sz) (hcell:∀j u,news[j]?=some u→w.cell? (ad.add j)=some u) (h1:∀u∈news,u.oneCell'=true) (hbig:(n+m+(n+m)/4+512)*by_≤281474976710656) (h63:n+m≤9223372036854775807)
  (hin:n+m≤c→∀w',St F w0 w' (row g (vals++news++(vals++junk).drop (n*sz+m*sz)).toArray e::L)→K (.slice (some ⟨g,0,none⟩) (n+m) c) w')
  (hout:c<n+m→∀v' w',St F w0 w' (vec e sz v' (n+m) (vals++news)::row g (vals++junk).toArray e::L)→K v' w'):gives P K ((execOp ρ o).run P w):=by
 obtain ⟨i,hi,hz0,hz1,hz2⟩:=hE.get
 have hop:∀r w',(Builtin.append_ #[t,t] o.type #[.slice (some ⟨g,0,none⟩) n c,.slice (some ad) m c']).run P w=.ok r w'→(execOp ρ o).run P w=.ok (.value r) w':=fun r w' hr=>by
  simp [execOp,ho,resolve,invoke,builtin,hs,hx,hr]
 have hB:=S1.blk 0 rfl
 by_cases hroom:n+m≤c
 ·have hle:n*sz+m*sz≤c*sz:=by rw [←Nat.add_mul];exact Nat.mul_le_mul_right _ hroom
  have hrun:=run_append_room_cells (P:=P) w t o.type e i ht hi g 0 n c ad m c' news (by rw [hz1];exact hn) hcell h1 hroom
   (fun j hj=>by
    rw [hz1,Nat.zero_add,hB.cell,Array.getElem?_eq_getElem (by simp only [List.size_toArray];rw [r4];omega)];rfl)
   (fun j hj=>hB.frozen _)
  rw [hz1,Nat.zero_add] at hrun
  rw [hop _ _ hrun]
  obtain ⟨cur',h3,h4,h5⟩:=setCells_row news (n*sz) w _ hB.out (by simp only [List.size_toArray];rw [r4];omega)
  have hcur:cur'=(vals++news++(vals++junk).drop (n*sz+m*sz)).toArray:=by
   apply Array.ext'
   rw [h5,←r3,hn]
   simp
  rw [hcur] at h3
  obtain ⟨q1,q2,q3,q4⟩:=setCells_same g news (n*sz) w
  have S2:St F w0 (w.setCells g (n*sz) news) (row g (vals++news++(vals++junk).drop (n*sz+m*sz)).toArray e::L):=S1.upd 0 rfl ⟨q1,q2,q3,q4,fun k hk=>setCells_far _ _ k hk⟩ h3
  exact hin hroom _ S2
 ·have holds:∀j u,vals[j]?=some u→w.cell? ((⟨g,0,none⟩:Addr).add j)=some u:=fun j u hu=>by
   rw [Addr.add_lit,Nat.zero_add,hB.cell,List.getElem?_toArray,List.getElem?_append_left (List.getElem?_eq_some_iff.1 hu).1];exact hu
  have hns:=nsc_le (n+m) c om_
  have hrun:=run_append_grow (P:=P) w t o.type e i z ht hi hz0 ⟨g,0,none⟩ n c vals (by rw [hz1];exact r3) holds ad m c' news (by rw [hz1];exact hn) hcell om_ om_ (Nat.le_trans (Nat.mul_le_mul_right _ hns) (by rw [hz2];exact hbig))
  rw [hop _ _ hrun]
  have hge:=grownCap_ge w (n+m) c e
  have S3:=S1.new (w':=w.drew.alloc (.cells (vals.toArray++news.toArray++Builtin.zeroCells z.cells (grownCap w (n+m) c e-(n+m))) e)) ((Below.refl _ _).drew.alloc (Nat.le_refl _) _) (Nat.le_refl _) (heap_alloc_new w.drew _)
  have e1:vals.toArray++news.toArray++Builtin.zeroCells z.cells (grownCap w (n+m) c e-(n+m))=(vals++news++(Builtin.zeroCells z.cells (grownCap w (n+m) c e-(n+m))).toList).toArray:=by apply Array.ext';simp
  rw [e1] at S3 ⊢
  refine hout om_ _ _ (St.vec_mk (junk:=(Builtin.zeroCells z.cells (grownCap w (n+m) c e-(n+m))).toList) S3 hge (by rw [List.length_append,r3,hn,Nat.add_mul]) ?_)
  rw [List.length_append,List.length_append,length_zeroCells,hzs,r3,hn,←Nat.add_mul,←Nat.add_mul]
  congr 1;omega
theorem gv_appendW {s x:Operand}{t:TypeId}{z:Value}{by_ m c':Nat}{ad:Addr}{news:List Value}(S:St F w0 w (vec e sz v n vals::L))(ho:o.op=.call {callee:=.builtin .append,args:=#[s,x],argTypes:=#[t,t]})(ht:P.underlying t=some (.slice e))(hE:Elt P e z sz by_)(hzs:z.cells.size=sz)
  (hs:ρ s=v) (hx:ρ x=.slice (some ad) m c') (hm:0<m) (hn:news.length=m*sz) (hcell:∀j u,news[j]?=some u→w.cell? (ad.add j)=some u) (h1:∀u∈news,u.oneCell'=true) (hm9:m*by_≤140737488355328) (hbig:(n+m+(n+m)/4+512)*by_≤281474976710656) (h63:n+m≤9223372036854775807)
  (h:∀v' w',St F w0 w' (vec e sz v' (n+m) (vals++news)::L)→K v' w'):gives P K ((execOp ρ o).run P w):=by
 rcases S.vec_cases with ⟨r1,r2,r3,S1⟩|⟨g,c,junk,r1,r2,r3,r4,S1⟩
 ·subst r1 r2 r3
  exact gv_append S ho ht hE hzs hs hx hm hn hcell h1 (by rw [Nat.zero_add];exact hm9) h63 h
 ·subst r1
  refine gv_append2 S1 r2 r3 r4 ho ht hE hzs hs hx hm hn hcell h1 hbig h63 (fun hroom w' S2=>h _ _ (S2.vec_mk hroom (by rw [List.length_append,r3,hn,Nat.add_mul]) ?_)) (fun _ v' w' S2=>h _ _ ?_)
  ·have hle:n*sz+m*sz≤c*sz:=by rw [←Nat.add_mul];exact Nat.mul_le_mul_right _ hroom
   rw [List.length_append,List.length_append,List.length_drop,r4,r3,hn];omega
  ·exact S2.swap.tail
end
end Go.Vel
namespace Go.Proofs
open Go.Vel
def manyX (xs:List RecV):Ast:=fun h=>∀x∈xs,∃A c,x.1=.slice A x.2.length c∧∀w:World,(∀k o,h k=some o→w.heap[k]?=some o)→RdB w A x.2
section
variable {F:Nat→Prop}{w0 w:World}{L:List Ast}
theorem St.many0 (S:St F w0 w L):St F w0 w (manyX []::L):=by
 have h:=St.vec_nil (e:=0) (sz:=0) S
 exact h.map1 fun p hp x hx=>(by cases hx)
theorem St.many1 {v:Value}{l:List UInt8}(S:St F w0 w (bytesX v l::L)):St F w0 w (manyX [(v,l)]::L):=S.map1 fun p hp x hx=>by
 rw [List.mem_singleton.1 hx]
 obtain ⟨A,c,e1,_,h⟩:=hp
 exact ⟨A,c,e1,h⟩
theorem St.many_sub {xs ys:List RecV}(h:∀y∈ys,y∈xs)(S:St F w0 w (manyX xs::L)):St F w0 w (manyX ys::L):=S.map1 fun p hp x hx=>hp x (h x hx)
theorem stars2 {A B:Ast}{h:PH}(hh:stars [A,B] h):∃h1 h2:PH,A h1∧B h2∧(∀k o,h1 k=some o→h k=some o)∧∀k o,h2 k=some o→h k=some o:=by
 obtain ⟨hs,k1,_,k3⟩:=hh
 exact ⟨hs 0,hs 1,k1 0 _ rfl,k1 1 _ rfl,fun k o q=>(k3 k o).2 ⟨0,by simp,q⟩,fun k o q=>(k3 k o).2 ⟨1,by simp,q⟩⟩
theorem St.many_join {xs ys:List RecV}(S:St F w0 w (manyX xs::manyX ys::L)):St F w0 w (manyX (xs++ys)::L):=(St.star (LA:=[manyX xs,manyX ys]) S).map1 fun h hh x hx=>by
 obtain ⟨h1,h2,q1,q2,s1,s2⟩:=stars2 hh
 rcases List.mem_append.1 hx with hx|hx
 ·obtain ⟨A,c,e1,h⟩:=q1 x hx
  exact ⟨A,c,e1,fun w hw=>h w fun k o q=>hw k o (s1 k o q)⟩
 ·obtain ⟨A,c,e1,h⟩:=q2 x hx
  exact ⟨A,c,e1,fun w hw=>h w fun k o q=>hw k o (s2 k o q)⟩
theorem RoT.many {xs:List RecV}{A:Option Addr}{n c:Nat}{l:List UInt8}(i:Nat)(hi:L[i]?=some (manyX xs))(hx:((.slice A n c:Value),l)∈xs):RoT F w0 L A l:=⟨fun w' L' S=>by
 have h1:(L'++L)[L'.length+i]?=some (manyX xs):=by rw [List.getElem?_append_right om_];simpa using hi
 obtain ⟨_,hs,a1,a2,a3⟩:=S
 obtain ⟨A',c',e,hR⟩:=a1 _ _ h1 _ hx
 simp at e
 rw [e.1]
 have hlt:L'.length+i<(L'++L).length:=(List.getElem?_eq_some_iff.1 h1).1
 exact hR w' fun k o q=>(a3 _ hlt k o q).1⟩
theorem St.many_val {xs:List RecV}{v:Value}{l:List UInt8}(S:St F w0 w L)(i:Nat)(hi:L[i]?=some (manyX xs))(hx:(v,l)∈xs):∃A c,v=.slice A l.length c:=by
 obtain ⟨q,h⟩:=(S.mem i hi).own.holds
 obtain ⟨A,c,e,_⟩:=h _ hx
 exact ⟨A,c,e⟩
theorem St.many_row {g:Nat}{cells:List Value}{tb:TypeId}{zs ys:List RecV}(S:St F w0 w (row g cells.toArray tb::manyX zs::L))(h:∀y∈ys,y∈zs∨∃c,y.1=.slice (some ⟨g,0,none⟩) y.2.length c∧∀(j:Nat) u,(y.2.map bv)[j]?=some u→cells[j]?=some u):St F w0 w (manyX ys::L):=(St.star (LA:=[row g cells.toArray tb,manyX zs]) S).map1 fun p hp x hx=>by
 obtain ⟨h1,h2,q1,q2,s1,s2⟩:=stars2 hp
 rcases h x hx with hz|⟨c,e,hc⟩
 ·obtain ⟨A,c,e1,h⟩:=q2 x hz
  exact ⟨A,c,e1,fun w hw=>h w fun k o q=>hw k o (s2 k o q)⟩
 ·refine ⟨_,c,e,fun w hw h0=>⟨_,rfl,fun j u hu=> ?_⟩⟩
  have hb:w.heap[g]?=some (.cells cells.toArray tb (0,0)):=hw g _ (s1 g _ ((q1 g).trans (if_pos rfl)))
  rw [Addr.add_lit,Nat.zero_add,cell_of_row w g j _ tb (0,0) hb,List.getElem?_toArray]
  exact hc j u hu
end
end Go.Proofs
end
section
open Go Go.RowKit Go.Proofs.YtgeioealgidkiaaW.PrintWords
namespace Go.Proofs
open Go.Vel
set_option linter.unusedVariables false
section
theorem vecX' {F:Nat→Prop}{w0 w:World}{L:List Ast}{A:Option Addr}{n c:Nat}{l:List UInt8}{t:TypeId}(hn:n=l.length)(S:St F w0 w (vec t 1 (.slice A n c) n (l.map bv)::L)):St F w0 w (bytesX (.slice A n c) l::L):=S.map1 fun h hh=>by
 subst hn
 rcases hh with ⟨e,e2,_,_⟩|⟨g,c',junk,e,h1,h2,h3,h4⟩
 ·simp at e
  obtain ⟨rfl,rfl,rfl⟩:=e
  refine ⟨none,0,by rw [e2],by omega,fun w hw h0=>by omega⟩
 ·simp at e
  obtain ⟨rfl,rfl⟩:=e
  refine ⟨_,_,rfl,h1,fun w hw h0=>⟨_,rfl,fun j v hv=> ?_⟩⟩
  have hb:w.heap[g]?=some (.cells (l.map bv++junk).toArray t (0,0)):=hw g _ ((h4 g).trans (if_pos rfl))
  rw [Addr.add_lit,Nat.zero_add,cell_of_row w g j _ t (0,0) hb]
  have hj:=(List.getElem?_eq_some_iff.1 hv).1
  rw [List.getElem?_toArray,List.getElem?_append_left hj];exact hv
def mks (m:UInt8)(n:Nat):List UInt8:=List.replicate n m
theorem mks_len (m:UInt8)(n:Nat):(mks m n).length=n:=List.length_replicate
theorem mks_map (m:UInt8)(n:Nat):(mks m n).map bv=List.replicate n (bv m):=List.map_replicate
structure MkP where
 nil:Bool
 g:Nat
 c:Nat
 j:Nat
 junk:List Value
 zs:List RecV
def MkP.parts (m:UInt8)(n:Nat)(p:MkP):List Ast:=if p.nil=true then [manyX p.zs] else [row p.g (List.replicate (n+p.j) (bv m)++p.junk).toArray 5,manyX p.zs]
structure MkP.Ok (m:UInt8)(v:Value)(n:Nat)(xs:List RecV)(p:MkP):Prop where
 nil:p.nil=true→v=.slice none 0 0∧n=0∧∀x∈xs,x∈p.zs
 val:p.nil=false→v=.slice (some ⟨p.g,0,none⟩) n p.c∧n+p.j+p.junk.length=p.c∧∀x∈xs,x∈p.zs∨∃k,k≤p.j∧x=((.slice (some ⟨p.g,0,none⟩) (n+k) p.c:Value),mks m (n+k))
def MkB (m:UInt8)(v:Value)(n:Nat)(xs:List RecV):Ast:=fun h=>∃p:MkP,p.Ok m v n xs∧stars (p.parts m n) h
section
variable {F:Nat→Prop}{w0 w:World}{L:List Ast}{m:UInt8}{v:Value}{n:Nat}{xs:List RecV}
theorem St.mko (S:St F w0 w (MkB m v n xs::L)):∃p:MkP,p.Ok m v n xs∧St F w0 w (p.parts m n++L):=by
 obtain ⟨p,S⟩:=St.ex S
 obtain ⟨h1,S⟩:=St.fact S
 exact ⟨p,h1,S.flat⟩
theorem St.mkc {p:MkP}(h1:p.Ok m v n xs)(S:St F w0 w (p.parts m n++L)):St F w0 w (MkB m v n xs::L):=(St.star S).map1 fun h hh=>⟨p,h1,hh⟩
theorem St.mk_start (S:St F w0 w (vec 5 1 v n ((mks m n).map bv)::L)):St F w0 w (MkB m v n []::L):=by
 rcases S.vec_cases with ⟨r1,r2,r3,S1⟩|⟨g,c,junk,r1,r2,r3,r4,S1⟩
 ·exact St.mkc (p:=⟨true,0,0,0,[],[]⟩) ⟨fun _=>⟨r1,r2,fun x hx=>by cases hx⟩,fun h=>by cases h⟩ (St.many0 S1)
 ·refine St.mkc (p:=⟨false,g,c,0,junk,[]⟩) ⟨fun h=>(by cases h),fun _=>⟨r1, ?_,fun x hx=>by cases hx⟩⟩ ?_
  ·show n+0+junk.length=c
   rw [mks_map,List.length_append,List.length_replicate] at r4;omega
  ·have S2:=(St.many0 S1).swap
   rw [mks_map] at S2
   exact S2
theorem mk_join (m:UInt8)(n j k:Nat)(junk:List Value):List.replicate n (bv m)++List.replicate k (bv m)++(List.replicate (n+j) (bv m)++junk).drop (n+k)=List.replicate (n+max j k) (bv m)++junk.drop (k-j):=by
 by_cases h:k≤j
 ·rw [List.drop_append_of_le_length (by rw [List.length_replicate];omega),List.drop_replicate,Nat.max_eq_left h,show k-j=0 from by omega,List.drop_zero,←List.append_assoc,List.replicate_append_replicate,List.replicate_append_replicate]
  congr 2;omega
 ·rw [List.drop_append,List.drop_of_length_le (by rw [List.length_replicate];omega),List.length_replicate,List.nil_append,List.replicate_append_replicate,Nat.max_eq_right om_]
  congr 2;omega
theorem gv_append_mk {P:Program}{o:Oper}{ρ:Operand→Value}{K:Value→World→Prop}{s x:Operand}{t:TypeId}{k c':Nat}{ad:Addr}(S:St F w0 w (MkB m v n xs::L))(ho:o.op=.call {callee:=.builtin .append,args:=#[s,x],argTypes:=#[t,t]})(ht:P.underlying t=some (.slice 5))(hE:Elt P 5 (.int .u8 0) 1 1)
  (hs:ρ s=v) (hx:ρ x=.slice (some ad) k c') (hk:0<k) (hcell:∀j u,((mks m k).map bv)[j]?=some u→w.cell? (ad.add j)=some u) (hfit:n+k≤140737488355328)
  (h:∀A c w',St F w0 w' (MkB m v n (xs++[((.slice A (n+k) c:Value),mks m (n+k))])::L)→K (.slice A (n+k) c) w'):gives P K ((execOp ρ o).run P w):=by
 obtain ⟨p,hp,S9⟩:=St.mko S
 have h1:∀u∈(mks m k).map bv,u.oneCell'=true:=bv_one _
 have hln:((mks m k).map bv).length=k*1:=by rw [List.length_map,mks_len,Nat.mul_one]
 by_cases hn:p.nil=true
 ·obtain ⟨rfl,rfl,hz⟩:=hp.nil hn
  have S1:St F w0 w (manyX p.zs::L):=by unfold MkP.parts at S9;rw [if_pos hn] at S9;exact S9
  refine gv_append (e:=5) (sz:=1) (n:=0) (z:=.int .u8 0) (by_:=1) (vals:=[]) (St.vec_nil S1) ho ht hE rfl hs hx hk hln hcell h1 om_ om_ fun v' w' S2=> ?_
  obtain ⟨A,c,rfl⟩:=St.vecV S2 0 rfl
  have S3:=St.many_join (St.many1 (vecX' (l:=mks m (0+k)) (mks_len _ _).symm (by rw [show (mks m (0+k)).map bv=[]++(mks m k).map bv from by rw [Nat.zero_add];rfl];exact S2)))
  exact h _ _ _ (St.mkc (p:=⟨true,p.g,p.c,p.j,p.junk,[((.slice A (0+k) c:Value),mks m (0+k))]++p.zs⟩) ⟨fun _=>⟨rfl,rfl,fun y hy=>(List.mem_append.1 hy).elim (fun q=>List.mem_append_right _ (hz y q)) (fun q=>List.mem_append_left _ q)⟩,fun q=>absurd (hn.symm.trans (show p.nil=false from (by cases q))) dc_⟩ S3)
 ·have hn:p.nil=false:=by simpa using hn
  obtain ⟨hv,hc,hz⟩:=hp.val hn
  have S1:St F w0 w (row p.g (List.replicate (n+p.j) (bv m)++p.junk).toArray 5::manyX p.zs::L):=by unfold MkP.parts at S9;rw [if_neg (by rw [hn];decide)] at S9;exact S9
  have e1:List.replicate (n+p.j) (bv m)++p.junk=List.replicate n (bv m)++(List.replicate p.j (bv m)++p.junk):=by rw [←List.append_assoc,List.replicate_append_replicate]
  have S2:=S1
  rw [e1] at S2
  refine gv_append2 (e:=5) (sz:=1) (n:=n) (z:=.int .u8 0) (by_:=1) S2 om_ (by rw [List.length_replicate,Nat.mul_one]) (by rw [List.length_append,List.length_append,List.length_replicate,List.length_replicate];omega) ho ht hE rfl (hs.trans hv) hx hk hln hcell h1 om_ om_ (fun hr w' S3=> ?_) (fun hr v' w' S3=> ?_)
  ·rw [←e1,mks_map,Nat.mul_one,Nat.mul_one,mk_join] at S3
   refine h _ _ _ (St.mkc (p:=⟨false,p.g,p.c,max p.j k,p.junk.drop (k-p.j),p.zs⟩) ⟨fun q=>(by cases q),fun _=>⟨hv, ?_,fun y hy=> ?_⟩⟩ S3)
   ·show n+max p.j k+(p.junk.drop (k-p.j)).length=p.c
    rw [List.length_drop];omega
   ·rcases List.mem_append.1 hy with q|q
    ·rcases hz y q with q|⟨k2,q1,q2⟩
     ·exact .inl q
     ·exact .inr ⟨k2,by show k2≤max p.j k;omega,q2⟩
    ·exact .inr ⟨k,by show k≤max p.j k;omega,List.mem_singleton.1 q⟩
  ·obtain ⟨A,c,rfl⟩:=St.vecV S3 0 rfl
   have S4:St F w0 w' (bytesX (.slice A (n+k) c) (mks m (n+k))::row p.g (List.replicate n (bv m)++(List.replicate p.j (bv m)++p.junk)).toArray 5::manyX p.zs::L):=vecX' (mks_len _ _).symm (by rw [show (mks m (n+k)).map bv=List.replicate n (bv m)++(mks m k).map bv from by rw [mks_map,mks_map,List.replicate_append_replicate]];exact S3)
   rw [←e1] at S4
   have S5:=(St.many_join (St.permT [_,_,_] [0,2,1] dc_ rfl (show St F w0 w' ([_,_,_]++L) from St.many1 S4))).swap
   exact h _ _ _ (St.mkc (p:=⟨false,p.g,p.c,p.j,p.junk,[((.slice A (n+k) c:Value),mks m (n+k))]++p.zs⟩) ⟨fun q=>(by cases q),fun _=>⟨hv,hc,fun y hy=>(List.mem_append.1 hy).elim (fun q=>(hz y q).imp (fun q=>List.mem_append_right _ q) id) (fun q=>.inl (List.mem_append_left _ q))⟩⟩ S5)
theorem St.mk_freeze (S:St F w0 w (MkB m v n xs::L)):St F w0 w (manyX ((v,mks m n)::xs)::L):=by
 obtain ⟨p,hp,S9⟩:=St.mko S
 by_cases hn:p.nil=true
 ·obtain ⟨rfl,rfl,hz⟩:=hp.nil hn
  have S1:St F w0 w (manyX p.zs::L):=by unfold MkP.parts at S9;rw [if_pos hn] at S9;exact S9
  have S2:=St.many1 (vecX' (A:=none) (n:=0) (c:=0) (l:=mks m 0) (t:=5) rfl (St.vec_nil S1))
  exact St.many_sub (fun y hy=>(List.mem_cons.1 hy).elim (fun q=>List.mem_append_left _ (List.mem_singleton.2 q)) (fun q=>List.mem_append_right _ (hz y q))) (St.many_join S2)
 ·have hn:p.nil=false:=by simpa using hn
  obtain ⟨hv,hc,hz⟩:=hp.val hn
  have S1:St F w0 w (row p.g (List.replicate (n+p.j) (bv m)++p.junk).toArray 5::manyX p.zs::L):=by unfold MkP.parts at S9;rw [if_neg (by rw [hn];decide)] at S9;exact S9
  have key:∀k,k≤p.j→∀(i:Nat) u,((mks m (n+k)).map bv)[i]?=some u→(List.replicate (n+p.j) (bv m)++p.junk)[i]?=some u:=fun k hk i u hu=>by
   rw [mks_map] at hu
   have hi:=(List.getElem?_eq_some_iff.1 hu).1
   rw [List.length_replicate] at hi
   rw [List.getElem?_append_left (by rw [List.length_replicate];omega),List.getElem?_replicate,if_pos om_]
   rw [List.getElem?_replicate,if_pos hi] at hu;exact hu
  refine St.many_row S1 fun y hy=> ?_
  rcases List.mem_cons.1 hy with rfl|hy
  ·exact .inr ⟨p.c,by rw [mks_len];exact hv,key 0 (Nat.zero_le _)⟩
  ·rcases hz y hy with q|⟨k,hk,rfl⟩
   ·exact .inl q
   ·exact .inr ⟨p.c,by rw [mks_len],key k hk⟩
end
section
variable {P:Program}{o:Oper}{w w0:World}{F:Nat→Prop}{L:List Ast}{ρ:Operand→Value}{K:Value→World→Prop}{e:TypeId}
theorem gv_slit0 {T:TypeId}(S:St F w0 w L)(ho:o.op=.buildSlice T 0 #[])(ht:P.underlying T=some (.slice e))(hE:∃i,P.info? e=some i)(h:∀g w',w.heap.size≤g→St F w0 w' (row g #[] e::L)→K (.slice (some ⟨g,0,none⟩) 0 0) w'):gives P K ((execOp ρ o).run P w):=by
 obtain ⟨i,hi⟩:=hE
 have hrun:(Instr.buildSlice T 0 #[]).run P w=.ok (.slice (some ⟨w.heap.size,0,none⟩) 0 0) (w.alloc (.cells #[] e)):=by
  simp [Instr.buildSlice,run_underlying ht,sizeOf,typeInfo,hi,Instr.fill,newRow]
  congr 2;apply Array.ext';simp
 have hr:(execOp ρ o).run P w=.ok (.value (.slice (some ⟨w.heap.size,0,none⟩) 0 0)) (w.alloc (.cells #[] e)):=by
  simp only [execOp,ho]
  simp only [Sem.run_bind,List.map_toArray,List.map_nil,hrun,Result.andThen_ok,Sem.run_pure]
 rw [hr]
 exact h _ _ (Nat.le_refl _) (S.new ((Below.refl _ _).alloc (Nat.le_refl _) _) (Nat.le_refl _) (heap_alloc_new w _))
theorem gv_copyOf {s x:Operand}{t:TypeId}{g k c':Nat}{A:Option Addr}{l:List UInt8}(S:St F w0 w (row g #[] 5::L))(ho:o.op=.call {callee:=.builtin .append,args:=#[s,x],argTypes:=#[t,t]})(ht:P.underlying t=some (.slice 5))(hE:Elt P 5 (.int .u8 0) 1 1)(hinfo:(P.info? 5).map (·.size)=some 1)
  (hs:ρ s=.slice (some ⟨g,0,none⟩) 0 0) (hx:ρ x=.slice A k c') (hk:k=l.length) (hr:RdB w A l) (hm:l.length≤140737488355328) (h:∀A c w',St F w0 w' (vec 5 1 (.slice A k c) k (l.map bv)::L)→K (.slice A k c) w'):gives P K ((execOp ρ o).run P w):=by
 subst hk
 by_cases h0:l.length=0
 ·have hl:l=[]:=List.eq_nil_of_length_eq_zero h0
  subst hl
  exact gv_appendB (X:=[]) (l:=[]) S 0 rfl ho ht hinfo hs hx rfl hr (Nat.le_refl _) rfl (n':=0) rfl (L':=row g (bvs []) 5::L) rfl fun w' S2=>h _ _ _ (St.vec_mk (junk:=[]) S2 (Nat.le_refl _) rfl rfl)
 ·obtain ⟨ad,rfl,hc⟩:=hr om_
  refine gv_append (e:=5) (sz:=1) (n:=0) (z:=.int .u8 0) (by_:=1) (vals:=[]) (m:=l.length) (news:=l.map bv) (St.vec_mk (junk:=[]) S (Nat.le_refl _) rfl rfl) ho ht hE rfl hs hx om_ (by rw [List.length_map,Nat.mul_one]) hc (bv_one _) om_ om_ fun v' w' S2=> ?_
  obtain ⟨A,c,rfl⟩:=St.vecV S2 0 rfl
  rw [Nat.zero_add] at S2 ⊢
  exact h _ _ _ S2
end
end
end Go.Proofs
end
section
open Go Go.RowKit Go.Proofs.YtgeioealgidkiaaW.PrintWords
namespace Go.Proofs
open Go.Vel
set_option linter.unusedVariables false
set_option maxRecDepth 100000
set_option maxHeartbeats 4000000
attribute [local irreducible] gives wpList Code.wp
section
variable {F:Nat→Prop} {w0 w:World} {L:List Ast}
theorem xor_u8 (x y:UInt8):bits .xor .u8 (x.toNat:Int) (y.toNat:Int)=((x^^^y).toNat:Int):=by
 have hx:=x.toNat_lt
 have hy:=y.toNat_lt
 have hz:=(x^^^y).toNat_lt
 show IntKind.u8.wrap ((BitVec.ofInt 8 (x.toNat:Int)^^^BitVec.ofInt 8 (y.toNat:Int)).toNat:Int)=_
 rw [BitVec.toNat_xor]
 have f1:(BitVec.ofInt 8 (x.toNat:Int)).toNat=x.toNat:=by simp
 have f2:(BitVec.ofInt 8 (y.toNat:Int)).toNat=y.toNat:=by simp
 rw [f1,f2,←UInt8.toNat_xor]
 rw [IntKind.wrap_u8];omega
theorem row_cell {g j:Nat}{X:List UInt8}{t:TypeId}(S:St F w0 w L)(i:Nat)(hi:L[i]?=some (row g (bvs X) t))(hj:j<X.length):w.cell? ⟨g,j,none⟩=some (.int .u8 ((X.getD j 0).toNat:Int)):=by
 have h:=((RoT.item (L:=L) (F:=F) (w0:=w0) i hi 0 X.length X (by rw [List.drop_zero,List.take_length])).now S).cell hj
 rwa [Addr.add_lit,Nat.zero_add] at h
theorem copy_hand (b:List UInt8):splice (List.replicate (b.length+3) (0:UInt8)) 0 (b.take (b.length+3))=b++(List.replicate 0 171++List.replicate (3-0) 0):=by
 rw [List.take_of_length_le om_]
 simp [splice,List.drop_replicate]
theorem hand_set (b:List UInt8){j:Nat}(h:j<3):(b++(List.replicate j 171++List.replicate (3-j) 0)).set (b.length+j) 171=b++(List.replicate (j+1) 171++List.replicate (3-(j+1)) (0:UInt8)):=by
 rw [List.set_append_right _ _ om_,show b.length+j-b.length=j from by omega]
 have:j=0∨j=1∨j=2:=by omega
 rcases this with rfl|rfl|rfl<;>rfl
theorem hand_len (b:List UInt8){j:Nat}(h:j≤3):(b++(List.replicate j 171++List.replicate (3-j) (0:UInt8))).length=b.length+3:=by simp;omega
theorem hand_at (b:List UInt8){j:Nat}(h:j<3):(((b++[171,171,171]).getD (b.length+j) 0).toNat:Int)=171:=by
 rw [List.getD_eq_getElem?_getD,List.getElem?_append_right om_,show b.length+j-b.length=j from by omega]
 have:j=0∨j=1∨j=2:=by omega
 rcases this with rfl|rfl|rfl<;>rfl
def turnB (b:List UInt8):List UInt8:=b.map (·^^^91)
theorem turnB_len (b:List UInt8):(turnB b).length=b.length:=List.length_map ..
def turnTo (b:List UInt8)(i:Nat):List UInt8:=(b.take i).map (·^^^91)++b.drop i
theorem turnTo_len (b:List UInt8){i:Nat}(h:i≤b.length):(turnTo b i).length=b.length:=by simp [turnTo];omega
theorem turnTo_all (b:List UInt8):turnTo b b.length=turnB b:=by simp [turnTo,turnB]
theorem turnTo_get (b:List UInt8){i:Nat}(h:i<b.length):(turnTo b i).getD i 0=b.getD i 0:=by
 unfold turnTo
 rw [List.getD_eq_getElem?_getD,List.getElem?_append_right (by rw [List.length_map,List.length_take];omega),List.length_map,List.length_take,Nat.min_eq_left om_,Nat.sub_self,List.getElem?_drop,Nat.add_zero,List.getD_eq_getElem?_getD]
theorem turnTo_set (b:List UInt8){i:Nat}(h:i<b.length):(turnTo b i).set i (b.getD i 0^^^91)=turnTo b (i+1):=by
 have hl:((b.take i).map (·^^^91)).length=i:=by rw [List.length_map,List.length_take];omega
 unfold turnTo
 rw [List.set_append_right _ _ om_,hl,Nat.sub_self,List.take_add_one,List.map_append,List.append_assoc,List.drop_eq_getElem_cons h]
 congr 1
 rw [List.getD_eq_getElem?_getD,List.getElem?_eq_getElem h];rfl
theorem w_full (S:St F w0 w L){A:Option Addr}{m:UInt8}{n c k:Nat}{nn:Int}(hr:RoT F w0 L A (mks m n))(hk:k=n)(hnn:nn=((n:Nat):Int))(hn:n≤4611686018427387904):Calls Try.prog 82 #[.slice A k c,.int .u8 ((m.toNat:Nat):Int),.int .i64 nn] w fun e w'=>e=.returned (.bool true)∧St F w0 w' L:=by
 subst hk hnn
 have hml:=mks_len m k
 refine eN (fr [.slice A k c,.int .u8 ((m.toNat:Nat):Int),nI_ k] 21) Try.func82 rfl (sR (pv fv (wE (nS (sR (pv (.slice A k c) (pv (iv (k:Nat)) (pv (nI_ k) (dN (k:Nat) ((k:Nat):Int) (fun hd1=>False.elim (hd1 rfl)) fun _=>wE (nCF (wp_skip (nS ?_))))))))))))
 refine sR (pv (iv 0) (wE (then_n (wp_block (wp_loop_g (G:=Nat) (fun (g_:Nat) (a_:Act) (w_:World)=>∃J:Nat→Value,a_=(fr ([.slice A k c,.int .u8 ((m.toNat:Nat):Int),nI_ k,ud,ud,ud,J 6,nI_ g_,.slice A k c,iv (k:Nat),nI_ k,fv]++jR J 12 12) 0)∧St F w0 w_ (L)∧(g_≤k)) (fun g_=>k-g_) 0 (jE_ ⟨S,Nat.zero_le _⟩) ?_)))))
 rintro i a_ w2 ⟨J,rfl,S3,hi1⟩
 skip
 have S3:St F w0 w2 (L):=S3
 refine wp_seq (sR (pv (nI_ i) (pv (.slice A k c) (pv (iv (k:Nat)) (dC ((((i:Nat):Int):Int)<(k:Nat)) (fun hb5=> ?_) fun hb5=> ?_)))))
 ·have hi:i<(mks m k).length:=by omega
  have hgi:((mks m k).getD i 0).toNat=m.toNat:=by unfold mks;rw [List.getD_eq_getElem?_getD,List.getElem?_replicate,if_pos om_];rfl
  obtain ⟨ad,had⟩:=(hr.now S3).at hi
  refine wE (nCT (wp_skip (nS (wp_block (sR (pv (.slice A k c) (pv (nI_ i) (g_ (gv_ixB (e:=5) (sz:=1) (n:=k) (c:=c) (i:=((i:Nat):Int)) (k:=.i64) (ad:=ad) (ad':=(ad.add i)) (j:=i) rfl kr_ kr_ (by rw [←had];kernel_rfl) kr_ rfl om_ (by rw [Nat.mul_one]) (lQ (.int .u8 (((mks m k).getD i 0).toNat:Int)) ((had▸hr.now S3:RdB _ (some ad) (mks m k)).cell hi) (pv (.int .u8 ((m.toNat:Nat):Int)) (dN (((mks m k).getD i 0).toNat:Int) ((m.toNat:Nat):Int) (fun hd6=>False.elim (hd6 (by rw [hgi]))) fun _=>wE (nCF ?_)))))))))))))
  exact wp_skip (inb_n (nR (pv (nI_ i) (gI .i64 (IntKind.i64.wrap (((i:Nat):Int)+1)) ((i+1:Nat):Int) (wr_eq om_ om_ om_) (pv (nI_ (i+1)) (wE (then_n ⟨i+1,(jE_ ⟨S3,(by show i+1≤k;omega)⟩),(by show k-(i+1)<k-i;omega)⟩)))))))
 ·exact wE (nCF (wp_exit (then_x (then_x (inb_x (nSR (pv tv (wE (then_n (wp_ret (bA (.bool true) ⟨rfl,S3⟩)))))))))))
theorem w_hand (S:St F w0 w L){A:Option Addr}{b:List UInt8}{c:Nat}(hb:RoT F w0 L A b)(hm:b.length≤140737488351232):Calls Try.prog 19 #[.slice A b.length c] w fun e w'=>∃g,e=.returned (.slice (some ⟨g,0,none⟩) b.length (b.length+3))∧St F w0 w' (row g (bvs (b++[171,171,171])) 5::L):=by
 refine eN (fr [.slice A b.length c] 26) Try.func19 rfl (sR (pv (.slice none 0 0) (wER (pv (.slice A b.length c) (pv (iv (b.length:Nat)) (gI .i64 (IntKind.i64.wrap ((b.length:Nat)+3)) ((b.length+3:Nat):Int) (wr_eq om_ om_ om_) (g_ (gv_make (e:=5) (u:=((b.length+3:Nat):Int)) (v:=((b.length+3:Nat):Int)) (z:=.int .u8 0) (sz:=1) (by_:=1) (n:=(b.length+3)) (c:=(b.length+3)) (cs:=(bvs (List.replicate (b.length+3) 0))) S rfl kr_ ⟨by kernel_rfl⟩ kr_ kr_ rfl rfl (Nat.le_refl _) om_ om_ (mk_bytes _) (fun g1 w2 hg3 S4=>pv (sl g1 0 (b.length+3) (b.length+3)) (wER (pv (sl g1 0 (b.length+3) (b.length+3)) (pv (.slice A b.length c) (g_ (gv_copy (e:=5) (off:=0) (dLen:=(b.length+3)) (dCap:=(b.length+3)) (sLen:=b.length) (sCap:=c) (A:=A) (B:=(List.replicate (b.length+3) 0)) (l:=b) S4 0 rfl rfl kr_ kr_ kr_ kr_ rfl (hb.more.now S4) (by simp) (L':=(row g1 (bvs (b++(List.replicate 0 171++List.replicate (3-0) 0))) 5::L)) (by rw [copy_hand];rfl) (fun w5 m7 S6=>wE ?_)))))))))))))))
 refine nS (sR (pv (.slice A b.length c) (pv (iv (b.length:Nat)) (pv (iv (b.length:Nat)) (wE (then_n (wp_block (wp_loop_g (G:=Nat) (fun (g_:Nat) (a_:Act) (w_:World)=>∃J:Nat→Value,a_=(fr ([.slice A b.length c,ud,.slice none 0 0,sl g1 0 (b.length+3) (b.length+3),nI_ (b.length+g_),.slice A b.length c,iv (b.length:Nat),nI_ (b.length+3),sl g1 0 (b.length+3) (b.length+3),sl g1 0 (b.length+3) (b.length+3),.slice A b.length c,goInt m7,.slice A b.length c,iv (b.length:Nat)]++jR J 14 9) 4)∧St F w0 w_ (row g1 (bvs (b++(List.replicate g_ 171++List.replicate (3-g_) 0))) 5::L)∧(g_≤3)) (fun g_=>3-g_) 0 (jE_ ⟨S6,Nat.zero_le _⟩) ?_))))))))
 rintro j a_ w8 ⟨J,rfl,S9,hj1⟩
 skip
 have S9:St F w0 w8 (row g1 (bvs (b++(List.replicate j 171++List.replicate (3-j) 0))) 5::L):=S9
 refine wp_seq (sR (pv (nI_ (b.length+j)) (pv (sl g1 0 (b.length+3) (b.length+3)) (pv (iv (b.length+3:Nat)) (dC ((((b.length+j:Nat):Int):Int)<(b.length+3:Nat)) (fun hb11=> ?_) fun hb11=> ?_)))))
 ·refine wE (nCT (wp_skip (nS (wp_block (wp_region_lit (pv (sl g1 0 (b.length+3) (b.length+3)) (pv (nI_ (b.length+j)) (g_ (gv_ixE (e:=5) (sz:=1) (g:=g1) (off:=0) (n:=(b.length+3)) (c:=(b.length+3)) (i:=((b.length+j:Nat):Int)) (k:=.i64) (j:=(b.length+j)) (off':=(b.length+j)) rfl kr_ kr_ kr_ kr_ rfl om_ om_ ?_)))))))))
  have hj:j<3:=by omega
  exact g_ (gv_st (k:=b.length+j) (v:=.int .u8 (((171:UInt8)).toNat:Int)) S9 0 rfl rfl kr_ kr_ kr_ rfl (Nat.ble_eq_true_of_le (by rw [size_bvs,hand_len b om_];omega)) (L':=(row g1 (bvs (b++(List.replicate (j+1) 171++List.replicate (3-(j+1)) 0))) 5::L)) (by rw [bvs_set,hand_set b hj];rfl) (fun w12 S13=>wE (inb_n (nR (pv (nI_ (b.length+j)) (gI .i64 (IntKind.i64.wrap (((b.length+j:Nat):Int)+1)) ((b.length+(j+1):Nat):Int) (wr_eq om_ om_ om_) (pv (nI_ (b.length+(j+1))) (wE (then_n ⟨j+1,(jE_ ⟨S13,(by show j+1≤3;omega)⟩),(by show 3-(j+1)<3-j;omega)⟩)))))))))
 ·have hj3:j=3:=by omega
  subst hj3
  have S14:St F w0 w8 (row g1 (bvs (b++[171,171,171])) 5::L):=S9
  refine wE (nCF (wp_exit (then_x (then_x (inb_x (nSR (pv (sl g1 0 (b.length+3) (b.length+3)) (pv (.slice A b.length c) (pv (iv (b.length:Nat)) (g_ (gv_cutTo (e:=5) (sz:=1) (A:=(some ⟨g1,0,none⟩)) (n:=(b.length+3)) (c:=(b.length+3)) (kh:=.i64) (v:=(b.length:Nat)) (hi:=b.length) rfl kr_ kr_ kr_ kr_ rfl om_ (pv (sl g1 0 b.length (b.length+3)) (wE (then_n ?_))))))))))))))
  exact wp_ret (bA (sl g1 0 b.length (b.length+3)) ⟨_,rfl,S14⟩)
theorem w_back {g:Nat}{A:Option Addr}{b:List UInt8}{c:Nat}(S:St F w0 w (row g (bvs (b++[171,171,171])) 5::L))(hb:RoT F w0 L A b)(hm:b.length≤140737488351232):Calls Try.prog 22 #[.slice (some ⟨g,0,none⟩) b.length (b.length+3),.slice A b.length c] w fun e w'=>e=.returned (.bool true)∧St F w0 w' L:=by
 refine eN (fr [sl g 0 b.length (b.length+3),.slice A b.length c] 41) Try.func22 rfl (sR (pv fv (wER (pv (sl g 0 b.length (b.length+3)) (pv (.slice A b.length c) (sP Try.func24 #[sl g 0 b.length (b.length+3),.slice A b.length c] (same_b (a:=b) (b:=b) (decide_eq_true rfl) S (RoT.item (B:=b++[171,171,171]) 0 rfl 0 b.length b (by rw [List.drop_zero,List.take_append_of_le_length (Nat.le_refl _),List.take_length])) hb.more om_ om_) fun w1 S2=>pv tv (wER (pv (sl g 0 b.length (b.length+3)) (pv (sl g 0 b.length (b.length+3)) (pv (iv (b.length:Nat)) (gI .i64 (IntKind.i64.wrap ((b.length:Nat)+3)) ((b.length+3:Nat):Int) (wr_eq om_ om_ om_) (g_ (gv_cutTo (e:=5) (sz:=1) (A:=(some ⟨g,0,none⟩)) (n:=b.length) (c:=(b.length+3)) (kh:=.i64) (v:=((b.length+3:Nat):Int)) (hi:=(b.length+3)) rfl kr_ kr_ kr_ kr_ rfl om_ ?_)))))))))))))
 refine pv (sl g 0 (b.length+3) (b.length+3)) (wE (nS (sR (pv (.slice A b.length c) (pv (iv (b.length:Nat)) (pv (iv (b.length:Nat)) (wE (then_n (wp_block (wp_loop_g (G:=Nat) (fun (g_:Nat) (a_:Act) (w_:World)=>∃J:Nat→Value,a_=(fr ([sl g 0 b.length (b.length+3),.slice A b.length c,ud,ud,fv,tv,sl g 0 (b.length+3) (b.length+3),nI_ (b.length+g_),ud,sl g 0 b.length (b.length+3),.slice A b.length c,tv,sl g 0 b.length (b.length+3),sl g 0 b.length (b.length+3),iv (b.length:Nat),nI_ (b.length+3),sl g 0 (b.length+3) (b.length+3),.slice A b.length c,iv (b.length:Nat)]++jR J 19 14) 10)∧St F w0 w_ (row g (bvs (b++[171,171,171])) 5::L)∧(g_≤3)) (fun g_=>3-g_) 0 (jE_ ⟨S2,Nat.zero_le _⟩) ?_))))))))))
 rintro j a_ w3 ⟨J,rfl,S4,hj1⟩
 skip
 have S4:St F w0 w3 (row g (bvs (b++[171,171,171])) 5::L):=S4
 refine wp_seq (sR (pv (nI_ (b.length+j)) (pv (sl g 0 (b.length+3) (b.length+3)) (pv (iv (b.length+3:Nat)) (dC ((((b.length+j:Nat):Int):Int)<(b.length+3:Nat)) (fun hb6=> ?_) fun hb6=> ?_)))))
 ·refine wE (nCT (wp_skip (nS (wp_block (wp_region_lit (pv tv (pv tv (pW (sl g 0 (b.length+3) (b.length+3)) (pW (nI_ (b.length+j)) (wl_when kr_ (gv_ixE (e:=5) (sz:=1) (g:=g) (off:=0) (n:=(b.length+3)) (c:=(b.length+3)) (i:=((b.length+j:Nat):Int)) (k:=.i64) (j:=(b.length+j)) (off':=(b.length+j)) rfl kr_ kr_ kr_ kr_ rfl om_ om_ (wl_when kr_ (gv_ldR (v:=.int .u8 (((b++[171,171,171]).getD (b.length+j) 0).toNat:Int)) rfl kr_ kr_ (row_cell S4 0 rfl (by rw [List.length_append];show b.length+j<b.length+3;omega)) (wl_when kr_ (gv_eq (x:=(((b++[171,171,171]).getD (b.length+j) 0).toNat:Int)) (y:=171) kr_ (fun _=>pv tv ?_) (fun hd7=>False.elim (hd7 (hand_at b om_))))))))))))))))))
  exact pv tv (wE (inb_n (nR (pv (nI_ (b.length+j)) (gI .i64 (IntKind.i64.wrap (((b.length+j:Nat):Int)+1)) ((b.length+(j+1):Nat):Int) (wr_eq om_ om_ om_) (pv (nI_ (b.length+(j+1))) (wE (then_n ⟨j+1,(jE_ ⟨S4,(by show j+1≤3;omega)⟩),(by show 3-(j+1)<3-j;omega)⟩))))))))
 ·refine wE (nCF (wp_exit (then_x (then_x (inb_x (nS (sR (pv (iv 0) (wE (then_n (wp_block ?_)))))))))))
  have hXl:(b++[171,171,171]).length=b.length+3:=by simp
  refine wp_loop_g (G:=Nat×List UInt8) (fun (g_:Nat×List UInt8) (a_:Act) (w_:World)=>∃J:Nat→Value,a_=(fr ([sl g 0 b.length (b.length+3),.slice A b.length c,ud,ud,fv,tv,sl g 0 (b.length+3) (b.length+3),nI_ (b.length+j),nI_ g_.1,sl g 0 b.length (b.length+3),.slice A b.length c,tv,sl g 0 b.length (b.length+3),sl g 0 b.length (b.length+3),iv (b.length:Nat),nI_ (b.length+3),sl g 0 (b.length+3) (b.length+3),.slice A b.length c,iv (b.length:Nat),nI_ (b.length+j),sl g 0 (b.length+3) (b.length+3),iv (b.length+3:Nat),fv]++jR J 23 19) 1)∧St F w0 w_ (row g (bvs g_.2) 5::L)∧(g_.1≤b.length+3∧g_.2.length=b.length+3)) (fun g_=>(b.length+3)-g_.1) (0,b++[171,171,171]) (jE_ ⟨S4,⟨Nat.zero_le _,hXl⟩⟩) ?_
  rintro ⟨i,X⟩ a_ w8 ⟨J,rfl,S9,⟨hi1,hXl2⟩⟩
  skip
  have S9:St F w0 w8 (row g (bvs X) 5::L):=S9
  refine wp_seq (sR (pv (nI_ i) (pv (sl g 0 (b.length+3) (b.length+3)) (pv (iv (b.length+3:Nat)) (dC ((((i:Nat):Int):Int)<(b.length+3:Nat)) (fun hb11=> ?_) fun hb11=> ?_)))))
  ·refine wE (nCT (wp_skip (nS (wp_block (wp_region_lit (pv (sl g 0 (b.length+3) (b.length+3)) (pv (nI_ i) (g_ (gv_ixE (e:=5) (sz:=1) (g:=g) (off:=0) (n:=(b.length+3)) (c:=(b.length+3)) (i:=((i:Nat):Int)) (k:=.i64) (j:=i) (off':=i) rfl kr_ kr_ kr_ kr_ rfl om_ om_ ?_)))))))))
   have hXl3:X.length=b.length+3:=hXl2
   have hi:i<b.length+3:=by omega
   exact g_ (gv_st (k:=i) (v:=.int .u8 (((213:UInt8)).toNat:Int)) S9 0 rfl rfl kr_ kr_ kr_ rfl (Nat.ble_eq_true_of_le (by rw [size_bvs,hXl3];omega)) (L':=(row g (bvs (X.set i 213)) 5::L)) (by rw [bvs_set];rfl) (fun w12 S13=>wE (inb_n (nR (pv (nI_ i) (gI .i64 (IntKind.i64.wrap (((i:Nat):Int)+1)) ((i+1:Nat):Int) (wr_eq om_ om_ om_) (pv (nI_ (i+1)) (wE (then_n ⟨(i+1,X.set i 213),(jE_ ⟨S13,⟨by show i+1≤b.length+3;omega,by show (X.set i 213).length=_;rw [List.length_set];omega⟩⟩),(by show (b.length+3)-(i+1)<(b.length+3)-i;omega)⟩)))))))))
  ·refine wE (nCF (wp_exit (then_x (then_x (inb_x (nSR (pv tv (pv tv (wE (then_n (wp_ret (bA (.bool true) ?_))))))))))))
   have S14:=St.pm 1 [] S9
   exact ⟨rfl,S14⟩
theorem w_exact (S:St F w0 w L){A:Option Addr}{a:List UInt8}{ca:Nat}(hx:RoT F w0 L A a)(hm:a.length≤140737488355328):Calls Try.prog 23 #[.slice A a.length ca] w fun e w'=>∃g,e=.returned (.slice (some ⟨g,0,none⟩) a.length a.length)∧St F w0 w' (row g (bvs a) 5::L):=by
 refine eN (fr [.slice A a.length ca] 10) Try.func23 rfl (sR (pv (.slice none 0 0) (wER (pv (.slice A a.length ca) (pv (iv (a.length:Nat)) (g_ (gv_make (e:=5) (u:=(a.length:Nat)) (v:=(a.length:Nat)) (z:=.int .u8 0) (sz:=1) (by_:=1) (n:=a.length) (c:=a.length) (cs:=(bvs (List.replicate a.length 0))) S rfl kr_ ⟨by kernel_rfl⟩ kr_ kr_ rfl rfl (Nat.le_refl _) om_ om_ (mk_bytes _) (fun g1 w2 hg3 S4=>pv (sl g1 0 a.length a.length) (wER (pv (sl g1 0 a.length a.length) (pv (.slice A a.length ca) (g_ (gv_copy (e:=5) (off:=0) (dLen:=a.length) (dCap:=a.length) (sLen:=a.length) (sCap:=ca) (A:=A) (B:=(List.replicate a.length 0)) (l:=a) S4 0 rfl rfl kr_ kr_ kr_ kr_ rfl (hx.more.now S4) (by simp) (L':=(row g1 (bvs a) 5::L)) (by rw [copy_all rfl];rfl) (fun w5 m7 S6=>wER (pv (sl g1 0 a.length a.length) ?_)))))))))))))))
 exact pv (sl g1 0 a.length a.length) (wE (then_n (wp_ret (bA (sl g1 0 a.length a.length) ⟨_,rfl,S6⟩))))
theorem w_turned {g:Nat}{b:List UInt8}{c:Nat}(S:St F w0 w (row g (bvs b) 5::L))(hm:b.length≤140737488355328):Calls Try.prog 25 #[.slice (some ⟨g,0,none⟩) b.length c] w fun e w'=>∃A c',e=.returned (.slice A b.length c')∧St F w0 w' (vec 5 1 (.slice A b.length c') b.length ((turnB b).map bv)::row g (bvs (turnB b)) 5::L):=by
 refine eN (fr [sl g 0 b.length c] 20) Try.func25 rfl (sR (pv (.slice none 0 0) (wE (nS (sR (pv (iv 0) (wE (then_n (wp_block ?_)))))))))
 have S1:St F w0 w (row g (bvs (turnTo b 0)) 5::L):=S
 refine wp_loop_g (G:=Nat) (fun (g_:Nat) (a_:Act) (w_:World)=>∃J:Nat→Value,a_=(fr ([sl g 0 b.length c,ud,.slice none 0 0,nI_ g_]++jR J 4 14) 3)∧St F w0 w_ (row g (bvs (turnTo b g_)) 5::L)∧(g_≤b.length)) (fun g_=>b.length-g_) 0 (jE_ ⟨S1,Nat.zero_le _⟩) ?_
 rintro i a_ w2 ⟨J,rfl,S3,hi1⟩
 skip
 have S3:St F w0 w2 (row g (bvs (turnTo b i)) 5::L):=S3
 refine wp_seq (sR (pv (nI_ i) (pv (sl g 0 b.length c) (pv (iv (b.length:Nat)) (dC ((((i:Nat):Int):Int)<(b.length:Nat)) (fun hb5=> ?_) fun hb5=> ?_)))))
 ·have hi:i<b.length:=by omega
  have htl:=turnTo_len b (i:=i) om_
  have htg:=turnTo_get b hi
  refine wE (nCT (wp_skip (nS (wp_block (wp_region_lit (pv (sl g 0 b.length c) (pv (nI_ i) (pv (sl g 0 b.length c) (pv (nI_ i) (g_ (gv_ixE (e:=5) (sz:=1) (g:=g) (off:=0) (n:=b.length) (c:=c) (i:=((i:Nat):Int)) (k:=.i64) (j:=i) (off':=i) rfl kr_ kr_ kr_ kr_ rfl om_ om_ (lQ (.int .u8 ((b.getD i 0).toNat:Int)) (by rw [←htg];exact row_cell S3 0 rfl om_) (gI .u8 (bits .xor .u8 ((b.getD i 0).toNat:Int) 91) ((b.getD i 0^^^91).toNat:Int) (xor_u8 (b.getD i 0) 91) (g_ (gv_ixE (e:=5) (sz:=1) (g:=g) (off:=0) (n:=b.length) (c:=c) (i:=((i:Nat):Int)) (k:=.i64) (j:=i) (off':=i) rfl kr_ kr_ kr_ kr_ rfl om_ om_ ?_)))))))))))))))
  exact g_ (gv_st (k:=i) (v:=.int .u8 (((b.getD i 0^^^91:UInt8)).toNat:Int)) S3 0 rfl rfl kr_ kr_ kr_ rfl (Nat.ble_eq_true_of_le (by rw [size_bvs,htl];omega)) (L':=(row g (bvs (turnTo b (i+1))) 5::L)) (by rw [bvs_set,turnTo_set b hi];rfl) (fun w6 S7=>wE (inb_n (nR (pv (nI_ i) (gI .i64 (IntKind.i64.wrap (((i:Nat):Int)+1)) ((i+1:Nat):Int) (wr_eq om_ om_ om_) (pv (nI_ (i+1)) (wE (then_n ⟨i+1,(jE_ ⟨S7,(by show i+1≤b.length;omega)⟩),(by show b.length-(i+1)<b.length-i;omega)⟩)))))))))
 ·have hie:i=b.length:=by omega
  have S8:St F w0 w2 (row g (bvs (turnB b)) 5::L):=(by rw [←turnTo_all,←hie];exact S3)
  refine wE (nCF (wp_exit (then_x (then_x (inb_x (nSR (g_ (gv_slit0 (e:=5) S8 rfl kr_ ⟨_,by rfl⟩ (fun g9 w10 hg11 S12=>pv (sl g 0 b.length c) (g_ (gv_copyOf (g:=g9) (l:=turnB b) (k:=b.length) S12 rfl kr_ ⟨by kernel_rfl⟩ kr_ rfl rfl (turnB_len b).symm ((RoT.item (F:=F) (w0:=w0) (B:=turnB b) 1 rfl 0 b.length (turnB b) (by rw [List.drop_zero,←turnB_len,List.take_length])).now S12) (by rw [turnB_len];omega) (fun A13 c14 w15 S16=>pv (.slice A13 b.length c14) (wE (then_n (wp_ret ?_)))))))))))))))
  exact bA (.slice A13 b.length c14) ⟨_,_,rfl,S16⟩
end
end Go.Proofs
end
section
open Go Go.RowKit Go.Proofs.YtgeioealgidkiaaW.PrintWords
namespace Go.Proofs
open Go.Vel
set_option linter.unusedVariables false
section
section
variable {P:Program}{o:Oper}{w w0:World}{F:Nat→Prop}{L:List Ast}{ρ:Operand→Value}{K:Value→World→Prop}
theorem vec_one {e:TypeId}{sz n:Nat}{v:Value}{vals:List Value}(S:St F w0 w L)(i:Nat)(hi:L[i]?=some (vec e sz v n vals)):v.oneCell'=true:=by
 obtain ⟨A,c,rfl⟩:=St.vecV S i hi;rfl
theorem vec_cells {e:TypeId}{ad:Addr}{n c j:Nat}{vals:List Value}{u:Value}(S:St F w0 w L)(i:Nat)(hi:L[i]?=some (vec e 1 (.slice (some ad) n c) n vals))(hu:vals[j]?=some u):w.cell? (ad.add j)=some u:=by
 obtain ⟨ad',e1,h⟩:=St.vec_rd S i hi (Nat.lt_of_le_of_lt (Nat.zero_le _) (List.getElem?_eq_some_iff.1 hu).1)
 cases e1;exact h j u hu
theorem vec_ldA {e:TypeId}{A:Option Addr}{ad:Addr}{n c j:Nat}{vals:List Value}{u:Value}(S:St F w0 w L)(i:Nat)(hi:L[i]?=some (vec e 1 (.slice A n c) n vals))(hA:A=some ad)(hu:vals[j]?=some u):w.cell? (ad.add j)=some u:=by
 subst hA;exact vec_cells S i hi hu
theorem gv_stV {T:TypeId}{x y:Operand}{A:Option Addr}{ad:Addr}{n c i:Nat}{X:List UInt8}{b:UInt8}(S:St F w0 w (vec 5 1 (.slice A n c) n (X.map bv)::L))(ho:o.op=.store T x y)(hT:(P.info? T).map (·.size)=some 1)(hA:A=some ad)(hx:ρ x=.pointer (some (ad.add i)))(hy:ρ y=.int .u8 (b.toNat:Int))(hi:i<n)
  (h:∀w',St F w0 w' (vec 5 1 (.slice A n c) n ((X.set i b).map bv)::L)→K undef w'):gives P K ((execOp ρ o).run P w):=by
 obtain ⟨g,c',junk,e1,r2,r3,r4,S1⟩:=S.vec_open om_
 simp at e1
 obtain ⟨rfl,rfl⟩:=e1
 cases hA
 rw [List.length_map,Nat.mul_one] at r3
 have hset:((X.map bv++junk).toArray).setIfInBounds i (.int .u8 (b.toNat:Int))=((X.set i b).map bv++junk).toArray:=by
  rw [List.setIfInBounds_toArray,List.set_append_left _ _ (by rw [List.length_map];omega),List.map_set];rfl
 refine gv_st (k:=i) (v:=.int .u8 (b.toNat:Int)) S1 0 rfl ho hT (by rw [hx,Addr.add_lit,Nat.zero_add]) hy rfl (Nat.ble_eq_true_of_le (by simp;omega)) (L':=row g ((X.set i b).map bv++junk).toArray 5::L) (by rw [hset];rfl) fun w' S2=>h w' (St.vec_mk S2 r2 (by rw [List.length_map,List.length_set,Nat.mul_one];exact r3) (by rw [List.length_append,List.length_map,List.length_set,←r4,List.length_append,List.length_map]))
theorem gv_appS {s x:Operand}{t:TypeId}{n gs:Nat}{v u:Value}{vals:List Value}(S:St F w0 w (row gs #[u] 31::vec 31 1 v n vals::L))(ho:o.op=.call {callee:=.builtin .append,args:=#[s,x],argTypes:=#[t,t]})(ht:P.underlying t=some (.slice 31))(hE:Elt P 31 (.slice none 0 0) 1 24)
  (hs:ρ s=v) (hx:ρ x=.slice (some ⟨gs,0,none⟩) 1 1) (hu:u.oneCell'=true) (hn:n≤7000000000000) (h:∀v' w',St F w0 w' (vec 31 1 v' (n+1) (vals++[u])::L)→K v' w'):gives P K ((execOp ρ o).run P w):=by
 have hB:=S.blk 0 rfl
 refine gv_appendW (e:=31) (sz:=1) (n:=n) (v:=v) (vals:=vals) (z:=.slice none 0 0) (by_:=24) (m:=1) (news:=[u]) S.tail ho ht hE rfl hs hx dc_ rfl (fun j y hy=> ?_) (fun y hy=>by rw [List.mem_singleton.1 hy];exact hu) om_ om_ om_ h
 have hj:=(List.getElem?_eq_some_iff.1 hy).1
 have:j=0:=by simp at hj;omega
 subst this
 rw [Addr.add_lit,hB.cell];exact hy
theorem St.mk_sub {m:UInt8}{v:Value}{n:Nat}{xs ys:List RecV}(h:∀y∈ys,y∈xs)(S:St F w0 w (MkB m v n xs::L)):St F w0 w (MkB m v n ys::L):=S.map1 fun _ ⟨p,hp,hh⟩=>⟨p,⟨fun q=>by
 obtain ⟨a,b,c⟩:=hp.nil q
 exact ⟨a,b,fun x hx=>c x (h x hx)⟩,fun q=>by
 obtain ⟨a,b,c⟩:=hp.val q
 exact ⟨a,b,fun x hx=>c x (h x hx)⟩⟩,hh⟩
end
structure BkE where
 v0:Value
 v1:Value
 v2:Value
 v3:Value
 v4:Value
 n:Nat
 m:UInt8
structure BKP where
 a0:Value
 a1:Value
 a2:Value
 a3:Value
 a4:Value
 a5:Value
 E:List BkE
 X:List RecV
def BKP.parts (gb:Nat)(p:BKP):List Ast:=[row gb #[p.a0,p.a1,p.a2,p.a3,p.a4,p.a5] 44,vec 31 1 p.a0 p.E.length (p.E.map BkE.v0),vec 31 1 p.a1 p.E.length (p.E.map BkE.v1),vec 31 1 p.a2 p.E.length (p.E.map BkE.v2),vec 31 1 p.a3 p.E.length (p.E.map BkE.v3),vec 31 1 p.a4 p.E.length (p.E.map BkE.v4),vec 5 1 p.a5 p.E.length ((p.E.map BkE.m).map bv),manyX p.X]
structure BkE.Ok (X:List RecV)(e:BkE):Prop where
 h0:(e.v0,mks e.m e.n)∈X
 h1:(e.v1,mks e.m (e.n+1))∈X
 h2:(e.v2,mks e.m (e.n+2))∈X
 h3:(e.v3,mks e.m (e.n+3))∈X
 h4:(e.v4,mks e.m (e.n+96))∈X
 n:e.n≤1048576
theorem BkE.Ok.mono {X Y:List RecV}{e:BkE}(h:e.Ok X)(hs:∀x∈X,x∈Y):e.Ok Y:=⟨hs _ h.h0,hs _ h.h1,hs _ h.h2,hs _ h.h3,hs _ h.h4,h.n⟩
structure BKP.Ok (N:Nat)(p:BKP):Prop where
 len:p.E.length=N
 all:∀e∈p.E,e.Ok p.X
def PBook (gb N:Nat):Ast:=fun h=>∃p:BKP,p.Ok N∧stars (p.parts gb) h
section
variable {F:Nat→Prop}{w0 w:World}{L:List Ast}{gb N:Nat}
theorem St.bko (S:St F w0 w (PBook gb N::L)):∃p:BKP,p.Ok N∧St F w0 w (p.parts gb++L):=by
 obtain ⟨p,S⟩:=St.ex S
 obtain ⟨h1,S⟩:=St.fact S
 exact ⟨p,h1,S.flat⟩
theorem St.bkc {p:BKP}(h1:p.Ok N)(S:St F w0 w (p.parts gb++L)):St F w0 w (PBook gb N::L):=(St.star S).map1 fun h hh=>⟨p,h1,hh⟩
theorem BkE.val {X:List RecV}{v:Value}{l:List UInt8}(S:St F w0 w L)(i:Nat)(hi:L[i]?=some (manyX X))(h:(v,l)∈X){n:Nat}(hn:l.length=n):∃A c,v=.slice A n c:=by
 subst hn;exact St.many_val S i hi h
end
theorem fill_len (m:UInt8)(l:List UInt8){i:Nat}(h:i≤l.length):(mks m i++l.drop i).length=l.length:=by rw [List.length_append,mks_len,List.length_drop];omega
theorem fill_set' (m:UInt8)(l:List UInt8){i:Nat}(h:i<l.length):(mks m i++l.drop i).set i m=mks m (i+1)++l.drop (i+1):=by
 rw [List.set_append_right _ _ (by rw [mks_len];omega),mks_len,Nat.sub_self,List.drop_eq_getElem_cons h]
 show mks m i++(m::l.drop (i+1))=_
 unfold mks
 rw [List.replicate_succ',List.append_assoc];rfl
theorem mark_num (N:Nat):∃m:UInt8,((m.toNat:Nat):Int)=((N%251+1:Nat):Int):=⟨UInt8.ofNat (N%251+1),by rw [UInt8.toNat_ofNat'];have:=Nat.mod_lt N (show 0<251 by decide);omega⟩
end
end Go.Proofs
end
section
open Go Go.RowKit Go.Proofs.YtgeioealgidkiaaW.PrintWords
namespace Go.Proofs.Big
open Go.Vel Go.Proofs
set_option linter.unusedVariables false
set_option maxRecDepth 100000
set_option maxHeartbeats 4000000
attribute [local irreducible] gives wpList Code.wp
section
section
variable {s:Dsk}{clock:Nat}{es:List PEnt}{fused:Bool}{left:Int}
theorem PFacts.write_old {s':Dsk}{j k go:Nat}{p:PEnt}{d:List UInt8}{v':Value}(h:PFacts s clock es fused left)(hj:es[j]?=some p)(hat:p.at_=k)(hk:k<s.last.length)(hd:d.length=512)(hpn:s.pend.length<6597069766656)
  (h1:s'.last=s.last) (h2:s'.pend=s.pend++[(k,d)]) (h3:s'.left=s.left):PFacts s' clock (es.set j ⟨p.at_,v',p.b,p.ws++[(go,d)]⟩) fused left:=by
 subst hat
 have hpm:=List.mem_of_getElem? hj
 have hjl:=(List.getElem?_eq_some_iff.1 hj).1
 have hmem:∀q,q∈es.set j ⟨p.at_,v',p.b,p.ws++[(go,d)]⟩→q=⟨p.at_,v',p.b,p.ws++[(go,d)]⟩∨(q∈es∧q.at_≠p.at_):=fun q hq=>by
  obtain ⟨m,hm⟩:=List.getElem?_of_mem hq
  rw [List.getElem?_set] at hm
  split at hm
  ·rename_i e
   first
    |exact .inl (Option.some.inj hm).symm
    |(split at hm;(exact .inl (Option.some.inj hm).symm);(cases hm))
  ·rename_i e
   refine .inr ⟨List.mem_of_getElem? hm,fun he=> ?_⟩
   have hml:=(List.getElem?_eq_some_iff.1 hm).1
   have e1:es[m]=q:=(List.getElem?_eq_some_iff.1 hm).2
   have e2:es[j]=p:=(List.getElem?_eq_some_iff.1 hj).2
   have hp:=List.pairwise_iff_getElem.1 h.keyN
   rcases Nat.lt_trichotomy m j with hlt|hlt|hlt
   ·have:=hp m j (by simpa using hml) (by simpa using hjl) hlt
    simp only [List.getElem_map,e1,e2] at this;exact this he
   ·exact e hlt.symm
   ·have:=hp j m (by simpa using hjl) (by simpa using hml) hlt
    simp only [List.getElem_map,e1,e2] at this;exact this he.symm
 have eb:(es.set j ⟨p.at_,v',p.b,p.ws++[(go,d)]⟩).map (·.b)=es.map (·.b):=by
  rw [List.map_set]
  apply List.ext_getElem?
  intro m
  rw [List.getElem?_set]
  split
  ·rename_i e;subst e;simp [hjl]
   exact congrArg PEnt.b (List.getElem?_eq_some_iff.1 hj).2.symm
  ·rfl
 have ek:(es.set j ⟨p.at_,v',p.b,p.ws++[(go,d)]⟩).map (·.at_)=es.map (·.at_):=by
  rw [List.map_set]
  apply List.ext_getElem?
  intro m
  rw [List.getElem?_set]
  split
  ·rename_i e;subst e;simp [hjl]
   exact congrArg PEnt.at_ (List.getElem?_eq_some_iff.1 hj).2.symm
  ·rfl
 refine ⟨fun q hq=> ?_,by rw [eb];exact h.bornN,by rw [ek];exact h.keyN,fun q hq=> ?_,fun x hx=> ?_,fun q hq=> ?_,by rw [h1];exact h.len,fun x hx=> ?_,by rw [h1];exact h.n1,by rw [h1];exact h.n2,by rw [h3];exact h.fuse,by rw [h3];exact h.left,by rw [h3];exact h.lb,by rw [h2,List.length_append];simp;omega⟩
 ·rcases hmem q hq with rfl|⟨hq,_⟩
  ·exact h.born p hpm
  ·exact h.born q hq
 ·rw [pendOf_snoc s p.at_ q.at_ d s' h2]
  rcases hmem q hq with rfl|⟨hq,hne⟩
  ·simp only [if_true,List.map_append,List.map_cons,List.map_nil]
   rw [h.ws p hpm]
  ·rw [if_neg (fun e=>hne e.symm),List.append_nil];exact h.ws q hq
 ·rw [h2] at hx
  have hex:∃q∈es,q.at_=x.1:=by
   rcases List.mem_append.1 hx with hx|hx
   ·exact h.has x hx
   ·simp at hx;subst hx;exact ⟨p,hpm,rfl⟩
  obtain ⟨q,hq,he⟩:=hex
  have:x.1∈(es.set j ⟨p.at_,v',p.b,p.ws++[(go,d)]⟩).map (·.at_):=by rw [ek];exact List.mem_map.2 ⟨q,hq,he⟩
  obtain ⟨q',h4,h5⟩:=List.mem_map.1 this
  exact ⟨q',h4,h5⟩
 ·rcases hmem q hq with rfl|⟨hq,_⟩
  ·simp
  ·exact h.ne q hq
 ·rw [h2] at hx
  rw [h1]
  rcases List.mem_append.1 hx with hx|hx
  ·exact h.plen x hx
  ·simp at hx;subst hx;exact ⟨hd,hk⟩
theorem PFacts.write_new {s':Dsk}{k go:Nat}{d:List UInt8}{v':Value}(h:PFacts s clock es fused left)(hp:pendOf s k=[])(hno:∀e∈es.map PEnt.ent,e.k≠(k:Int))(hk:k<s.last.length)(hd:d.length=512)(hpn:s.pend.length<6597069766656)
  (h1:s'.last=s.last) (h2:s'.pend=s.pend++[(k,d)]) (h3:s'.left=s.left):PFacts s' (clock+1) (es++[⟨k,v',clock,[(go,d)]⟩]) fused left:=by
 have hne:∀q∈es,q.at_≠k:=fun q hq he=>hno q.ent (List.mem_map.2 ⟨q,hq,rfl⟩) (by simp [PEnt.ent,he])
 refine ⟨fun q hq=> ?_, ?_, ?_,fun q hq=> ?_,fun x hx=> ?_,fun q hq=> ?_,by rw [h1];exact h.len,fun x hx=> ?_,by rw [h1];exact h.n1,by rw [h1];exact h.n2,by rw [h3];exact h.fuse,by rw [h3];exact h.left,by rw [h3];exact h.lb,by rw [h2,List.length_append];simp;omega⟩
 ·rcases List.mem_append.1 hq with hq|hq
  ·have:=h.born q hq;omega
  ·simp at hq;subst hq;simp
 ·rw [List.map_append,List.nodup_append]
  refine ⟨h.bornN,by simp,fun a ha b hb=> ?_⟩
  obtain ⟨q,hq,rfl⟩:=List.mem_map.1 ha
  simp at hb;subst hb
  have:=h.born q hq;omega
 ·rw [List.map_append,List.nodup_append]
  refine ⟨h.keyN,by simp,fun a ha b hb=> ?_⟩
  obtain ⟨q,hq,rfl⟩:=List.mem_map.1 ha
  simp at hb;subst hb
  exact hne q hq
 ·rw [pendOf_snoc s k q.at_ d s' h2]
  rcases List.mem_append.1 hq with hq|hq
  ·rw [if_neg (fun e=>hne q hq e.symm),List.append_nil];exact h.ws q hq
  ·simp at hq;subst hq;simp [hp]
 ·rw [h2] at hx
  rcases List.mem_append.1 hx with hx|hx
  ·obtain ⟨q,hq,he⟩:=h.has x hx
   exact ⟨q,List.mem_append_left _ hq,he⟩
  ·simp at hx;subst hx;exact ⟨_,List.mem_append_right _ (List.mem_singleton.2 rfl),rfl⟩
 ·rcases List.mem_append.1 hq with hq|hq
  ·exact h.ne q hq
  ·simp at hq;subst hq;simp
 ·rw [h2] at hx
  rw [h1]
  rcases List.mem_append.1 hx with hx|hx
  ·exact h.plen x hx
  ·simp at hx;subst hx;exact ⟨hd,hk⟩
end
section
variable {s s':Dsk}{LL:List (Nat×List UInt8)}{PP:List RPut}{pool:List (Nat×List UInt8)}
theorem RFacts.put (h:RFacts s LL PP pool){b k:Nat}{d:List UInt8}(h1:s'.last=s.last)(h2:s'.pend=s.pend++[(k,d)])(h3: -1≤s'.left∧s'.left≤9223372036854775807)(hk:k<s.last.length)(hd:d.length=512)(hp:s.pend.length<6597069766656):RFacts s' LL (PP++[(b,k,d)]) ((b,d)::pool):=
 ⟨by rw [h1];exact h.last,by rw [h2,List.map_append,h.pend];rfl,fun x hx=>List.mem_cons_of_mem _ (h.lin x hx),fun x hx=>(List.mem_append.1 hx).elim (fun hx=>List.mem_cons_of_mem _ (h.pin x hx)) (fun hx=>by rw [List.mem_singleton] at hx;subst hx;exact List.mem_cons_self),by rw [h1];exact h.len,
  fun x hx=>by
   rw [h2] at hx;rw [h1]
   rcases List.mem_append.1 hx with hx|hx
   ·exact h.plen x hx
   ·rw [List.mem_singleton] at hx;subst hx;exact ⟨hd,hk⟩,by rw [h1];exact h.n1,by rw [h1];exact h.n2,h3,by rw [h2,List.length_append];show s.pend.length+1≤_;omega⟩
end
theorem pd_write {F:Nat→Prop}{w0 w:World}{L:List Ast}{g:Nat}{s:Dsk}{at_:Int}{A:Option Addr}{d:List UInt8}{cd:Nat}(S:St F w0 w (PDisk g s::L))(hr:RoT F w0 L A d)(hdm:d.length≤9223372036854775807)(hpn:s.pend.length<6597069766656):
  Calls Try.prog 33 #[.pointer (some ⟨g,0,none⟩),.int .i64 at_,.slice A d.length cd] w fun e w'=>e=.returned (.int .i64 (s.writeR at_ d).2)∧St F w0 w' (PDisk g (s.writeR at_ d).1::L):=by
 obtain ⟨gd,gm,clock,es,fused,left,hf,S⟩:=St.popen S
 have hn2:=hf.n2
 have hbu:=hf.burnt
 by_cases hz:s.left=0
 ·have e:s.writeR at_ d=(s,3):=by unfold Dsk.writeR;rw [if_pos hz]
  rw [e]
  have hb:(fused&&decide (left=0))=true:=by rw [hbu];exact decide_eq_true hz
  change St F w0 w (dR g gd (512*s.last.length) gm fused left s.life s.rd s.wr s.fl s.rf (s.pend.length:Int)::row gd (bvs s.last.flatten) 5::pt gm (mapO (es.map PEnt.ent) clock)::stars (es.map PEnt.ast)::L) at S
  refine eN (fr [pq g,iv at_,.slice A d.length cd] 62) Try.func33 rfl (sR (pv (iv 0) (wE (nS (sR (pv (pq g) (pv (iv at_) (sP Try.func79 #[pq g,iv at_] (there_dead hb S) fun w1 S2=>pv (iv 3) (wER (pv (iv 3) (dN 3 0 (fun _=>wE ?_) fun hd3=>False.elim om_)))))))))))
  exact nCT (sR (pv (iv 3) (pv (iv 3) (wE (then_n (rR (bA (iv 3) ⟨rfl,St.pclose (gd:=gd) (gm:=gm) (clock:=clock) (es:=es) (fused:=fused) (left:=left) (s:=s) S2 (hf.congr rfl rfl rfl)⟩)))))))
 have hb:(fused&&decide (left=0))=false:=by rw [hbu];exact decide_eq_false hz
 by_cases ho:at_<0∨(s.last.length:Int)≤at_
 ·have e:s.writeR at_ d=({s with rf:=inc s.rf},11):=by unfold Dsk.writeR;rw [if_neg hz,if_pos ho]
  rw [e]
  change St F w0 w (dR g gd (512*s.last.length) gm fused left s.life s.rd s.wr s.fl s.rf (s.pend.length:Int)::row gd (bvs s.last.flatten) 5::pt gm (mapO (es.map PEnt.ent) clock)::stars (es.map PEnt.ast)::L) at S
  refine eN (fr [pq g,iv at_,.slice A d.length cd] 62) Try.func33 rfl (sR (pv (iv 0) (wE (nS (sR (pv (pq g) (pv (iv at_) (sP Try.func79 #[pq g,iv at_] (there_out hb rfl hn2 ho S) fun w1 S2=>pv (iv 11) (wER (pv (iv 11) (dN 11 0 (fun _=>wE ?_) fun hd3=>False.elim om_)))))))))))
  exact nCT (sR (pv (iv 11) (pv (iv 11) (wE (then_n (rR (bA (iv 11) ⟨rfl,St.pclose (gd:=gd) (gm:=gm) (clock:=clock) (es:=es) (fused:=fused) (left:=left) (s:={s with rf:=inc s.rf}) S2 (hf.congr rfl rfl rfl)⟩)))))))
 obtain ⟨k,rfl⟩:∃k:Nat,at_=(k:Int):=⟨at_.toNat,by omega⟩
 have hk:k<s.last.length:=by omega
 by_cases hd5:d.length≠512
 ·have e:s.writeR (k:Int) d=({s with rf:=inc s.rf},2):=by unfold Dsk.writeR;rw [if_neg hz,if_neg ho,if_pos hd5]
  rw [e]
  change St F w0 w (dR g gd (512*s.last.length) gm fused left s.life s.rd s.wr s.fl s.rf (s.pend.length:Int)::row gd (bvs s.last.flatten) 5::pt gm (mapO (es.map PEnt.ent) clock)::stars (es.map PEnt.ast)::L) at S
  refine eN (fr [pq g,nI_ k,.slice A d.length cd] 62) Try.func33 rfl (sR (pv (iv 0) (wE (nS (sR (pv (pq g) (pv (nI_ k) (sP Try.func79 #[pq g,nI_ k] (there_in hb rfl hn2 hk S) fun w1 S2=>pv (iv 0) (wER (pv (iv 0) (dN 0 0 (fun hd3=>False.elim om_) fun _=>wE ?_)))))))))))
  refine nCF (wp_skip (nS (sR (pv (.slice A d.length cd) (pv (iv (d.length:Nat)) (dN (d.length:Nat) 512 (fun _=>wE (nCT (sR (pv (pq g) (pv (pq g) (pv (po g 5) (pv (po g 8) ?_))))))) fun hd4=>False.elim om_))))))
  exact lR (iv s.rf) S2 0 8 (pv (iv (inc s.rf)) (pv (pq g) (pv (po g 5) (pv (po g 8) (sS S2 0 rfl 8 (iv (inc s.rf)) fun w5 S6=>wER (pv (iv 2) (wE (then_n (rR (bA (iv 2) ⟨rfl,St.pclose (gd:=gd) (gm:=gm) (clock:=clock) (es:=es) (fused:=fused) (left:=left) (s:={s with rf:=inc s.rf}) S6 (hf.congr rfl rfl rfl)⟩))))))))))
 have hd:d.length=512:=by omega
 have e:s.writeR (k:Int) d=({s with pend:=s.pend++[(k,d)],wr:=inc s.wr,left:=spent s.left},0):=by unfold Dsk.writeR;rw [if_neg hz,if_neg ho,if_neg hd5,Int.toNat_natCast]
 rw [e]
 have hsp:=hf.spend hz
 have hlb:=spent_lb hf.lb hz
 rcases hf.find k with ⟨hp,hno⟩|⟨j,p,hj,hat,hp,hne,hje,hke,hfe⟩
 ·rcases hsp with ⟨rfl,hdc,hde⟩|⟨rfl,hdc,hde⟩
  ·change St F w0 w (dR g gd (512*s.last.length) gm true left s.life s.rd s.wr s.fl s.rf (s.pend.length:Int)::row gd (bvs s.last.flatten) 5::pt gm (mapO (es.map PEnt.ent) clock)::stars (es.map PEnt.ast)::L) at S
   refine eN (fr [pq g,nI_ k,.slice A d.length cd] 62) Try.func33 rfl (sR (pv (iv 0) (wE (nS (sR (pv (pq g) (pv (nI_ k) (sP Try.func79 #[pq g,nI_ k] (there_in hb rfl hn2 hk S) fun w1 S2=>pv (iv 0) (wER (pv (iv 0) (dN 0 0 (fun hd3=>False.elim om_) fun _=>wE ?_)))))))))))
   refine nCF (wp_skip (nS (sR (pv (.slice A d.length cd) (pv (iv (d.length:Nat)) (dN (d.length:Nat) 512 (fun hd4=>False.elim om_) fun _=>wE (nCF (wp_skip (nSR (g_ (gv_make (e:=5) (u:=512) (v:=512) (z:=.int .u8 0) (sz:=1) (by_:=1) (n:=512) (c:=512) (cs:=(bvs (List.replicate 512 0))) S2 rfl kr_ ⟨by kernel_rfl⟩ kr_ kr_ rfl rfl (Nat.le_refl _) dc_ dc_ (mk_bytes _) (fun g5 w6 hg7 S8=>pv (sl g5 0 512 512) (wER ?_)))))))))))))
   refine pv (sl g5 0 512 512) (pv (.slice A d.length cd) (g_ (gv_copy (e:=5) (off:=0) (dLen:=512) (dCap:=512) (sLen:=d.length) (sCap:=cd) (A:=A) (B:=(List.replicate 512 0)) (l:=d) S8 0 rfl rfl kr_ kr_ kr_ kr_ rfl (hr.out _ [row g5 (bvs (List.replicate 512 0)) 5,dR g gd (512*s.last.length) gm true left s.life s.rd s.wr s.fl s.rf (s.pend.length:Int),row gd (bvs s.last.flatten) 5,pt gm (mapO (es.map PEnt.ent) clock),stars (es.map PEnt.ast)] S8) (by simp) (L':=(row g5 (bvs d) 5::dR g gd (512*s.last.length) gm true left s.life s.rd s.wr s.fl s.rf (s.pend.length:Int)::row gd (bvs s.last.flatten) 5::pt gm (mapO (es.map PEnt.ent) clock)::stars (es.map PEnt.ast)::L)) (by rw [copy512 hd];rfl) (fun w9 m11 S10=>wE (nS ?_)))))
   have S12:St F w0 w9 (vec 31 1 (.slice none 0 0) 0 []::row g5 (bvs d) 5::dR g gd (512*s.last.length) gm true left s.life s.rd s.wr s.fl s.rf (s.pend.length:Int)::row gd (bvs s.last.flatten) 5::pt gm (mapO (es.map PEnt.ent) clock)::stars (es.map PEnt.ast)::L):=St.vec_nil S10
   refine wp_region_phu (γ:=Nat×Value) 14 [12,13] (fun (c_:Nat×Value) (i_:Nat)=>(match i_ with|0=>pq g|1=>pq g|2=>po g 1|3=>.map (some gm)|4=>nI_ k|5=>pq g|6=>pq g|7=>po g 1|8=>.map (some gm)|9=>nI_ k|10=>.slice none 0 0|11=>sl g5 0 512 512|12=>sl c_.1 0 1 1|13=>c_.2|_=>undef:Value)) (fun (c_:Nat×Value) (p_:Nat) (w_:World)=>(match p_ with|0=>St F w0 w_ (vec 31 1 (.slice none 0 0) 0 []::row g5 (bvs d) 5::dR g gd (512*s.last.length) gm true left s.life s.rd s.wr s.fl s.rf (s.pend.length:Int)::row gd (bvs s.last.flatten) 5::pt gm (mapO (es.map PEnt.ent) clock)::stars (es.map PEnt.ast)::L)|1=>St F w0 w_ (row c_.1 #[sl g5 0 512 512] 31::vec 31 1 (.slice none 0 0) 0 []::row g5 (bvs d) 5::dR g gd (512*s.last.length) gm true left s.life s.rd s.wr s.fl s.rf (s.pend.length:Int)::row gd (bvs s.last.flatten) 5::pt gm (mapO (es.map PEnt.ent) clock)::stars (es.map PEnt.ast)::L)|_=>St F w0 w_ (vec 31 1 c_.2 1 [sl g5 0 512 512]::row c_.1 #[sl g5 0 512 512] 31::row g5 (bvs d) 5::dR g gd (512*s.last.length) gm true left s.life s.rd s.wr s.fl s.rf (s.pend.length:Int)::row gd (bvs s.last.flatten) 5::pt gm (mapO (es.map PEnt.ent) clock)::stars (es.map PEnt.ast)::L):Prop)) (0,undef) kr_ kr_ kr_ kr_ (S12.drew) ?_ ?_ ?_
   ·intro i_ c_ p_ vals_ w1 hi_ hiE_ hp_ hk_ hu_ hPh_ hd_
    rcases i_ with _|_|_|_|_|_|_|_|_|_|_|_|_|_|i_
    ·exact tG_ rfl hd_ (gV (pq g) ⟨rfl,rfl⟩)
    ·exact tG_ rfl hd_ (gV (pq g) ⟨rfl,rfl⟩)
    ·exact tG_ rfl hd_ (gV (po g 1) ⟨rfl,rfl⟩)
    ·rcases p_ with _|_|_|p_
     ·have S16:=St.id hPh_
      exact tG_ rfl hd_ (gL (.map (some gm)) rfl (((S16.blk 2 rfl).cell 1).trans rfl) ⟨rfl,rfl⟩)
     ·have S17:=St.id hPh_
      exact tG_ rfl hd_ (gL (.map (some gm)) rfl (((S17.blk 3 rfl).cell 1).trans rfl) ⟨rfl,rfl⟩)
     ·have S18:=St.id hPh_
      exact tG_ rfl hd_ (gL (.map (some gm)) rfl (((S18.blk 3 rfl).cell 1).trans rfl) ⟨rfl,rfl⟩)
     ·exact absurd hp_ (by simp)
    ·exact tG_ rfl hd_ (gV (nI_ k) ⟨rfl,rfl⟩)
    ·exact tG_ rfl hd_ (gV (pq g) ⟨rfl,rfl⟩)
    ·exact tG_ rfl hd_ (gV (pq g) ⟨rfl,rfl⟩)
    ·exact tG_ rfl hd_ (gV (po g 1) ⟨rfl,rfl⟩)
    ·rcases p_ with _|_|_|p_
     ·have S23:=St.id hPh_
      exact tG_ rfl hd_ (gL (.map (some gm)) rfl (((S23.blk 2 rfl).cell 1).trans rfl) ⟨rfl,rfl⟩)
     ·have S24:=St.id hPh_
      exact tG_ rfl hd_ (gL (.map (some gm)) rfl (((S24.blk 3 rfl).cell 1).trans rfl) ⟨rfl,rfl⟩)
     ·exact absurd (hu_ 1 dc_ kr_) dc_
     ·exact absurd hp_ (by simp)
    ·exact tG_ rfl hd_ (gV (nI_ k) ⟨rfl,rfl⟩)
    ·rcases p_ with _|_|_|p_
     ·have S26:=St.id hPh_
      exact tG_ rfl hd_ (gv_look_none (kT:=3) (eT:=42) (k:=((k:Nat):Int)) (z:=.slice none 0 0) (S26.get 4 rfl) rfl kr_ kr_ kr_ kr_ kr_ hno ⟨rfl,rfl⟩)
     ·have S27:=St.id hPh_
      exact tG_ rfl hd_ (gv_look_none (kT:=3) (eT:=42) (k:=((k:Nat):Int)) (z:=.slice none 0 0) (S27.get 5 rfl) rfl kr_ kr_ kr_ kr_ kr_ hno ⟨rfl,rfl⟩)
     ·exact absurd (hu_ 1 dc_ kr_) dc_
     ·exact absurd hp_ (by simp)
    ·exact tG_ rfl hd_ (gV (sl g5 0 512 512) ⟨rfl,rfl⟩)
    ·exact absurd hiE_ dc_
    ·exact absurd hiE_ dc_
    ·exact absurd hi_ om_
   ·intro k_ c_ vals_ w1 hk_ hPh_ hd_
    rcases k_ with _|_|k_
    ·have S29:=St.id hPh_
     refine tG_ rfl hd_ (gv_slit (e:=31) (sz:=1) (z:=.slice none 0 0) (by_:=24) (vs:=#[(0,sl g5 0 512 512)]) (cells:=#[sl g5 0 512 512]) S29 rfl kr_ ⟨by kernel_rfl⟩ kr_ kr_ kr_ kr_ (fun g30 w31 hg32 S33=>⟨(g30,c_.2),rfl, ?_,S33⟩))
     intro i_ hi_ hne_ hdp_
     rcases i_ with _|_|_|_|_|_|_|_|_|_|_|_|_|_|i_
     ·rfl
     ·rfl
     ·rfl
     ·rfl
     ·rfl
     ·rfl
     ·rfl
     ·rfl
     ·rfl
     ·rfl
     ·rfl
     ·rfl
     ·exact absurd rfl hne_
     ·exact (dep_no hdp_ kr_).elim
     ·exact absurd hi_ om_
    ·have S34:=St.id hPh_
     refine tG_ rfl hd_ (gv_appendW (e:=31) (sz:=1) (n:=0) (v:=(.slice none 0 0)) (vals:=[]) (z:=.slice none 0 0) (by_:=24) (m:=1) (c':=1) (ad:=⟨c_.1,0,none⟩) (news:=[sl g5 0 512 512]) (St.swap S34) rfl kr_ ⟨by kernel_rfl⟩ rfl kr_ kr_ dc_ rfl (row_news (S34.blk 0 rfl)) (by intro u hu;simp at hu;subst hu;rfl) om_ om_ om_ (fun v36 w35 S37=>⟨(c_.1,v36),rfl, ?_,S37⟩))
     intro i_ hi_ hne_ hdp_
     rcases i_ with _|_|_|_|_|_|_|_|_|_|_|_|_|_|i_
     ·rfl
     ·rfl
     ·rfl
     ·rfl
     ·rfl
     ·rfl
     ·rfl
     ·rfl
     ·rfl
     ·rfl
     ·rfl
     ·rfl
     ·rfl
     ·exact absurd rfl hne_
     ·exact absurd hi_ om_
    ·exact absurd hk_ (by simp)
   ·intro c_ w1 hPh_
    have S38:=St.id hPh_
    refine (g_ (gv_put_new (kT:=3) (eT:=42) (g:=gm) (clock:=clock) (es:=es.map PEnt.ent) (k:=((k:Nat):Int)) (v:=c_.2) S38 5 rfl rfl kr_ kr_ kr_ kr_ kr_ hno (L':=(vec 31 1 c_.2 1 [sl g5 0 512 512]::row c_.1 #[sl g5 0 512 512] 31::row g5 (bvs d) 5::dR g gd (512*s.last.length) gm true left s.life s.rd s.wr s.fl s.rf (s.pend.length:Int)::row gd (bvs s.last.flatten) 5::pt gm (mapO (es.map PEnt.ent++[⟨((k:Nat):Int),c_.2,clock⟩]) (clock+1))::stars (es.map PEnt.ast)::L)) rfl (fun w39 S40=>wE ?_)))
    refine nSR (pv (pq g) (pv (pq g) (pv (po g 5) (pv (po g 6) (lR (iv s.wr) S40 3 6 (pv (iv (inc s.wr)) (pv (pq g) (pv (po g 5) (pv (po g 6) (sS S40 3 rfl 6 (iv (inc s.wr)) fun w41 S42=>wER (pv (pq g) (pv (pq g) ?_))))))))))))
    refine pv (po g 5) (pv (po g 9) (lR (iv (s.pend.length:Int)) S42 3 9 (gI .i64 (IntKind.i64.wrap ((s.pend.length:Int)+1)) ((s.pend.length+1:Nat):Int) (wr_eq om_ om_ om_) (pv (pq g) (pv (po g 5) (pv (po g 9) (sS S42 3 rfl 9 (nI_ (s.pend.length+1)) fun w43 S44=>wER (pv (pq g) (g_ (gv_call (args:=#[pq g]) rfl Try.func83 kr_ rfl rfl kr_ ?_))))))))))
    have S45:St F w0 w43 (vec 31 1 c_.2 1 [sl g5 0 512 512]::row g5 (bvs d) 5::dR g gd (512*s.last.length) gm true left s.life s.rd (inc s.wr) s.fl s.rf ((s.pend.length+1:Nat):Int)::row gd (bvs s.last.flatten) 5::pt gm (mapO (es.map PEnt.ent++[⟨((k:Nat):Int),c_.2,clock⟩]) (clock+1))::stars (es.map PEnt.ast)::L):=St.pm 7 [0,2,3,4,5,6] S44
    have em:es.map PEnt.ent++[⟨((k:Nat):Int),c_.2,clock⟩]=(es++[(⟨k,c_.2,clock,[(g5,d)]⟩:PEnt)]).map PEnt.ent:=by rw [List.map_append];rfl
    have S46:St F w0 w43 (dR g gd (512*s.last.length) gm true left s.life s.rd (inc s.wr) s.fl s.rf ((s.pend.length+1:Nat):Int)::row gd (bvs s.last.flatten) 5::pt gm (mapO (es.map PEnt.ent++[⟨((k:Nat):Int),c_.2,clock⟩]) (clock+1))::stars ((es++[(⟨k,c_.2,clock,[(g5,d)]⟩:PEnt)]).map PEnt.ast)::L):=entry_new S45
    rw [em] at S46
    refine Calls.mono (spend_true S46) ?_
    rintro _ w47 ⟨rfl,S48⟩
    refine ⟨_,rfl,(wER (pv (iv 0) (wE (then_n (wp_ret (bA (iv 0) ?_))))))⟩
    have hl1:((s.pend.length+1:Nat):Int)=((s.pend++[(k,d)]).length:Nat):=by rw [List.length_append];rfl
    rw [hl1] at S48
    exact ⟨rfl,St.pclose (gd:=gd) (gm:=gm) (clock:=clock+1) (es:=es++[(⟨k,c_.2,clock,[(g5,d)]⟩:PEnt)]) (fused:=true) (left:=dec left) (s:={s with pend:=s.pend++[(k,d)],wr:=inc s.wr,left:=spent s.left}) S48 (PFacts.refuse (s':={s with pend:=s.pend++[(k,d)],wr:=inc s.wr,left:=spent s.left}) (PFacts.write_new hf (s':={s with pend:=s.pend++[(k,d)]}) (go:=g5) (d:=d) (v':=c_.2) hp hno hk hd hpn rfl rfl rfl) rfl rfl hdc.symm (fun _=>hde) hlb)⟩
  ·change St F w0 w (dR g gd (512*s.last.length) gm false left s.life s.rd s.wr s.fl s.rf (s.pend.length:Int)::row gd (bvs s.last.flatten) 5::pt gm (mapO (es.map PEnt.ent) clock)::stars (es.map PEnt.ast)::L) at S
   refine eN (fr [pq g,nI_ k,.slice A d.length cd] 62) Try.func33 rfl (sR (pv (iv 0) (wE (nS (sR (pv (pq g) (pv (nI_ k) (sP Try.func79 #[pq g,nI_ k] (there_in hb rfl hn2 hk S) fun w1 S2=>pv (iv 0) (wER (pv (iv 0) (dN 0 0 (fun hd3=>False.elim om_) fun _=>wE ?_)))))))))))
   refine nCF (wp_skip (nS (sR (pv (.slice A d.length cd) (pv (iv (d.length:Nat)) (dN (d.length:Nat) 512 (fun hd4=>False.elim om_) fun _=>wE (nCF (wp_skip (nSR (g_ (gv_make (e:=5) (u:=512) (v:=512) (z:=.int .u8 0) (sz:=1) (by_:=1) (n:=512) (c:=512) (cs:=(bvs (List.replicate 512 0))) S2 rfl kr_ ⟨by kernel_rfl⟩ kr_ kr_ rfl rfl (Nat.le_refl _) dc_ dc_ (mk_bytes _) (fun g5 w6 hg7 S8=>pv (sl g5 0 512 512) (wER ?_)))))))))))))
   refine pv (sl g5 0 512 512) (pv (.slice A d.length cd) (g_ (gv_copy (e:=5) (off:=0) (dLen:=512) (dCap:=512) (sLen:=d.length) (sCap:=cd) (A:=A) (B:=(List.replicate 512 0)) (l:=d) S8 0 rfl rfl kr_ kr_ kr_ kr_ rfl (hr.out _ [row g5 (bvs (List.replicate 512 0)) 5,dR g gd (512*s.last.length) gm false left s.life s.rd s.wr s.fl s.rf (s.pend.length:Int),row gd (bvs s.last.flatten) 5,pt gm (mapO (es.map PEnt.ent) clock),stars (es.map PEnt.ast)] S8) (by simp) (L':=(row g5 (bvs d) 5::dR g gd (512*s.last.length) gm false left s.life s.rd s.wr s.fl s.rf (s.pend.length:Int)::row gd (bvs s.last.flatten) 5::pt gm (mapO (es.map PEnt.ent) clock)::stars (es.map PEnt.ast)::L)) (by rw [copy512 hd];rfl) (fun w9 m11 S10=>wE (nS ?_)))))
   have S12:St F w0 w9 (vec 31 1 (.slice none 0 0) 0 []::row g5 (bvs d) 5::dR g gd (512*s.last.length) gm false left s.life s.rd s.wr s.fl s.rf (s.pend.length:Int)::row gd (bvs s.last.flatten) 5::pt gm (mapO (es.map PEnt.ent) clock)::stars (es.map PEnt.ast)::L):=St.vec_nil S10
   refine wp_region_phu (γ:=Nat×Value) 14 [12,13] (fun (c_:Nat×Value) (i_:Nat)=>(match i_ with|0=>pq g|1=>pq g|2=>po g 1|3=>.map (some gm)|4=>nI_ k|5=>pq g|6=>pq g|7=>po g 1|8=>.map (some gm)|9=>nI_ k|10=>.slice none 0 0|11=>sl g5 0 512 512|12=>sl c_.1 0 1 1|13=>c_.2|_=>undef:Value)) (fun (c_:Nat×Value) (p_:Nat) (w_:World)=>(match p_ with|0=>St F w0 w_ (vec 31 1 (.slice none 0 0) 0 []::row g5 (bvs d) 5::dR g gd (512*s.last.length) gm false left s.life s.rd s.wr s.fl s.rf (s.pend.length:Int)::row gd (bvs s.last.flatten) 5::pt gm (mapO (es.map PEnt.ent) clock)::stars (es.map PEnt.ast)::L)|1=>St F w0 w_ (row c_.1 #[sl g5 0 512 512] 31::vec 31 1 (.slice none 0 0) 0 []::row g5 (bvs d) 5::dR g gd (512*s.last.length) gm false left s.life s.rd s.wr s.fl s.rf (s.pend.length:Int)::row gd (bvs s.last.flatten) 5::pt gm (mapO (es.map PEnt.ent) clock)::stars (es.map PEnt.ast)::L)|_=>St F w0 w_ (vec 31 1 c_.2 1 [sl g5 0 512 512]::row c_.1 #[sl g5 0 512 512] 31::row g5 (bvs d) 5::dR g gd (512*s.last.length) gm false left s.life s.rd s.wr s.fl s.rf (s.pend.length:Int)::row gd (bvs s.last.flatten) 5::pt gm (mapO (es.map PEnt.ent) clock)::stars (es.map PEnt.ast)::L):Prop)) (0,undef) kr_ kr_ kr_ kr_ (S12.drew) ?_ ?_ ?_
   ·intro i_ c_ p_ vals_ w1 hi_ hiE_ hp_ hk_ hu_ hPh_ hd_
    rcases i_ with _|_|_|_|_|_|_|_|_|_|_|_|_|_|i_
    ·exact tG_ rfl hd_ (gV (pq g) ⟨rfl,rfl⟩)
    ·exact tG_ rfl hd_ (gV (pq g) ⟨rfl,rfl⟩)
    ·exact tG_ rfl hd_ (gV (po g 1) ⟨rfl,rfl⟩)
    ·rcases p_ with _|_|_|p_
     ·have S16:=St.id hPh_
      exact tG_ rfl hd_ (gL (.map (some gm)) rfl (((S16.blk 2 rfl).cell 1).trans rfl) ⟨rfl,rfl⟩)
     ·have S17:=St.id hPh_
      exact tG_ rfl hd_ (gL (.map (some gm)) rfl (((S17.blk 3 rfl).cell 1).trans rfl) ⟨rfl,rfl⟩)
     ·have S18:=St.id hPh_
      exact tG_ rfl hd_ (gL (.map (some gm)) rfl (((S18.blk 3 rfl).cell 1).trans rfl) ⟨rfl,rfl⟩)
     ·exact absurd hp_ (by simp)
    ·exact tG_ rfl hd_ (gV (nI_ k) ⟨rfl,rfl⟩)
    ·exact tG_ rfl hd_ (gV (pq g) ⟨rfl,rfl⟩)
    ·exact tG_ rfl hd_ (gV (pq g) ⟨rfl,rfl⟩)
    ·exact tG_ rfl hd_ (gV (po g 1) ⟨rfl,rfl⟩)
    ·rcases p_ with _|_|_|p_
     ·have S23:=St.id hPh_
      exact tG_ rfl hd_ (gL (.map (some gm)) rfl (((S23.blk 2 rfl).cell 1).trans rfl) ⟨rfl,rfl⟩)
     ·have S24:=St.id hPh_
      exact tG_ rfl hd_ (gL (.map (some gm)) rfl (((S24.blk 3 rfl).cell 1).trans rfl) ⟨rfl,rfl⟩)
     ·exact absurd (hu_ 1 dc_ kr_) dc_
     ·exact absurd hp_ (by simp)
    ·exact tG_ rfl hd_ (gV (nI_ k) ⟨rfl,rfl⟩)
    ·rcases p_ with _|_|_|p_
     ·have S26:=St.id hPh_
      exact tG_ rfl hd_ (gv_look_none (kT:=3) (eT:=42) (k:=((k:Nat):Int)) (z:=.slice none 0 0) (S26.get 4 rfl) rfl kr_ kr_ kr_ kr_ kr_ hno ⟨rfl,rfl⟩)
     ·have S27:=St.id hPh_
      exact tG_ rfl hd_ (gv_look_none (kT:=3) (eT:=42) (k:=((k:Nat):Int)) (z:=.slice none 0 0) (S27.get 5 rfl) rfl kr_ kr_ kr_ kr_ kr_ hno ⟨rfl,rfl⟩)
     ·exact absurd (hu_ 1 dc_ kr_) dc_
     ·exact absurd hp_ (by simp)
    ·exact tG_ rfl hd_ (gV (sl g5 0 512 512) ⟨rfl,rfl⟩)
    ·exact absurd hiE_ dc_
    ·exact absurd hiE_ dc_
    ·exact absurd hi_ om_
   ·intro k_ c_ vals_ w1 hk_ hPh_ hd_
    rcases k_ with _|_|k_
    ·have S29:=St.id hPh_
     refine tG_ rfl hd_ (gv_slit (e:=31) (sz:=1) (z:=.slice none 0 0) (by_:=24) (vs:=#[(0,sl g5 0 512 512)]) (cells:=#[sl g5 0 512 512]) S29 rfl kr_ ⟨by kernel_rfl⟩ kr_ kr_ kr_ kr_ (fun g30 w31 hg32 S33=>⟨(g30,c_.2),rfl, ?_,S33⟩))
     intro i_ hi_ hne_ hdp_
     rcases i_ with _|_|_|_|_|_|_|_|_|_|_|_|_|_|i_
     ·rfl
     ·rfl
     ·rfl
     ·rfl
     ·rfl
     ·rfl
     ·rfl
     ·rfl
     ·rfl
     ·rfl
     ·rfl
     ·rfl
     ·exact absurd rfl hne_
     ·exact (dep_no hdp_ kr_).elim
     ·exact absurd hi_ om_
    ·have S34:=St.id hPh_
     refine tG_ rfl hd_ (gv_appendW (e:=31) (sz:=1) (n:=0) (v:=(.slice none 0 0)) (vals:=[]) (z:=.slice none 0 0) (by_:=24) (m:=1) (c':=1) (ad:=⟨c_.1,0,none⟩) (news:=[sl g5 0 512 512]) (St.swap S34) rfl kr_ ⟨by kernel_rfl⟩ rfl kr_ kr_ dc_ rfl (row_news (S34.blk 0 rfl)) (by intro u hu;simp at hu;subst hu;rfl) om_ om_ om_ (fun v36 w35 S37=>⟨(c_.1,v36),rfl, ?_,S37⟩))
     intro i_ hi_ hne_ hdp_
     rcases i_ with _|_|_|_|_|_|_|_|_|_|_|_|_|_|i_
     ·rfl
     ·rfl
     ·rfl
     ·rfl
     ·rfl
     ·rfl
     ·rfl
     ·rfl
     ·rfl
     ·rfl
     ·rfl
     ·rfl
     ·rfl
     ·exact absurd rfl hne_
     ·exact absurd hi_ om_
    ·exact absurd hk_ (by simp)
   ·intro c_ w1 hPh_
    have S38:=St.id hPh_
    refine (g_ (gv_put_new (kT:=3) (eT:=42) (g:=gm) (clock:=clock) (es:=es.map PEnt.ent) (k:=((k:Nat):Int)) (v:=c_.2) S38 5 rfl rfl kr_ kr_ kr_ kr_ kr_ hno (L':=(vec 31 1 c_.2 1 [sl g5 0 512 512]::row c_.1 #[sl g5 0 512 512] 31::row g5 (bvs d) 5::dR g gd (512*s.last.length) gm false left s.life s.rd s.wr s.fl s.rf (s.pend.length:Int)::row gd (bvs s.last.flatten) 5::pt gm (mapO (es.map PEnt.ent++[⟨((k:Nat):Int),c_.2,clock⟩]) (clock+1))::stars (es.map PEnt.ast)::L)) rfl (fun w39 S40=>wE ?_)))
    refine nSR (pv (pq g) (pv (pq g) (pv (po g 5) (pv (po g 6) (lR (iv s.wr) S40 3 6 (pv (iv (inc s.wr)) (pv (pq g) (pv (po g 5) (pv (po g 6) (sS S40 3 rfl 6 (iv (inc s.wr)) fun w41 S42=>wER (pv (pq g) (pv (pq g) ?_))))))))))))
    refine pv (po g 5) (pv (po g 9) (lR (iv (s.pend.length:Int)) S42 3 9 (gI .i64 (IntKind.i64.wrap ((s.pend.length:Int)+1)) ((s.pend.length+1:Nat):Int) (wr_eq om_ om_ om_) (pv (pq g) (pv (po g 5) (pv (po g 9) (sS S42 3 rfl 9 (nI_ (s.pend.length+1)) fun w43 S44=>wER (pv (pq g) (g_ (gv_call (args:=#[pq g]) rfl Try.func83 kr_ rfl rfl kr_ ?_))))))))))
    have S45:St F w0 w43 (vec 31 1 c_.2 1 [sl g5 0 512 512]::row g5 (bvs d) 5::dR g gd (512*s.last.length) gm false left s.life s.rd (inc s.wr) s.fl s.rf ((s.pend.length+1:Nat):Int)::row gd (bvs s.last.flatten) 5::pt gm (mapO (es.map PEnt.ent++[⟨((k:Nat):Int),c_.2,clock⟩]) (clock+1))::stars (es.map PEnt.ast)::L):=St.pm 7 [0,2,3,4,5,6] S44
    have em:es.map PEnt.ent++[⟨((k:Nat):Int),c_.2,clock⟩]=(es++[(⟨k,c_.2,clock,[(g5,d)]⟩:PEnt)]).map PEnt.ent:=by rw [List.map_append];rfl
    have S46:St F w0 w43 (dR g gd (512*s.last.length) gm false left s.life s.rd (inc s.wr) s.fl s.rf ((s.pend.length+1:Nat):Int)::row gd (bvs s.last.flatten) 5::pt gm (mapO (es.map PEnt.ent++[⟨((k:Nat):Int),c_.2,clock⟩]) (clock+1))::stars ((es++[(⟨k,c_.2,clock,[(g5,d)]⟩:PEnt)]).map PEnt.ast)::L):=entry_new S45
    rw [em] at S46
    refine Calls.mono (spend_false S46) ?_
    rintro _ w47 ⟨rfl,S48⟩
    refine ⟨_,rfl,(wER (pv (iv 0) (wE (then_n (wp_ret (bA (iv 0) ?_))))))⟩
    have hl1:((s.pend.length+1:Nat):Int)=((s.pend++[(k,d)]).length:Nat):=by rw [List.length_append];rfl
    rw [hl1] at S48
    exact ⟨rfl,St.pclose (gd:=gd) (gm:=gm) (clock:=clock+1) (es:=es++[(⟨k,c_.2,clock,[(g5,d)]⟩:PEnt)]) (fused:=false) (left:=left) (s:={s with pend:=s.pend++[(k,d)],wr:=inc s.wr,left:=spent s.left}) S48 (PFacts.refuse (s':={s with pend:=s.pend++[(k,d)],wr:=inc s.wr,left:=spent s.left}) (PFacts.write_new hf (s':={s with pend:=s.pend++[(k,d)]}) (go:=g5) (d:=d) (v':=c_.2) hp hno hk hd hpn rfl rfl rfl) rfl rfl hdc.symm (fun h=>absurd h (of_decide_eq_false hdc)) hlb)⟩
 ·have hqm:p.ws.length≤s.pend.length:=by
   have h2:p.ws.length=(pendOf s k).length:=by rw [hp,List.length_map]
   have h3:(pendOf s k).length≤s.pend.length:=by unfold pendOf;rw [List.length_map];exact List.length_filter_le _ _
   omega
  subst hat
  rcases hsp with ⟨rfl,hdc,hde⟩|⟨rfl,hdc,hde⟩
  ·change St F w0 w (dR g gd (512*s.last.length) gm true left s.life s.rd s.wr s.fl s.rf (s.pend.length:Int)::row gd (bvs s.last.flatten) 5::pt gm (mapO (es.map PEnt.ent) clock)::stars (es.map PEnt.ast)::L) at S
   refine eN (fr [pq g,nI_ p.at_,.slice A d.length cd] 62) Try.func33 rfl (sR (pv (iv 0) (wE (nS (sR (pv (pq g) (pv (nI_ p.at_) (sP Try.func79 #[pq g,nI_ p.at_] (there_in hb rfl hn2 hk S) fun w1 S2=>pv (iv 0) (wER (pv (iv 0) (dN 0 0 (fun hd3=>False.elim om_) fun _=>wE ?_)))))))))))
   refine nCF (wp_skip (nS (sR (pv (.slice A d.length cd) (pv (iv (d.length:Nat)) (dN (d.length:Nat) 512 (fun hd4=>False.elim om_) fun _=>wE (nCF (wp_skip (nSR (g_ (gv_make (e:=5) (u:=512) (v:=512) (z:=.int .u8 0) (sz:=1) (by_:=1) (n:=512) (c:=512) (cs:=(bvs (List.replicate 512 0))) S2 rfl kr_ ⟨by kernel_rfl⟩ kr_ kr_ rfl rfl (Nat.le_refl _) dc_ dc_ (mk_bytes _) (fun g5 w6 hg7 S8=>pv (sl g5 0 512 512) (wER ?_)))))))))))))
   refine pv (sl g5 0 512 512) (pv (.slice A d.length cd) (g_ (gv_copy (e:=5) (off:=0) (dLen:=512) (dCap:=512) (sLen:=d.length) (sCap:=cd) (A:=A) (B:=(List.replicate 512 0)) (l:=d) S8 0 rfl rfl kr_ kr_ kr_ kr_ rfl (hr.out _ [row g5 (bvs (List.replicate 512 0)) 5,dR g gd (512*s.last.length) gm true left s.life s.rd s.wr s.fl s.rf (s.pend.length:Int),row gd (bvs s.last.flatten) 5,pt gm (mapO (es.map PEnt.ent) clock),stars (es.map PEnt.ast)] S8) (by simp) (L':=(row g5 (bvs d) 5::dR g gd (512*s.last.length) gm true left s.life s.rd s.wr s.fl s.rf (s.pend.length:Int)::row gd (bvs s.last.flatten) 5::pt gm (mapO (es.map PEnt.ent) clock)::stars (es.map PEnt.ast)::L)) (by rw [copy512 hd];rfl) (fun w9 m11 S10=>wE (nS ?_)))))
   have S12:St F w0 w9 (vec 31 1 p.v p.ws.length (p.ws.map PEnt.val)::stars (p.ws.map PEnt.row)::stars ((es.take j).map PEnt.ast)::stars ((es.drop (j+1)).map PEnt.ast)::row g5 (bvs d) 5::dR g gd (512*s.last.length) gm true left s.life s.rd s.wr s.fl s.rf (s.pend.length:Int)::row gd (bvs s.last.flatten) 5::pt gm (mapO (es.map PEnt.ent) clock)::L):=entry_out [row g5 (bvs d) 5,dR g gd (512*s.last.length) gm true left s.life s.rd s.wr s.fl s.rf (s.pend.length:Int),row gd (bvs s.last.flatten) 5,pt gm (mapO (es.map PEnt.ent) clock)] S10 hj
   refine wp_region_phu (γ:=Nat×Value) 14 [12,13] (fun (c_:Nat×Value) (i_:Nat)=>(match i_ with|0=>pq g|1=>pq g|2=>po g 1|3=>.map (some gm)|4=>nI_ p.at_|5=>pq g|6=>pq g|7=>po g 1|8=>.map (some gm)|9=>nI_ p.at_|10=>p.v|11=>sl g5 0 512 512|12=>sl c_.1 0 1 1|13=>c_.2|_=>undef:Value)) (fun (c_:Nat×Value) (p_:Nat) (w_:World)=>(match p_ with|0=>St F w0 w_ (vec 31 1 p.v p.ws.length (p.ws.map PEnt.val)::stars (p.ws.map PEnt.row)::stars ((es.take j).map PEnt.ast)::stars ((es.drop (j+1)).map PEnt.ast)::row g5 (bvs d) 5::dR g gd (512*s.last.length) gm true left s.life s.rd s.wr s.fl s.rf (s.pend.length:Int)::row gd (bvs s.last.flatten) 5::pt gm (mapO (es.map PEnt.ent) clock)::L)|1=>St F w0 w_ (row c_.1 #[sl g5 0 512 512] 31::vec 31 1 p.v p.ws.length (p.ws.map PEnt.val)::stars (p.ws.map PEnt.row)::stars ((es.take j).map PEnt.ast)::stars ((es.drop (j+1)).map PEnt.ast)::row g5 (bvs d) 5::dR g gd (512*s.last.length) gm true left s.life s.rd s.wr s.fl s.rf (s.pend.length:Int)::row gd (bvs s.last.flatten) 5::pt gm (mapO (es.map PEnt.ent) clock)::L)|_=>St F w0 w_ (vec 31 1 c_.2 (p.ws.length+1) (p.ws.map PEnt.val++[sl g5 0 512 512])::row c_.1 #[sl g5 0 512 512] 31::stars (p.ws.map PEnt.row)::stars ((es.take j).map PEnt.ast)::stars ((es.drop (j+1)).map PEnt.ast)::row g5 (bvs d) 5::dR g gd (512*s.last.length) gm true left s.life s.rd s.wr s.fl s.rf (s.pend.length:Int)::row gd (bvs s.last.flatten) 5::pt gm (mapO (es.map PEnt.ent) clock)::L):Prop)) (0,undef) kr_ kr_ kr_ kr_ (S12.drew) ?_ ?_ ?_
   ·intro i_ c_ p_ vals_ w1 hi_ hiE_ hp_ hk_ hu_ hPh_ hd_
    rcases i_ with _|_|_|_|_|_|_|_|_|_|_|_|_|_|i_
    ·exact tG_ rfl hd_ (gV (pq g) ⟨rfl,rfl⟩)
    ·exact tG_ rfl hd_ (gV (pq g) ⟨rfl,rfl⟩)
    ·exact tG_ rfl hd_ (gV (po g 1) ⟨rfl,rfl⟩)
    ·rcases p_ with _|_|_|p_
     ·have S16:=St.id hPh_
      exact tG_ rfl hd_ (gL (.map (some gm)) rfl (((S16.blk 5 rfl).cell 1).trans rfl) ⟨rfl,rfl⟩)
     ·have S17:=St.id hPh_
      exact tG_ rfl hd_ (gL (.map (some gm)) rfl (((S17.blk 6 rfl).cell 1).trans rfl) ⟨rfl,rfl⟩)
     ·have S18:=St.id hPh_
      exact tG_ rfl hd_ (gL (.map (some gm)) rfl (((S18.blk 6 rfl).cell 1).trans rfl) ⟨rfl,rfl⟩)
     ·exact absurd hp_ (by simp)
    ·exact tG_ rfl hd_ (gV (nI_ p.at_) ⟨rfl,rfl⟩)
    ·exact tG_ rfl hd_ (gV (pq g) ⟨rfl,rfl⟩)
    ·exact tG_ rfl hd_ (gV (pq g) ⟨rfl,rfl⟩)
    ·exact tG_ rfl hd_ (gV (po g 1) ⟨rfl,rfl⟩)
    ·rcases p_ with _|_|_|p_
     ·have S23:=St.id hPh_
      exact tG_ rfl hd_ (gL (.map (some gm)) rfl (((S23.blk 5 rfl).cell 1).trans rfl) ⟨rfl,rfl⟩)
     ·have S24:=St.id hPh_
      exact tG_ rfl hd_ (gL (.map (some gm)) rfl (((S24.blk 6 rfl).cell 1).trans rfl) ⟨rfl,rfl⟩)
     ·exact absurd (hu_ 1 dc_ kr_) dc_
     ·exact absurd hp_ (by simp)
    ·exact tG_ rfl hd_ (gV (nI_ p.at_) ⟨rfl,rfl⟩)
    ·rcases p_ with _|_|_|p_
     ·have S26:=St.id hPh_
      exact tG_ rfl hd_ (gv_look_some (kT:=3) (eT:=42) (k:=((p.at_:Nat):Int)) (S26.get 7 rfl) rfl kr_ kr_ kr_ kr_ hje hke hfe ⟨rfl,rfl⟩)
     ·have S27:=St.id hPh_
      exact tG_ rfl hd_ (gv_look_some (kT:=3) (eT:=42) (k:=((p.at_:Nat):Int)) (S27.get 8 rfl) rfl kr_ kr_ kr_ kr_ hje hke hfe ⟨rfl,rfl⟩)
     ·exact absurd (hu_ 1 dc_ kr_) dc_
     ·exact absurd hp_ (by simp)
    ·exact tG_ rfl hd_ (gV (sl g5 0 512 512) ⟨rfl,rfl⟩)
    ·exact absurd hiE_ dc_
    ·exact absurd hiE_ dc_
    ·exact absurd hi_ om_
   ·intro k_ c_ vals_ w1 hk_ hPh_ hd_
    rcases k_ with _|_|k_
    ·have S29:=St.id hPh_
     refine tG_ rfl hd_ (gv_slit (e:=31) (sz:=1) (z:=.slice none 0 0) (by_:=24) (vs:=#[(0,sl g5 0 512 512)]) (cells:=#[sl g5 0 512 512]) S29 rfl kr_ ⟨by kernel_rfl⟩ kr_ kr_ kr_ kr_ (fun g30 w31 hg32 S33=>⟨(g30,c_.2),rfl, ?_,S33⟩))
     intro i_ hi_ hne_ hdp_
     rcases i_ with _|_|_|_|_|_|_|_|_|_|_|_|_|_|i_
     ·rfl
     ·rfl
     ·rfl
     ·rfl
     ·rfl
     ·rfl
     ·rfl
     ·rfl
     ·rfl
     ·rfl
     ·rfl
     ·rfl
     ·exact absurd rfl hne_
     ·exact (dep_no hdp_ kr_).elim
     ·exact absurd hi_ om_
    ·have S34:=St.id hPh_
     refine tG_ rfl hd_ (gv_appendW (e:=31) (sz:=1) (n:=p.ws.length) (v:=p.v) (vals:=(p.ws.map PEnt.val)) (z:=.slice none 0 0) (by_:=24) (m:=1) (c':=1) (ad:=⟨c_.1,0,none⟩) (news:=[sl g5 0 512 512]) (St.swap S34) rfl kr_ ⟨by kernel_rfl⟩ rfl kr_ kr_ dc_ rfl (row_news (S34.blk 0 rfl)) (by intro u hu;simp at hu;subst hu;rfl) om_ om_ om_ (fun v36 w35 S37=>⟨(c_.1,v36),rfl, ?_,S37⟩))
     intro i_ hi_ hne_ hdp_
     rcases i_ with _|_|_|_|_|_|_|_|_|_|_|_|_|_|i_
     ·rfl
     ·rfl
     ·rfl
     ·rfl
     ·rfl
     ·rfl
     ·rfl
     ·rfl
     ·rfl
     ·rfl
     ·rfl
     ·rfl
     ·rfl
     ·exact absurd rfl hne_
     ·exact absurd hi_ om_
    ·exact absurd hk_ (by simp)
   ·intro c_ w1 hPh_
    have S38:=St.id hPh_
    refine (g_ (gv_put_old (kT:=3) (eT:=42) (g:=gm) (clock:=clock) (es:=es.map PEnt.ent) (k:=((p.at_:Nat):Int)) (v:=c_.2) S38 8 rfl rfl kr_ kr_ kr_ kr_ kr_ hje hke hfe (L':=(vec 31 1 c_.2 (p.ws.length+1) (p.ws.map PEnt.val++[sl g5 0 512 512])::row c_.1 #[sl g5 0 512 512] 31::stars (p.ws.map PEnt.row)::stars ((es.take j).map PEnt.ast)::stars ((es.drop (j+1)).map PEnt.ast)::row g5 (bvs d) 5::dR g gd (512*s.last.length) gm true left s.life s.rd s.wr s.fl s.rf (s.pend.length:Int)::row gd (bvs s.last.flatten) 5::pt gm (mapO ((es.map PEnt.ent).set j ⟨((p.at_:Nat):Int),c_.2,p.b⟩) clock)::L)) rfl (fun w39 S40=>wE ?_)))
    refine nSR (pv (pq g) (pv (pq g) (pv (po g 5) (pv (po g 6) (lR (iv s.wr) S40 6 6 (pv (iv (inc s.wr)) (pv (pq g) (pv (po g 5) (pv (po g 6) (sS S40 6 rfl 6 (iv (inc s.wr)) fun w41 S42=>wER (pv (pq g) (pv (pq g) ?_))))))))))))
    refine pv (po g 5) (pv (po g 9) (lR (iv (s.pend.length:Int)) S42 6 9 (gI .i64 (IntKind.i64.wrap ((s.pend.length:Int)+1)) ((s.pend.length+1:Nat):Int) (wr_eq om_ om_ om_) (pv (pq g) (pv (po g 5) (pv (po g 9) (sS S42 6 rfl 9 (nI_ (s.pend.length+1)) fun w43 S44=>wER (pv (pq g) (g_ (gv_call (args:=#[pq g]) rfl Try.func83 kr_ rfl rfl kr_ ?_))))))))))
    have S45:St F w0 w43 (vec 31 1 c_.2 (p.ws.length+1) (p.ws.map PEnt.val++[sl g5 0 512 512])::stars (p.ws.map PEnt.row)::stars ((es.take j).map PEnt.ast)::stars ((es.drop (j+1)).map PEnt.ast)::row g5 (bvs d) 5::dR g gd (512*s.last.length) gm true left s.life s.rd (inc s.wr) s.fl s.rf ((s.pend.length+1:Nat):Int)::row gd (bvs s.last.flatten) 5::pt gm (mapO ((es.map PEnt.ent).set j ⟨((p.at_:Nat):Int),c_.2,p.b⟩) clock)::L):=St.pm 9 [0,2,3,4,5,6,7,8] S44
    have em:(es.map PEnt.ent).set j ⟨((p.at_:Nat):Int),c_.2,p.b⟩=(es.set j ⟨p.at_,c_.2,p.b,p.ws++[(g5,d)]⟩).map PEnt.ent:=by rw [map_set];rfl
    have S46:St F w0 w43 (dR g gd (512*s.last.length) gm true left s.life s.rd (inc s.wr) s.fl s.rf ((s.pend.length+1:Nat):Int)::row gd (bvs s.last.flatten) 5::pt gm (mapO ((es.map PEnt.ent).set j ⟨((p.at_:Nat):Int),c_.2,p.b⟩) clock)::stars ((es.set j ⟨p.at_,c_.2,p.b,p.ws++[(g5,d)]⟩).map PEnt.ast)::L):=entry_in hj S45
    rw [em] at S46
    refine Calls.mono (spend_true S46) ?_
    rintro _ w47 ⟨rfl,S48⟩
    refine ⟨_,rfl,(wER (pv (iv 0) (wE (then_n (wp_ret (bA (iv 0) ?_))))))⟩
    have hl1:((s.pend.length+1:Nat):Int)=((s.pend++[(p.at_,d)]).length:Nat):=by rw [List.length_append];rfl
    rw [hl1] at S48
    exact ⟨rfl,St.pclose (gd:=gd) (gm:=gm) (clock:=clock) (es:=es.set j ⟨p.at_,c_.2,p.b,p.ws++[(g5,d)]⟩) (fused:=true) (left:=dec left) (s:={s with pend:=s.pend++[(p.at_,d)],wr:=inc s.wr,left:=spent s.left}) S48 (PFacts.refuse (s':={s with pend:=s.pend++[(p.at_,d)],wr:=inc s.wr,left:=spent s.left}) (PFacts.write_old hf (s':={s with pend:=s.pend++[(p.at_,d)]}) (go:=g5) (d:=d) (v':=c_.2) hj rfl hk hd hpn rfl rfl rfl) rfl rfl hdc.symm (fun _=>hde) hlb)⟩
  ·change St F w0 w (dR g gd (512*s.last.length) gm false left s.life s.rd s.wr s.fl s.rf (s.pend.length:Int)::row gd (bvs s.last.flatten) 5::pt gm (mapO (es.map PEnt.ent) clock)::stars (es.map PEnt.ast)::L) at S
   refine eN (fr [pq g,nI_ p.at_,.slice A d.length cd] 62) Try.func33 rfl (sR (pv (iv 0) (wE (nS (sR (pv (pq g) (pv (nI_ p.at_) (sP Try.func79 #[pq g,nI_ p.at_] (there_in hb rfl hn2 hk S) fun w1 S2=>pv (iv 0) (wER (pv (iv 0) (dN 0 0 (fun hd3=>False.elim om_) fun _=>wE ?_)))))))))))
   refine nCF (wp_skip (nS (sR (pv (.slice A d.length cd) (pv (iv (d.length:Nat)) (dN (d.length:Nat) 512 (fun hd4=>False.elim om_) fun _=>wE (nCF (wp_skip (nSR (g_ (gv_make (e:=5) (u:=512) (v:=512) (z:=.int .u8 0) (sz:=1) (by_:=1) (n:=512) (c:=512) (cs:=(bvs (List.replicate 512 0))) S2 rfl kr_ ⟨by kernel_rfl⟩ kr_ kr_ rfl rfl (Nat.le_refl _) dc_ dc_ (mk_bytes _) (fun g5 w6 hg7 S8=>pv (sl g5 0 512 512) (wER ?_)))))))))))))
   refine pv (sl g5 0 512 512) (pv (.slice A d.length cd) (g_ (gv_copy (e:=5) (off:=0) (dLen:=512) (dCap:=512) (sLen:=d.length) (sCap:=cd) (A:=A) (B:=(List.replicate 512 0)) (l:=d) S8 0 rfl rfl kr_ kr_ kr_ kr_ rfl (hr.out _ [row g5 (bvs (List.replicate 512 0)) 5,dR g gd (512*s.last.length) gm false left s.life s.rd s.wr s.fl s.rf (s.pend.length:Int),row gd (bvs s.last.flatten) 5,pt gm (mapO (es.map PEnt.ent) clock),stars (es.map PEnt.ast)] S8) (by simp) (L':=(row g5 (bvs d) 5::dR g gd (512*s.last.length) gm false left s.life s.rd s.wr s.fl s.rf (s.pend.length:Int)::row gd (bvs s.last.flatten) 5::pt gm (mapO (es.map PEnt.ent) clock)::stars (es.map PEnt.ast)::L)) (by rw [copy512 hd];rfl) (fun w9 m11 S10=>wE (nS ?_)))))
   have S12:St F w0 w9 (vec 31 1 p.v p.ws.length (p.ws.map PEnt.val)::stars (p.ws.map PEnt.row)::stars ((es.take j).map PEnt.ast)::stars ((es.drop (j+1)).map PEnt.ast)::row g5 (bvs d) 5::dR g gd (512*s.last.length) gm false left s.life s.rd s.wr s.fl s.rf (s.pend.length:Int)::row gd (bvs s.last.flatten) 5::pt gm (mapO (es.map PEnt.ent) clock)::L):=entry_out [row g5 (bvs d) 5,dR g gd (512*s.last.length) gm false left s.life s.rd s.wr s.fl s.rf (s.pend.length:Int),row gd (bvs s.last.flatten) 5,pt gm (mapO (es.map PEnt.ent) clock)] S10 hj
   refine wp_region_phu (γ:=Nat×Value) 14 [12,13] (fun (c_:Nat×Value) (i_:Nat)=>(match i_ with|0=>pq g|1=>pq g|2=>po g 1|3=>.map (some gm)|4=>nI_ p.at_|5=>pq g|6=>pq g|7=>po g 1|8=>.map (some gm)|9=>nI_ p.at_|10=>p.v|11=>sl g5 0 512 512|12=>sl c_.1 0 1 1|13=>c_.2|_=>undef:Value)) (fun (c_:Nat×Value) (p_:Nat) (w_:World)=>(match p_ with|0=>St F w0 w_ (vec 31 1 p.v p.ws.length (p.ws.map PEnt.val)::stars (p.ws.map PEnt.row)::stars ((es.take j).map PEnt.ast)::stars ((es.drop (j+1)).map PEnt.ast)::row g5 (bvs d) 5::dR g gd (512*s.last.length) gm false left s.life s.rd s.wr s.fl s.rf (s.pend.length:Int)::row gd (bvs s.last.flatten) 5::pt gm (mapO (es.map PEnt.ent) clock)::L)|1=>St F w0 w_ (row c_.1 #[sl g5 0 512 512] 31::vec 31 1 p.v p.ws.length (p.ws.map PEnt.val)::stars (p.ws.map PEnt.row)::stars ((es.take j).map PEnt.ast)::stars ((es.drop (j+1)).map PEnt.ast)::row g5 (bvs d) 5::dR g gd (512*s.last.length) gm false left s.life s.rd s.wr s.fl s.rf (s.pend.length:Int)::row gd (bvs s.last.flatten) 5::pt gm (mapO (es.map PEnt.ent) clock)::L)|_=>St F w0 w_ (vec 31 1 c_.2 (p.ws.length+1) (p.ws.map PEnt.val++[sl g5 0 512 512])::row c_.1 #[sl g5 0 512 512] 31::stars (p.ws.map PEnt.row)::stars ((es.take j).map PEnt.ast)::stars ((es.drop (j+1)).map PEnt.ast)::row g5 (bvs d) 5::dR g gd (512*s.last.length) gm false left s.life s.rd s.wr s.fl s.rf (s.pend.length:Int)::row gd (bvs s.last.flatten) 5::pt gm (mapO (es.map PEnt.ent) clock)::L):Prop)) (0,undef) kr_ kr_ kr_ kr_ (S12.drew) ?_ ?_ ?_
   ·intro i_ c_ p_ vals_ w1 hi_ hiE_ hp_ hk_ hu_ hPh_ hd_
    rcases i_ with _|_|_|_|_|_|_|_|_|_|_|_|_|_|i_
    ·exact tG_ rfl hd_ (gV (pq g) ⟨rfl,rfl⟩)
    ·exact tG_ rfl hd_ (gV (pq g) ⟨rfl,rfl⟩)
    ·exact tG_ rfl hd_ (gV (po g 1) ⟨rfl,rfl⟩)
    ·rcases p_ with _|_|_|p_
     ·have S16:=St.id hPh_
      exact tG_ rfl hd_ (gL (.map (some gm)) rfl (((S16.blk 5 rfl).cell 1).trans rfl) ⟨rfl,rfl⟩)
     ·have S17:=St.id hPh_
      exact tG_ rfl hd_ (gL (.map (some gm)) rfl (((S17.blk 6 rfl).cell 1).trans rfl) ⟨rfl,rfl⟩)
     ·have S18:=St.id hPh_
      exact tG_ rfl hd_ (gL (.map (some gm)) rfl (((S18.blk 6 rfl).cell 1).trans rfl) ⟨rfl,rfl⟩)
     ·exact absurd hp_ (by simp)
    ·exact tG_ rfl hd_ (gV (nI_ p.at_) ⟨rfl,rfl⟩)
    ·exact tG_ rfl hd_ (gV (pq g) ⟨rfl,rfl⟩)
    ·exact tG_ rfl hd_ (gV (pq g) ⟨rfl,rfl⟩)
    ·exact tG_ rfl hd_ (gV (po g 1) ⟨rfl,rfl⟩)
    ·rcases p_ with _|_|_|p_
     ·have S23:=St.id hPh_
      exact tG_ rfl hd_ (gL (.map (some gm)) rfl (((S23.blk 5 rfl).cell 1).trans rfl) ⟨rfl,rfl⟩)
     ·have S24:=St.id hPh_
      exact tG_ rfl hd_ (gL (.map (some gm)) rfl (((S24.blk 6 rfl).cell 1).trans rfl) ⟨rfl,rfl⟩)
     ·exact absurd (hu_ 1 dc_ kr_) dc_
     ·exact absurd hp_ (by simp)
    ·exact tG_ rfl hd_ (gV (nI_ p.at_) ⟨rfl,rfl⟩)
    ·rcases p_ with _|_|_|p_
     ·have S26:=St.id hPh_
      exact tG_ rfl hd_ (gv_look_some (kT:=3) (eT:=42) (k:=((p.at_:Nat):Int)) (S26.get 7 rfl) rfl kr_ kr_ kr_ kr_ hje hke hfe ⟨rfl,rfl⟩)
     ·have S27:=St.id hPh_
      exact tG_ rfl hd_ (gv_look_some (kT:=3) (eT:=42) (k:=((p.at_:Nat):Int)) (S27.get 8 rfl) rfl kr_ kr_ kr_ kr_ hje hke hfe ⟨rfl,rfl⟩)
     ·exact absurd (hu_ 1 dc_ kr_) dc_
     ·exact absurd hp_ (by simp)
    ·exact tG_ rfl hd_ (gV (sl g5 0 512 512) ⟨rfl,rfl⟩)
    ·exact absurd hiE_ dc_
    ·exact absurd hiE_ dc_
    ·exact absurd hi_ om_
   ·intro k_ c_ vals_ w1 hk_ hPh_ hd_
    rcases k_ with _|_|k_
    ·have S29:=St.id hPh_
     refine tG_ rfl hd_ (gv_slit (e:=31) (sz:=1) (z:=.slice none 0 0) (by_:=24) (vs:=#[(0,sl g5 0 512 512)]) (cells:=#[sl g5 0 512 512]) S29 rfl kr_ ⟨by kernel_rfl⟩ kr_ kr_ kr_ kr_ (fun g30 w31 hg32 S33=>⟨(g30,c_.2),rfl, ?_,S33⟩))
     intro i_ hi_ hne_ hdp_
     rcases i_ with _|_|_|_|_|_|_|_|_|_|_|_|_|_|i_
     ·rfl
     ·rfl
     ·rfl
     ·rfl
     ·rfl
     ·rfl
     ·rfl
     ·rfl
     ·rfl
     ·rfl
     ·rfl
     ·rfl
     ·exact absurd rfl hne_
     ·exact (dep_no hdp_ kr_).elim
     ·exact absurd hi_ om_
    ·have S34:=St.id hPh_
     refine tG_ rfl hd_ (gv_appendW (e:=31) (sz:=1) (n:=p.ws.length) (v:=p.v) (vals:=(p.ws.map PEnt.val)) (z:=.slice none 0 0) (by_:=24) (m:=1) (c':=1) (ad:=⟨c_.1,0,none⟩) (news:=[sl g5 0 512 512]) (St.swap S34) rfl kr_ ⟨by kernel_rfl⟩ rfl kr_ kr_ dc_ rfl (row_news (S34.blk 0 rfl)) (by intro u hu;simp at hu;subst hu;rfl) om_ om_ om_ (fun v36 w35 S37=>⟨(c_.1,v36),rfl, ?_,S37⟩))
     intro i_ hi_ hne_ hdp_
     rcases i_ with _|_|_|_|_|_|_|_|_|_|_|_|_|_|i_
     ·rfl
     ·rfl
     ·rfl
     ·rfl
     ·rfl
     ·rfl
     ·rfl
     ·rfl
     ·rfl
     ·rfl
     ·rfl
     ·rfl
     ·rfl
     ·exact absurd rfl hne_
     ·exact absurd hi_ om_
    ·exact absurd hk_ (by simp)
   ·intro c_ w1 hPh_
    have S38:=St.id hPh_
    refine (g_ (gv_put_old (kT:=3) (eT:=42) (g:=gm) (clock:=clock) (es:=es.map PEnt.ent) (k:=((p.at_:Nat):Int)) (v:=c_.2) S38 8 rfl rfl kr_ kr_ kr_ kr_ kr_ hje hke hfe (L':=(vec 31 1 c_.2 (p.ws.length+1) (p.ws.map PEnt.val++[sl g5 0 512 512])::row c_.1 #[sl g5 0 512 512] 31::stars (p.ws.map PEnt.row)::stars ((es.take j).map PEnt.ast)::stars ((es.drop (j+1)).map PEnt.ast)::row g5 (bvs d) 5::dR g gd (512*s.last.length) gm false left s.life s.rd s.wr s.fl s.rf (s.pend.length:Int)::row gd (bvs s.last.flatten) 5::pt gm (mapO ((es.map PEnt.ent).set j ⟨((p.at_:Nat):Int),c_.2,p.b⟩) clock)::L)) rfl (fun w39 S40=>wE ?_)))
    refine nSR (pv (pq g) (pv (pq g) (pv (po g 5) (pv (po g 6) (lR (iv s.wr) S40 6 6 (pv (iv (inc s.wr)) (pv (pq g) (pv (po g 5) (pv (po g 6) (sS S40 6 rfl 6 (iv (inc s.wr)) fun w41 S42=>wER (pv (pq g) (pv (pq g) ?_))))))))))))
    refine pv (po g 5) (pv (po g 9) (lR (iv (s.pend.length:Int)) S42 6 9 (gI .i64 (IntKind.i64.wrap ((s.pend.length:Int)+1)) ((s.pend.length+1:Nat):Int) (wr_eq om_ om_ om_) (pv (pq g) (pv (po g 5) (pv (po g 9) (sS S42 6 rfl 9 (nI_ (s.pend.length+1)) fun w43 S44=>wER (pv (pq g) (g_ (gv_call (args:=#[pq g]) rfl Try.func83 kr_ rfl rfl kr_ ?_))))))))))
    have S45:St F w0 w43 (vec 31 1 c_.2 (p.ws.length+1) (p.ws.map PEnt.val++[sl g5 0 512 512])::stars (p.ws.map PEnt.row)::stars ((es.take j).map PEnt.ast)::stars ((es.drop (j+1)).map PEnt.ast)::row g5 (bvs d) 5::dR g gd (512*s.last.length) gm false left s.life s.rd (inc s.wr) s.fl s.rf ((s.pend.length+1:Nat):Int)::row gd (bvs s.last.flatten) 5::pt gm (mapO ((es.map PEnt.ent).set j ⟨((p.at_:Nat):Int),c_.2,p.b⟩) clock)::L):=St.pm 9 [0,2,3,4,5,6,7,8] S44
    have em:(es.map PEnt.ent).set j ⟨((p.at_:Nat):Int),c_.2,p.b⟩=(es.set j ⟨p.at_,c_.2,p.b,p.ws++[(g5,d)]⟩).map PEnt.ent:=by rw [map_set];rfl
    have S46:St F w0 w43 (dR g gd (512*s.last.length) gm false left s.life s.rd (inc s.wr) s.fl s.rf ((s.pend.length+1:Nat):Int)::row gd (bvs s.last.flatten) 5::pt gm (mapO ((es.map PEnt.ent).set j ⟨((p.at_:Nat):Int),c_.2,p.b⟩) clock)::stars ((es.set j ⟨p.at_,c_.2,p.b,p.ws++[(g5,d)]⟩).map PEnt.ast)::L):=entry_in hj S45
    rw [em] at S46
    refine Calls.mono (spend_false S46) ?_
    rintro _ w47 ⟨rfl,S48⟩
    refine ⟨_,rfl,(wER (pv (iv 0) (wE (then_n (wp_ret (bA (iv 0) ?_))))))⟩
    have hl1:((s.pend.length+1:Nat):Int)=((s.pend++[(p.at_,d)]).length:Nat):=by rw [List.length_append];rfl
    rw [hl1] at S48
    exact ⟨rfl,St.pclose (gd:=gd) (gm:=gm) (clock:=clock) (es:=es.set j ⟨p.at_,c_.2,p.b,p.ws++[(g5,d)]⟩) (fused:=false) (left:=left) (s:={s with pend:=s.pend++[(p.at_,d)],wr:=inc s.wr,left:=spent s.left}) S48 (PFacts.refuse (s':={s with pend:=s.pend++[(p.at_,d)],wr:=inc s.wr,left:=spent s.left}) (PFacts.write_old hf (s':={s with pend:=s.pend++[(p.at_,d)]}) (go:=g5) (d:=d) (v':=c_.2) hj rfl hk hd hpn rfl rfl rfl) rfl rfl hdc.symm (fun h=>absurd h (of_decide_eq_false hdc)) hlb)⟩
theorem rd_read {at_:Int}{F:Nat→Prop}{w0 w:World}{L:List Ast}{g:Nat}{s:Dsk}(S:St F w0 w (RDisk g s::L)):Calls Try.prog 27 #[.pointer (some ⟨g,0,none⟩),.int .i64 at_] w fun e w'=>∃v,e=.returned (.tuple #[v,.int .i64 (s.readR at_).2.2])∧St F w0 w' (bytesA v (s.readR at_).2.1::RDisk g (s.readR at_).1::L):=by
 obtain ⟨gl,cl,c2,A2,junk,LL,PP,pool,hf,hcl,hju,S⟩:=St.ropen S
 have hn2:=hf.n2
 have hll:=hf.ll
 have hpp:=hf.pp
 have hpn:=hf.pn
 by_cases hz:s.left=0
 ·have e:s.readR at_=(s,[],3):=by unfold Dsk.readR;rw [if_pos hz]
  rw [e]
  change St F w0 w (rR2 g gl LL.length cl (.slice A2 PP.length c2) s.left s.life s.rd s.wr s.fl s.rf 0::row gl ((LL.map PEnt.val++junk).toArray) 31::vec 143 2 (.slice A2 PP.length c2) PP.length (putsV PP)::stars (pool.map PEnt.row)::L) at S
  refine eN (fr [pq g,iv at_] 44) Try.func27 rfl (sR (pv (.slice none 0 0) (pv (iv 0) (wE (nS (sR (pv (pq g) (pv (pq g) (pv (po g 2) (lR (iv s.left) S 0 2 (dE s.left 0 (fun _=>wE (nCT ?_)) fun hd1=>False.elim (absurd hz hd1))))))))))))
  exact sR (pv (.slice none 0 0) (pv (iv 3) (wE (then_n (rR (bB (.slice none 0 0) (iv 3) ⟨_,rfl,St.bytes_nil (St.rclose (gl:=gl) (cl:=cl) (c2:=c2) (A2:=A2) (junk:=junk) (LL:=LL) (PP:=PP) (pool:=pool) (s:=s) S (hf.upd rfl rfl hf.lb) hcl hju)⟩))))))
 by_cases ho:at_<0∨(s.last.length:Int)≤at_
 ·have e:s.readR at_=({s with rf:=inc s.rf},[],11):=by unfold Dsk.readR;rw [if_neg hz,if_pos ho]
  rw [e]
  change St F w0 w (rR2 g gl LL.length cl (.slice A2 PP.length c2) s.left s.life s.rd s.wr s.fl s.rf 0::row gl ((LL.map PEnt.val++junk).toArray) 31::vec 143 2 (.slice A2 PP.length c2) PP.length (putsV PP)::stars (pool.map PEnt.row)::L) at S
  refine eN (fr [pq g,iv at_] 44) Try.func27 rfl (sR (pv (.slice none 0 0) (pv (iv 0) (wE (nS (sR (pv (pq g) (pv (pq g) (pv (po g 2) (lR (iv s.left) S 0 2 (dE s.left 0 (fun hd1=>False.elim (absurd hd1 hz)) fun _=>wE (nCF ?_))))))))))))
  refine wp_skip (nS (sR (pv (iv at_) (dC ((at_:Int)<0) (fun hb2=> ?_) fun hb2=> ?_))))
  ·refine pv tv (wN (wN (wN (wN (wN (wN (wN (pv tv (wE (nCT (sR (pv (pq g) (pv (pq g) ?_)))))))))))))
   refine pv (po g 4) (pv (po g 7) (lR (iv s.rf) S 0 7 (pv (iv (inc s.rf)) (pv (pq g) (pv (po g 4) (pv (po g 7) (sS S 0 rfl 7 (iv (inc s.rf)) fun w3 S4=>wER (pv (.slice none 0 0) (pv (iv 11) (wE (then_n (rR ?_))))))))))))
   exact bB (.slice none 0 0) (iv 11) ⟨_,rfl,St.bytes_nil (St.rclose (gl:=gl) (cl:=cl) (c2:=c2) (A2:=A2) (junk:=junk) (LL:=LL) (PP:=PP) (pool:=pool) (s:={s with rf:=inc s.rf}) S4 (hf.upd rfl rfl hf.lb) hcl hju)⟩
  ·refine pv fv (pW (iv at_) (pW (pq g) (pW (pq g) (pW (pq g) (wl_when kr_ (gv_ldR (v:=sl gl 0 LL.length cl) rfl kr_ kr_ (((S.blk 0 rfl).cell 0).trans rfl) (pW (iv (LL.length:Nat)) (wl_when kr_ (gv_dec (p:=(at_:Int)≥(LL.length:Nat)) kr_ (fun _=>pv tv (wE (nCT (sR (pv (pq g) (pv (pq g) ?_)))))) (fun hd5=>False.elim om_))))))))))
   refine pv (po g 4) (pv (po g 7) (lR (iv s.rf) S 0 7 (pv (iv (inc s.rf)) (pv (pq g) (pv (po g 4) (pv (po g 7) (sS S 0 rfl 7 (iv (inc s.rf)) fun w6 S7=>wER (pv (.slice none 0 0) (pv (iv 11) (wE (then_n (rR ?_))))))))))))
   exact bB (.slice none 0 0) (iv 11) ⟨_,rfl,St.bytes_nil (St.rclose (gl:=gl) (cl:=cl) (c2:=c2) (A2:=A2) (junk:=junk) (LL:=LL) (PP:=PP) (pool:=pool) (s:={s with rf:=inc s.rf}) S7 (hf.upd rfl rfl hf.lb) hcl hju)⟩
 obtain ⟨k,rfl⟩:∃k:Nat,at_=(k:Int):=⟨at_.toNat,by omega⟩
 have hk:k<s.last.length:=by omega
 have e:s.readR (k:Int)=({s with rd:=inc s.rd},s.now k,0):=by unfold Dsk.readR;rw [if_neg hz,if_neg ho,Int.toNat_natCast]
 rw [e]
 have hnl:=hf.now_len hk
 change St F w0 w (rR2 g gl LL.length cl (.slice A2 PP.length c2) s.left s.life s.rd s.wr s.fl s.rf 0::row gl ((LL.map PEnt.val++junk).toArray) 31::vec 143 2 (.slice A2 PP.length c2) PP.length (putsV PP)::stars (pool.map PEnt.row)::L) at S
 refine eN (fr [pq g,nI_ k] 44) Try.func27 rfl (sR (pv (.slice none 0 0) (pv (iv 0) (wE (nS (sR (pv (pq g) (pv (pq g) (pv (po g 2) (lR (iv s.left) S 0 2 (dE s.left 0 (fun hd1=>False.elim (absurd hd1 hz)) fun _=>wE (nCF ?_))))))))))))
 refine wp_skip (nS (sR (pv (nI_ k) (dC ((((k:Nat):Int):Int)<0) (fun hd2=>False.elim om_) fun _=>pv fv (pW (nI_ k) (pW (pq g) (pW (pq g) (pW (pq g) (wl_when kr_ (gv_ldR (v:=sl gl 0 LL.length cl) rfl kr_ kr_ (((S.blk 0 rfl).cell 0).trans rfl) (pW (iv (LL.length:Nat)) (wl_when kr_ (gv_dec (p:=(((k:Nat):Int):Int)≥(LL.length:Nat)) kr_ (fun hd3=>False.elim om_) (fun _=>pv fv ?_))))))))))))))
 refine wE (nCF (wp_skip (nSR (pv (pq g) (pv (pq g) (pv (po g 4) (pv (po g 4) (lR (iv s.rd) S 0 4 (pv (iv (inc s.rd)) (pv (pq g) (pv (po g 4) (pv (po g 4) (sS S 0 rfl 4 (iv (inc s.rd)) fun w4 S5=> ?_)))))))))))))
 refine wER (pv (pq g) (pv (nI_ k) (g_ (gv_call (args:=#[pq g,nI_ k]) rfl Try.func81 kr_ rfl rfl kr_ (Calls.mono (rnow_own (s:={s with rd:=inc s.rd}) S5 (hf.upd rfl rfl hf.lb) hk) ?_)))))
 rintro _ w7 ⟨b6,rfl,hm9,S8⟩
 refine ⟨_,rfl, ?_⟩
 change St F w0 w7 (rR2 g gl LL.length cl (.slice A2 PP.length c2) s.left s.life (inc s.rd) s.wr s.fl s.rf 0::row gl ((LL.map PEnt.val++junk).toArray) 31::vec 143 2 (.slice A2 PP.length c2) PP.length (putsV PP)::stars (pool.map PEnt.row)::L) at S8
 change (b6,s.now k)∈pool at hm9
 exact pv (sl b6 0 512 512) (wER (pv (sl b6 0 512 512) (sP1 Try.func78 #[sl b6 0 512 512] (rtwinS (l:=s.now k) S8 (rot_pool 3 rfl hm9 hnl) hnl om_) fun g10 w11 S12=>pv (sl g10 0 512 512) (pv (iv 0) (wE (then_n (wp_ret (bB (sl g10 0 512 512) (iv 0) ⟨_,rfl,St.bytes_row (St.swap (St.rclose (gl:=gl) (cl:=cl) (c2:=c2) (A2:=A2) (junk:=junk) (LL:=LL) (PP:=PP) (pool:=pool) (s:={s with rd:=inc s.rd}) (St.rot (LA:=rdParts g gl cl c2 A2 junk LL PP pool ({s with rd:=inc s.rd})) S12) (hf.upd rfl rfl hf.lb) hcl hju)) hnl.symm hnl.symm⟩))))))))
theorem rd_write {at_:Int}{A:Option Addr}{d:List UInt8}{cd:Nat}{F:Nat→Prop}{w0 w:World}{L:List Ast}{g:Nat}{s:Dsk}(S:St F w0 w (RDisk g s::L))(hr:RoT F w0 L A d)(hdm:d.length≤9223372036854775807)(hpn':s.pend.length<6597069766656):Calls Try.prog 34 #[.pointer (some ⟨g,0,none⟩),.int .i64 at_,.slice A d.length cd] w fun e w'=>e=.returned (.int .i64 (s.writeR at_ d).2)∧St F w0 w' (RDisk g (s.writeR at_ d).1::L):=by
 obtain ⟨gl,cl,c2,A2,junk,LL,PP,pool,hf,hcl,hju,S⟩:=St.ropen S
 have hn2:=hf.n2
 have hll:=hf.ll
 have hpp:=hf.pp
 have hpn:=hf.pn
 by_cases hz:s.left=0
 ·have e:s.writeR at_ d=(s,3):=by unfold Dsk.writeR;rw [if_pos hz]
  rw [e]
  change St F w0 w (rR2 g gl LL.length cl (.slice A2 PP.length c2) s.left s.life s.rd s.wr s.fl s.rf 0::row gl ((LL.map PEnt.val++junk).toArray) 31::vec 143 2 (.slice A2 PP.length c2) PP.length (putsV PP)::stars (pool.map PEnt.row)::L) at S
  refine eN (fr [pq g,iv at_,.slice A d.length cd] 65) Try.func34 rfl (sR (pv (iv 0) (wE (nS (sR (pv (pq g) (pv (pq g) (pv (po g 2) (lR (iv s.left) S 0 2 (dE s.left 0 (fun _=>wE (nCT (sR ?_))) fun hd1=>False.elim (absurd hz hd1)))))))))))
  exact pv (iv 3) (wE (then_n (rR (bA (iv 3) ⟨rfl,St.rclose (gl:=gl) (cl:=cl) (c2:=c2) (A2:=A2) (junk:=junk) (LL:=LL) (PP:=PP) (pool:=pool) (s:=s) S (hf.upd rfl rfl hf.lb) hcl hju⟩))))
 by_cases ho:at_<0∨(s.last.length:Int)≤at_
 ·have e:s.writeR at_ d=({s with rf:=inc s.rf},11):=by unfold Dsk.writeR;rw [if_neg hz,if_pos ho]
  rw [e]
  change St F w0 w (rR2 g gl LL.length cl (.slice A2 PP.length c2) s.left s.life s.rd s.wr s.fl s.rf 0::row gl ((LL.map PEnt.val++junk).toArray) 31::vec 143 2 (.slice A2 PP.length c2) PP.length (putsV PP)::stars (pool.map PEnt.row)::L) at S
  refine eN (fr [pq g,iv at_,.slice A d.length cd] 65) Try.func34 rfl (sR (pv (iv 0) (wE (nS (sR (pv (pq g) (pv (pq g) (pv (po g 2) (lR (iv s.left) S 0 2 (dE s.left 0 (fun hd1=>False.elim (absurd hd1 hz)) fun _=>wE (nCF (wp_skip ?_))))))))))))
  refine nS (sR (pv (iv at_) (dC ((at_:Int)<0) (fun hb2=> ?_) fun hb2=> ?_)))
  ·refine pv tv (wN (wN (wN (wN (wN (wN (wN (pv tv (wE (nCT (sR (pv (pq g) (pv (pq g) ?_)))))))))))))
   exact pv (po g 4) (pv (po g 7) (lR (iv s.rf) S 0 7 (pv (iv (inc s.rf)) (pv (pq g) (pv (po g 4) (pv (po g 7) (sS S 0 rfl 7 (iv (inc s.rf)) fun w3 S4=>wER (pv (iv 11) (wE (then_n (rR (bA (iv 11) ⟨rfl,St.rclose (gl:=gl) (cl:=cl) (c2:=c2) (A2:=A2) (junk:=junk) (LL:=LL) (PP:=PP) (pool:=pool) (s:={s with rf:=inc s.rf}) S4 (hf.upd rfl rfl hf.lb) hcl hju⟩))))))))))))
  ·refine pv fv (pW (iv at_) (pW (pq g) (pW (pq g) (pW (pq g) (wl_when kr_ (gv_ldR (v:=sl gl 0 LL.length cl) rfl kr_ kr_ (((S.blk 0 rfl).cell 0).trans rfl) (pW (iv (LL.length:Nat)) (wl_when kr_ (gv_dec (p:=(at_:Int)≥(LL.length:Nat)) kr_ (fun _=>pv tv (wE (nCT (sR (pv (pq g) (pv (pq g) ?_)))))) (fun hd5=>False.elim om_))))))))))
   exact pv (po g 4) (pv (po g 7) (lR (iv s.rf) S 0 7 (pv (iv (inc s.rf)) (pv (pq g) (pv (po g 4) (pv (po g 7) (sS S 0 rfl 7 (iv (inc s.rf)) fun w6 S7=>wER (pv (iv 11) (wE (then_n (rR (bA (iv 11) ⟨rfl,St.rclose (gl:=gl) (cl:=cl) (c2:=c2) (A2:=A2) (junk:=junk) (LL:=LL) (PP:=PP) (pool:=pool) (s:={s with rf:=inc s.rf}) S7 (hf.upd rfl rfl hf.lb) hcl hju⟩))))))))))))
 obtain ⟨k,rfl⟩:∃k:Nat,at_=(k:Int):=⟨at_.toNat,by omega⟩
 have hk:k<s.last.length:=by omega
 by_cases hd5:d.length≠512
 ·have e:s.writeR (k:Int) d=({s with rf:=inc s.rf},2):=by unfold Dsk.writeR;rw [if_neg hz,if_neg ho,if_pos hd5]
  rw [e]
  change St F w0 w (rR2 g gl LL.length cl (.slice A2 PP.length c2) s.left s.life s.rd s.wr s.fl s.rf 0::row gl ((LL.map PEnt.val++junk).toArray) 31::vec 143 2 (.slice A2 PP.length c2) PP.length (putsV PP)::stars (pool.map PEnt.row)::L) at S
  refine eN (fr [pq g,nI_ k,.slice A d.length cd] 65) Try.func34 rfl (sR (pv (iv 0) (wE (nS (sR (pv (pq g) (pv (pq g) (pv (po g 2) (lR (iv s.left) S 0 2 (dE s.left 0 (fun hd1=>False.elim (absurd hd1 hz)) fun _=>wE (nCF (wp_skip ?_))))))))))))
  refine nS (sR (pv (nI_ k) (dC ((((k:Nat):Int):Int)<0) (fun hd2=>False.elim om_) fun _=>pv fv (pW (nI_ k) (pW (pq g) (pW (pq g) (pW (pq g) (wl_when kr_ (gv_ldR (v:=sl gl 0 LL.length cl) rfl kr_ kr_ (((S.blk 0 rfl).cell 0).trans rfl) (pW (iv (LL.length:Nat)) (wl_when kr_ (gv_dec (p:=(((k:Nat):Int):Int)≥(LL.length:Nat)) kr_ (fun hd3=>False.elim om_) (fun _=>pv fv (wE ?_))))))))))))))
  refine nCF (wp_skip (nS (sR (pv (.slice A d.length cd) (pv (iv (d.length:Nat)) (dN (d.length:Nat) 512 (fun _=>wE (nCT (sR (pv (pq g) (pv (pq g) (pv (po g 4) (pv (po g 7) ?_))))))) fun hd4=>False.elim om_))))))
  exact lR (iv s.rf) S 0 7 (pv (iv (inc s.rf)) (pv (pq g) (pv (po g 4) (pv (po g 7) (sS S 0 rfl 7 (iv (inc s.rf)) fun w5 S6=>wER (pv (iv 2) (wE (then_n (rR (bA (iv 2) ⟨rfl,St.rclose (gl:=gl) (cl:=cl) (c2:=c2) (A2:=A2) (junk:=junk) (LL:=LL) (PP:=PP) (pool:=pool) (s:={s with rf:=inc s.rf}) S6 (hf.upd rfl rfl hf.lb) hcl hju⟩))))))))))
 have hd:d.length=512:=by omega
 have e:s.writeR (k:Int) d=({s with pend:=s.pend++[(k,d)],wr:=inc s.wr,left:=spent s.left},0):=by unfold Dsk.writeR;rw [if_neg hz,if_neg ho,if_neg hd5,Int.toNat_natCast]
 rw [e]
 have hlb:=spent_lb hf.lb hz
 change St F w0 w (rR2 g gl LL.length cl (.slice A2 PP.length c2) s.left s.life s.rd s.wr s.fl s.rf 0::row gl ((LL.map PEnt.val++junk).toArray) 31::vec 143 2 (.slice A2 PP.length c2) PP.length (putsV PP)::stars (pool.map PEnt.row)::L) at S
 refine eN (fr [pq g,nI_ k,.slice A d.length cd] 65) Try.func34 rfl (sR (pv (iv 0) (wE (nS (sR (pv (pq g) (pv (pq g) (pv (po g 2) (lR (iv s.left) S 0 2 (dE s.left 0 (fun hd1=>False.elim (absurd hd1 hz)) fun _=>wE (nCF (wp_skip ?_))))))))))))
 refine nS (sR (pv (nI_ k) (dC ((((k:Nat):Int):Int)<0) (fun hd2=>False.elim om_) fun _=>pv fv (pW (nI_ k) (pW (pq g) (pW (pq g) (pW (pq g) (wl_when kr_ (gv_ldR (v:=sl gl 0 LL.length cl) rfl kr_ kr_ (((S.blk 0 rfl).cell 0).trans rfl) (pW (iv (LL.length:Nat)) (wl_when kr_ (gv_dec (p:=(((k:Nat):Int):Int)≥(LL.length:Nat)) kr_ (fun hd3=>False.elim om_) (fun _=>pv fv (wE ?_))))))))))))))
 refine nCF (wp_skip (nS (sR (pv (.slice A d.length cd) (pv (iv (d.length:Nat)) (dN (d.length:Nat) 512 (fun hd4=>False.elim om_) fun _=>wE (nCF (wp_skip (nS ?_)))))))))
 have S5:St F w0 w (vec 143 2 (.slice A2 PP.length c2) PP.length (putsV PP)::rR2 g gl LL.length cl (.slice A2 PP.length c2) s.left s.life s.rd s.wr s.fl s.rf 0::row gl ((LL.map PEnt.val++junk).toArray) 31::stars (pool.map PEnt.row)::L):=St.pm 4 [2,0,1,3] S
 refine wp_region_phu (γ:=Nat×Nat×Value) 14 [7,9,10,13] (fun (c_:Nat×Nat×Value) (i_:Nat)=>(match i_ with|0=>pq g|1=>pq g|2=>pq g|3=>po g 1|4=>.slice A2 PP.length c2|5=>nI_ k|6=>.slice A d.length cd|7=>sl c_.1 0 d.length d.length|8=>.agg #[nI_ k,sl c_.1 0 d.length d.length]|9=>sl c_.2.1 0 1 1|10=>c_.2.2|11=>pq g|12=>po g 1|13=>undef|_=>undef:Value)) (fun (c_:Nat×Nat×Value) (p_:Nat) (w_:World)=>(match p_ with|0=>St F w0 w_ (vec 143 2 (.slice A2 PP.length c2) PP.length (putsV PP)::rR2 g gl LL.length cl (.slice A2 PP.length c2) s.left s.life s.rd s.wr s.fl s.rf 0::row gl ((LL.map PEnt.val++junk).toArray) 31::stars (pool.map PEnt.row)::L)|1=>St F w0 w_ (row c_.1 (bvs d) 5::vec 143 2 (.slice A2 PP.length c2) PP.length (putsV PP)::rR2 g gl LL.length cl (.slice A2 PP.length c2) s.left s.life s.rd s.wr s.fl s.rf 0::row gl ((LL.map PEnt.val++junk).toArray) 31::stars (pool.map PEnt.row)::L)|2=>St F w0 w_ (row c_.2.1 #[nI_ k,sl c_.1 0 d.length d.length] 143::row c_.1 (bvs d) 5::vec 143 2 (.slice A2 PP.length c2) PP.length (putsV PP)::rR2 g gl LL.length cl (.slice A2 PP.length c2) s.left s.life s.rd s.wr s.fl s.rf 0::row gl ((LL.map PEnt.val++junk).toArray) 31::stars (pool.map PEnt.row)::L)|3=>St F w0 w_ (vec 143 2 c_.2.2 (PP.length+1) (putsV PP++[nI_ k,sl c_.1 0 d.length d.length])::row c_.2.1 #[nI_ k,sl c_.1 0 d.length d.length] 143::row c_.1 (bvs d) 5::rR2 g gl LL.length cl (.slice A2 PP.length c2) s.left s.life s.rd s.wr s.fl s.rf 0::row gl ((LL.map PEnt.val++junk).toArray) 31::stars (pool.map PEnt.row)::L)|_=>St F w0 w_ (vec 143 2 c_.2.2 (PP.length+1) (putsV PP++[nI_ k,sl c_.1 0 d.length d.length])::row c_.2.1 #[nI_ k,sl c_.1 0 d.length d.length] 143::row c_.1 (bvs d) 5::rR2 g gl LL.length cl c_.2.2 s.left s.life s.rd s.wr s.fl s.rf 0::row gl ((LL.map PEnt.val++junk).toArray) 31::stars (pool.map PEnt.row)::L):Prop)) (0,0,undef) kr_ kr_ kr_ kr_ (S5.drew) ?_ ?_ ?_
 ·intro i_ c_ p_ vals_ w1 hi_ hiE_ hp_ hk_ hu_ hPh_ hd_
  rcases i_ with _|_|_|_|_|_|_|_|_|_|_|_|_|_|i_
  ·exact tG_ rfl hd_ (gV (pq g) ⟨rfl,rfl⟩)
  ·exact tG_ rfl hd_ (gV (pq g) ⟨rfl,rfl⟩)
  ·exact tG_ rfl hd_ (gV (pq g) ⟨rfl,rfl⟩)
  ·exact tG_ rfl hd_ (gV (po g 1) ⟨rfl,rfl⟩)
  ·rcases p_ with _|_|_|_|_|p_
   ·have S10:=St.id hPh_
    exact tG_ rfl hd_ (gL (.slice A2 PP.length c2) rfl (((S10.blk 1 rfl).cell 1).trans rfl) ⟨rfl,rfl⟩)
   ·have S11:=St.id hPh_
    exact tG_ rfl hd_ (gL (.slice A2 PP.length c2) rfl (((S11.blk 2 rfl).cell 1).trans rfl) ⟨rfl,rfl⟩)
   ·have S12:=St.id hPh_
    exact tG_ rfl hd_ (gL (.slice A2 PP.length c2) rfl (((S12.blk 3 rfl).cell 1).trans rfl) ⟨rfl,rfl⟩)
   ·exact absurd (hu_ 2 dc_ kr_) dc_
   ·exact absurd (hu_ 2 dc_ kr_) dc_
   ·exact absurd hp_ (by simp)
  ·exact tG_ rfl hd_ (gV (nI_ k) ⟨rfl,rfl⟩)
  ·exact tG_ rfl hd_ (gV (.slice A d.length cd) ⟨rfl,rfl⟩)
  ·exact absurd hiE_ dc_
  ·exact tG_ rfl hd_ (gV (.agg #[nI_ k,sl c_.1 0 d.length d.length]) ⟨rfl,rfl⟩)
  ·exact absurd hiE_ dc_
  ·exact absurd hiE_ dc_
  ·exact tG_ rfl hd_ (gV (pq g) ⟨rfl,rfl⟩)
  ·exact tG_ rfl hd_ (gV (po g 1) ⟨rfl,rfl⟩)
  ·exact absurd hiE_ dc_
  ·exact absurd hi_ om_
 ·intro k_ c_ vals_ w1 hk_ hPh_ hd_
  rcases k_ with _|_|_|_|k_
  ·have S18:=St.id hPh_
   refine tG_ rfl hd_ (gv_call (args:=#[.slice A d.length cd]) rfl Try.func78 kr_ rfl rfl kr_ (Calls.mono (rtwinS (l:=d) S18 (RoT.more (RoT.more (RoT.more (RoT.more hr)))) rfl om_) ?_))
   rintro _ w20 ⟨g19,rfl,S21⟩
   refine ⟨_,rfl,⟨(g19,c_.2.1,c_.2.2),rfl, ?_,S21⟩⟩
   intro i_ hi_ hne_ hdp_
   rcases i_ with _|_|_|_|_|_|_|_|_|_|_|_|_|_|i_
   ·rfl
   ·rfl
   ·rfl
   ·rfl
   ·rfl
   ·rfl
   ·rfl
   ·exact absurd rfl hne_
   ·exact (dep_no hdp_ kr_).elim
   ·exact (dep_no hdp_ kr_).elim
   ·exact (dep_no hdp_ kr_).elim
   ·exact (dep_no hdp_ kr_).elim
   ·exact (dep_no hdp_ kr_).elim
   ·exact (dep_no hdp_ kr_).elim
   ·exact absurd hi_ om_
  ·have S22:=St.id hPh_
   refine tG_ rfl hd_ (gv_slit (e:=143) (sz:=2) (z:=.agg #[iv 0,.slice none 0 0]) (by_:=32) (vs:=#[(0,.agg #[nI_ k,sl c_.1 0 d.length d.length])]) (cells:=#[nI_ k,sl c_.1 0 d.length d.length]) S22 rfl kr_ ⟨by kernel_rfl⟩ kr_ kr_ kr_ kr_ (fun g23 w24 hg25 S26=>⟨(c_.1,g23,c_.2.2),rfl, ?_,S26⟩))
   intro i_ hi_ hne_ hdp_
   rcases i_ with _|_|_|_|_|_|_|_|_|_|_|_|_|_|i_
   ·rfl
   ·rfl
   ·rfl
   ·rfl
   ·rfl
   ·rfl
   ·rfl
   ·rfl
   ·rfl
   ·exact absurd rfl hne_
   ·exact (dep_no hdp_ kr_).elim
   ·exact (dep_no hdp_ kr_).elim
   ·exact (dep_no hdp_ kr_).elim
   ·exact (dep_no hdp_ kr_).elim
   ·exact absurd hi_ om_
  ·have S27:=St.id hPh_
   have S28:=St.pm 6 [0,2,1,3,4,5] S27
   refine tG_ rfl hd_ (gv_appendW (e:=143) (sz:=2) (n:=PP.length) (v:=(.slice A2 PP.length c2)) (vals:=(putsV PP)) (z:=.agg #[iv 0,.slice none 0 0]) (by_:=32) (m:=1) (c':=1) (ad:=⟨c_.2.1,0,none⟩) (news:=[nI_ k,sl c_.1 0 d.length d.length]) (St.swap S28) rfl kr_ ⟨by kernel_rfl⟩ rfl kr_ kr_ dc_ rfl (row_news (S28.blk 0 rfl)) (by intro u hu;simp at hu;rcases hu with rfl|rfl<;>rfl) om_ om_ om_ (fun v30 w29 S31=>⟨(c_.1,c_.2.1,v30),rfl, ?_,S31⟩))
   intro i_ hi_ hne_ hdp_
   rcases i_ with _|_|_|_|_|_|_|_|_|_|_|_|_|_|i_
   ·rfl
   ·rfl
   ·rfl
   ·rfl
   ·rfl
   ·rfl
   ·rfl
   ·rfl
   ·rfl
   ·rfl
   ·exact absurd rfl hne_
   ·exact (dep_no hdp_ kr_).elim
   ·exact (dep_no hdp_ kr_).elim
   ·exact (dep_no hdp_ kr_).elim
   ·exact absurd hi_ om_
  ·have S32:=St.id hPh_
   refine tG_ rfl hd_ (gv_st (k:=1) (v:=c_.2.2) S32 3 rfl rfl kr_ kr_ kr_ (St.vec_one S32 0 rfl) rfl (L':=(vec 143 2 c_.2.2 (PP.length+1) (putsV PP++[nI_ k,sl c_.1 0 d.length d.length])::row c_.2.1 #[nI_ k,sl c_.1 0 d.length d.length] 143::row c_.1 (bvs d) 5::rR2 g gl LL.length cl c_.2.2 s.left s.life s.rd s.wr s.fl s.rf 0::row gl ((LL.map PEnt.val++junk).toArray) 31::stars (pool.map PEnt.row)::L)) rfl (fun w33 S34=>⟨(c_.1,c_.2.1,c_.2.2),rfl, ?_,S34⟩))
   intro i_ hi_ hne_ hdp_
   rcases i_ with _|_|_|_|_|_|_|_|_|_|_|_|_|_|i_
   ·rfl
   ·rfl
   ·rfl
   ·rfl
   ·rfl
   ·rfl
   ·rfl
   ·rfl
   ·rfl
   ·rfl
   ·rfl
   ·rfl
   ·rfl
   ·exact absurd rfl hne_
   ·exact absurd hi_ om_
  ·exact absurd hk_ (by simp)
 ·intro c_ w1 hPh_
  have S35:=St.id hPh_
  refine (wE (nSR (pv (pq g) (pv (pq g) (pv (po g 4) (pv (po g 5) (lR (iv s.wr) S35 3 5 (pv (iv (inc s.wr)) (pv (pq g) (pv (po g 4) (pv (po g 5) (sS S35 3 rfl 5 (iv (inc s.wr)) fun w36 S37=>wER ?_))))))))))))
  refine pv (pq g) (g_ (gv_call (args:=#[pq g]) rfl Try.func84 kr_ rfl rfl kr_ ?_))
  obtain ⟨A3,c3,e3⟩:=St.vec_v S37 0 rfl
  have S38:St F w0 w36 (row c_.1 (bvs d) 5::stars (pool.map PEnt.row)::rR2 g gl LL.length cl c_.2.2 s.left s.life s.rd (inc s.wr) s.fl s.rf 0::row gl ((LL.map PEnt.val++junk).toArray) 31::vec 143 2 c_.2.2 (PP.length+1) (putsV PP++[nI_ k,sl c_.1 0 d.length d.length])::L):=St.pm 6 [2,5,3,4,0] S37
  have S39:St F w0 w36 (stars (((c_.1,d)::pool).map PEnt.row)::rR2 g gl LL.length cl c_.2.2 s.left s.life s.rd (inc s.wr) s.fl s.rf 0::row gl ((LL.map PEnt.val++junk).toArray) 31::vec 143 2 c_.2.2 (PP.length+1) (putsV PP++[nI_ k,sl c_.1 0 d.length d.length])::L):=St.pool_add S38
  have S40:St F w0 w36 (rR2 g gl LL.length cl c_.2.2 s.left s.life s.rd (inc s.wr) s.fl s.rf 0::row gl ((LL.map PEnt.val++junk).toArray) 31::vec 143 2 c_.2.2 (PP.length+1) (putsV PP++[nI_ k,sl c_.1 0 d.length d.length])::stars (((c_.1,d)::pool).map PEnt.row)::L):=St.pm 4 [1,2,3,0] S39
  rw [e3,hd,show PP.length+1=(PP++[((c_.1,k,d):RPut)]).length from by rw [List.length_append];rfl] at S40
  change St F w0 w36 (row g (rcells gl LL.length cl A3 (PP++[((c_.1,k,d):RPut)]).length c3 s.left s.life s.rd (inc s.wr) s.fl s.rf) 138::row gl (LL.map PEnt.val++junk).toArray 31::vec 143 2 (.slice A3 (PP++[((c_.1,k,d):RPut)]).length c3) (PP++[((c_.1,k,d):RPut)]).length (putsV PP++putCells (c_.1,k,d))::stars (((c_.1,d)::pool).map PEnt.row)::L) at S40
  rw [putsV_snoc] at S40
  refine Calls.mono (rspent S40 hz hf.lb.1 hf.lb.2) ?_
  rintro _ w41 ⟨rfl,S42⟩
  exact ⟨_,rfl,(wER (pv (iv 0) (wE (then_n (wp_ret (bA (iv 0) ⟨rfl,St.rclose (gl:=gl) (cl:=cl) (c2:=c3) (A2:=A3) (junk:=junk) (LL:=LL) (PP:=(PP++[((c_.1,k,d):RPut)])) (pool:=((c_.1,d)::pool)) (s:={s with pend:=s.pend++[(k,d)],wr:=inc s.wr,left:=spent s.left}) S42 (RFacts.put hf rfl rfl hlb hk hd hpn') hcl hju⟩))))))⟩
end
theorem rcand {F:Nat→Prop}{w0 w:World}{L:List Ast}{g gl cl c2:Nat}{A2:Option Addr}{junk:List Value}{LL:List (Nat×List UInt8)}{PP:List RPut}{pool:List (Nat×List UInt8)}{s:Dsk}(S:St F w0 w (rdParts g gl cl c2 A2 junk LL PP pool s++L))(hf:RFacts s LL PP pool){k:Nat}(hk:k<s.last.length)(hpn:s.pend.length<6597069766656):
  Calls Try.prog 85 #[.pointer (some ⟨g,0,none⟩),nI_ k] w fun e w'=>∃(v:Value) (CC:List (Nat×List UInt8)),e=.returned v∧CC.map (·.2)=candS s k∧(∀x∈CC,x∈pool)∧St F w0 w' (vec 31 1 v CC.length (CC.map PEnt.val)::(rdParts g gl cl c2 A2 junk LL PP pool s++L)):=by
 have hn2:=hf.n2
 have hll:=hf.ll
 have hpp:=hf.pp
 obtain ⟨y,hy,hyp,hyl,hy5⟩:=hf.at hk
 change St F w0 w (rR2 g gl LL.length cl (.slice A2 PP.length c2) s.left s.life s.rd s.wr s.fl s.rf 0::row gl ((LL.map PEnt.val++junk).toArray) 31::vec 143 2 (.slice A2 PP.length c2) PP.length (putsV PP)::stars (pool.map PEnt.row)::L) at S
 refine eN (fr [pq g,nI_ k] 44) Try.func85 rfl (sR (pv (.slice none 0 0) (wER (pv (pq g) (pv (pq g) (pv (pq g) (lR (sl gl 0 LL.length cl) S 0 0 (pv (nI_ k) (g_ (gv_ixE (e:=31) (sz:=1) (g:=gl) (off:=0) (n:=LL.length) (c:=cl) (i:=((k:Nat):Int)) (k:=.i64) (j:=k) (off':=k) rfl kr_ kr_ kr_ kr_ rfl om_ om_ (lQ (PEnt.val y) (((S.blk 1 rfl).cell k).trans (ll_at hy)) (g_ (gv_slit (e:=31) (sz:=1) (z:=.slice none 0 0) (by_:=24) (vs:=#[(0,sl y.1 0 512 512)]) (cells:=#[sl y.1 0 512 512]) S rfl kr_ ⟨by kernel_rfl⟩ kr_ kr_ kr_ kr_ (fun g1 w2 hg3 S4=> ?_))))))))))))))
 have S5:St F w0 w2 (vec 31 1 (sl g1 0 1 1) [y].length ([y].map PEnt.val)::rR2 g gl LL.length cl (.slice A2 PP.length c2) s.left s.life s.rd s.wr s.fl s.rf 0::row gl ((LL.map PEnt.val++junk).toArray) 31::vec 143 2 (.slice A2 PP.length c2) PP.length (putsV PP)::stars (pool.map PEnt.row)::L):=St.vec_mk (vals:=[PEnt.val y]) (junk:=[]) S4 (Nat.le_refl _) rfl rfl
 refine pv (sl g1 0 1 1) (wE (nS (sR (pv (iv 0) (wE (then_n (wp_block (wp_loop_g (G:=Nat×Value×List (Nat×List UInt8)) (fun (g_:Nat×Value×List (Nat×List UInt8)) (a_:Act) (w_:World)=>∃J:Nat→Value,a_=(fr ([pq g,nI_ k,ud,ud,.slice none 0 0,g_.2.1,nI_ g_.1,pq g,pq g,pq g,sl gl 0 LL.length cl,nI_ k,po gl k,sl y.1 0 512 512,sl g1 0 1 1]++jR J 15 30) 1)∧St F w0 w_ (vec 31 1 g_.2.1 g_.2.2.length (g_.2.2.map PEnt.val)::rR2 g gl LL.length cl (.slice A2 PP.length c2) s.left s.life s.rd s.wr s.fl s.rf 0::row gl ((LL.map PEnt.val++junk).toArray) 31::vec 143 2 (.slice A2 PP.length c2) PP.length (putsV PP)::stars (pool.map PEnt.row)::L)∧(g_.1≤PP.length∧g_.2.2.length≤g_.1+1∧g_.2.2.map (·.2)=s.last.getD k []::((s.pend.take g_.1).filter (fun x=>x.1==k)).map (·.2)∧(∀x∈g_.2.2,x∈pool))) (fun g_=>PP.length-g_.1) (0,sl g1 0 1 1,[y]) (jE_ ⟨S5,⟨Nat.zero_le _,Nat.le_refl _,by rw [hyl];rfl,fun z hz=>by rw [List.mem_singleton] at hz;subst hz;exact hyp⟩⟩) ?_))))))))
 rintro ⟨i,v,CC⟩ a_ w6 ⟨J,rfl,S7,hI8⟩
 skip
 have S7:St F w0 w6 (vec 31 1 v CC.length (CC.map PEnt.val)::rR2 g gl LL.length cl (.slice A2 PP.length c2) s.left s.life s.rd s.wr s.fl s.rf 0::row gl ((LL.map PEnt.val++junk).toArray) 31::vec 143 2 (.slice A2 PP.length c2) PP.length (putsV PP)::stars (pool.map PEnt.row)::L):=S7
 have hI8:(i≤PP.length∧CC.length≤i+1∧CC.map (·.2)=s.last.getD k []::((s.pend.take i).filter (fun x=>x.1==k)).map (·.2)∧(∀x∈CC,x∈pool)):=hI8
 refine wp_seq (sR (pv (nI_ i) (pv (pq g) (pv (pq g) (pv (po g 1) (lR (.slice A2 PP.length c2) S7 1 1 (pv (iv (PP.length:Nat)) (dC ((((i:Nat):Int):Int)<(PP.length:Nat)) (fun hb9=> ?_) fun hb9=> ?_))))))))
 ·obtain ⟨x,hx,hxp,hxs,hx5,hxk⟩:=hf.pat (i:=i) om_
  obtain ⟨ad2,hAd2,hrd⟩:=(St.vec_rd S7 3 rfl) (by rw [length_putsV];omega)
  refine wE (nCT (wp_skip (nS (wp_block (sR (pv (pq g) (pv (pq g) (pv (po g 1) (lR (.slice A2 PP.length c2) S7 1 1 (pv (nI_ i) (g_ (gv_ixB (e:=143) (sz:=2) (n:=PP.length) (c:=c2) (i:=((i:Nat):Int)) (k:=.i64) (ad:=ad2) (ad':=(ad2.add (i*2))) (j:=i) rfl kr_ kr_ (by rw [←hAd2];kernel_rfl) kr_ rfl om_ rfl (pv (.pointer (some (ad2.add (i*2)))) (lQ (nI_ x.2.1) (put_at hrd hx) ?_))))))))))))))
  refine pv (nI_ k) (dE ((x.2.1:Nat):Int) ((k:Nat):Int) (fun hb8=> ?_) fun hb8=> ?_)
  ·have hb9:x.2.1=k:=by omega
   refine wE (nCT (wp_region_lit (pv v (pv (pq g) (pv (pq g) (pv (po g 1) (lR (.slice A2 PP.length c2) S7 1 1 (pv (nI_ i) (g_ (gv_ixB (e:=143) (sz:=2) (n:=PP.length) (c:=c2) (i:=((i:Nat):Int)) (k:=.i64) (ad:=ad2) (ad':=(ad2.add (i*2))) (j:=i) rfl kr_ kr_ (by rw [←hAd2];kernel_rfl) kr_ rfl om_ rfl (pv (.pointer (some ((ad2.add (i*2)).add 1))) (lQ (PEnt.val x.ref) (put_data hrd hx) (g_ (gv_slit (e:=31) (sz:=1) (z:=.slice none 0 0) (by_:=24) (vs:=#[(0,sl x.1 0 512 512)]) (cells:=#[sl x.1 0 512 512]) S7 rfl kr_ ⟨by kernel_rfl⟩ kr_ kr_ kr_ kr_ (fun g10 w11 hg12 S13=>g_ (gv_appendW (e:=31) (sz:=1) (n:=CC.length) (v:=v) (vals:=(CC.map PEnt.val)) (z:=.slice none 0 0) (by_:=24) (m:=1) (c':=1) (ad:=⟨g10,0,none⟩) (news:=[sl x.1 0 512 512]) (St.swap S13) rfl kr_ ⟨by kernel_rfl⟩ rfl kr_ kr_ dc_ rfl (row_news (S13.blk 0 rfl)) (by intro u hu;simp at hu;subst hu;rfl) om_ om_ om_ (fun v15 w14 S16=> ?_)))))))))))))))))
   refine pv v15 (wE (inb_n (nR (pv (nI_ i) (gI .i64 (IntKind.i64.wrap (((i:Nat):Int)+1)) ((i+1:Nat):Int) (wr_eq om_ om_ om_) (pv (nI_ (i+1)) (wE (then_n ?_))))))))
   have S17:St F w0 w14 (vec 31 1 v15 (CC.length+1) (CC.map PEnt.val++[sl x.1 0 512 512])::rR2 g gl LL.length cl (.slice A2 PP.length c2) s.left s.life s.rd s.wr s.fl s.rf 0::row gl ((LL.map PEnt.val++junk).toArray) 31::vec 143 2 (.slice A2 PP.length c2) PP.length (putsV PP)::stars (pool.map PEnt.row)::L):=St.pm 6 [0,2,3,4,5] S16
   have hv9:CC.map PEnt.val++[.slice (some ⟨x.1,0,none⟩) 512 512]=(CC++[x.ref]).map PEnt.val:=by rw [List.map_append];rfl
   have hn9:CC.length+1=(CC++[x.ref]).length:=by rw [List.length_append];rfl
   rw [hv9,hn9] at S17
   exact ⟨(i+1,v15,CC++[x.ref]),(jE_ ⟨S17,⟨by omega,by rw [List.length_append];show CC.length+1≤i+1+1;omega,by rw [pend_step hxs,if_pos hb9,List.map_append,hI8.2.2.1];rfl,fun z hz=>(List.mem_append.1 hz).elim (hI8.2.2.2 z) (fun h=>by rw [List.mem_singleton] at h;subst h;exact hxp)⟩⟩),(by show PP.length-(i+1)<PP.length-i;omega)⟩
  ·have hb9:¬x.2.1=k:=by omega
   exact wE (nCF (wp_skip (inb_n (nR (pv (nI_ i) (gI .i64 (IntKind.i64.wrap (((i:Nat):Int)+1)) ((i+1:Nat):Int) (wr_eq om_ om_ om_) (pv (nI_ (i+1)) (wE (then_n ⟨(i+1,v,CC),(jE_ ⟨S7,⟨by omega,(by show CC.length≤i+1+1;have:=hI8.2.1;omega),by rw [pend_step hxs,if_neg hb9,List.append_nil];exact hI8.2.2.1,hI8.2.2.2⟩⟩),(by show PP.length-(i+1)<PP.length-i;omega)⟩)))))))))
 ·refine wE (nCF (wp_exit (then_x (then_x (inb_x (nSR (pv v (pv v (wE (then_n (wp_ret (bA v ?_))))))))))))
  have htk:s.pend.take i=s.pend:=List.take_of_length_le om_
  rw [htk] at hI8
  exact ⟨_,CC,rfl,hI8.2.2.1,hI8.2.2.2,S7⟩
theorem rd_crash {F:Nat→Prop}{w0 w:World}{L:List Ast}{g:Nat}{s:Dsk}{A:Option Addr}{ps:List Pick}{n c:Nat}(S:St F w0 w (RDisk g s::L))(hr:RoV F w0 L A (picksV ps))(hn:n=ps.length)(hpm:ps.length≤9223372036854775807)(hpn':s.pend.length<6597069766656):
  Calls Try.prog 37 #[.pointer (some ⟨g,0,none⟩),.slice A n c] w fun e w'=>e=.returned (.tuple #[])∧St F w0 w' (RDisk g (s.crashR ps)::L):=by
 obtain ⟨gl,cl,c2,A2,junk,LL,PP,pool,hf,hcl,hju,S⟩:=St.ropen S
 have hn2:=hf.n2
 have hll:=hf.ll
 have hpp:=hf.pp
 have hpn:=hf.pn
 by_cases he:s.pend=[]
 ·have ec:s.crashR ps={s with pend:=[],left:= -1,life:=inc s.life}:=by unfold Dsk.crashR;rw [crash_none he];rfl
  have h0:PP.length=0:=by rw [hpp,he];rfl
  rw [ec]
  change St F w0 w (rR2 g gl LL.length cl (.slice A2 PP.length c2) s.left s.life s.rd s.wr s.fl s.rf 0::row gl ((LL.map PEnt.val++junk).toArray) 31::vec 143 2 (.slice A2 PP.length c2) PP.length (putsV PP)::stars (pool.map PEnt.row)::L) at S
  refine eN (fr [pq g,.slice A n c] 84) Try.func37 rfl (sR (pv (iv 0) (wER (pv (.slice none 0 0) (wE (nS (sR (pv (pq g) (pv (pq g) (pv (po g 1) (lR (.slice A2 PP.length c2) S 0 1 (pv (iv (PP.length:Nat)) (dC (((PP.length:Nat):Int)>0) (fun hd1=>False.elim om_) fun _=> ?_)))))))))))))
  refine wE (nCF (wp_skip (nS (sR (pv (iv 0) (wE (then_n (wp_block (wp_loop_g (G:=Nat) (fun (g_:Nat) (a_:Act) (w_:World)=>∃J:Nat→Value,a_=(fr ([pq g,.slice A n c,ud,ud,iv 0,.slice none 0 0,ud,ud,ud,nI_ g_,pq g,pq g,po g 1,.slice A2 PP.length c2,iv (PP.length:Nat),fv,ud,ud,ud,ud,ud,ud,ud,ud,ud,ud,ud,ud,ud,ud,ud,ud,ud,ud,ud,ud,ud,ud,ud,ud,ud,ud,ud,ud,ud,ud,ud,ud,ud,ud,ud,ud]++jR J 52 21) 13)∧St F w0 w_ (rR2 g gl LL.length cl (.slice A2 PP.length c2) s.left s.life s.rd s.wr s.fl s.rf 0::row gl ((LL.map PEnt.val++junk).toArray) 31::vec 143 2 (.slice A2 PP.length c2) PP.length (putsV PP)::stars (pool.map PEnt.row)::L)∧(g_=0)) (fun g_=>0) 0 (jE_ ⟨S,rfl⟩) ?_)))))))))
  rintro i a_ w2 ⟨J,rfl,S3,hI4⟩
  skip
  have S3:St F w0 w2 (rR2 g gl LL.length cl (.slice A2 PP.length c2) s.left s.life s.rd s.wr s.fl s.rf 0::row gl ((LL.map PEnt.val++junk).toArray) 31::vec 143 2 (.slice A2 PP.length c2) PP.length (putsV PP)::stars (pool.map PEnt.row)::L):=S3
  have hI4:(i=0):=hI4
  refine wp_seq (sR (pv (nI_ i) (pv (.slice none 0 0) (pv (iv 0) (dC ((((i:Nat):Int):Int)<0) (fun hd5=>False.elim om_) fun _=>wE (nCF (wp_exit (then_x (then_x (inb_x (nSR (pv (pq g) ?_))))))))))))
  refine pv (pq g) (pv (po g 1) (sS S3 0 rfl 1 (.slice none 0 0) fun w6 S7=>wER (pv (pq g) (pv (pq g) (pv (po g 2) (sS S7 0 rfl 2 (iv (-1)) fun w8 S9=>wE (nR (pv (pq g) (pv (pq g) (pv (po g 3) (lR (iv s.life) S9 0 3 ?_)))))))))))
  refine pv (iv (inc s.life)) (pv (pq g) (pv (po g 3) (sS S9 0 rfl 3 (iv (inc s.life)) fun w10 S11=>wE (bodyPost_end (v:=.tuple #[]) (results_none rfl _ _ _) rfl ?_))))
  have S12:=St.pm 4 [0,1,3] S11
  have S9:=St.permT [_,_,_,_] [1,2,0,3] dc_ rfl (St.vec_nil (e:=143) (sz:=2) S12)
  exact ⟨rfl,St.rclose (gl:=gl) (cl:=cl) (c2:=0) (A2:=none) (junk:=junk) (LL:=LL) (PP:=([]:List RPut)) (pool:=pool) (s:={s with pend:=[],left:= -1,life:=inc s.life}) S9 (⟨hf.last,rfl,hf.lin,fun x hx=>(by cases hx),hf.len,fun x hx=>(by cases hx),hf.n1,hf.n2,show (-1:Int)≤ -1∧(-1:Int)≤9223372036854775807 by decide,Nat.zero_le _⟩) hcl hju⟩
 have hpos:0<PP.length:=by rw [hpp];exact List.length_pos_iff.2 he
 change St F w0 w (rR2 g gl LL.length cl (.slice A2 PP.length c2) s.left s.life s.rd s.wr s.fl s.rf 0::row gl ((LL.map PEnt.val++junk).toArray) 31::vec 143 2 (.slice A2 PP.length c2) PP.length (putsV PP)::stars (pool.map PEnt.row)::L) at S
 refine eN (fr [pq g,.slice A n c] 84) Try.func37 rfl (sR (pv (iv 0) (wER (pv (.slice none 0 0) (wE (nS (sR (pv (pq g) (pv (pq g) (pv (po g 1) (lR (.slice A2 PP.length c2) S 0 1 (pv (iv (PP.length:Nat)) (dC (((PP.length:Nat):Int)>0) (fun _=> ?_) fun hd1=>False.elim om_)))))))))))))
 refine wE (nCT (sR (pv (iv 0) (wE (then_n (wp_block ?_))))))
 have S2:St F w0 w (vec 143 2 (.slice none 0 0) ([]:List RPut).length (putsV ([]:List RPut))::rR2 g gl LL.length cl (.slice A2 PP.length c2) s.left s.life s.rd s.wr s.fl s.rf 0::row gl ((LL.map PEnt.val++junk).toArray) 31::vec 143 2 (.slice A2 PP.length c2) PP.length (putsV PP)::stars (pool.map PEnt.row)::L):=St.vec_nil S
 have S3:St F w0 w (rR2 g gl LL.length cl (.slice A2 PP.length c2) s.left s.life s.rd s.wr s.fl s.rf 0::row gl ((LL.map PEnt.val++junk).toArray) 31::vec 143 2 (.slice A2 PP.length c2) PP.length (putsV PP)::stars (pool.map PEnt.row)::vec 143 2 (.slice none 0 0) ([]:List RPut).length (putsV ([]:List RPut))::L):=St.pm 5 [1,2,3,4,0] S2
 refine wp_loop_g (G:=Nat×Value×List RPut×List (Nat×List UInt8)) (fun (g_:Nat×Value×List RPut×List (Nat×List UInt8)) (a_:Act) (w_:World)=>∃J:Nat→Value,a_=(fr ([pq g,.slice A n c,ud,ud,nI_ ((keysTo s g_.1).length),g_.2.1,nI_ g_.1,J 7,J 8,ud,pq g,pq g,po g 1,.slice A2 PP.length c2,iv (PP.length:Nat),tv]++jR J 16 36) 34)∧St F w0 w_ (rR2 g gl LL.length cl (.slice A2 PP.length c2) s.left s.life s.rd s.wr s.fl s.rf 0::row gl ((LL.map PEnt.val++junk).toArray) 31::vec 143 2 (.slice A2 PP.length c2) PP.length (putsV PP)::stars (g_.2.2.2.map PEnt.row)::vec 143 2 g_.2.1 g_.2.2.1.length (putsV g_.2.2.1)::L)∧(g_.1≤LL.length∧g_.2.2.1.map (·.2)=(keysTo s g_.1).mapIdx (outOf s ps)∧RFacts s LL PP g_.2.2.2∧∀x∈g_.2.2.1,x.ref∈g_.2.2.2)) (fun g_=>LL.length-g_.1) (0,.slice none 0 0,[],pool) (jE_ ⟨S3,⟨Nat.zero_le _,rfl,hf,fun x hx=>by cases hx⟩⟩) ?_
 rintro ⟨at_,v,FF,pool2⟩ a_ w4 ⟨J,rfl,S5,hI6⟩
 skip
 have S5:St F w0 w4 (rR2 g gl LL.length cl (.slice A2 PP.length c2) s.left s.life s.rd s.wr s.fl s.rf 0::row gl ((LL.map PEnt.val++junk).toArray) 31::vec 143 2 (.slice A2 PP.length c2) PP.length (putsV PP)::stars (pool2.map PEnt.row)::vec 143 2 v FF.length (putsV FF)::L):=S5
 have hI6:(at_≤LL.length∧FF.map (·.2)=(keysTo s at_).mapIdx (outOf s ps)∧RFacts s LL PP pool2∧∀x∈FF,x.ref∈pool2):=hI6
 refine wp_seq (sR (pv (nI_ at_) (pv (pq g) (pv (pq g) (pv (pq g) (lR (sl gl 0 LL.length cl) S5 0 0 (pv (iv (LL.length:Nat)) (dC ((((at_:Nat):Int):Int)<(LL.length:Nat)) (fun hb7=> ?_) fun hb7=> ?_))))))))
 ·have hk:at_<s.last.length:=by omega
  have hkl:=keysTo_len s at_
  have hFl:FF.length=(keysTo s at_).length:=by have:=congrArg List.length hI6.2.1;rw [List.length_map,List.length_mapIdx] at this;exact this
  refine wE (nCT (wp_skip (nS (wp_block (sR (pv (pq g) (pv (nI_ at_) (g_ (gv_call (args:=#[pq g,nI_ at_]) rfl Try.func85 kr_ rfl rfl kr_ (Calls.mono (rcand S5 hI6.2.2.1 hk hpn') ?_))))))))))
  rintro _ w8 ⟨v2,CC,rfl,hCC,hCp,S9⟩
  refine ⟨_,rfl, ?_⟩
  obtain ⟨A1,c1,rfl⟩:=St.vec_v S9 0 rfl
  have hCl:CC.length=(pendOf s at_).length+1:=by have:=congrArg List.length hCC;rw [List.length_map] at this;exact this
  have hpl:(pendOf s at_).length≤s.pend.length:=by unfold pendOf;rw [List.length_map];exact List.length_filter_le _ _
  have hC5:∀x∈CC,x.2.length=512:=fun x hx=>hI6.2.2.1.cand5 hk _ (by rw [←hCC];exact List.mem_map.2 ⟨x,hx,rfl⟩)
  change St F w0 w8 (vec 31 1 (.slice A1 CC.length c1) CC.length (CC.map PEnt.val)::rR2 g gl LL.length cl (.slice A2 PP.length c2) s.left s.life s.rd s.wr s.fl s.rf 0::row gl ((LL.map PEnt.val++junk).toArray) 31::vec 143 2 (.slice A2 PP.length c2) PP.length (putsV PP)::stars (pool2.map PEnt.row)::vec 143 2 v FF.length (putsV FF)::L) at S9
  refine pv (.slice A1 CC.length c1) (wE (nS (sR (pv (.slice A1 CC.length c1) (pv (iv (CC.length:Nat)) (dE (CC.length:Nat) 1 (fun hb7=> ?_) fun hb7=> ?_))))))
  ·have hp0:pendOf s at_=[]:=List.eq_nil_of_length_eq_zero om_
   refine wE (nCT (wp_exit (then_x (inb_x (nR (pv (nI_ at_) (gI .i64 (IntKind.i64.wrap (((at_:Nat):Int)+1)) ((at_+1:Nat):Int) (wr_eq om_ om_ om_) (pv (nI_ (at_+1)) (wE (then_n ?_))))))))))
   have S10:=St.pm 6 [1,2,3,4,5] S9
   exact ⟨(at_+1,v,FF,pool2),(jF_ (fun z_:Nat=>(fr ([pq g,.slice A n c,ud,ud,nI_ z_,v,nI_ (at_+1),.slice A1 CC.length c1,J 8,ud,pq g,pq g,po g 1,.slice A2 PP.length c2,iv (PP.length:Nat),tv,nI_ at_,pq g,pq g,pq g,sl gl 0 LL.length cl,iv (LL.length:Nat),tv,nI_ at_,nI_ (at_+1),pq g,nI_ at_,.slice A1 CC.length c1,.slice A1 CC.length c1,iv (CC.length:Nat),tv]++jR J 31 21) 34)) (x:=(keysTo s at_).length) (y:=(keysTo s (at_+1)).length) (congrArg List.length (keys_out hp0)).symm ⟨S10,⟨(by show at_+1≤LL.length;omega),by rw [keys_out hp0];exact hI6.2.1,hI6.2.2.1,hI6.2.2.2⟩⟩),(by show LL.length-(at_+1)<LL.length-at_;omega)⟩
  ·have hp0:pendOf s at_≠[]:=fun h=>hb7 (by rw [hCl,h];rfl)
   refine wE (nCF (wp_skip (nSR (pv (.agg #[iv 0,iv 0,iv 0]) (nW rfl (.agg #[iv 0,iv 0,iv 0]) S9 fun g11 w12 hg13 S14=>g_ (gv_stA (k:=0) (vs:=[iv 0,iv 0,iv 0]) S14 0 rfl rfl kr_ kr_ kr_ rfl (by simp [Value.oneCell']) (Nat.le_of_ble_eq_true kr_) (L':=(row g11 #[iv 0,iv 0,iv 0] 145::vec 31 1 (.slice A1 CC.length c1) CC.length (CC.map PEnt.val)::rR2 g gl LL.length cl (.slice A2 PP.length c2) s.left s.life s.rd s.wr s.fl s.rf 0::row gl ((LL.map PEnt.val++junk).toArray) 31::vec 143 2 (.slice A2 PP.length c2) PP.length (putsV PP)::stars (pool2.map PEnt.row)::vec 143 2 v FF.length (putsV FF)::L)) rfl (fun w15 S16=>wE (nS (sR (pv (.slice A n c) (pv (iv (n:Nat)) (dC (((n:Nat):Int)>0) (fun hb17=> ?_) fun hb17=> ?_))))))))))))
   ·have hp1:0<ps.length:=by omega
    have hn1:n=n-1+1:=by omega
    obtain ⟨ad,hAd,hrp⟩:=hr.out _ [row g11 #[.int .i64 0,.int .i64 0,.int .i64 0] 145,vec 31 1 (.slice A1 CC.length c1) CC.length (CC.map PEnt.val),row g #[.slice (some ⟨gl,0,none⟩) LL.length cl,.slice A2 PP.length c2,.int .i64 s.left,.int .i64 s.life,.int .i64 s.rd,.int .i64 s.wr,.int .i64 s.fl,.int .i64 s.rf,.int .i64 0] 138,row gl ((LL.map PEnt.val++junk).toArray) 31,vec 143 2 (.slice A2 PP.length c2) PP.length (putsV PP),stars (pool2.map PEnt.row),vec 143 2 v FF.length (putsV FF)] S16 (by rw [length_picksV];omega)
    have hrq:RdV w15 (some ad) (picksV ps):=fun _=>⟨ad,rfl,hrp⟩
    have hkm:(keysTo s at_).length%ps.length<ps.length:=Nat.mod_lt _ hp1
    have hpk:ps[(keysTo s at_).length%ps.length]?=some (pickAt ps (keysTo s at_).length):=by unfold pickAt;rw [if_neg om_,List.getD_eq_getElem?_getD,List.getElem?_eq_getElem hkm];rfl
    refine wE (nCT (wp_region_lit (pv (.slice A n c) (pv (nI_ ((keysTo s at_).length)) (pv (.slice A n c) (pv (iv (n:Nat)) (g_ (gv_int (k:=.i64) (z:=Int.tmod (((keysTo s at_).length:Nat):Int) (n:Nat)) (z':=(((keysTo s at_).length%ps.length:Nat):Int)) (by rw [hn1];kernel_rfl) (tmod_nat' rfl om_) (g_ (gv_ixB (e:=145) (sz:=3) (n:=n) (c:=c) (i:=(((keysTo s at_).length%ps.length:Nat):Int)) (k:=.i64) (ad:=ad) (ad':=(ad.add (((keysTo s at_).length%ps.length)*3))) (j:=((keysTo s at_).length%ps.length)) rfl kr_ kr_ (by rw [←hAd];kernel_rfl) kr_ rfl om_ rfl (g_ (gv_ldRA (ad:=ad.add ((keysTo s at_).length%ps.length*3)) (vs:=[iv ((pickAt ps (keysTo s at_).length).1),iv ((pickAt ps (keysTo s at_).length).2.1),iv ((pickAt ps (keysTo s at_).length).2.2)]) (n:=3) rfl kr_ kr_ rfl (RoV.cells hrq ((keysTo s at_).length%ps.length*3) (fun j u hu=>picksV_at ps _ _ hpk j u hu) (Nat.succ_pos _)) (g_ (gv_stA (k:=0) (vs:=[iv ((pickAt ps (keysTo s at_).length).1),iv ((pickAt ps (keysTo s at_).length).2.1),iv ((pickAt ps (keysTo s at_).length).2.2)]) S16 0 rfl rfl kr_ kr_ kr_ rfl (by simp [Value.oneCell']) (Nat.le_of_ble_eq_true kr_) (L':=(row g11 #[iv ((pickAt ps (keysTo s at_).length).1),iv ((pickAt ps (keysTo s at_).length).2.1),iv ((pickAt ps (keysTo s at_).length).2.2)] 145::vec 31 1 (.slice A1 CC.length c1) CC.length (CC.map PEnt.val)::rR2 g gl LL.length cl (.slice A2 PP.length c2) s.left s.life s.rd s.wr s.fl s.rf 0::row gl ((LL.map PEnt.val++junk).toArray) 31::vec 143 2 (.slice A2 PP.length c2) PP.length (putsV PP)::stars (pool2.map PEnt.row)::vec 143 2 v FF.length (putsV FF)::L)) rfl (fun w18 S19=> ?_)))))))))))))))
    refine wER (pv v (pv (nI_ at_) (pv (.slice A1 CC.length c1) (g_ (gv_ldA (k:=0) (n:=3) (vs:=[iv ((pickAt ps (keysTo s at_).length).1),iv ((pickAt ps (keysTo s at_).length).2.1),iv ((pickAt ps (keysTo s at_).length).2.2)]) S19 0 rfl rfl kr_ kr_ rfl rfl (g_ (gv_call (args:=#[.slice A1 CC.length c1,.agg #[iv ((pickAt ps (keysTo s at_).length).1),iv ((pickAt ps (keysTo s at_).length).2.1),iv ((pickAt ps (keysTo s at_).length).2.2)]]) rfl Try.func86 kr_ rfl rfl kr_ ?_)))))))
    have S23:St F w0 w18 (vec 31 1 (.slice A1 CC.length c1) CC.length (CC.map PEnt.val)::stars (pool2.map PEnt.row)::row g11 #[iv ((pickAt ps (keysTo s at_).length).1),iv ((pickAt ps (keysTo s at_).length).2.1),iv ((pickAt ps (keysTo s at_).length).2.2)] 145::rR2 g gl LL.length cl (.slice A2 PP.length c2) s.left s.life s.rd s.wr s.fl s.rf 0::row gl ((LL.map PEnt.val++junk).toArray) 31::vec 143 2 (.slice A2 PP.length c2) PP.length (putsV PP)::vec 143 2 v FF.length (putsV FF)::L):=St.pm 7 [1,5,0,2,3,4,6] S19
    refine Calls.mono (rtorn S23 hCp hC5 om_ om_) ?_
    rintro _ w20 ⟨g22,rfl,S21⟩
    rw [hCC] at S21
    refine ⟨_,rfl, ?_⟩
    change St F w0 w20 (row g22 (bvs (tornS (candS s at_) (pickAt ps (keysTo s at_).length))) 5::vec 31 1 (.slice A1 CC.length c1) CC.length (CC.map PEnt.val)::stars (pool2.map PEnt.row)::row g11 #[iv ((pickAt ps (keysTo s at_).length).1),iv ((pickAt ps (keysTo s at_).length).2.1),iv ((pickAt ps (keysTo s at_).length).2.2)] 145::rR2 g gl LL.length cl (.slice A2 PP.length c2) s.left s.life s.rd s.wr s.fl s.rf 0::row gl ((LL.map PEnt.val++junk).toArray) 31::vec 143 2 (.slice A2 PP.length c2) PP.length (putsV PP)::vec 143 2 v FF.length (putsV FF)::L) at S21
    refine pv (.agg #[nI_ at_,sl g22 0 512 512]) (g_ (gv_slit (e:=143) (sz:=2) (z:=.agg #[iv 0,.slice none 0 0]) (by_:=32) (vs:=#[(0,.agg #[nI_ at_,sl g22 0 512 512])]) (cells:=#[nI_ at_,sl g22 0 512 512]) S21 rfl kr_ ⟨by kernel_rfl⟩ kr_ kr_ kr_ kr_ (fun g24 w25 hg26 S27=> ?_)))
    have S28:St F w0 w25 (row g24 #[nI_ at_,sl g22 0 512 512] 143::vec 143 2 v FF.length (putsV FF)::row g22 (bvs (tornS (candS s at_) (pickAt ps (keysTo s at_).length))) 5::vec 31 1 (.slice A1 CC.length c1) CC.length (CC.map PEnt.val)::stars (pool2.map PEnt.row)::row g11 #[iv ((pickAt ps (keysTo s at_).length).1),iv ((pickAt ps (keysTo s at_).length).2.1),iv ((pickAt ps (keysTo s at_).length).2.2)] 145::rR2 g gl LL.length cl (.slice A2 PP.length c2) s.left s.life s.rd s.wr s.fl s.rf 0::row gl ((LL.map PEnt.val++junk).toArray) 31::vec 143 2 (.slice A2 PP.length c2) PP.length (putsV PP)::L):=St.pm 9 [0,8,1,2,3,4,5,6,7] S27
    refine g_ (gv_appendW (e:=143) (sz:=2) (n:=FF.length) (v:=v) (vals:=(putsV FF)) (z:=.agg #[iv 0,.slice none 0 0]) (by_:=32) (m:=1) (c':=1) (ad:=⟨g24,0,none⟩) (news:=[nI_ at_,sl g22 0 512 512]) (St.swap S28) rfl kr_ ⟨by kernel_rfl⟩ rfl kr_ kr_ dc_ rfl (row_news (S28.blk 0 rfl)) (by intro u hu;simp at hu;rcases hu with rfl|rfl<;>rfl) om_ om_ om_ (fun v30 w29 S31=>pv v30 (wE ?_)))
    refine nR (pv (nI_ ((keysTo s at_).length)) (gI .i64 (IntKind.i64.wrap ((((keysTo s at_).length:Nat):Int)+1)) (((keysTo s at_).length+1:Nat):Int) (wr_eq om_ om_ om_) (pv (nI_ ((keysTo s at_).length+1)) (wE (inb_n (nR (pv (nI_ at_) (gI .i64 (IntKind.i64.wrap (((at_:Nat):Int)+1)) ((at_+1:Nat):Int) (wr_eq om_ om_ om_) (pv (nI_ (at_+1)) (wE (then_n ?_)))))))))))
    have S32:St F w0 w29 (row g22 (bvs (tornS (candS s at_) (pickAt ps (keysTo s at_).length))) 5::stars (pool2.map PEnt.row)::rR2 g gl LL.length cl (.slice A2 PP.length c2) s.left s.life s.rd s.wr s.fl s.rf 0::row gl ((LL.map PEnt.val++junk).toArray) 31::vec 143 2 (.slice A2 PP.length c2) PP.length (putsV PP)::vec 143 2 v30 (FF.length+1) (putsV FF++[nI_ at_,sl g22 0 512 512])::L):=St.pm 9 [2,4,6,7,8,0] S31
    have S33:St F w0 w29 (stars (((g22,tornS (candS s at_) (pickAt ps (keysTo s at_).length))::pool2).map PEnt.row)::rR2 g gl LL.length cl (.slice A2 PP.length c2) s.left s.life s.rd s.wr s.fl s.rf 0::row gl ((LL.map PEnt.val++junk).toArray) 31::vec 143 2 (.slice A2 PP.length c2) PP.length (putsV PP)::vec 143 2 v30 (FF.length+1) (putsV FF++[nI_ at_,sl g22 0 512 512])::L):=St.pool_add S32
    have S34:St F w0 w29 (rR2 g gl LL.length cl (.slice A2 PP.length c2) s.left s.life s.rd s.wr s.fl s.rf 0::row gl ((LL.map PEnt.val++junk).toArray) 31::vec 143 2 (.slice A2 PP.length c2) PP.length (putsV PP)::stars (((g22,tornS (candS s at_) (pickAt ps (keysTo s at_).length))::pool2).map PEnt.row)::vec 143 2 v30 (FF.length+1) (putsV FF++[nI_ at_,sl g22 0 512 512])::L):=St.pm 5 [1,2,3,0,4] S33
    have hv9:putsV FF++[nI_ at_,.slice (some ⟨g22,0,none⟩) 512 512]=putsV (FF++[((g22,at_,tornS (candS s at_) (pickAt ps (keysTo s at_).length)):RPut)]):=putsV_snoc FF ((g22,at_,tornS (candS s at_) (pickAt ps (keysTo s at_).length)):RPut)
    have hn9:FF.length+1=(FF++[((g22,at_,tornS (candS s at_) (pickAt ps (keysTo s at_).length)):RPut)]).length:=by rw [List.length_append];rfl
    rw [hv9,hn9] at S34
    exact ⟨(at_+1,v30,FF++[((g22,at_,tornS (candS s at_) (pickAt ps (keysTo s at_).length)):RPut)],(g22,tornS (candS s at_) (pickAt ps (keysTo s at_).length))::pool2),(jF_ (fun z_:Nat=>(fr [pq g,.slice A n c,ud,ud,nI_ z_,v30,nI_ (at_+1),.slice A1 CC.length c1,pq g11,ud,pq g,pq g,po g 1,.slice A2 PP.length c2,iv (PP.length:Nat),tv,nI_ at_,pq g,pq g,pq g,sl gl 0 LL.length cl,iv (LL.length:Nat),tv,nI_ at_,nI_ (at_+1),pq g,nI_ at_,.slice A1 CC.length c1,.slice A1 CC.length c1,iv (CC.length:Nat),fv,.agg #[iv 0,iv 0,iv 0],.slice A n c,iv (n:Nat),tv,.slice A n c,nI_ ((keysTo s at_).length),.slice A n c,iv (n:Nat),nI_ ((keysTo s at_).length%ps.length),.pointer (some (ad.add (((keysTo s at_).length%ps.length)*3))),.agg #[iv ((pickAt ps (keysTo s at_).length).1),iv ((pickAt ps (keysTo s at_).length).2.1),iv ((pickAt ps (keysTo s at_).length).2.2)],v,nI_ at_,.slice A1 CC.length c1,.agg #[iv ((pickAt ps (keysTo s at_).length).1),iv ((pickAt ps (keysTo s at_).length).2.1),iv ((pickAt ps (keysTo s at_).length).2.2)],sl g22 0 512 512,.agg #[nI_ at_,sl g22 0 512 512],sl g24 0 1 1,v30,nI_ ((keysTo s at_).length),nI_ ((keysTo s at_).length+1)] 34)) (x:=(keysTo s at_).length+1) (y:=(keysTo s (at_+1)).length) (by rw [keys_in hp0,List.length_append];rfl) ⟨S34,⟨(by show at_+1≤LL.length;omega),by rw [outs_in hp0,List.map_append,hI6.2.1];rfl,hI6.2.2.1.more _,fun z hz=>(List.mem_append.1 hz).elim (fun h=>List.mem_cons_of_mem _ (hI6.2.2.2 z h)) (fun h=>by rw [List.mem_singleton] at h;subst h;exact List.mem_cons_self)⟩⟩),(by show LL.length-(at_+1)<LL.length-at_;omega)⟩
   ·have hpk:pickAt ps (keysTo s at_).length=(0,0,0):=if_pos om_
    have S35:St F w0 w15 (row g11 #[iv ((pickAt ps (keysTo s at_).length).1),iv ((pickAt ps (keysTo s at_).length).2.1),iv ((pickAt ps (keysTo s at_).length).2.2)] 145::vec 31 1 (.slice A1 CC.length c1) CC.length (CC.map PEnt.val)::rR2 g gl LL.length cl (.slice A2 PP.length c2) s.left s.life s.rd s.wr s.fl s.rf 0::row gl ((LL.map PEnt.val++junk).toArray) 31::vec 143 2 (.slice A2 PP.length c2) PP.length (putsV PP)::stars (pool2.map PEnt.row)::vec 143 2 v FF.length (putsV FF)::L):=(by rw [hpk];exact S16)
    refine wE (nCF (wp_skip (nSR (pv v (pv (nI_ at_) (pv (.slice A1 CC.length c1) (g_ (gv_ldA (k:=0) (n:=3) (vs:=[iv ((pickAt ps (keysTo s at_).length).1),iv ((pickAt ps (keysTo s at_).length).2.1),iv ((pickAt ps (keysTo s at_).length).2.2)]) S35 0 rfl rfl kr_ kr_ rfl rfl (g_ (gv_call (args:=#[.slice A1 CC.length c1,.agg #[iv ((pickAt ps (keysTo s at_).length).1),iv ((pickAt ps (keysTo s at_).length).2.1),iv ((pickAt ps (keysTo s at_).length).2.2)]]) rfl Try.func86 kr_ rfl rfl kr_ ?_))))))))))
    have S39:St F w0 w15 (vec 31 1 (.slice A1 CC.length c1) CC.length (CC.map PEnt.val)::stars (pool2.map PEnt.row)::row g11 #[iv ((pickAt ps (keysTo s at_).length).1),iv ((pickAt ps (keysTo s at_).length).2.1),iv ((pickAt ps (keysTo s at_).length).2.2)] 145::rR2 g gl LL.length cl (.slice A2 PP.length c2) s.left s.life s.rd s.wr s.fl s.rf 0::row gl ((LL.map PEnt.val++junk).toArray) 31::vec 143 2 (.slice A2 PP.length c2) PP.length (putsV PP)::vec 143 2 v FF.length (putsV FF)::L):=St.pm 7 [1,5,0,2,3,4,6] S35
    refine Calls.mono (rtorn S39 hCp hC5 om_ om_) ?_
    rintro _ w36 ⟨g38,rfl,S37⟩
    rw [hCC] at S37
    refine ⟨_,rfl, ?_⟩
    change St F w0 w36 (row g38 (bvs (tornS (candS s at_) (pickAt ps (keysTo s at_).length))) 5::vec 31 1 (.slice A1 CC.length c1) CC.length (CC.map PEnt.val)::stars (pool2.map PEnt.row)::row g11 #[iv ((pickAt ps (keysTo s at_).length).1),iv ((pickAt ps (keysTo s at_).length).2.1),iv ((pickAt ps (keysTo s at_).length).2.2)] 145::rR2 g gl LL.length cl (.slice A2 PP.length c2) s.left s.life s.rd s.wr s.fl s.rf 0::row gl ((LL.map PEnt.val++junk).toArray) 31::vec 143 2 (.slice A2 PP.length c2) PP.length (putsV PP)::vec 143 2 v FF.length (putsV FF)::L) at S37
    refine pv (.agg #[nI_ at_,sl g38 0 512 512]) (g_ (gv_slit (e:=143) (sz:=2) (z:=.agg #[iv 0,.slice none 0 0]) (by_:=32) (vs:=#[(0,.agg #[nI_ at_,sl g38 0 512 512])]) (cells:=#[nI_ at_,sl g38 0 512 512]) S37 rfl kr_ ⟨by kernel_rfl⟩ kr_ kr_ kr_ kr_ (fun g40 w41 hg42 S43=> ?_)))
    have S44:St F w0 w41 (row g40 #[nI_ at_,sl g38 0 512 512] 143::vec 143 2 v FF.length (putsV FF)::row g38 (bvs (tornS (candS s at_) (pickAt ps (keysTo s at_).length))) 5::vec 31 1 (.slice A1 CC.length c1) CC.length (CC.map PEnt.val)::stars (pool2.map PEnt.row)::row g11 #[iv ((pickAt ps (keysTo s at_).length).1),iv ((pickAt ps (keysTo s at_).length).2.1),iv ((pickAt ps (keysTo s at_).length).2.2)] 145::rR2 g gl LL.length cl (.slice A2 PP.length c2) s.left s.life s.rd s.wr s.fl s.rf 0::row gl ((LL.map PEnt.val++junk).toArray) 31::vec 143 2 (.slice A2 PP.length c2) PP.length (putsV PP)::L):=St.pm 9 [0,8,1,2,3,4,5,6,7] S43
    refine g_ (gv_appendW (e:=143) (sz:=2) (n:=FF.length) (v:=v) (vals:=(putsV FF)) (z:=.agg #[iv 0,.slice none 0 0]) (by_:=32) (m:=1) (c':=1) (ad:=⟨g40,0,none⟩) (news:=[nI_ at_,sl g38 0 512 512]) (St.swap S44) rfl kr_ ⟨by kernel_rfl⟩ rfl kr_ kr_ dc_ rfl (row_news (S44.blk 0 rfl)) (by intro u hu;simp at hu;rcases hu with rfl|rfl<;>rfl) om_ om_ om_ (fun v46 w45 S47=>pv v46 (wE (nR (pv (nI_ ((keysTo s at_).length)) (gI .i64 (IntKind.i64.wrap ((((keysTo s at_).length:Nat):Int)+1)) (((keysTo s at_).length+1:Nat):Int) (wr_eq om_ om_ om_) (pv (nI_ ((keysTo s at_).length+1)) (wE ?_))))))))
    refine inb_n (nR (pv (nI_ at_) (gI .i64 (IntKind.i64.wrap (((at_:Nat):Int)+1)) ((at_+1:Nat):Int) (wr_eq om_ om_ om_) (pv (nI_ (at_+1)) (wE (then_n ?_))))))
    have S48:St F w0 w45 (row g38 (bvs (tornS (candS s at_) (pickAt ps (keysTo s at_).length))) 5::stars (pool2.map PEnt.row)::rR2 g gl LL.length cl (.slice A2 PP.length c2) s.left s.life s.rd s.wr s.fl s.rf 0::row gl ((LL.map PEnt.val++junk).toArray) 31::vec 143 2 (.slice A2 PP.length c2) PP.length (putsV PP)::vec 143 2 v46 (FF.length+1) (putsV FF++[nI_ at_,sl g38 0 512 512])::L):=St.pm 9 [2,4,6,7,8,0] S47
    have S49:St F w0 w45 (stars (((g38,tornS (candS s at_) (pickAt ps (keysTo s at_).length))::pool2).map PEnt.row)::rR2 g gl LL.length cl (.slice A2 PP.length c2) s.left s.life s.rd s.wr s.fl s.rf 0::row gl ((LL.map PEnt.val++junk).toArray) 31::vec 143 2 (.slice A2 PP.length c2) PP.length (putsV PP)::vec 143 2 v46 (FF.length+1) (putsV FF++[nI_ at_,sl g38 0 512 512])::L):=St.pool_add S48
    have S50:St F w0 w45 (rR2 g gl LL.length cl (.slice A2 PP.length c2) s.left s.life s.rd s.wr s.fl s.rf 0::row gl ((LL.map PEnt.val++junk).toArray) 31::vec 143 2 (.slice A2 PP.length c2) PP.length (putsV PP)::stars (((g38,tornS (candS s at_) (pickAt ps (keysTo s at_).length))::pool2).map PEnt.row)::vec 143 2 v46 (FF.length+1) (putsV FF++[nI_ at_,sl g38 0 512 512])::L):=St.pm 5 [1,2,3,0,4] S49
    have hv9:putsV FF++[nI_ at_,.slice (some ⟨g38,0,none⟩) 512 512]=putsV (FF++[((g38,at_,tornS (candS s at_) (pickAt ps (keysTo s at_).length)):RPut)]):=putsV_snoc FF ((g38,at_,tornS (candS s at_) (pickAt ps (keysTo s at_).length)):RPut)
    have hn9:FF.length+1=(FF++[((g38,at_,tornS (candS s at_) (pickAt ps (keysTo s at_).length)):RPut)]).length:=by rw [List.length_append];rfl
    rw [hv9,hn9] at S50
    exact ⟨(at_+1,v46,FF++[((g38,at_,tornS (candS s at_) (pickAt ps (keysTo s at_).length)):RPut)],(g38,tornS (candS s at_) (pickAt ps (keysTo s at_).length))::pool2),(jF_ (fun z_:Nat=>(fr ([pq g,.slice A n c,ud,ud,nI_ z_,v46,nI_ (at_+1),.slice A1 CC.length c1,pq g11,ud,pq g,pq g,po g 1,.slice A2 PP.length c2,iv (PP.length:Nat),tv,nI_ at_,pq g,pq g,pq g,sl gl 0 LL.length cl,iv (LL.length:Nat),tv,nI_ at_,nI_ (at_+1),pq g,nI_ at_,.slice A1 CC.length c1,.slice A1 CC.length c1,iv (CC.length:Nat),fv,.agg #[iv 0,iv 0,iv 0],.slice A n c,iv (n:Nat),fv]++jR J 35 7++[v,nI_ at_,.slice A1 CC.length c1,.agg #[iv ((pickAt ps (keysTo s at_).length).1),iv ((pickAt ps (keysTo s at_).length).2.1),iv ((pickAt ps (keysTo s at_).length).2.2)],sl g38 0 512 512,.agg #[nI_ at_,sl g38 0 512 512],sl g40 0 1 1,v46,nI_ ((keysTo s at_).length),nI_ ((keysTo s at_).length+1)]) 34)) (x:=(keysTo s at_).length+1) (y:=(keysTo s (at_+1)).length) (by rw [keys_in hp0,List.length_append];rfl) ⟨S50,⟨(by show at_+1≤LL.length;omega),by rw [outs_in hp0,List.map_append,hI6.2.1];rfl,hI6.2.2.1.more _,fun z hz=>(List.mem_append.1 hz).elim (fun h=>List.mem_cons_of_mem _ (hI6.2.2.2 z h)) (fun h=>by rw [List.mem_singleton] at h;subst h;exact List.mem_cons_self)⟩⟩),(by show LL.length-(at_+1)<LL.length-at_;omega)⟩
 ·have hFo:FF.map (·.2)=crashOuts s ps:=by rw [hI6.2.1,show at_=s.last.length by omega];rfl
  have hf2:=hI6.2.2.1
  have hFp:=hI6.2.2.2
  have hFl:FF.length≤2048:=by have:=congrArg List.length hI6.2.1;rw [List.length_map,List.length_mapIdx] at this;have:=keysTo_len s at_;omega
  have hFn:FF.length=(crashOuts s ps).length:=by rw [←hFo,List.length_map]
  have ho5:=hf2.outs5 ps
  have hFx:∀i,i<FF.length→∃x,FF[i]?=some x∧x.ref∈pool2∧(crashOuts s ps)[i]?=some x.2∧x.2.1<s.last.length:=fun i hi=>⟨FF[i],List.getElem?_eq_getElem hi,hFp _ (List.getElem_mem hi),by rw [←hFo,List.getElem?_map,List.getElem?_eq_getElem hi];rfl,(ho5 _ (by rw [←hFo];exact List.mem_map.2 ⟨_,List.getElem_mem hi,rfl⟩)).2⟩
  obtain ⟨A3,c3,rfl⟩:=St.vec_v S5 4 rfl
  refine wE (nCF (wp_exit (then_x (then_x (inb_x (nS (sR (pv (iv 0) (wE (then_n (wp_block (wp_loop_g (G:=Nat×List (Nat×List UInt8)) (fun (g_:Nat×List (Nat×List UInt8)) (a_:Act) (w_:World)=>∃J:Nat→Value,a_=(fr ([pq g,.slice A n c,ud,ud,nI_ ((keysTo s at_).length),.slice A3 FF.length c3,nI_ at_,J 7,J 8,nI_ g_.1,pq g,pq g,po g 1,.slice A2 PP.length c2,iv (PP.length:Nat),tv,nI_ at_,pq g,pq g,pq g,sl gl 0 LL.length cl,iv (LL.length:Nat),fv]++jR J 23 50) 13)∧St F w0 w_ (rR2 g gl LL.length cl (.slice A2 PP.length c2) s.left s.life s.rd s.wr s.fl s.rf 0::row gl ((g_.2.map PEnt.val++junk).toArray) 31::vec 143 2 (.slice A2 PP.length c2) PP.length (putsV PP)::stars (pool2.map PEnt.row)::vec 143 2 (.slice A3 FF.length c3) FF.length (putsV FF)::L)∧(g_.1≤FF.length∧g_.2.map (·.2)=applyP s.last ((crashOuts s ps).take g_.1)∧(∀x∈g_.2,x∈pool2))) (fun g_=>FF.length-g_.1) (0,LL) (jE_ ⟨S5,⟨Nat.zero_le _,(by rw [List.take_zero];exact hf2.last),hf2.lin⟩⟩) ?_))))))))))))
  rintro ⟨i,LL1⟩ a_ w51 ⟨J,rfl,S52,hI53⟩
  skip
  have S52:St F w0 w51 (rR2 g gl LL.length cl (.slice A2 PP.length c2) s.left s.life s.rd s.wr s.fl s.rf 0::row gl ((LL1.map PEnt.val++junk).toArray) 31::vec 143 2 (.slice A2 PP.length c2) PP.length (putsV PP)::stars (pool2.map PEnt.row)::vec 143 2 (.slice A3 FF.length c3) FF.length (putsV FF)::L):=S52
  have hI53:(i≤FF.length∧LL1.map (·.2)=applyP s.last ((crashOuts s ps).take i)∧(∀x∈LL1,x∈pool2)):=hI53
  refine wp_seq (sR (pv (nI_ i) (pv (.slice A3 FF.length c3) (pv (iv (FF.length:Nat)) (dC ((((i:Nat):Int):Int)<(FF.length:Nat)) (fun hb54=> ?_) fun hb54=> ?_)))))
  ·obtain ⟨x,hx,hxp,hxs,hxk⟩:=hFx i om_
   have hl1:=turn_len (LL:=LL) hI53.2.1
   obtain ⟨ad2,hAd2,hrd⟩:=(St.vec_rd S52 4 rfl) (by rw [length_putsV];omega)
   refine wE (nCT (wp_skip (nS (wp_block (wp_region_phu (γ:=Unit) 14 [] (fun (c_:Unit) (i_:Nat)=>(match i_ with|0=>pq g|1=>pq g|2=>pq g|3=>sl gl 0 LL.length cl|4=>.slice A3 FF.length c3|5=>nI_ i|6=>.pointer (some (ad2.add (i*2)))|7=>.pointer (some (ad2.add (i*2)))|8=>nI_ x.2.1|9=>.slice A3 FF.length c3|10=>nI_ i|11=>.pointer (some (ad2.add (i*2)))|12=>.pointer (some ((ad2.add (i*2)).add 1))|13=>sl x.1 0 512 512|_=>undef:Value)) (fun (c_:Unit) (p_:Nat) (w_:World)=>(match p_ with|_=>St F w0 w_ (rR2 g gl LL.length cl (.slice A2 PP.length c2) s.left s.life s.rd s.wr s.fl s.rf 0::row gl ((LL1.map PEnt.val++junk).toArray) 31::vec 143 2 (.slice A2 PP.length c2) PP.length (putsV PP)::stars (pool2.map PEnt.row)::vec 143 2 (.slice A3 FF.length c3) FF.length (putsV FF)::L):Prop)) () kr_ kr_ kr_ kr_ (S52.drew) ?_ ?_ ?_)))))
   ·intro i_ c_ p_ vals_ w1 hi_ hiE_ hp_ hk_ hu_ hPh_ hd_
    rcases i_ with _|_|_|_|_|_|_|_|_|_|_|_|_|_|i_
    ·exact tG_ rfl hd_ (gV (pq g) ⟨rfl,rfl⟩)
    ·exact tG_ rfl hd_ (gV (pq g) ⟨rfl,rfl⟩)
    ·exact tG_ rfl hd_ (gV (pq g) ⟨rfl,rfl⟩)
    ·have S58:=St.id hPh_
     exact tG_ rfl hd_ (gL (sl gl 0 LL.length cl) rfl (((S58.blk 0 rfl).cell 0).trans rfl) ⟨rfl,rfl⟩)
    ·exact tG_ rfl hd_ (gV (.slice A3 FF.length c3) ⟨rfl,rfl⟩)
    ·exact tG_ rfl hd_ (gV (nI_ i) ⟨rfl,rfl⟩)
    ·exact tG_ rfl hd_ (gv_ixB (e:=143) (sz:=2) (n:=FF.length) (c:=c3) (i:=((i:Nat):Int)) (k:=.i64) (ad:=ad2) (ad':=(ad2.add (i*2))) (j:=i) rfl kr_ kr_ (by rw [←hAd2];kernel_rfl) kr_ rfl om_ rfl ⟨rfl,rfl⟩)
    ·exact tG_ rfl hd_ (gV (.pointer (some (ad2.add (i*2)))) ⟨rfl,rfl⟩)
    ·have S63:=St.id hPh_
     exact tG_ rfl hd_ (gL (nI_ x.2.1) rfl (put_at (rdv_at (St.vec_rd S63 4 rfl) hAd2 (by rw [length_putsV];omega)) hx) ⟨rfl,rfl⟩)
    ·exact tG_ rfl hd_ (gV (.slice A3 FF.length c3) ⟨rfl,rfl⟩)
    ·exact tG_ rfl hd_ (gV (nI_ i) ⟨rfl,rfl⟩)
    ·exact tG_ rfl hd_ (gv_ixB (e:=143) (sz:=2) (n:=FF.length) (c:=c3) (i:=((i:Nat):Int)) (k:=.i64) (ad:=ad2) (ad':=(ad2.add (i*2))) (j:=i) rfl kr_ kr_ (by rw [←hAd2];kernel_rfl) kr_ rfl om_ rfl ⟨rfl,rfl⟩)
    ·exact tG_ rfl hd_ (gV (.pointer (some ((ad2.add (i*2)).add 1))) ⟨rfl,rfl⟩)
    ·have S68:=St.id hPh_
     exact tG_ rfl hd_ (gL (PEnt.val x.ref) rfl (put_data (rdv_at (St.vec_rd S68 4 rfl) hAd2 (by rw [length_putsV];omega)) hx) ⟨rfl,rfl⟩)
    ·exact absurd hi_ om_
   ·intro k_ c_ vals_ w1 hk_ hPh_ hd_
    exact absurd hk_ (Nat.not_lt_zero _)
   ·intro c_ w1 hPh_
    have S69:=St.id hPh_
    refine (g_ (gv_ixE (e:=31) (sz:=1) (g:=gl) (off:=0) (n:=LL.length) (c:=cl) (i:=((x.2.1:Nat):Int)) (k:=.i64) (j:=x.2.1) (off':=x.2.1) rfl kr_ kr_ kr_ kr_ rfl om_ om_ (g_ (gv_st (k:=x.2.1) (v:=PEnt.val x.ref) S69 1 rfl rfl kr_ kr_ kr_ rfl (ll_blt om_) (L':=(rR2 g gl LL.length cl (.slice A2 PP.length c2) s.left s.life s.rd s.wr s.fl s.rf 0::row gl (((LL1.set x.2.1 x.ref).map PEnt.val++junk).toArray) 31::vec 143 2 (.slice A2 PP.length c2) PP.length (putsV PP)::stars (pool2.map PEnt.row)::vec 143 2 (.slice A3 FF.length c3) FF.length (putsV FF)::L)) (by rw [ll_set om_];rfl) (fun w70 S71=> ?_)))))
    exact wE (inb_n (nR (pv (nI_ i) (gI .i64 (IntKind.i64.wrap (((i:Nat):Int)+1)) ((i+1:Nat):Int) (wr_eq om_ om_ om_) (pv (nI_ (i+1)) (wE (then_n ⟨(i+1,LL1.set x.2.1 x.ref),(jE_ ⟨S71,⟨by omega,(by rw [List.take_add_one,hxs];exact turn_one hI53.2.1),mem_set' hI53.2.2 hxp⟩⟩),(by show FF.length-(i+1)<FF.length-i;omega)⟩)))))))
  ·refine wE (nCF (wp_exit (then_x (then_x (inb_x (nSR (pv (pq g) (pv (pq g) (pv (po g 1) (sS S52 0 rfl 1 (.slice none 0 0) fun w72 S73=>wER (pv (pq g) (pv (pq g) ?_))))))))))))
   refine pv (po g 2) (sS S73 0 rfl 2 (iv (-1)) fun w74 S75=>wE (nR (pv (pq g) (pv (pq g) (pv (po g 3) (lR (iv s.life) S75 0 3 (pv (iv (inc s.life)) (pv (pq g) (pv (po g 3) (sS S75 0 rfl 3 (iv (inc s.life)) fun w76 S77=>wE (bodyPost_end (v:=.tuple #[]) (results_none rfl _ _ _) rfl ?_)))))))))))
   have S78:St F w0 w76 (rR2 g gl LL.length cl (.slice none 0 0) (-1) (inc s.life) s.rd s.wr s.fl s.rf 0::row gl ((LL1.map PEnt.val++junk).toArray) 31::stars (pool2.map PEnt.row)::L):=St.pm 5 [0,1,3] S77
   have htk:(crashOuts s ps).take i=crashOuts s ps:=List.take_of_length_le om_
   rw [htk] at hI53
   have hl1:LL.length=LL1.length:=by rw [turn_len (LL:=LL) hI53.2.1];exact hll
   rw [hl1] at S78
   have S9:=St.permT [_,_,_,_] [1,2,0,3] dc_ rfl (St.vec_nil (e:=143) (sz:=2) S78)
   exact ⟨rfl,St.rclose (gl:=gl) (cl:=cl) (c2:=0) (A2:=none) (junk:=junk) (LL:=LL1) (PP:=([]:List RPut)) (pool:=pool2) (s:=s.crashR ps) S9 (hf2.turned (s':=s.crashR ps) hI53.2.1 (fun x hx=>(ho5 x hx).1) hI53.2.2 rfl rfl (show (-1:Int)≤ -1∧(-1:Int)≤9223372036854775807 by decide)) (by rw [←hl1];exact hcl) (by rw [List.length_append,List.length_map,←hl1];rw [List.length_append,List.length_map] at hju;exact hju)⟩
section
variable {F:Nat→Prop} {w0 w:World} {L:List Ast}
theorem St.pd_small {g:Nat}{s:Dsk}(S:St F w0 w (PDisk g s::L)):(∀l∈s.last,l.length=512)∧s.last.length≤2048:=by
 obtain ⟨gd,gm,clock,es,fused,left,hf,_⟩:=St.popen S
 exact ⟨hf.len,hf.n2⟩
theorem rot_vec {F:Nat→Prop}{w0:World}{L:List Ast}{A:Option Addr}{l:List UInt8}{n c:Nat}(i:Nat)(hi:L[i]?=some (vec 5 1 (.slice A n c) n (l.map bv))):RoT F w0 L A l:=⟨fun w' L' S'=>by
 have h1:(L'++L)[L'.length+i]?=some (vec 5 1 (.slice A n c) n (l.map bv)):=by rw [List.getElem?_append_right om_];simpa using hi
 exact RdV.bytes (St.vec_rd S' _ h1)⟩
theorem asked_all {gd gr:Nat}{s:Dsk}{kind at_:Int}{A A2:Option Addr}{d:List UInt8}{ps:List Pick}{cd cp:Nat}(S:St F w0 w (PDisk gd s::RDisk gr s::L)):Calls Try.prog 91 #[.pointer (some ⟨gd,0,none⟩),.pointer (some ⟨gr,0,none⟩),.agg #[.int .i64 kind,.int .i64 at_,.slice A d.length cd,.slice A2 ps.length cp]] w fun e w'=>e=.returned (.bool true)∧St F w0 w' (PDisk gd s::RDisk gr s::L):=by
 obtain ⟨hl5,hl2⟩:=St.pd_small S
 have hfl:=flat_len hl5
 refine eN (fr [pq gd,pq gr,.agg #[iv kind,iv at_,.slice A d.length cd,.slice A2 ps.length cp]] 83) Try.func91 rfl (sR (nB rfl (.agg #[iv kind,iv at_,.slice A d.length cd,.slice A2 ps.length cp]) S fun g1 w2 hg3 S4=>pv fv (wE (nS (sR (pv (pq g1) (lR (iv kind) S4 0 0 (wE (then_n (wp_block (sR (dE kind 5 (fun hb5=> ?_) fun hb5=> ?_))))))))))))
 ·refine pv tv (wE (nCT (sR (pv (pq gd) (sO Try.func15 #[pq gd] (pd_burnt S4 1 rfl) (pv (.bool (decide (s.left=0))) (wER (pv (.bool (decide (s.left=0))) (pv (pq gr) (g_ (gv_call (args:=#[pq gr]) rfl Try.func123 kr_ rfl rfl kr_ ?_)))))))))))
  have S6:=St.pm 3 [2,0,1] S4
  refine Calls.mono (rd_burnt S6) ?_
  rintro _ w7 ⟨rfl,S8⟩
  refine ⟨_,rfl,(g_ (gB_ (b:=(decide (s.left=0))==(decide (s.left=0))) (b':=true) kr_ (by simp) (pv tv (wE (then_n (wp_ret (inb_r (then_r (bA (.bool true) ?_)))))))))⟩
  have S9:=St.pm 3 [2,0] S8
  exact ⟨rfl,S9⟩
 ·refine pv fv (wE (nCF (sR (dE kind 8 (fun hb10=> ?_) fun hb10=> ?_))))
  ·refine pv tv (wE (nCT (sR (pv (pq gd) (sO Try.func16 #[pq gd] (pd_life S4 1 rfl) (pv (iv s.life) (wER (pv (iv s.life) (pv (pq gr) (g_ (gv_call (args:=#[pq gr]) rfl Try.func124 kr_ rfl rfl kr_ ?_)))))))))))
   have S11:=St.pm 3 [2,0,1] S4
   refine Calls.mono (rd_life S11) ?_
   rintro _ w12 ⟨rfl,S13⟩
   refine ⟨_,rfl,(dE s.life s.life (fun _=>pv tv (wE (then_n (wp_ret (inb_r (then_r (bA (.bool true) ?_))))))) fun hd14=>False.elim (hd14 rfl))⟩
   have S15:=St.pm 3 [2,0] S13
   exact ⟨rfl,S15⟩
  ·refine pv fv (wE (nCF (sR (dE kind 9 (fun hb16=> ?_) fun hb16=> ?_))))
   ·refine pv tv (wE (nCT (sR (pv (pq gd) (g_ (gv_call (args:=#[pq gd]) rfl Try.func18 kr_ rfl rfl kr_ ?_))))))
    have S17:=St.pm 3 [1,0,2] S4
    refine Calls.mono (pd_image S17) ?_
    rintro _ w18 ⟨v,rfl,S19⟩
    obtain ⟨AI,rfl,S19'⟩:=St.bytes_eq S19
    refine ⟨_,rfl,(pv (.slice AI s.last.flatten.length s.last.flatten.length) (wER (pv (.slice AI s.last.flatten.length s.last.flatten.length) (pv (pq gr) (g_ (gv_call (args:=#[pq gr]) rfl Try.func31 kr_ rfl rfl kr_ ?_))))))⟩
    have S20:=St.pm 4 [3,0,1,2] S19'
    refine Calls.mono (rd_image S20) ?_
    rintro _ w21 ⟨v,rfl,S22⟩
    obtain ⟨AR,cR,rfl⟩:=St.vec_v S22 0 rfl
    refine ⟨_,rfl,(sP Try.func24 #[.slice AI s.last.flatten.length s.last.flatten.length,.slice AR s.last.flatten.length cR] (same_b (decide_eq_true rfl) S22 (RoT.bytes 2 rfl rfl) (rot_vec 0 rfl) om_ om_) fun w23 S24=>pv tv (wE (then_n (wp_ret (inb_r (then_r (bA (.bool true) ?_)))))))⟩
    have S25:=St.pm 5 [3,1] S24
    exact ⟨rfl,S25⟩
   ·refine pv fv (wE (nCF (sR (dE kind 10 (fun hb26=> ?_) fun hb26=> ?_))))
    ·refine pv tv (wE (nCT (sR (pv (pq gd) (g_ (gv_call (args:=#[pq gd]) rfl Try.func17 kr_ rfl rfl kr_ ?_))))))
     have S27:=St.pm 3 [1,0,2] S4
     refine Calls.mono (pd_counts S27) ?_
     rintro _ w28 ⟨rfl,S29⟩
     refine ⟨_,rfl,(nW rfl (.agg #[iv 0,iv 0,iv 0,iv 0,iv 0]) S29 fun g30 w31 hg32 S33=>g_ (gv_stA (k:=0) (vs:=[iv s.rd,iv s.wr,iv s.fl,iv s.rf,iv (s.pend.length:Int)]) S33 0 rfl rfl kr_ kr_ kr_ rfl (by simp [Value.oneCell']) (Nat.le_of_ble_eq_true kr_) (L':=(row g30 #[iv s.rd,iv s.wr,iv s.fl,iv s.rf,iv (s.pend.length:Int)] 29::PDisk gd s::row g1 #[iv kind,iv at_,.slice A d.length cd,.slice A2 ps.length cp] 50::RDisk gr s::L)) rfl (fun w34 S35=>wER (pv (pq gr) (g_ (gv_call (args:=#[pq gr]) rfl Try.func125 kr_ rfl rfl kr_ ?_))))))⟩
     have S36:=St.pm 4 [3,0,1,2] S35
     refine Calls.mono (rd_counts S36) ?_
     rintro _ w37 ⟨rfl,S38⟩
     refine ⟨_,rfl,(nW rfl (.agg #[iv 0,iv 0,iv 0,iv 0,iv 0]) S38 fun g39 w40 hg41 S42=>g_ (gv_stA (k:=0) (vs:=[iv s.rd,iv s.wr,iv s.fl,iv s.rf,iv (s.pend.length:Int)]) S42 0 rfl rfl kr_ kr_ kr_ rfl (by simp [Value.oneCell']) (Nat.le_of_ble_eq_true kr_) (L':=(row g39 #[iv s.rd,iv s.wr,iv s.fl,iv s.rf,iv (s.pend.length:Int)] 29::RDisk gr s::row g30 #[iv s.rd,iv s.wr,iv s.fl,iv s.rf,iv (s.pend.length:Int)] 29::PDisk gd s::row g1 #[iv kind,iv at_,.slice A d.length cd,.slice A2 ps.length cp] 50::L)) rfl (fun w43 S44=>wER (pv (pq g30) (lR (iv s.rd) S44 2 0 (pv (pq g39) (lR (iv s.rd) S44 0 0 (dE s.rd s.rd (fun _=>pv tv (pW (po g30 1) (wl_when kr_ (gv_ldR (v:=iv s.wr) rfl kr_ kr_ (((S44.blk 2 rfl).cell 1).trans rfl) (pW (po g39 1) (wl_when kr_ (gv_ldR (v:=iv s.wr) rfl kr_ kr_ (((S44.blk 0 rfl).cell 1).trans rfl) ?_))))))) fun hd45=>False.elim (hd45 rfl)))))))))⟩
     refine wl_when kr_ (gv_eq (x:=s.wr) (y:=s.wr) kr_ (fun _=>pv tv (pv tv (pW (po g30 2) (wl_when kr_ (gv_ldR (v:=iv s.fl) rfl kr_ kr_ (((S44.blk 2 rfl).cell 2).trans rfl) (pW (po g39 2) (wl_when kr_ (gv_ldR (v:=iv s.fl) rfl kr_ kr_ (((S44.blk 0 rfl).cell 2).trans rfl) (wl_when kr_ (gv_eq (x:=s.fl) (y:=s.fl) kr_ (fun _=>pv tv (pv tv (pW (po g30 3) (wl_when kr_ (gv_ldR (v:=iv s.rf) rfl kr_ kr_ (((S44.blk 2 rfl).cell 3).trans rfl) (pW (po g39 3) (wl_when kr_ (gv_ldR (v:=iv s.rf) rfl kr_ kr_ (((S44.blk 0 rfl).cell 3).trans rfl) ?_)))))))) (fun hd47=>False.elim (hd47 rfl)))))))))))) (fun hd46=>False.elim (hd46 rfl)))
     refine wl_when kr_ (gv_eq (x:=s.rf) (y:=s.rf) kr_ (fun _=>pv tv (pv tv (pW (po g30 4) (wl_when kr_ (gv_ldR (v:=iv (s.pend.length:Int)) rfl kr_ kr_ (((S44.blk 2 rfl).cell 4).trans rfl) (pW (po g39 4) (wl_when kr_ (gv_ldR (v:=iv (s.pend.length:Int)) rfl kr_ kr_ (((S44.blk 0 rfl).cell 4).trans rfl) (wl_when kr_ (gv_eq (x:=(s.pend.length:Int)) (y:=(s.pend.length:Int)) kr_ (fun _=>pv tv (pv tv (wE (then_n (wp_ret (inb_r ?_)))))) (fun hd49=>False.elim (hd49 rfl)))))))))))) (fun hd48=>False.elim (hd48 rfl)))
     refine then_r (bA (.bool true) ?_)
     have S50:=St.pm 5 [3,1] S44
     exact ⟨rfl,S50⟩
    ·refine pv fv (wE (nCF (sR (dE kind 11 (fun hb51=> ?_) fun hb51=> ?_))))
     ·refine pv tv (wE (nCT (sR (pv (pq gd) (sO Try.func14 #[pq gd] (pd_sectors S4 1 rfl) (pv (iv (s.last.length:Int)) (wER (pv (iv (s.last.length:Int)) (pv (pq gr) (g_ (gv_call (args:=#[pq gr]) rfl Try.func126 kr_ rfl rfl kr_ ?_)))))))))))
      have S52:=St.pm 3 [2,0,1] S4
      refine Calls.mono (rd_sectors S52) ?_
      rintro _ w53 ⟨rfl,S54⟩
      refine ⟨_,rfl,(dE (s.last.length:Int) (s.last.length:Int) (fun _=>pv tv (wE (then_n (wp_ret (inb_r (then_r (bA (.bool true) ?_))))))) fun hd55=>False.elim (hd55 rfl))⟩
      have S56:=St.pm 3 [2,0] S54
      exact ⟨rfl,S56⟩
     ·refine pv fv (wE (nCF (wp_skip (inb_n (nSR (pv tv (wE (then_n (wp_ret (bA (.bool true) ?_))))))))))
      have S57:=St.pm 3 [1,2] S4
      exact ⟨rfl,S57⟩
theorem readR_pend (s:Dsk)(a:Int):(s.readR a).1.pend=s.pend:=by
 unfold Dsk.readR
 split
 ·rfl
 ·split<;>rfl
theorem writeR_pend (s:Dsk)(a:Int)(d:List UInt8):(s.writeR a d).1.pend.length≤s.pend.length+1:=by
 unfold Dsk.writeR
 split
 ·exact Nat.le_succ _
 ·split
  ·exact Nat.le_succ _
  ·split
   ·exact Nat.le_succ _
   ·show (s.pend++[_]).length≤_;rw [List.length_append];exact Nat.le_refl _
theorem flushR_pend (s:Dsk):s.flushR.1.pend.length≤s.pend.length+1:=by
 unfold Dsk.flushR
 split
 ·exact Nat.le_succ _
 ·exact Nat.zero_le _
theorem fuseR_pend (s:Dsk)(n:Int):(s.fuseR n).pend.length≤s.pend.length+1:=by unfold Dsk.fuseR;split<;>exact Nat.le_succ _
theorem St.readR_len {g:Nat}{s:Dsk}(S:St F w0 w (PDisk g s::L))(a:Int):(s.readR a).2.1.length≤9223372036854775807:=by
 obtain ⟨gd,gm,clock,es,fused,left,hf,_⟩:=St.popen S
 unfold Dsk.readR
 split
 ·exact Nat.zero_le _
 ·split
  ·exact Nat.zero_le _
  ·rename_i h1 h2
   have hk:a.toNat<s.last.length:=by omega
   show (s.now a.toNat).length≤_
   unfold Dsk.now
   split
   ·rename_i d hd
    have hm:=List.mem_of_getLast? hd
    unfold pendOf at hm
    obtain ⟨y,hy,rfl⟩:=List.mem_map.1 hm
    have:=(hf.plen y (List.mem_filter.1 hy).1).1;omega
   ·have:=hf.len _ (List.mem_of_getElem? (mem_getD hk));omega
theorem step_all {gd gr:Nat}{s:Dsk}{kind at_:Int}{A A2:Option Addr}{d:List UInt8}{ps:List Pick}{cd cp:Nat}(S:St F w0 w (PDisk gd s::RDisk gr s::L))(hd:RoT F w0 L A d)(hp:RoV F w0 L A2 (picksV ps))(hat:at_≤9223372036854775807)(hdm:d.length≤140737488355328)(hpm:ps.length*24≤140737488355328)(hpn:s.pend.length<6597069766656):
  Calls Try.prog 38 #[.pointer (some ⟨gd,0,none⟩),.pointer (some ⟨gr,0,none⟩),.agg #[.int .i64 kind,.int .i64 at_,.slice A d.length cd,.slice A2 ps.length cp]] w fun e w'=>e=.returned (.bool true)∧∃s',St F w0 w' (PDisk gd s'::RDisk gr s'::L)∧s'.pend.length≤s.pend.length+1:=by
 have hrl:=St.readR_len S at_
 refine eN (fr [pq gd,pq gr,.agg #[iv kind,iv at_,.slice A d.length cd,.slice A2 ps.length cp]] 99) Try.func38 rfl (sR (nB rfl (.agg #[iv kind,iv at_,.slice A d.length cd,.slice A2 ps.length cp]) S fun g1 w2 hg3 S4=>pv fv (wE (nS (sR (pv (pq g1) (lR (iv kind) S4 0 0 (wE (then_n (wp_block (sR (dE kind 1 (fun hb5=> ?_) fun hb5=> ?_))))))))))))
 ·refine pv tv (wE (nCT (sR (pv (pq gd) (pv (po g1 1) (lR (iv at_) S4 0 1 (g_ (gv_call (args:=#[pq gd,iv at_]) rfl Try.func26 kr_ rfl rfl kr_ ?_))))))))
  have S6:=St.pm 3 [1,0,2] S4
  refine Calls.mono (pd_read S6) ?_
  rintro _ w7 ⟨v,rfl,S8⟩
  obtain ⟨AP,rfl,S8'⟩:=St.bytes_eq S8
  refine ⟨_,rfl,(pv (.tuple #[.slice AP ((s.readR at_).2.1.length) ((s.readR at_).2.1.length),iv ((s.readR at_).2.2)]) (pv (.slice AP ((s.readR at_).2.1.length) ((s.readR at_).2.1.length)) (pv (iv ((s.readR at_).2.2)) (pv (.slice AP ((s.readR at_).2.1.length) ((s.readR at_).2.1.length)) (pv (iv ((s.readR at_).2.2)) (wER (pv (pq gr) (pv (po g1 1) (lQ (iv at_) (((S8'.blk 2 rfl).cell 1).trans rfl) (g_ (gv_call (args:=#[pq gr,iv at_]) rfl Try.func27 kr_ rfl rfl kr_ ?_)))))))))))⟩
  have S9:=St.pm 4 [3,0,1,2] S8'
  refine Calls.mono (rd_read S9) ?_
  rintro _ w10 ⟨v,rfl,S11⟩
  obtain ⟨AQ,rfl,S11'⟩:=St.bytes_eq S11
  refine ⟨_,rfl,(pv (.tuple #[.slice AQ ((s.readR at_).2.1.length) ((s.readR at_).2.1.length),iv ((s.readR at_).2.2)]) (pv (.slice AQ ((s.readR at_).2.1.length) ((s.readR at_).2.1.length)) (pv (iv ((s.readR at_).2.2)) (pv (.slice AQ ((s.readR at_).2.1.length) ((s.readR at_).2.1.length)) (pv (iv ((s.readR at_).2.2)) (wER (pv (iv ((s.readR at_).2.2)) (pv (iv ((s.readR at_).2.2)) (dE ((s.readR at_).2.2) ((s.readR at_).2.2) (fun _=>pv tv (pW (.slice AP ((s.readR at_).2.1.length) ((s.readR at_).2.1.length)) (pW (.slice AQ ((s.readR at_).2.1.length) ((s.readR at_).2.1.length)) (wl_when kr_ (gv_call (args:=#[.slice AP ((s.readR at_).2.1.length) ((s.readR at_).2.1.length),.slice AQ ((s.readR at_).2.1.length) ((s.readR at_).2.1.length)]) rfl Try.func24 kr_ rfl rfl kr_ ?_))))) fun hd12=>False.elim (hd12 rfl))))))))))⟩
  refine Calls.mono (same_b (decide_eq_true rfl) S11' (RoT.bytes 2 rfl rfl) (RoT.bytes 0 rfl rfl) hrl hrl) ?_
  rintro _ w13 ⟨rfl,S14⟩
  refine ⟨_,rfl,(pv tv (pv tv (wE (then_n (wp_ret (inb_r (then_r (bA (.bool true) ?_))))))))⟩
  have S15:=St.pm 5 [3,1] S14
  exact ⟨rfl,((s.readR at_).1),S15,(by rw [readR_pend];exact Nat.le_succ _)⟩
 ·refine pv fv (wE (nCF (sR (dE kind 2 (fun hb16=> ?_) fun hb16=> ?_))))
  ·refine pv tv (wE (nCT (wp_seq (wp_region_phu (γ:=Nat) 7 [5,6] (fun (c_:Nat) (i_:Nat)=>(match i_ with|0=>pq gd|1=>po g1 1|2=>iv at_|3=>po g1 2|4=>.slice A d.length cd|5=>sl c_ 0 d.length d.length|6=>iv ((s.writeR at_ d).2)|_=>undef:Value)) (fun (c_:Nat) (p_:Nat) (w_:World)=>(match p_ with|0=>St F w0 w_ (row g1 #[iv kind,iv at_,.slice A d.length cd,.slice A2 ps.length cp] 50::PDisk gd s::RDisk gr s::L)|1=>St F w0 w_ (row c_ (bvs d) 5::row g1 #[iv kind,iv at_,.slice A d.length cd,.slice A2 ps.length cp] 50::PDisk gd s::RDisk gr s::L)|_=>St F w0 w_ (PDisk gd (s.writeR at_ d).1::row c_ (bvs d) 5::row g1 #[iv kind,iv at_,.slice A d.length cd,.slice A2 ps.length cp] 50::RDisk gr s::L):Prop)) (0) kr_ kr_ kr_ kr_ (S4.drew) ?_ ?_ ?_))))
   ·intro i_ c_ p_ vals_ w1 hi_ hiE_ hp_ hk_ hu_ hPh_ hd_
    rcases i_ with _|_|_|_|_|_|_|i_
    ·exact tG_ rfl hd_ (gV (pq gd) ⟨rfl,rfl⟩)
    ·exact tG_ rfl hd_ (gV (po g1 1) ⟨rfl,rfl⟩)
    ·rcases p_ with _|_|_|p_
     ·have S19:=St.id hPh_
      exact tG_ rfl hd_ (gL (iv at_) rfl (((S19.blk 0 rfl).cell 1).trans rfl) ⟨rfl,rfl⟩)
     ·have S20:=St.id hPh_
      exact tG_ rfl hd_ (gL (iv at_) rfl (((S20.blk 1 rfl).cell 1).trans rfl) ⟨rfl,rfl⟩)
     ·exact absurd (hu_ 1 dc_ kr_) dc_
     ·exact absurd hp_ (by simp)
    ·exact tG_ rfl hd_ (gV (po g1 2) ⟨rfl,rfl⟩)
    ·rcases p_ with _|_|_|p_
     ·have S22:=St.id hPh_
      exact tG_ rfl hd_ (gL (.slice A d.length cd) rfl (((S22.blk 0 rfl).cell 2).trans rfl) ⟨rfl,rfl⟩)
     ·exact absurd (hu_ 0 dc_ kr_) dc_
     ·exact absurd (hu_ 0 dc_ kr_) dc_
     ·exact absurd hp_ (by simp)
    ·exact absurd hiE_ dc_
    ·exact absurd hiE_ dc_
    ·exact absurd hi_ om_
   ·intro k_ c_ vals_ w1 hk_ hPh_ hd_
    rcases k_ with _|_|k_
    ·have S23:=St.id hPh_
     refine tG_ rfl hd_ (gv_call (args:=#[.slice A d.length cd]) rfl Try.func59 kr_ rfl rfl kr_ (Calls.mono (ltwinS (l:=d) S23 (RoT.more (RoT.more (RoT.more hd))) hdm) ?_))
     rintro _ w25 ⟨g24,rfl,S26⟩
     refine ⟨_,rfl,⟨(g24),rfl, ?_,S26⟩⟩
     intro i_ hi_ hne_ hdp_
     rcases i_ with _|_|_|_|_|_|_|i_
     ·rfl
     ·rfl
     ·rfl
     ·rfl
     ·rfl
     ·exact absurd rfl hne_
     ·exact (dep_no hdp_ kr_).elim
     ·exact absurd hi_ om_
    ·have S27:=St.id hPh_
     refine tG_ rfl hd_ (gv_call (args:=#[pq gd,iv at_,sl c_ 0 d.length d.length]) rfl Try.func33 kr_ rfl rfl kr_ ?_)
     have S28:=St.pm 4 [2,0,1,3] S27
     refine Calls.mono (pd_write S28 (RoT.item 0 rfl 0 d.length d (by rw [List.drop_zero,List.take_length])) om_ hpn) ?_
     rintro _ w29 ⟨rfl,S30⟩
     refine ⟨_,rfl,⟨(c_),rfl, ?_,S30⟩⟩
     intro i_ hi_ hne_ hdp_
     rcases i_ with _|_|_|_|_|_|_|i_
     ·rfl
     ·rfl
     ·rfl
     ·rfl
     ·rfl
     ·rfl
     ·exact absurd rfl hne_
     ·exact absurd hi_ om_
    ·exact absurd hk_ (by simp)
   ·intro c_ w1 hPh_
    have S31:=St.id hPh_
    refine (pv (iv ((s.writeR at_ d).2)) (wE (nSR (pv (pq gr) (pv (po g1 1) (lR (iv at_) S31 2 1 (pv (po g1 2) (lR (.slice A d.length cd) S31 2 2 (g_ (gv_call (args:=#[pq gr,iv at_,.slice A d.length cd]) rfl Try.func34 kr_ rfl rfl kr_ ?_))))))))))
    have S32:=St.pm 4 [3,0,1,2] S31
    refine Calls.mono (rd_write S32 (RoT.more (RoT.more (RoT.more hd))) om_ hpn) ?_
    rintro _ w33 ⟨rfl,S34⟩
    refine ⟨_,rfl,(pv (iv ((s.writeR at_ d).2)) (wER (pv (iv ((s.writeR at_ d).2)) (pv (iv ((s.writeR at_ d).2)) (dE ((s.writeR at_ d).2) ((s.writeR at_ d).2) (fun _=>pv tv (wE (then_n (wp_ret (inb_r (then_r (bA (.bool true) ?_))))))) fun hd35=>False.elim (hd35 rfl))))))⟩
    have S36:=St.pm 4 [1,0] S34
    exact ⟨rfl,((s.writeR at_ d).1),S36,(writeR_pend s at_ d)⟩
  ·refine pv fv (wE (nCF (sR (dE kind 3 (fun hb37=> ?_) fun hb37=> ?_))))
   ·refine pv tv (wE (nCT (sR (pv (pq gd) (g_ (gv_call (args:=#[pq gd]) rfl Try.func87 kr_ rfl rfl kr_ ?_))))))
    have S38:=St.pm 3 [1,0,2] S4
    refine Calls.mono (pd_flush S38) ?_
    rintro _ w39 ⟨rfl,S40⟩
    refine ⟨_,rfl,(pv (iv s.flushR.2) (wER (pv (pq gr) (g_ (gv_call (args:=#[pq gr]) rfl Try.func88 kr_ rfl rfl kr_ ?_)))))⟩
    have S41:=St.pm 3 [2,0,1] S40
    refine Calls.mono (rd_flush S41) ?_
    rintro _ w42 ⟨rfl,S43⟩
    refine ⟨_,rfl,(pv (iv s.flushR.2) (wER (pv (iv s.flushR.2) (pv (iv s.flushR.2) (dE s.flushR.2 s.flushR.2 (fun _=>pv tv (wE (then_n (wp_ret (inb_r (then_r (bA (.bool true) ?_))))))) fun hd44=>False.elim (hd44 rfl))))))⟩
    have S45:=St.pm 3 [1,0] S43
    exact ⟨rfl,s.flushR.1,S45,(flushR_pend s)⟩
   ·refine pv fv (wE (nCF (sR (dE kind 4 (fun hb46=> ?_) fun hb46=> ?_))))
    ·refine pv tv (wE (nCT (sR (pv (pq gd) (pv (po g1 1) (lR (iv at_) S4 0 1 (g_ (gv_call (args:=#[pq gd,iv at_]) rfl Try.func67 kr_ rfl rfl kr_ ?_))))))))
     have S47:=St.pm 3 [1,0,2] S4
     refine Calls.mono (pd_fuse hat S47) ?_
     rintro _ w48 ⟨rfl,S49⟩
     refine ⟨_,rfl,(wER (pv (pq gr) (pv (po g1 1) (lR (iv at_) S49 1 1 (g_ (gv_call (args:=#[pq gr,iv at_]) rfl Try.func89 kr_ rfl rfl kr_ ?_))))))⟩
     have S50:=St.pm 3 [2,0,1] S49
     refine Calls.mono (rd_fuse hat S50) ?_
     rintro _ w51 ⟨rfl,S52⟩
     refine ⟨_,rfl,(wER (pv tv (wE (then_n (wp_ret (inb_r (then_r (bA (.bool true) ?_))))))))⟩
     have S53:=St.pm 3 [1,0] S52
     exact ⟨rfl,(s.fuseR at_),S53,(fuseR_pend s at_)⟩
    ·refine pv fv (wE (nCF (sR (dE kind 6 (fun hb54=> ?_) fun hb54=> ?_))))
     ·refine pv tv (wE (nCT (sR (pv (pq gd) (pv (po g1 3) (lR (.slice A2 ps.length cp) S4 0 3 (sP1 Try.func69 #[.slice A2 ps.length cp] (tpicks (ps:=ps) S4 (RoV.more (RoV.more (RoV.more hp))) hpm) fun g55 w56 S57=>g_ (gv_call (args:=#[pq gd,sl g55 0 ps.length ps.length]) rfl Try.func64 kr_ rfl rfl kr_ ?_))))))))
      have S58:=St.pm 4 [2,0,1,3] S57
      refine Calls.mono (pd_crash S58 (RoV.item 0 rfl) rfl om_) ?_
      rintro _ w59 ⟨rfl,S60⟩
      refine ⟨_,rfl,(wER (pv (pq gr) (pv (po g1 3) (lR (.slice A2 ps.length cp) S60 2 3 (g_ (gv_call (args:=#[pq gr,.slice A2 ps.length cp]) rfl Try.func37 kr_ rfl rfl kr_ ?_))))))⟩
      have S61:=St.pm 4 [3,0,1,2] S60
      refine Calls.mono (rd_crash S61 (RoV.more (RoV.more (RoV.more hp))) rfl om_ hpn) ?_
      rintro _ w62 ⟨rfl,S63⟩
      refine ⟨_,rfl,(wER (pv tv (wE (then_n (wp_ret (inb_r (then_r (bA (.bool true) ?_))))))))⟩
      have S64:=St.pm 4 [1,0] S63
      exact ⟨rfl,(s.crashR ps),S64,(Nat.zero_le _)⟩
     ·refine pv fv (wE (nCF (sR (dE kind 7 (fun hb65=> ?_) fun hb65=> ?_))))
      ·refine pv tv (wE (nCT (sR (pv (pq gd) (g_ (gv_call (args:=#[pq gd]) rfl Try.func63 kr_ rfl rfl kr_ ?_))))))
       have S66:=St.pm 3 [1,0,2] S4
       refine Calls.mono (pd_take S66) ?_
       rintro _ w67 ⟨rfl,S68⟩
       refine ⟨_,rfl,(pv (iv (inc s.life)) (wER (pv (iv (inc s.life)) (pv (pq gr) (g_ (gv_call (args:=#[pq gr]) rfl Try.func90 kr_ rfl rfl kr_ ?_))))))⟩
       have S69:=St.pm 3 [2,0,1] S68
       refine Calls.mono (rd_take S69) ?_
       rintro _ w70 ⟨rfl,S71⟩
       refine ⟨_,rfl,(dE (inc s.life) (inc s.life) (fun _=>pv tv (wE (then_n (wp_ret (inb_r (then_r (bA (.bool true) ?_))))))) fun hd72=>False.elim (hd72 rfl))⟩
       have S73:=St.pm 3 [1,0] S71
       exact ⟨rfl,({s with life:=inc s.life}),S73,(Nat.le_succ _)⟩
      ·refine pv fv (wE (nCF (wp_skip (inb_n (nSR (pv (pq gd) (pv (pq gr) (g_ (gv_ldA (k:=0) (n:=4) (vs:=[iv kind,iv at_,.slice A d.length cd,.slice A2 ps.length cp]) S4 0 rfl rfl kr_ kr_ rfl rfl (g_ (gv_call (args:=#[pq gd,pq gr,.agg #[iv kind,iv at_,.slice A d.length cd,.slice A2 ps.length cp]]) rfl Try.func91 kr_ rfl rfl kr_ ?_)))))))))))
       have S74:=St.pm 3 [2,0,1] S4
       have S75:=St.pm 3 [2,0,1] S74
       refine Calls.mono (asked_all S75) ?_
       rintro _ w76 ⟨rfl,S77⟩
       refine ⟨_,rfl,(pv tv (wE (then_n (wp_ret (bA (.bool true) ?_)))))⟩
       have S78:=St.pm 3 [0,1] S77
       exact ⟨rfl,s,S78,(Nat.le_succ _)⟩
end
end Go.Proofs.Big
end
section
open Go Go.RowKit Go.Proofs.YtgeioealgidkiaaW.PrintWords
namespace Go.Proofs
open Go.Vel
set_option linter.unusedVariables false
section
section
variable {F:Nat→Prop}{w0 w:World}{L:List Ast}
def bigs (N:Nat)(f:Nat→Ast):Ast:=stars ((List.range N).map f)
def hole (f:Nat→Ast)(i:Nat):Nat→Ast:=fun j=>if j=i then emp else f j
theorem bigs_at {N:Nat}{f:Nat→Ast}{hs:Nat→PH}(h:∀(i:Nat) (A:Ast),((List.range N).map f)[i]?=some A→A (hs i)){i:Nat}(hi:i<N):f i (hs i):=h i _ (by rw [List.getElem?_map,List.getElem?_range hi];rfl)
theorem bigs_of {N:Nat}{f:Nat→Ast}{hs:Nat→PH}(h:∀i,i<N→f i (hs i)):∀(i:Nat) (A:Ast),((List.range N).map f)[i]?=some A→A (hs i):=fun i A q=>by
 have hi:=(List.getElem?_eq_some_iff.1 q).1
 rw [List.length_map,List.length_range] at hi
 rw [List.getElem?_map,List.getElem?_range hi] at q
 cases q;exact h i hi
theorem St.pickB {N i:Nat}{f:Nat→Ast}(hi:i<N)(S:St F w0 w (bigs N f::L)):St F w0 w (f i::bigs N (hole f i)::L):=by
 refine ⟨S.fr, ?_⟩
 obtain ⟨hs,h1,h2,h3⟩:=S.own
 obtain ⟨ks,k1,k2,k3⟩:=h1 0 _ rfl
 have hl:((List.range N).map f).length=N:=by simp
 have hl2:((List.range N).map (hole f i)).length=N:=by simp
 rw [hl] at k2 k3
 let q:PH:=fun k=>if ks i k≠none then none else hs 0 k
 have hq:∀k o,q k=some o↔∃j,j<N∧j≠i∧ks j k=some o:=fun k o=>by
  show (if ks i k≠none then none else hs 0 k)=some o↔_
  split
  ·rename_i hne
   refine ⟨fun h=>(by cases h),fun ⟨j,hj,hji,hjk⟩=> ?_⟩
   rcases k2 j i hj hi hji k with e|e
   ·rw [e] at hjk;cases hjk
   ·exact absurd e hne
  ·rename_i hne
   have hne:ks i k=none:=Classical.not_not.1 hne
   constructor
   ·intro h
    obtain ⟨j,hj,hjk⟩:=(k3 k o).1 h
    exact ⟨j,hj,fun e=>(by rw [e,hne] at hjk;cases hjk),hjk⟩
   ·rintro ⟨j,hj,_,hjk⟩;exact (k3 k o).2 ⟨j,hj,hjk⟩
 refine ⟨fun j=>match j with|0=>ks i|1=>q|j+2=>hs (j+1),fun j A hA=> ?_,fun a b ha hb hab k=> ?_,fun a ha k o hk=> ?_⟩
 ·match j with
  |0=>simp at hA;subst hA;exact bigs_at k1 hi
  |1=>
   simp at hA;subst hA
   refine ⟨fun j=>if j=i then (fun _=>none) else ks j,bigs_of fun j hj=> ?_,fun a b ha hb hab k=> ?_,fun k o=> ?_⟩
   ·unfold hole
    split
    ·exact fun _=>rfl
    ·exact bigs_at k1 hj
   ·rw [hl2] at ha hb
    show (if a=i then (fun _=>none) else ks a) k=none∨(if b=i then (fun _=>none) else ks b) k=none
    by_cases e:a=i
    ·left;rw [if_pos e]
    ·by_cases e2:b=i
     ·right;rw [if_pos e2]
     ·rw [if_neg e,if_neg e2];exact k2 a b ha hb hab k
   ·rw [hl2]
    refine (hq k o).trans ⟨fun ⟨j,hj,hji,hjk⟩=>⟨j,hj,by show (if j=i then (fun _=>none) else ks j) k=some o;rw [if_neg hji];exact hjk⟩,fun ⟨j,hj,hjk⟩=> ?_⟩
    have hjk:(if j=i then (fun _=>none) else ks j) k=some o:=hjk
    by_cases e:j=i
    ·rw [if_pos e] at hjk;cases hjk
    ·rw [if_neg e] at hjk;exact ⟨j,hj,e,hjk⟩
  |j+2=>exact h1 (j+1) A (by simpa using hA)
 ·have sub0:∀o,ks i k=some o→hs 0 k=some o:=fun o e=>(k3 k o).2 ⟨i,hi,e⟩
  have sub1:∀o,q k=some o→hs 0 k=some o:=fun o e=>by
   obtain ⟨j,hj,_,hjk⟩:=(hq k o).1 e
   exact (k3 k o).2 ⟨j,hj,hjk⟩
  have none_of:∀{x:Option Obj},hs 0 k=none→(∀o,x=some o→hs 0 k=some o)→x=none:=fun {x} e h=>by
   cases x with
   |none=>rfl
   |some o=>rw [h o rfl] at e;cases e
  have cross:∀c,c+1<(bigs N f::L).length→hs 0 k=none∨hs (c+1) k=none:=fun c hc=>h2 0 (c+1) (by simp) hc om_ k
  have q01:ks i k=none∨q k=none:=by
   by_cases e:ks i k=none
   ·exact .inl e
   ·right;show (if ks i k≠none then none else hs 0 k)=none;rw [if_pos e]
  match a,b with
  |0,0=>exact absurd rfl hab
  |0,1=>exact q01
  |1,0=>exact q01.symm
  |1,1=>exact absurd rfl hab
  |0,c+2=>exact (cross c (by simpa using hb)).imp (fun e=>none_of e sub0) id
  |1,c+2=>exact (cross c (by simpa using hb)).imp (fun e=>none_of e sub1) id
  |c+2,0=>exact ((cross c (by simpa using ha)).imp (fun e=>none_of e sub0) id).symm
  |c+2,1=>exact ((cross c (by simpa using ha)).imp (fun e=>none_of e sub1) id).symm
  |c+2,d+2=>exact h2 (c+1) (d+1) (by simpa using ha) (by simpa using hb) om_ k
 ·match a with
  |0=>exact h3 0 (by simp) k o ((k3 k o).2 ⟨i,hi,hk⟩)
  |1=>
   obtain ⟨j,hj,_,hjk⟩:=(hq k o).1 hk
   exact h3 0 (by simp) k o ((k3 k o).2 ⟨j,hj,hjk⟩)
  |c+2=>exact h3 (c+1) (by simpa using ha) k o hk
theorem St.putB {N i:Nat}{f g:Nat→Ast}{X:Ast}(hi:i<N)(hg:∀j,j<N→g j=if j=i then X else f j)(S:St F w0 w (X::bigs N (hole f i)::L)):St F w0 w (bigs N g::L):=(St.star (LA:=[X,bigs N (hole f i)]) S).map1 fun h hh=>by
 obtain ⟨hs,k1,k2,k3⟩:=hh
 have x0:X (hs 0):=k1 0 _ rfl
 obtain ⟨ks,b1,b2,b3⟩:=k1 1 _ rfl
 have hl2:((List.range N).map (hole f i)).length=N:=by simp
 have hl:((List.range N).map g).length=N:=by simp
 rw [hl2] at b2 b3
 refine ⟨fun j=>if j=i then hs 0 else ks j,bigs_of fun j hj=> ?_,fun a b ha hb hab k=> ?_,fun k o=> ?_⟩
 ·rw [hg j hj]
  show (if j=i then X else f j) (if j=i then hs 0 else ks j)
  by_cases e:j=i
  ·rw [if_pos e,if_pos e];exact x0
  ·rw [if_neg e,if_neg e]
   have:=bigs_at b1 hj
   unfold hole at this
   rwa [if_neg e] at this
 ·rw [hl] at ha hb
  have key:∀c,c<N→hs 0 k=none∨ks c k=none:=fun c hc=>by
   rcases k2 0 1 (by simp) (by simp) om_ k with e|e
   ·exact .inl e
   ·right
    cases hq:ks c k with
    |none=>rfl
    |some o=>rw [(b3 k o).2 ⟨c,hc,hq⟩] at e;cases e
  show (if a=i then hs 0 else ks a) k=none∨(if b=i then hs 0 else ks b) k=none
  by_cases e:a=i
  ·rw [if_pos e,if_neg (fun e2=>hab (e.trans e2.symm))];exact key b hb
  ·by_cases e2:b=i
   ·rw [if_neg e,if_pos e2];exact (key a ha).symm
   ·rw [if_neg e,if_neg e2];exact b2 a b ha hb hab k
 ·rw [hl]
  refine (k3 k o).trans ⟨fun ⟨j,hj,hjk⟩=> ?_,fun ⟨j,hj,hjk⟩=> ?_⟩
  ·have:j=0∨j=1:=by simp at hj;omega
   rcases this with rfl|rfl
   ·exact ⟨i,hi,by show (if i=i then hs 0 else ks i) k=some o;rw [if_pos rfl];exact hjk⟩
   ·obtain ⟨c,hc,hck⟩:=(b3 k o).1 hjk
    refine ⟨c,hc, ?_⟩
    show (if c=i then hs 0 else ks c) k=some o
    by_cases e:c=i
    ·have h0:=bigs_at b1 hc
     unfold hole at h0
     rw [if_pos e] at h0
     rw [h0 k] at hck;cases hck
    ·rw [if_neg e];exact hck
  ·have hjk:(if j=i then hs 0 else ks j) k=some o:=hjk
   by_cases e:j=i
   ·rw [if_pos e] at hjk;exact ⟨0,by simp,hjk⟩
   ·rw [if_neg e] at hjk;exact ⟨1,by simp,(b3 k o).2 ⟨j,hj,hjk⟩⟩
theorem bigs_congr {N:Nat}{f g:Nat→Ast}(h:∀j,j<N→f j=g j):bigs N f=bigs N g:=by
 unfold bigs
 congr 1
 exact List.map_congr_left fun j hj=>h j (List.mem_range.1 hj)
theorem St.monoB {N:Nat}{f g:Nat→Ast}(hfg:∀j,j<N→∀h,f j h→∃h',g j h'∧∀k o,h' k=some o→h k=some o)(S:St F w0 w (bigs N f::L)):St F w0 w (bigs N g::L):=by
 refine ⟨S.fr, ?_⟩
 obtain ⟨hs,h1,h2,h3⟩:=S.own
 obtain ⟨ks,k1,k2,k3⟩:=h1 0 _ rfl
 have hl:((List.range N).map f).length=N:=by simp
 have hl2:((List.range N).map g).length=N:=by simp
 rw [hl] at k2 k3
 have hch:∀j,∃h':PH,j<N→g j h'∧∀k o,h' k=some o→ks j k=some o:=fun j=>by
  by_cases hj:j<N
  ·obtain ⟨h',q1,q2⟩:=hfg j hj _ (bigs_at k1 hj)
   exact ⟨h',fun _=>⟨q1,q2⟩⟩
  ·exact ⟨fun _=>none,fun q=>absurd q hj⟩
 obtain ⟨ms,hms⟩:=Classical.axiomOfChoice hch
 have sub:∀j,j<N→∀k,ms j k=none∨ms j k=ks j k:=fun j hj k=>by
  cases e:ms j k with
  |none=>exact .inl rfl
  |some o=>exact .inr ((hms j hj).2 k o e).symm
 have dis:∀a b,a<N→b<N→a≠b→∀k,ms a k=none∨ms b k=none:=fun a b ha hb hab k=>by
  rcases sub a ha k with e|e
  ·exact .inl e
  ·rcases sub b hb k with e2|e2
   ·exact .inr e2
   ·rw [e,e2];exact k2 a b ha hb hab k
 have hex:∀k:Nat,∃r:Option Obj,∀o,r=some o↔∃j,j<N∧ms j k=some o:=fun k=>by
  by_cases he:∃j,j<N∧ms j k≠none
  ·obtain ⟨j,hj,hne⟩:=he
   refine ⟨ms j k,fun o=>⟨fun e=>⟨j,hj,e⟩,fun ⟨c,hc,hck⟩=> ?_⟩⟩
   by_cases e:c=j
   ·rw [←e];exact hck
   ·rcases dis c j hc hj e k with e2|e2
    ·rw [e2] at hck;cases hck
    ·exact absurd e2 hne
  ·exact ⟨none,fun o=>⟨fun e=>(by cases e),fun ⟨j,hj,hjk⟩=>absurd ⟨j,hj,by rw [hjk];exact fun q=>by cases q⟩ he⟩⟩
 obtain ⟨m,hm⟩:=Classical.axiomOfChoice hex
 have msub:∀k o,m k=some o→hs 0 k=some o:=fun k o e=>by
  obtain ⟨j,hj,hjk⟩:=(hm k o).1 e
  exact (k3 k o).2 ⟨j,hj,(hms j hj).2 k o hjk⟩
 refine ⟨fun j=>match j with|0=>m|j+1=>hs (j+1),fun j A hA=> ?_,fun a b ha hb hab k=> ?_,fun a ha k o hk=> ?_⟩
 ·match j with
  |0=>
   simp at hA;subst hA
   exact ⟨ms,bigs_of fun j hj=>(hms j hj).1,fun a b ha hb hab k=>dis a b (by simpa using ha) (by simpa using hb) hab k,fun k o=>by rw [hl2];exact hm k o⟩
  |j+1=>exact h1 (j+1) A (by simpa using hA)
 ·have none_of:hs 0 k=none→m k=none:=fun e=>by
   cases q:m k with
   |none=>rfl
   |some o=>rw [msub k o q] at e;cases e
  match a,b with
  |0,0=>exact absurd rfl hab
  |0,c+1=>exact (h2 0 (c+1) (by simp) (by simpa using hb) om_ k).imp none_of id
  |c+1,0=>exact ((h2 0 (c+1) (by simp) (by simpa using ha) om_ k).imp none_of id).symm
  |c+1,d+1=>exact h2 (c+1) (d+1) (by simpa using ha) (by simpa using hb) hab k
 ·match a with
  |0=>exact h3 0 (by simp) k o (msub k o hk)
  |c+1=>exact h3 (c+1) (by simpa using ha) k o hk
theorem RoT.bigs {N i:Nat}{f:Nat→Ast}{A:Option Addr}{l:List UInt8}(q:Nat)(hq:L[q]?=some (Go.Proofs.bigs N f))(hi:i<N)(h:∀hp:PH,f i hp→∀w':World,(∀k o,hp k=some o→w'.heap[k]?=some o)→RdB w' A l):RoT F w0 L A l:=⟨fun w' L' S=>by
 have h1:(L'++L)[L'.length+q]?=some (Go.Proofs.bigs N f):=by rw [List.getElem?_append_right om_];simpa using hq
 have hlt:L'.length+q<(L'++L).length:=(List.getElem?_eq_some_iff.1 h1).1
 obtain ⟨_,hs,a1,a2,a3⟩:=S
 obtain ⟨ks,k1,k2,k3⟩:=a1 _ _ h1
 exact h _ (bigs_at k1 hi) w' fun k o e=>(a3 _ hlt k o ((k3 k o).2 ⟨i,by simp;exact hi,e⟩)).1⟩
end
theorem vec_reads {v:Value}{n:Nat}{l:List UInt8}{A:Option Addr}{c:Nat}{t:TypeId}{hp:PH}(h:vec t 1 v n (l.map bv) hp)(hv:v=.slice A n c)(w':World)(hw:∀k o,hp k=some o→w'.heap[k]?=some o):RdB w' A l:=by
 intro h0
 rcases h with ⟨_,_,e,_⟩|⟨g,c',junk,e,h1,h2,h3,h4⟩
 ·simp at e;subst e;simp at h0
 ·rw [hv] at e
  simp at e
  obtain ⟨rfl,rfl⟩:=e
  refine ⟨_,rfl,fun j u hu=> ?_⟩
  have hb:w'.heap[g]?=some (.cells (l.map bv++junk).toArray t (0,0)):=hw g _ ((h4 g).trans (if_pos rfl))
  rw [Addr.add_lit,Nat.zero_add,cell_of_row w' g j _ t (0,0) hb,List.getElem?_toArray,List.getElem?_append_left (List.getElem?_eq_some_iff.1 hu).1];exact hu
end
section
structure KP where
 aL:Value
 aW:Value
 N:Nat
 V:Nat→Value
 W:Nat→Value
 Lf:Nat→List UInt8
def KP.parts (gk:Nat)(f:Nat→Ast)(p:KP):List Ast:=[row gk #[p.aL,p.aW] 47,vec 31 1 p.aL p.N ((List.range p.N).map p.V),vec 31 1 p.aW p.N ((List.range p.N).map p.W),bigs p.N f,manyX ((List.range p.N).map fun i=>(p.W i,p.Lf i))]
def ownK (V:Nat→Value)(C:Nat→List UInt8)(i:Nat):Ast:=vec 5 1 (V i) (C i).length ((C i).map bv)
structure KP.Ok (ls:List (List UInt8))(p:KP):Prop where
 len:p.N=ls.length
 at_:∀i,i<p.N→ls[i]?=some (p.Lf i)
def PKept (gk:Nat)(ls:List (List UInt8)):Ast:=fun h=>∃p:KP,p.Ok ls∧stars (p.parts gk (ownK p.V p.Lf)) h
section
variable {F:Nat→Prop}{w0 w:World}{L:List Ast}{gk:Nat}{ls:List (List UInt8)}
theorem St.kpo (S:St F w0 w (PKept gk ls::L)):∃p:KP,p.Ok ls∧St F w0 w (p.parts gk (ownK p.V p.Lf)++L):=by
 obtain ⟨p,S⟩:=St.ex S
 obtain ⟨h1,S⟩:=St.fact S
 exact ⟨p,h1,S.flat⟩
theorem St.kpc {p:KP}(h1:p.Ok ls)(S:St F w0 w (p.parts gk (ownK p.V p.Lf)++L)):St F w0 w (PKept gk ls::L):=(St.star S).map1 fun h hh=>⟨p,h1,hh⟩
theorem St.growB {N:Nat}{f g:Nat→Ast}{X:Ast}(h:∀j,j<N→g j=f j)(hN:g N=X)(S:St F w0 w (X::bigs N f::L)):St F w0 w (bigs (N+1) g::L):=by
 have S1:St F w0 w (bigs N f::stars [X]::L):=(St.star (LA:=[X]) S).swap
 have S2:=St.star_join S1
 have e:(List.range N).map f++[X]=(List.range (N+1)).map g:=by
  rw [List.range_succ,List.map_append,List.map_cons,List.map_nil,hN]
  congr 1
  exact List.map_congr_left fun j hj=>(h j (List.mem_range.1 hj)).symm
 unfold bigs
 rw [←e];exact S2
theorem range_more {α:Type}(N:Nat)(f:Nat→α)(x:α):(List.range (N+1)).map (fun i=>if i=N then x else f i)=(List.range N).map f++[x]:=by
 rw [List.range_succ,List.map_append,List.map_cons,List.map_nil,if_pos rfl]
 congr 1
 exact List.map_congr_left fun j hj=>if_neg (by have:=List.mem_range.1 hj;omega)
theorem range_at {α:Type}{N i:Nat}(f:Nat→α)(h:i<N):((List.range N).map f)[i]?=some (f i):=by rw [List.getElem?_map,List.getElem?_range h];rfl
end
structure GrP where
 cs:Nat
 g:Nat
 c:Nat
 j:Nat
 junk:List Value
def GrP.parts (m:UInt8)(n k:Nat)(vg:Value)(p:GrP):List Ast:=if p.cs=0 then [vec 5 1 vg (n+k) ((mks m (n+k)).map bv)] else if p.cs=1 then [row p.g ((mks m (n+k)).map bv++p.junk).toArray 5] else [vec 5 1 vg (n+k) ((mks m (n+k)).map bv),row p.g ((mks m n).map bv++p.junk).toArray 5]
structure GrP.Ok (v:Value)(n k:Nat)(vg:Value)(p:GrP):Prop where
 c0:p.cs=0→v=.slice none 0 0∧n=0
 c1:p.cs=1→v=.slice (some ⟨p.g,0,none⟩) n p.c∧vg=.slice (some ⟨p.g,0,none⟩) (n+k) p.c∧n+k+p.junk.length=p.c
 c2:p.cs≠0→p.cs≠1→v=.slice (some ⟨p.g,0,none⟩) n p.c∧n+p.junk.length=p.c
def GrB (m:UInt8)(v:Value)(n k:Nat)(vg:Value):Ast:=fun h=>∃p:GrP,p.Ok v n k vg∧stars (p.parts m n k vg) h
section
variable {F:Nat→Prop}{w0 w:World}{L:List Ast}{m:UInt8}{v vg:Value}{n k:Nat}
theorem St.gro (S:St F w0 w (GrB m v n k vg::L)):∃p:GrP,p.Ok v n k vg∧St F w0 w (p.parts m n k vg++L):=by
 obtain ⟨p,S⟩:=St.ex S
 obtain ⟨h1,S⟩:=St.fact S
 exact ⟨p,h1,S.flat⟩
theorem St.grc {p:GrP}(h1:p.Ok v n k vg)(S:St F w0 w (p.parts m n k vg++L)):St F w0 w (GrB m v n k vg::L):=(St.star S).map1 fun h hh=>⟨p,h1,hh⟩
theorem St.gr_start (S:St F w0 w (vec 5 1 v n ((mks m n).map bv)::L)):St F w0 w (GrB m v n 0 v::L):=by
 rcases S.vec_cases with ⟨r1,r2,r3,S1⟩|⟨g,c,junk,r1,r2,r3,r4,S1⟩
 ·subst r1 r2
  exact St.grc (p:=⟨0,0,0,0,[]⟩) ⟨fun _=>⟨rfl,rfl⟩,fun h=>absurd h dc_,fun h=>absurd rfl h⟩ (St.vec_nil S1)
 ·rw [List.length_append,List.length_map,mks_len] at r4
  exact St.grc (p:=⟨1,g,c,0,junk⟩) ⟨fun h=>absurd (show (1:Nat)=0 from h) dc_,fun _=>⟨r1,r1,by show n+0+junk.length=c;omega⟩,fun _ h=>absurd rfl h⟩ S1
theorem mks_more (m:UInt8)(q:Nat):(mks m q).map bv++[bv m]=(mks m (q+1)).map bv:=by rw [mks_map,mks_map,List.replicate_succ']
theorem gv_append_gr {P:Program}{o:Oper}{ρ:Operand→Value}{K:Value→World→Prop}{s x:Operand}{t:TypeId}{c':Nat}{ad:Addr}(S:St F w0 w (GrB m v n k vg::L))(ho:o.op=.call {callee:=.builtin .append,args:=#[s,x],argTypes:=#[t,t]})(ht:P.underlying t=some (.slice 5))(hE:Elt P 5 (.int .u8 0) 1 1)
  (hs:ρ s=vg) (hx:ρ x=.slice (some ad) 1 c') (hcell:∀j u,([bv m]:List Value)[j]?=some u→w.cell? (ad.add j)=some u) (hfit:n+k≤140737488355000)
  (h:∀A c w',St F w0 w' (GrB m v n (k+1) (.slice A (n+k+1) c)::L)→K (.slice A (n+k+1) c) w'):gives P K ((execOp ρ o).run P w):=by
 obtain ⟨p,hp,S9⟩:=St.gro S
 have h1:∀u∈([bv m]:List Value),u.oneCell'=true:=fun u hu=>by rw [List.mem_singleton.1 hu];rfl
 by_cases h0:p.cs=0
 ·obtain ⟨rfl,rfl⟩:=hp.c0 h0
  have S1:St F w0 w (vec 5 1 vg (0+k) ((mks m (0+k)).map bv)::L):=by unfold GrP.parts at S9;rw [if_pos h0] at S9;exact S9
  refine gv_append (e:=5) (sz:=1) (n:=0+k) (z:=.int .u8 0) (by_:=1) (m:=1) (news:=[bv m]) S1 ho ht hE rfl hs hx dc_ rfl hcell h1 om_ om_ fun v' w' S2=> ?_
  obtain ⟨A,c,rfl⟩:=St.vecV S2 0 rfl
  rw [mks_more] at S2
  exact h A c w' (St.grc (p:=⟨0,0,0,0,[]⟩) ⟨fun _=>⟨rfl,rfl⟩,fun q=>absurd q dc_,fun q=>absurd rfl q⟩ S2)
 ·by_cases h2:p.cs=1
  ·obtain ⟨hv,hvg,hc⟩:=hp.c1 h2
   have S1:St F w0 w (row p.g ((mks m (n+k)).map bv++p.junk).toArray 5::L):=by unfold GrP.parts at S9;rw [if_neg h0,if_pos h2] at S9;exact S9
   have hl:((mks m (n+k)).map bv).length=(n+k)*1:=by rw [List.length_map,mks_len,Nat.mul_one]
   refine gv_append2 (e:=5) (sz:=1) (n:=n+k) (c:=p.c) (z:=.int .u8 0) (by_:=1) (m:=1) (news:=[bv m]) S1 om_ hl (by rw [List.length_append,hl];omega) ho ht hE rfl (hs.trans hvg) hx dc_ rfl hcell h1 om_ om_ (fun hr w' S2=> ?_) (fun hr v' w' S2=> ?_)
   ·rw [mks_more,List.drop_append,hl,List.drop_of_length_le (by rw [hl];omega),List.nil_append] at S2
    exact h _ _ _ (St.grc (p:=⟨1,p.g,p.c,0,p.junk.drop ((n+k)*1+1*1-(n+k)*1)⟩) ⟨fun q=>absurd (show (1:Nat)=0 from q) dc_,fun _=>⟨hv,rfl,by show n+(k+1)+(p.junk.drop ((n+k)*1+1*1-(n+k)*1)).length=p.c;rw [List.length_drop];omega⟩,fun _ q=>absurd rfl q⟩ S2)
   ·obtain ⟨A,c,rfl⟩:=St.vecV S2 0 rfl
    rw [mks_more] at S2
    have e:(mks m (n+k)).map bv++p.junk=(mks m n).map bv++((mks m k).map bv++p.junk):=by rw [←List.append_assoc,mks_map,mks_map,mks_map,List.replicate_append_replicate]
    rw [e] at S2
    exact h _ _ _ (St.grc (p:=⟨2,p.g,p.c,0,(mks m k).map bv++p.junk⟩) ⟨fun q=>absurd (show (2:Nat)=0 from q) dc_,fun q=>absurd (show (2:Nat)=1 from q) dc_,fun _ _=>⟨hv,by show n+((mks m k).map bv++p.junk).length=p.c;rw [List.length_append,List.length_map,mks_len];omega⟩⟩ S2)
  ·obtain ⟨hv,hc⟩:=hp.c2 h0 h2
   have S1:St F w0 w (vec 5 1 vg (n+k) ((mks m (n+k)).map bv)::row p.g ((mks m n).map bv++p.junk).toArray 5::L):=by unfold GrP.parts at S9;rw [if_neg h0,if_neg h2] at S9;exact S9
   refine gv_append (e:=5) (sz:=1) (n:=n+k) (z:=.int .u8 0) (by_:=1) (m:=1) (news:=[bv m]) S1 ho ht hE rfl hs hx dc_ rfl hcell h1 om_ om_ fun v' w' S2=> ?_
   obtain ⟨A,c,rfl⟩:=St.vecV S2 0 rfl
   rw [mks_more] at S2
   exact h _ _ _ (St.grc (p:=⟨2,p.g,p.c,0,p.junk⟩) ⟨fun q=>absurd (show (2:Nat)=0 from q) dc_,fun q=>absurd (show (2:Nat)=1 from q) dc_,fun _ _=>⟨hv,hc⟩⟩ S2)
end
section
variable {m:UInt8}{v vg:Value}{n k:Nat}
theorem row_reads {g c q:Nat}{l:List UInt8}{junk:List Value}{t:TypeId}{hp:PH}(h:row g (l.map bv++junk).toArray t hp)(w':World)(hw:∀k o,hp k=some o→w'.heap[k]?=some o)(hq:q≤l.length):RdB w' (some ⟨g,0,none⟩) (l.take q):=by
 intro h0
 refine ⟨_,rfl,fun j u hu=> ?_⟩
 have hb:w'.heap[g]?=some (.cells (l.map bv++junk).toArray t (0,0)):=hw g _ ((h g).trans (if_pos rfl))
 have hj:=(List.getElem?_eq_some_iff.1 hu).1
 rw [List.length_map,List.length_take] at hj
 rw [Addr.add_lit,Nat.zero_add,cell_of_row w' g j _ t (0,0) hb,List.getElem?_toArray,List.getElem?_append_left (by rw [List.length_map];omega)]
 rw [List.map_take,List.getElem?_take,if_pos om_] at hu;exact hu
theorem mks_take (m:UInt8){q n:Nat}(h:q≤n):(mks m n).take q=mks m q:=by unfold mks;rw [List.take_replicate,Nat.min_eq_left h]
theorem gr_base {hp:PH}(h:GrB m v n k vg hp){A:Option Addr}{c:Nat}(hv:v=.slice A n c)(w':World)(hw:∀k o,hp k=some o→w'.heap[k]?=some o):RdB w' A (mks m n):=by
 obtain ⟨p,hp',hh⟩:=h
 by_cases h0:p.cs=0
 ·obtain ⟨_,rfl⟩:=hp'.c0 h0
  exact fun q=>absurd q (Nat.lt_irrefl 0)
 ·by_cases h1:p.cs=1
  ·obtain ⟨e,_,_⟩:=hp'.c1 h1
   rw [hv] at e
   simp at e
   unfold GrP.parts at hh
   rw [if_neg h0,if_pos h1] at hh
   obtain ⟨hs,k1,_,k3⟩:=hh
   have:=row_reads (q:=n) (c:=0) (k1 0 _ rfl) w' (fun k o e=>hw k o ((k3 k o).2 ⟨0,by simp,e⟩)) (by rw [mks_len];omega)
   rw [mks_take m om_] at this
   rw [e.1];exact this
  ·obtain ⟨e,_⟩:=hp'.c2 h0 h1
   rw [hv] at e
   simp at e
   unfold GrP.parts at hh
   rw [if_neg h0,if_neg h1] at hh
   obtain ⟨h2,h3,q1,q2,s1,s2⟩:=stars2 hh
   have:=row_reads (q:=n) (c:=0) q2 w' (fun k o e=>hw k o (s2 k o e)) (by rw [mks_len];omega)
   rw [mks_take m om_] at this
   rw [e.1];exact this
theorem gr_grown {hp:PH}(h:GrB m v n k vg hp){A:Option Addr}{c:Nat}(hv:vg=.slice A (n+k) c)(w':World)(hw:∀k o,hp k=some o→w'.heap[k]?=some o):RdB w' A (mks m (n+k)):=by
 obtain ⟨p,hp',hh⟩:=h
 by_cases h0:p.cs=0
 ·unfold GrP.parts at hh
  rw [if_pos h0] at hh
  obtain ⟨hs,k1,_,k3⟩:=hh
  exact vec_reads (k1 0 _ rfl) hv w' (fun k o e=>hw k o ((k3 k o).2 ⟨0,by simp,e⟩))
 ·by_cases h1:p.cs=1
  ·obtain ⟨_,e,_⟩:=hp'.c1 h1
   rw [hv] at e
   simp at e
   unfold GrP.parts at hh
   rw [if_neg h0,if_pos h1] at hh
   obtain ⟨hs,k1,_,k3⟩:=hh
   have:=row_reads (q:=n+k) (c:=0) (k1 0 _ rfl) w' (fun k o e=>hw k o ((k3 k o).2 ⟨0,by simp,e⟩)) (by rw [mks_len];omega)
   rw [mks_take m (Nat.le_refl _)] at this
   rw [e.1];exact this
  ·unfold GrP.parts at hh
   rw [if_neg h0,if_neg h1] at hh
   obtain ⟨h2,h3,q1,q2,s1,s2⟩:=stars2 hh
   exact vec_reads q1 hv w' (fun k o e=>hw k o (s1 k o e))
theorem gr_back {hp:PH}(h:GrB m v n k vg hp):∃h',vec 5 1 v n ((mks m n).map bv) h'∧∀k o,h' k=some o→hp k=some o:=by
 obtain ⟨p,hp',hh⟩:=h
 by_cases h0:p.cs=0
 ·obtain ⟨rfl,rfl⟩:=hp'.c0 h0
  exact ⟨fun _=>none,.inl ⟨rfl,rfl,rfl,fun _=>rfl⟩,fun k o e=>by cases e⟩
 ·by_cases h1:p.cs=1
  ·obtain ⟨e,_,hc⟩:=hp'.c1 h1
   unfold GrP.parts at hh
   rw [if_neg h0,if_pos h1] at hh
   obtain ⟨hs,k1,_,k3⟩:=hh
   have e2:(mks m (n+k)).map bv++p.junk=(mks m n).map bv++((mks m k).map bv++p.junk):=by rw [←List.append_assoc,mks_map,mks_map,mks_map,List.replicate_append_replicate]
   have hr:row p.g ((mks m (n+k)).map bv++p.junk).toArray 5 (hs 0):=k1 0 _ rfl
   rw [e2] at hr
   exact ⟨hs 0,.inr ⟨p.g,p.c,_,e,by omega,by rw [List.length_map,mks_len,Nat.mul_one],by rw [List.length_append,List.length_append,List.length_map,List.length_map,mks_len,mks_len];omega,hr⟩,fun k o e=>(k3 k o).2 ⟨0,by simp,e⟩⟩
  ·obtain ⟨e,hc⟩:=hp'.c2 h0 h1
   unfold GrP.parts at hh
   rw [if_neg h0,if_neg h1] at hh
   obtain ⟨h2,h3,q1,q2,s1,s2⟩:=stars2 hh
   exact ⟨h3,.inr ⟨p.g,p.c,_,e,by omega,by rw [List.length_map,mks_len,Nat.mul_one],by rw [List.length_append,List.length_map,mks_len];omega,q2⟩,s2⟩
end
end
section
section
variable {F:Nat→Prop}{w0 w:World}{L:List Ast}{gk:Nat}{ls:List (List UInt8)}
theorem St.kept_add {p:KP}(hp:p.Ok ls){v w' aL' aW':Value}{l:List UInt8}(S:St F w0 w (row gk #[aL',aW'] 47::vec 31 1 aL' (p.N+1) ((List.range p.N).map p.V++[v])::vec 31 1 aW' (p.N+1) ((List.range p.N).map p.W++[w'])::vec 5 1 v l.length (l.map bv)::bigs p.N (ownK p.V p.Lf)::manyX [(w',l)]::manyX ((List.range p.N).map fun i=>(p.W i,p.Lf i))::L)):St F w0 w (PKept gk (ls++[l])::L):=by
 have S1:=St.permT [_,_,_,_,_,_,_] [5,6,3,4,0,1,2] dc_ rfl (show St F w0 w ([_,_,_,_,_,_,_]++L) from S)
 have S2:=St.many_join S1
 have S3:=St.permT [_,_,_,_,_,_] [1,2,0,3,4,5] dc_ rfl (show St F w0 w ([_,_,_,_,_,_]++L) from S2)
 let V':Nat→Value:=fun i=>if i=p.N then v else p.V i
 let W':Nat→Value:=fun i=>if i=p.N then w' else p.W i
 let L':Nat→List UInt8:=fun i=>if i=p.N then l else p.Lf i
 have S4:=St.growB (g:=ownK V' L') (fun j hj=>by
  have hne:¬j=p.N:=by omega
  show vec _ 1 (if j=p.N then v else p.V j) (if j=p.N then l else p.Lf j).length ((if j=p.N then l else p.Lf j).map bv)=_
  rw [if_neg hne,if_neg hne];rfl) (by
  show vec _ 1 (if p.N=p.N then v else p.V p.N) (if p.N=p.N then l else p.Lf p.N).length ((if p.N=p.N then l else p.Lf p.N).map bv)=_
  rw [if_pos rfl,if_pos rfl];rfl) S3
 have S5:=St.permT [_,_,_,_,_] [2,3,4,0,1] dc_ rfl (show St F w0 w ([_,_,_,_,_]++L) from S4)
 have eV:(List.range (p.N+1)).map V'=(List.range p.N).map p.V++[v]:=range_more p.N p.V v
 have eW:(List.range (p.N+1)).map W'=(List.range p.N).map p.W++[w']:=range_more p.N p.W w'
 have hX:∀y∈(List.range (p.N+1)).map (fun i=>(W' i,L' i)),y∈[(w',l)]++(List.range p.N).map fun i=>(p.W i,p.Lf i):=fun y hy=>by
  obtain ⟨i,hi,rfl⟩:=List.mem_map.1 hy
  have hi:=List.mem_range.1 hi
  show ((if i=p.N then w' else p.W i),(if i=p.N then l else p.Lf i))∈_
  by_cases e:i=p.N
  ·rw [if_pos e,if_pos e];exact List.mem_append_left _ (List.mem_singleton.2 rfl)
  ·rw [if_neg e,if_neg e];exact List.mem_append_right _ (List.mem_map.2 ⟨i,List.mem_range.2 om_,rfl⟩)
 have S6:=St.permT [_,_,_,_,_] [4,0,1,2,3] dc_ rfl (show St F w0 w ([_,_,_,_,_]++L) from S5)
 have S7:=St.permT [_,_,_,_,_] [1,2,3,4,0] dc_ rfl (show St F w0 w ([_,_,_,_,_]++L) from St.many_sub hX S6)
 rw [←eV,←eW] at S7
 refine St.kpc (p:=⟨aL',aW',p.N+1,V',W',L'⟩) ⟨by show p.N+1=_;rw [List.length_append,List.length_singleton,hp.len],fun i hi=> ?_⟩ S7
 have hi:i<p.N+1:=hi
 show (ls++[l])[i]?=some (if i=p.N then l else p.Lf i)
 by_cases e:i=p.N
 ·rw [if_pos e,List.getElem?_append_right (by rw [←hp.len];omega),e,←hp.len,Nat.sub_self];rfl
 ·rw [if_neg e,List.getElem?_append_left (by rw [←hp.len];omega)];exact hp.at_ i om_
theorem own_val {N:Nat}{V:Nat→Value}{C:Nat→List UInt8}(S:St F w0 w L)(q:Nat)(hq:L[q]?=some (bigs N (ownK V C))){i:Nat}(hi:i<N):∃A c,V i=.slice A (C i).length c:=(St.pickB hi (S.mem q hq)).vec_val
theorem RoT.own {N:Nat}{V:Nat→Value}{C:Nat→List UInt8}{A:Option Addr}{c n:Nat}(q:Nat)(hq:L[q]?=some (Go.Proofs.bigs N (ownK V C))){i:Nat}(hi:i<N)(hv:V i=.slice A n c)(hn:n=(C i).length):RoT F w0 L A (C i):=RoT.bigs q hq hi fun hp h w' hw=>by
 subst hn;exact vec_reads h hv w' hw
end
def mkf (p i:Nat):UInt8:=if p=1 then UInt8.ofNat (i/251%251+1) else UInt8.ofNat (i%251+1)
theorem mkf_one {p i:Nat}(h:p=1):((mkf p i).toNat:Int)=((i/251%251+1:Nat):Int):=by
 unfold mkf;rw [if_pos h,UInt8.toNat_ofNat'];have:=Nat.mod_lt (i/251) (show 0<251 by decide);omega
theorem mkf_two {p i:Nat}(h:¬p=1):((mkf p i).toNat:Int)=((i%251+1:Nat):Int):=by
 unfold mkf;rw [if_neg h,UInt8.toNat_ofNat'];have:=Nat.mod_lt i (show 0<251 by decide);omega
def ownM (V:Nat→Value)(Lf:Nat→List UInt8)(p j:Nat):Ast:=vec 5 1 (V j) (Lf j).length ((mks (mkf p j) (Lf j).length).map bv)
def fillF (V:Nat→Value)(Lf C:Nat→List UInt8)(p i:Nat):Nat→Ast:=fun j=>if j<i then ownM V Lf p j else ownK V C j
theorem fillF_zero (V:Nat→Value)(Lf C:Nat→List UInt8)(p:Nat):fillF V Lf C p 0=ownK V C:=by funext j;exact if_neg (Nat.not_lt_zero j)
theorem fillF_self (V:Nat→Value)(Lf C:Nat→List UInt8)(p i:Nat):fillF V Lf C p i i=ownK V C i:=if_neg (Nat.lt_irrefl i)
theorem fillF_next (V:Nat→Value)(Lf C:Nat→List UInt8)(p i j:Nat):fillF V Lf C p (i+1) j=if j=i then ownM V Lf p i else fillF V Lf C p i j:=by
 unfold fillF
 by_cases e:j=i
 ·subst e;rw [if_pos (Nat.lt_succ_self j),if_pos rfl]
 ·rw [if_neg e]
  by_cases h:j<i
  ·rw [if_pos om_,if_pos h]
  ·rw [if_neg om_,if_neg h]
theorem fillF_all {V:Nat→Value}{Lf C:Nat→List UInt8}{p N:Nat}:bigs N (fillF V Lf C p N)=bigs N (ownM V Lf p):=bigs_congr fun j hj=>if_pos hj
theorem fillF_all2 {V:Nat→Value}{Lf C:Nat→List UInt8}{p N i:Nat}(h:i=N):bigs N (fillF V Lf C p i)=bigs N (ownM V Lf p):=by subst h;exact fillF_all
def growF (V:Nat→Value)(Lf:Nat→List UInt8)(p:Nat)(G:Nat→Value)(i:Nat):Nat→Ast:=fun j=>if j<i then GrB (mkf p j) (V j) (Lf j).length 96 (G j) else ownM V Lf p j
def setG (G:Nat→Value)(i:Nat)(v:Value):Nat→Value:=fun j=>if j=i then v else G j
theorem growF_zero (V:Nat→Value)(Lf:Nat→List UInt8)(p:Nat)(G:Nat→Value):growF V Lf p G 0=ownM V Lf p:=by funext j;exact if_neg (Nat.not_lt_zero j)
theorem growF_self (V:Nat→Value)(Lf:Nat→List UInt8)(p:Nat)(G:Nat→Value)(i:Nat):growF V Lf p G i i=ownM V Lf p i:=if_neg (Nat.lt_irrefl i)
theorem growF_next (V:Nat→Value)(Lf:Nat→List UInt8)(p:Nat)(G:Nat→Value)(v:Value)(i j:Nat):growF V Lf p (setG G i v) (i+1) j=if j=i then GrB (mkf p i) (V i) (Lf i).length 96 v else growF V Lf p G i j:=by
 unfold growF setG
 by_cases e:j=i
 ·subst e;rw [if_pos (Nat.lt_succ_self j),if_pos rfl,if_pos rfl]
 ·simp only [if_neg e]
  by_cases h:j<i
  ·rw [if_pos om_,if_pos h]
  ·rw [if_neg om_,if_neg h]
def grF (V:Nat→Value)(Lf:Nat→List UInt8)(p:Nat)(G:Nat→Value)(j:Nat):Ast:=GrB (mkf p j) (V j) (Lf j).length 96 (G j)
theorem growF_all {V:Nat→Value}{Lf:Nat→List UInt8}{p N:Nat}{G:Nat→Value}:bigs N (growF V Lf p G N)=bigs N (grF V Lf p G):=bigs_congr fun j hj=>if_pos hj
theorem growF_all2 {V:Nat→Value}{Lf:Nat→List UInt8}{p N t:Nat}{G:Nat→Value}(h:t=N):bigs N (growF V Lf p G t)=bigs N (grF V Lf p G):=by subst h;exact growF_all
theorem range_set (i:Nat)(G:Nat→Value)(v:Value):(List.range (i+1)).map (setG G i v)=(List.range i).map G++[v]:=range_more i G v
section
variable {F:Nat→Prop}{w0 w:World}{L:List Ast}
theorem St.gr_done {N p:Nat}{V G:Nat→Value}{Lf:Nat→List UInt8}(S:St F w0 w (bigs N (grF V Lf p G)::L)):St F w0 w (bigs N (ownK V fun j=>mks (mkf p j) (Lf j).length)::L):=by
 have S1:=St.monoB (g:=ownM V Lf p) (fun j hj h hh=>gr_back hh) S
 have e:bigs N (ownM V Lf p)=bigs N (ownK V fun j=>mks (mkf p j) (Lf j).length):=bigs_congr fun j hj=>by
  unfold ownM ownK
  rw [mks_len]
 rw [e] at S1;exact S1
theorem RoT.gr0 {N p i:Nat}{V G:Nat→Value}{Lf:Nat→List UInt8}{A:Option Addr}{c:Nat}(q:Nat)(hq:L[q]?=some (Go.Proofs.bigs N (grF V Lf p G)))(hi:i<N)(hv:V i=.slice A (Lf i).length c):RoT F w0 L A (mks (mkf p i) (Lf i).length):=RoT.bigs q hq hi fun hp h w' hw=>gr_base h hv w' hw
theorem RoT.gr1 {N p i:Nat}{V G:Nat→Value}{Lf:Nat→List UInt8}{A:Option Addr}{c:Nat}(q:Nat)(hq:L[q]?=some (Go.Proofs.bigs N (grF V Lf p G)))(hi:i<N)(hv:G i=.slice A ((Lf i).length+96) c):RoT F w0 L A (mks (mkf p i) ((Lf i).length+96)):=RoT.bigs q hq hi fun hp h w' hw=>gr_grown h hv w' hw
end
end
end Go.Proofs
end
section
open Go Go.RowKit Go.Proofs.YtgeioealgidkiaaW.PrintWords
namespace Go.Proofs
open Go.Vel
set_option linter.unusedVariables false
set_option maxRecDepth 100000
set_option maxHeartbeats 4000000
attribute [local irreducible] gives wpList Code.wp
theorem w_add {F:Nat→Prop}{w0 w:World}{L:List Ast}{gk n c:Nat}{A:Option Addr}{l:List UInt8}{ls:List (List UInt8)}(S:St F w0 w (PKept gk ls::vec 5 1 (.slice A n c) n (l.map bv)::L))(hnl:n=l.length)(hN:ls.length≤6900000000000)(hn:n≤1048576):Calls Try.prog 32 #[.pointer (some ⟨gk,0,none⟩),.slice A n c] w fun e w'=>e=.returned (.tuple #[])∧St F w0 w' (PKept gk (ls++[l])::L):=by
 refine eN (fr [pq gk,.slice A n c] 24) Try.func32 rfl (sR ?_)
 obtain ⟨⟨aL,aW,N,V,Wv,Lf⟩,hp,S0⟩:=St.kpo S
 have hlN:N=ls.length:=hp.len
 have hat:∀i,i<N→ls[i]?=some (Lf i):=hp.at_
 obtain ⟨BL,dL,hvL⟩:=St.vecV S0 1 rfl
 have hvL:aL=.slice BL N dL:=hvL
 subst hvL
 obtain ⟨BW,dW,hvW⟩:=St.vecV S0 2 rfl
 have hvW:aW=.slice BW N dW:=hvW
 subst hvW
 change St F w0 w (row gk #[.slice BL N dL,.slice BW N dW] 47::vec 31 1 (.slice BL N dL) N ((List.range N).map V)::vec 31 1 (.slice BW N dW) N ((List.range N).map Wv)::bigs N (ownK V Lf)::manyX ((List.range N).map fun i=>(Wv i,Lf i))::vec 5 1 (.slice A n c) n (l.map bv)::L) at S0
 refine pv (pq gk) (pv (pq gk) (pv (pq gk) (pv (pq gk) (lR (.slice BL N dL) S0 0 0 (pv (.slice A n c) (g_ (gv_slit (e:=31) (sz:=1) (z:=.slice none 0 0) (by_:=24) (vs:=#[(0,.slice A n c)]) (cells:=#[.slice A n c]) S0 rfl kr_ ⟨by kernel_rfl⟩ kr_ kr_ kr_ kr_ (fun g1 w2 hg3 S4=> ?_))))))))
 have S5:=St.pm 7 [0,2,1,3,4,5,6] S4
 refine g_ (gv_appS (n:=N) (gs:=g1) S5 rfl kr_ ⟨by kernel_rfl⟩ kr_ kr_ rfl om_ (fun v6 w7 S8=>pv (pq gk) (pv (pq gk) (g_ (gv_st (k:=0) (v:=v6) S8 1 rfl rfl kr_ kr_ kr_ (vec_one S8 0 rfl) rfl (L':=(vec 31 1 v6 (N+1) ((List.range N).map V++[.slice A n c])::row gk #[v6,.slice BW N dW] 47::vec 31 1 (.slice BW N dW) N ((List.range N).map Wv)::bigs N (ownK V Lf)::manyX ((List.range N).map fun i=>(Wv i,Lf i))::vec 5 1 (.slice A n c) n (l.map bv)::L)) rfl (fun w9 S10=>wE (then_n (wp_region_phu (γ:=Nat×Option Addr×Nat×Nat×Value) 13 [5,7,8,9,12] (fun (c_:Nat×Option Addr×Nat×Nat×Value) (i_:Nat)=>(match i_ with|0=>pq gk|1=>pq gk|2=>pq gk|3=>po gk 1|4=>.slice BW N dW|5=>sl c_.1 0 0 0|6=>.slice A n c|7=>.slice c_.2.1 n c_.2.2.1|8=>sl c_.2.2.2.1 0 1 1|9=>c_.2.2.2.2|10=>pq gk|11=>po gk 1|12=>undef|_=>undef:Value)) (fun (c_:Nat×Option Addr×Nat×Nat×Value) (p_:Nat) (w_:World)=>(match p_ with|0=>St F w0 w_ (vec 31 1 v6 (N+1) ((List.range N).map V++[.slice A n c])::row gk #[v6,.slice BW N dW] 47::vec 31 1 (.slice BW N dW) N ((List.range N).map Wv)::bigs N (ownK V Lf)::manyX ((List.range N).map fun i=>(Wv i,Lf i))::vec 5 1 (.slice A n c) n (l.map bv)::L)|1=>St F w0 w_ (row c_.1 #[] 5::vec 31 1 v6 (N+1) ((List.range N).map V++[.slice A n c])::row gk #[v6,.slice BW N dW] 47::vec 31 1 (.slice BW N dW) N ((List.range N).map Wv)::bigs N (ownK V Lf)::manyX ((List.range N).map fun i=>(Wv i,Lf i))::vec 5 1 (.slice A n c) n (l.map bv)::L)|2=>St F w0 w_ (vec 5 1 (.slice c_.2.1 n c_.2.2.1) n (l.map bv)::vec 31 1 v6 (N+1) ((List.range N).map V++[.slice A n c])::row gk #[v6,.slice BW N dW] 47::vec 31 1 (.slice BW N dW) N ((List.range N).map Wv)::bigs N (ownK V Lf)::manyX ((List.range N).map fun i=>(Wv i,Lf i))::vec 5 1 (.slice A n c) n (l.map bv)::L)|3=>St F w0 w_ (row c_.2.2.2.1 #[.slice c_.2.1 n c_.2.2.1] 31::vec 5 1 (.slice c_.2.1 n c_.2.2.1) n (l.map bv)::vec 31 1 v6 (N+1) ((List.range N).map V++[.slice A n c])::row gk #[v6,.slice BW N dW] 47::vec 31 1 (.slice BW N dW) N ((List.range N).map Wv)::bigs N (ownK V Lf)::manyX ((List.range N).map fun i=>(Wv i,Lf i))::vec 5 1 (.slice A n c) n (l.map bv)::L)|4=>St F w0 w_ (vec 31 1 c_.2.2.2.2 (N+1) ((List.range N).map Wv++[.slice c_.2.1 n c_.2.2.1])::vec 5 1 (.slice c_.2.1 n c_.2.2.1) n (l.map bv)::vec 31 1 v6 (N+1) ((List.range N).map V++[.slice A n c])::row gk #[v6,.slice BW N dW] 47::bigs N (ownK V Lf)::manyX ((List.range N).map fun i=>(Wv i,Lf i))::vec 5 1 (.slice A n c) n (l.map bv)::L)|_=>St F w0 w_ (vec 31 1 c_.2.2.2.2 (N+1) ((List.range N).map Wv++[.slice c_.2.1 n c_.2.2.1])::vec 5 1 (.slice c_.2.1 n c_.2.2.1) n (l.map bv)::vec 31 1 v6 (N+1) ((List.range N).map V++[.slice A n c])::row gk #[v6,c_.2.2.2.2] 47::bigs N (ownK V Lf)::manyX ((List.range N).map fun i=>(Wv i,Lf i))::vec 5 1 (.slice A n c) n (l.map bv)::L):Prop)) (0,none,0,0,undef) kr_ kr_ kr_ kr_ (S10.drew) ?_ ?_ ?_))))))))
 ·intro i_ c_ p_ vals_ w1 hi_ hiE_ hp_ hk_ hu_ hPh_ hd_
  rcases i_ with _|_|_|_|_|_|_|_|_|_|_|_|_|i_
  ·exact tG_ rfl hd_ (gV (pq gk) ⟨rfl,rfl⟩)
  ·exact tG_ rfl hd_ (gV (pq gk) ⟨rfl,rfl⟩)
  ·exact tG_ rfl hd_ (gV (pq gk) ⟨rfl,rfl⟩)
  ·exact tG_ rfl hd_ (gV (po gk 1) ⟨rfl,rfl⟩)
  ·rcases p_ with _|_|_|_|_|_|p_
   ·have S15:=St.id hPh_
    exact tG_ rfl hd_ (gL (.slice BW N dW) rfl (((S15.blk 1 rfl).cell 1).trans rfl) ⟨rfl,rfl⟩)
   ·have S16:=St.id hPh_
    exact tG_ rfl hd_ (gL (.slice BW N dW) rfl (((S16.blk 2 rfl).cell 1).trans rfl) ⟨rfl,rfl⟩)
   ·have S17:=St.id hPh_
    exact tG_ rfl hd_ (gL (.slice BW N dW) rfl (((S17.blk 2 rfl).cell 1).trans rfl) ⟨rfl,rfl⟩)
   ·have S18:=St.id hPh_
    exact tG_ rfl hd_ (gL (.slice BW N dW) rfl (((S18.blk 3 rfl).cell 1).trans rfl) ⟨rfl,rfl⟩)
   ·exact absurd (hu_ 3 dc_ kr_) dc_
   ·exact absurd (hu_ 3 dc_ kr_) dc_
   ·exact absurd hp_ (by simp)
  ·exact absurd hiE_ dc_
  ·exact tG_ rfl hd_ (gV (.slice A n c) ⟨rfl,rfl⟩)
  ·exact absurd hiE_ dc_
  ·exact absurd hiE_ dc_
  ·exact absurd hiE_ dc_
  ·exact tG_ rfl hd_ (gV (pq gk) ⟨rfl,rfl⟩)
  ·exact tG_ rfl hd_ (gV (po gk 1) ⟨rfl,rfl⟩)
  ·exact absurd hiE_ dc_
  ·exact absurd hi_ om_
 ·intro k_ c_ vals_ w1 hk_ hPh_ hd_
  rcases k_ with _|_|_|_|_|k_
  ·have S22:=St.id hPh_
   refine tG_ rfl hd_ (gv_slit0 (e:=5) S22 rfl kr_ ⟨_,by rfl⟩ (fun g23 w24 hg25 S26=>⟨(g23,c_.2.1,c_.2.2.1,c_.2.2.2.1,c_.2.2.2.2),rfl, ?_,S26⟩))
   intro i_ hi_ hne_ hdp_
   rcases i_ with _|_|_|_|_|_|_|_|_|_|_|_|_|i_
   ·rfl
   ·rfl
   ·rfl
   ·rfl
   ·rfl
   ·exact absurd rfl hne_
   ·rfl
   ·exact (dep_no hdp_ kr_).elim
   ·exact (dep_no hdp_ kr_).elim
   ·exact (dep_no hdp_ kr_).elim
   ·exact (dep_no hdp_ kr_).elim
   ·exact (dep_no hdp_ kr_).elim
   ·exact (dep_no hdp_ kr_).elim
   ·exact absurd hi_ om_
  ·have S27:=St.id hPh_
   refine tG_ rfl hd_ (gv_copyOf (g:=c_.1) (A:=A) (c':=c) (l:=l) (k:=n) S27 rfl kr_ ⟨by kernel_rfl⟩ kr_ kr_ kr_ hnl (((RoT.ofVec (F:=F) (w0:=w0) 5 rfl).more (X:=_)).now S27) om_ (fun A28 c29 w30 S31=>⟨(c_.1,A28,c29,c_.2.2.2.1,c_.2.2.2.2),rfl, ?_,S31⟩))
   intro i_ hi_ hne_ hdp_
   rcases i_ with _|_|_|_|_|_|_|_|_|_|_|_|_|i_
   ·rfl
   ·rfl
   ·rfl
   ·rfl
   ·rfl
   ·rfl
   ·rfl
   ·exact absurd rfl hne_
   ·exact (dep_no hdp_ kr_).elim
   ·exact (dep_no hdp_ kr_).elim
   ·exact (dep_no hdp_ kr_).elim
   ·exact (dep_no hdp_ kr_).elim
   ·exact (dep_no hdp_ kr_).elim
   ·exact absurd hi_ om_
  ·have S32:=St.id hPh_
   refine tG_ rfl hd_ (gv_slit (e:=31) (sz:=1) (z:=.slice none 0 0) (by_:=24) (vs:=#[(0,.slice c_.2.1 n c_.2.2.1)]) (cells:=#[.slice c_.2.1 n c_.2.2.1]) S32 rfl kr_ ⟨by kernel_rfl⟩ kr_ kr_ kr_ kr_ (fun g33 w34 hg35 S36=>⟨(c_.1,c_.2.1,c_.2.2.1,g33,c_.2.2.2.2),rfl, ?_,S36⟩))
   intro i_ hi_ hne_ hdp_
   rcases i_ with _|_|_|_|_|_|_|_|_|_|_|_|_|i_
   ·rfl
   ·rfl
   ·rfl
   ·rfl
   ·rfl
   ·rfl
   ·rfl
   ·rfl
   ·exact absurd rfl hne_
   ·exact (dep_no hdp_ kr_).elim
   ·exact (dep_no hdp_ kr_).elim
   ·exact (dep_no hdp_ kr_).elim
   ·exact (dep_no hdp_ kr_).elim
   ·exact absurd hi_ om_
  ·have S37:=St.id hPh_
   have S38:=St.pm 8 [0,4,1,2,3,5,6,7] S37
   refine tG_ rfl hd_ (gv_appS (n:=N) (gs:=c_.2.2.2.1) S38 rfl kr_ ⟨by kernel_rfl⟩ kr_ kr_ rfl om_ (fun v39 w40 S41=>⟨(c_.1,c_.2.1,c_.2.2.1,c_.2.2.2.1,v39),rfl, ?_,S41⟩))
   intro i_ hi_ hne_ hdp_
   rcases i_ with _|_|_|_|_|_|_|_|_|_|_|_|_|i_
   ·rfl
   ·rfl
   ·rfl
   ·rfl
   ·rfl
   ·rfl
   ·rfl
   ·rfl
   ·rfl
   ·exact absurd rfl hne_
   ·exact (dep_no hdp_ kr_).elim
   ·exact (dep_no hdp_ kr_).elim
   ·exact (dep_no hdp_ kr_).elim
   ·exact absurd hi_ om_
  ·have S42:=St.id hPh_
   refine tG_ rfl hd_ (gv_st (k:=1) (v:=c_.2.2.2.2) S42 3 rfl rfl kr_ kr_ kr_ (vec_one S42 0 rfl) rfl (L':=(vec 31 1 c_.2.2.2.2 (N+1) ((List.range N).map Wv++[.slice c_.2.1 n c_.2.2.1])::vec 5 1 (.slice c_.2.1 n c_.2.2.1) n (l.map bv)::vec 31 1 v6 (N+1) ((List.range N).map V++[.slice A n c])::row gk #[v6,c_.2.2.2.2] 47::bigs N (ownK V Lf)::manyX ((List.range N).map fun i=>(Wv i,Lf i))::vec 5 1 (.slice A n c) n (l.map bv)::L)) rfl (fun w43 S44=>⟨(c_.1,c_.2.1,c_.2.2.1,c_.2.2.2.1,c_.2.2.2.2),rfl, ?_,S44⟩))
   intro i_ hi_ hne_ hdp_
   rcases i_ with _|_|_|_|_|_|_|_|_|_|_|_|_|i_
   ·rfl
   ·rfl
   ·rfl
   ·rfl
   ·rfl
   ·rfl
   ·rfl
   ·rfl
   ·rfl
   ·rfl
   ·rfl
   ·rfl
   ·exact absurd rfl hne_
   ·exact absurd hi_ om_
  ·exact absurd hk_ (by simp)
 ·intro c_ w1 hPh_
  have S45:=St.id hPh_
  refine (wE (bodyPost_end (v:=.tuple #[]) (results_none rfl _ _ _) rfl ?_))
  have S46:=St.pm 7 [1,0,2,3,4,5,6] S45
  have S47:St F w0 w1 (manyX [((.slice c_.2.1 n c_.2.2.1:Value),l)]::vec 31 1 c_.2.2.2.2 (N+1) ((List.range N).map Wv++[.slice c_.2.1 n c_.2.2.1])::vec 31 1 v6 (N+1) ((List.range N).map V++[.slice A n c])::row gk #[v6,c_.2.2.2.2] 47::bigs N (ownK V Lf)::manyX ((List.range N).map fun i=>(Wv i,Lf i))::vec 5 1 (.slice A n c) n (l.map bv)::L):=St.many1 (vecX' hnl S46)
  have S48:=St.pm 7 [3,2,1,6,4,0,5] S47
  subst hnl
  exact ⟨rfl,St.kept_add (p:=⟨.slice BL N dL,.slice BW N dW,N,V,Wv,Lf⟩) hp S48⟩
end Go.Proofs
end
