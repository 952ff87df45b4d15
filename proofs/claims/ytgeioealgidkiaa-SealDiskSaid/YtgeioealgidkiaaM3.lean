/- Part 3 of 3 of what the proof stands on: the words, the laws of the walk, the walks, the plain laws; each section is one text. -/
import Derived.Test.YtgeioealgidkiaaM2
import Derived.OrdersIn
import Derived.RangeFuncNested
import Derived.RangeFuncBound
import Derived.RangeFuncCalls
import Derived.RangeFuncLeaves
import Derived.Scope
import Derived.Deep.Slices
import Derived.ChangeArms
import Derived.SizedLaws
section
open Go Go.RowKit Go.Proofs.YtgeioealgidkiaaW.PrintWords Go.Proofs.YtgeioealgidkiaaW.PrintMore
namespace Go.Proofs
open Go.Vel
set_option linter.unusedVariables false
structure Pc where
 epoch:Nat
 pos:Nat
 idx:Nat
 cnt:Nat
 data:List UInt8
def numN (b:List UInt8)(at_ n:Nat):Nat:=leN ((b.drop at_).take n)
def pcOf (b:List UInt8):Pc:=⟨numN b 0 4,numN b 4 4,numN b 8 2,numN b 10 2,b.drop 12⟩
def pcNo:Pc:=⟨0,0,0,0,[]⟩
def pcF (sec:List UInt8):Pc:=if (openF sec).2=0∧12≤(openF sec).1.length then pcOf (openF sec).1 else pcNo
structure Pc.Part (q:Pc)(epoch p i c:Nat):Prop where
 data:q.data≠[]
 epoch:q.epoch=epoch
 pos:q.pos=p
 idx:q.idx=i
 cnt:q.cnt=c
 full:i+1=c∨q.data.length=492
def catF (pc:Nat→Pc)(p c:Nat):List UInt8:=((List.range c).map fun j=>(pc (p+j)).data).flatten
theorem catF_succ (pc:Nat→Pc)(p c:Nat):catF pc p (c+1)=catF pc p c++(pc (p+c)).data:=by
 unfold catF
 rw [List.range_succ,List.map_append,List.flatten_append];simp
structure IsRec (pc:Nat→Pc)(epoch p c:Nat):Prop where
 c1:1≤c
 c17:c≤17
 cnt:(pc p).cnt=c
 part:∀j,j<c→(pc (p+j)).Part epoch (p+j) j c
inductive Recs (pc:Nat→Pc)(epoch a:Nat):List (List UInt8)→Nat→Prop where
 |nil:Recs pc epoch a [] a
 |step {R:List (List UInt8)} {h c:Nat}:Recs pc epoch a R h→IsRec pc epoch h c→Recs pc epoch a (R++[catF pc h c]) (h+c)
def NoRec (pc:Nat→Pc)(epoch h:Nat):Prop:=∀c,¬IsRec pc epoch h c
theorem Recs.le {pc:Nat→Pc}{epoch a:Nat}{R:List (List UInt8)}{h:Nat}(r:Recs pc epoch a R h):a≤h:=by
 induction r with
 |nil=>exact Nat.le_refl _
 |step _ _ ih=>omega
theorem Recs.at {pc:Nat→Pc}{epoch a:Nat}{R:List (List UInt8)}{h:Nat}(r:Recs pc epoch a R h):∀p,a≤p→p<h→(pc p).pos=p∧(pc p).epoch=epoch:=by
 induction r with
 |nil=>intro p h1 h2;omega
 |@step R h c r hr ih=>
  intro p h1 h2
  by_cases hp:p<h
  ·exact ih p h1 hp
  ·have h3:=hr.part (p-h) om_
   rw [show h+(p-h)=p from by omega] at h3
   exact ⟨h3.pos,h3.epoch⟩
theorem Recs.room {pc:Nat→Pc}{epoch a n:Nat}{R:List (List UInt8)}{h:Nat}(r:Recs pc epoch a R h)(hn:∀p,pc (p+n)=pc p)(h0:0<n):h≤a+n:=by
 refine Nat.not_lt.1 fun hlt=> ?_
 have h1:=(r.at a (Nat.le_refl _) om_).1
 have h2:=(r.at (a+n) om_ hlt).1
 rw [hn] at h2
 omega
theorem IsRec.det {pc:Nat→Pc}{epoch p c c':Nat}(h:IsRec pc epoch p c)(h':IsRec pc epoch p c'):c=c':=h.cnt.symm.trans h'.cnt
theorem Recs.cons {pc:Nat→Pc}{epoch a c:Nat}(hr:IsRec pc epoch a c):∀{R:List (List UInt8)} {h:Nat},Recs pc epoch (a+c) R h→Recs pc epoch a (catF pc a c::R) h:=by
 intro R h r
 induction r with
 |nil=>exact Recs.step (R:=[]) Recs.nil hr
 |step _ hr2 ih=>exact Recs.step ih hr2
theorem Recs.uncons {pc:Nat→Pc}{epoch a c:Nat}(hr:IsRec pc epoch a c){R:List (List UInt8)}{h:Nat}(r:Recs pc epoch a R h):(R=[]∧h=a)∨∃R',R=catF pc a c::R'∧Recs pc epoch (a+c) R' h:=by
 induction r with
 |nil=>exact .inl ⟨rfl,rfl⟩
 |@step R h c' r hr2 ih=>
  rcases ih with ⟨rfl,rfl⟩|⟨R',rfl,r'⟩
  ·have:=hr.det hr2
   subst this
   exact .inr ⟨[],rfl,Recs.nil⟩
  ·exact .inr ⟨R'++[catF pc h c'],rfl,Recs.step r' hr2⟩
structure Lg where
 first:Nat
 n:Nat
 life:Int
 epoch:Nat
 top:Nat
 tail:Nat
 head:Nat
 begun:Bool
def pcAt (s:Dsk)(first n p:Nat):Pc:=pcF (s.now (first+2+p%n))
def aliveR (s:Dsk)(l:Lg):Bool:=decide (s.left≠0)&&decide (s.life=l.life)
def readyR (s:Dsk)(l:Lg):Int:=if aliveR s l=false then 3 else if l.begun=false then 4 else 0
def leB (v n:Nat):List UInt8:=(List.range n).map fun i=>UInt8.ofNat (v/256^i%256)
def bodyR (epoch p i c:Nat)(part:List UInt8):List UInt8:=leB epoch 4++leB p 4++leB i 2++leB c 2++part
def partR (data:List UInt8)(i:Nat):List UInt8:=(data.drop (i*492)).take 492
def layR (s:Dsk)(l:Lg)(data:List UInt8)(i c:Nat):Dsk×Int:=
 let at_:=l.first+2+(l.head+i)%l.n
 s.writeR (at_:Int) (sealF (s.now at_) (bodyR l.epoch (l.head+i) i c (partR data i))).1
def laysR (l:Lg)(data:List UInt8)(c:Nat):Dsk→Nat→Nat→Dsk×Int
 |s,_,0=>(s,0)
 |s,i,k+1=>if (layR s l data i c).2≠0 then layR s l data i c else laysR l data c (layR s l data i c).1 (i+1) k
def countR (m:Nat):Nat:=(m+491)/492
def appendR (s:Dsk)(l:Lg)(data:List UInt8):Dsk×Lg×Int:=
 if readyR s l≠0 then (s,l,readyR s l) else if data.length=0 then (s,l,2) else if 8364<data.length then (s,l,7)
 else if 1073741824<l.head+countR data.length then (s,l,41) else if l.n<l.head-l.tail+countR data.length then (s,l,40) else
 let r:=laysR l data (countR data.length) s 0 (countR data.length)
 if r.2≠0 then (r.1,l,r.2) else (r.1,{l with head:=l.head+countR data.length},0)
end Go.Proofs
end
section
open Go Go.RowKit Go.Proofs.YtgeioealgidkiaaW.PrintWords Go.Proofs.YtgeioealgidkiaaW.PrintMore
namespace Go.Proofs
open Go.Vel
set_option linter.unusedVariables false
set_option maxRecDepth 100000
set_option maxHeartbeats 4000000
attribute [local irreducible] gives wpList Code.wp
def lgc (gd:Nat)(l:Lg):Array Value:=#[.pointer (some ⟨gd,0,none⟩),.int .i64 (l.first:Nat),.int .i64 (l.n:Nat),.int .i64 l.life,.int .i64 (l.epoch:Nat),.int .i64 (l.top:Nat),.int .i64 (l.tail:Nat),.int .i64 (l.head:Nat),.bool l.begun]
def PLog (g gd:Nat)(l:Lg):Ast:=row g (lgc gd l) 161
structure LOk (l:Lg):Prop where
 first:l.first≤2048
 n0:18≤l.n
 n:l.n≤256
 epoch:l.epoch≤1073741824
 top:l.top<1073741824
 tail:l.tail≤1073741824
structure LHd (l:Lg):Prop where
 th:l.tail≤l.head
 ht:l.head≤l.tail+l.n
theorem alive_burnt {s:Dsk}{l:Lg}(h:s.left=0):aliveR s l=false:=by simp [aliveR,h]
end Go.Proofs
end
section
open Go Go.RowKit Go.Proofs.YtgeioealgidkiaaW.PrintWords Go.Proofs.YtgeioealgidkiaaW.PrintMore
namespace Go.Proofs
open Go.Vel
set_option linter.unusedVariables false
section
def Dsk.wrote (s:Dsk)(k:Nat)(d:List UInt8):Dsk:={s with pend:=s.pend++[(k,d)],wr:=inc s.wr,left:=spent s.left}
theorem writeR_go {s:Dsk}{k:Nat}{d:List UInt8}(hz:s.left≠0)(hk:k<s.last.length)(hd:d.length=512):s.writeR ((k:Nat):Int) d=(s.wrote k d,0):=by
 unfold Dsk.writeR Dsk.wrote
 rw [if_neg hz,if_neg (show¬(((k:Nat):Int)<0∨(s.last.length:Int)≤((k:Nat):Int)) by omega),if_neg om_,Int.toNat_natCast]
theorem sealF_len {o b:List UInt8}(ho:o.length=512)(hb:b.length≤504):(sealF o b).1.length=512∧(sealF o b).2=0:=by
 unfold sealF
 rw [if_neg om_,if_neg om_]
 exact ⟨length_form _ hb,rfl⟩
theorem DOk.now {s:Dsk}(h:DOk s){k:Nat}(hk:k<s.last.length):(s.now k).length=512:=by
 unfold Dsk.now
 cases hp:(pendOf s k).getLast? with
 |some d=>
  have:=List.mem_of_getLast? hp
  unfold pendOf at this
  obtain ⟨x,hx,rfl⟩:=List.mem_map.1 this
  exact (h.plen x (List.mem_filter.1 hx).1).1
 |none=>
  show (s.last.getD k []).length=512
  rw [List.getD_eq_getElem?_getD,List.getElem?_eq_getElem hk]
  exact h.len _ (List.getElem_mem hk)
section
variable {F:Nat→Prop}{w0 w:World}{L:List Ast}{g:Nat}{s:Dsk}
theorem pw_write_go {k:Nat}{A:Option Addr}{d:List UInt8}{cd n:Nat}(S:St F w0 w (PW g s::L))(hr:RoT F w0 L A d)(hn:n=d.length)(hd:d.length=512)(hz:s.left≠0)(hk:k<s.last.length)(hpn:s.pend.length<4398046511104):
  Calls Try.prog 33 #[pq g,nI_ k,.slice A n cd] w fun e w'=>e=.returned (iv 0)∧St F w0 w' (PW g (s.wrote k d)::L):=by
 subst hn
 have h:=pw_write (at_:=((k:Nat):Int)) (cd:=cd) S hr om_ hpn
 rw [writeR_go hz hk hd] at h
 exact h
end
end
section
theorem length_leB (v n:Nat):(leB v n).length=n:=by simp [leB]
theorem length_bodyR (e p i c:Nat)(d:List UInt8):(bodyR e p i c d).length=12+d.length:=by
 simp only [bodyR,List.length_append,length_leB]
theorem RdB.cells {w:World}{ad:Addr}{l:List UInt8}(h:RdB w (some ad) l):∀j u,(l.map bv)[j]?=some u→w.cell? (ad.add j)=some u:=fun j u hu=>by
 have hl:0<l.length:=by
  have:=(List.getElem?_eq_some_iff.1 hu).1
  rw [List.length_map] at this;omega
 obtain ⟨ad',e,hc⟩:=h hl
 cases e;exact hc j u hu
section
variable {F:Nat→Prop}{w0 w:World}{L:List Ast}
end
end
end Go.Proofs
end
section
open Go Go.RowKit Go.Proofs.YtgeioealgidkiaaW.PrintWords Go.Proofs.YtgeioealgidkiaaW.PrintMore
namespace Go.Proofs
open Go.Vel
set_option linter.unusedVariables false
set_option maxRecDepth 100000
set_option maxHeartbeats 4000000
attribute [local irreducible] gives wpList Code.wp
theorem partR_len {d:List UInt8}{i c:Nat}(hc:c=countR d.length)(hi:i<c):(partR d i).length=min d.length ((i+1)*492)-i*492∧1≤(partR d i).length∧(partR d i).length≤492:=by
 unfold partR countR at*
 rw [List.length_take,List.length_drop]
 omega
theorem now_flushR {s:Dsk}{k:Nat}(hk:k<s.last.length):s.flushR.1.now k=s.now k:=by
 rcases flushR_cases s with ⟨h,e⟩|⟨h,e⟩
 ·rw [e]
 ·rw [e];exact now_flush rfl rfl hk
end Go.Proofs
end
section
open Go Go.RowKit Go.Proofs.YtgeioealgidkiaaW.PrintWords Go.Proofs.YtgeioealgidkiaaW.PrintMore
namespace Go.Proofs
open Go.Vel
set_option linter.unusedVariables false
set_option linter.unusedSimpArgs false
section
abbrev PcV:=Pc×Value
def pcells (x:PcV):List Value:=[.int .i64 (x.1.epoch:Nat),.int .i64 (x.1.pos:Nat),.int .i64 (x.1.idx:Nat),.int .i64 (x.1.cnt:Nat),x.2]
def pc0:PcV:=(pcNo,.slice none 0 0)
section
variable {F:Nat→Prop}{w0 w:World}{L:List Ast}
end
structure RingTo (s:Dsk)(first n i:Nat)(M:List PcV):Prop where
 len:M.length=n
 pc:∀j x,M[j]?=some x→(j<i→x.1=pcAt s first n j)∧(i≤j→x=pc0)∧∃A c,x.2=.slice A x.1.data.length c
theorem RingTo.skip {s:Dsk}{first n i:Nat}{M:List PcV}(h:RingTo s first n i M)(hp:pcAt s first n i=pcNo):RingTo s first n (i+1) M:=⟨h.len,fun j x hx=>by
 obtain ⟨h1,h2,h3⟩:=h.pc j x hx
 refine ⟨fun hj=> ?_,fun hj=>h2 om_,h3⟩
 by_cases hji:j=i
 ·subst hji;rw [hp,h2 (Nat.le_refl _)];rfl
 ·exact h1 om_⟩
end
end Go.Proofs
end
section
open Go Go.RowKit Go.Proofs.YtgeioealgidkiaaW.PrintWords Go.Proofs.YtgeioealgidkiaaW.PrintMore
namespace Go.Proofs
open Go.Vel
set_option linter.unusedVariables false
structure ScSt where
 recs:List (List UInt8)
 rcd:List UInt8
 idx:Nat
 cnt:Nat
 head:Nat
def scCnt (σ:ScSt)(x:Pc):Nat:=if σ.idx=0 then x.cnt else σ.cnt
def scStep (σ:ScSt)(x:Pc):Option ScSt:=
 if σ.idx≠0∧x.cnt≠σ.cnt then none
 else if x.idx≠σ.idx∨scCnt σ x<1∨17<scCnt σ x∨(σ.idx+1<scCnt σ x∧x.data.length≠492) then none
 else if σ.idx+1=scCnt σ x then some ⟨σ.recs++[σ.rcd++x.data],[],0,scCnt σ x,σ.head+scCnt σ x⟩
 else some ⟨σ.recs,σ.rcd++x.data,σ.idx+1,scCnt σ x,σ.head⟩
structure Fits (pc:Nat→Pc)(e p:Nat):Prop where
 epoch:(pc p).epoch=e
 pos:(pc p).pos=p
 data:(pc p).data≠[]
structure ScInv (pc:Nat→Pc)(e tail k:Nat)(σ:ScSt):Prop where
 recs:Recs pc e tail σ.recs σ.head
 pos:σ.head+σ.idx=tail+k
 rcd:σ.rcd=catF pc σ.head σ.idx
 par:0<σ.idx→σ.cnt=(pc σ.head).cnt∧σ.idx<σ.cnt∧σ.cnt≤17∧∀j,j<σ.idx→(pc (σ.head+j)).Part e (σ.head+j) j σ.cnt
theorem ScInv.step {pc:Nat→Pc}{e tail k:Nat}{σ σ':ScSt}(h:ScInv pc e tail k σ)(hm:Fits pc e (tail+k))(hs:scStep σ (pc (tail+k))=some σ'):ScInv pc e tail (k+1) σ':=by
 have hpos:=h.pos
 rw [←hpos] at hm hs
 obtain ⟨c,hc⟩:∃c,scCnt σ (pc (σ.head+σ.idx))=c:=⟨_,rfl⟩
 unfold scStep at hs
 rw [hc] at hs
 split at hs
 ·cases hs
 ·rename_i h1
  split at hs
  ·cases hs
  ·rename_i h2
   have hcnt:(pc (σ.head+σ.idx)).cnt=c:=by
    unfold scCnt at hc
    split at hc
    ·exact hc
    ·rename_i h0
     by_cases h3:(pc (σ.head+σ.idx)).cnt=σ.cnt
     ·rw [h3];exact hc
     ·exact absurd ⟨h0,h3⟩ h1
   have hfull:σ.idx+1=c∨(pc (σ.head+σ.idx)).data.length=492:=by
    by_cases h3:σ.idx+1=c
    ·exact .inl h3
    ·refine .inr ?_
     have h4:σ.idx+1≤c:=by
      by_cases h0:σ.idx=0
      ·omega
      ·obtain ⟨_,h5,_⟩:=h.par om_
       unfold scCnt at hc
       rw [if_neg h0] at hc
       omega
     by_cases h5:(pc (σ.head+σ.idx)).data.length=492
     ·exact h5
     ·exact absurd (.inr (.inr (.inr ⟨by omega,h5⟩))) h2
   have hpart:(pc (σ.head+σ.idx)).Part e (σ.head+σ.idx) σ.idx c:=⟨hm.data,hm.epoch,hm.pos,by omega,hcnt,hfull⟩
   have hall:∀j,j<σ.idx+1→(pc (σ.head+j)).Part e (σ.head+j) j c:=fun j hj=>by
    by_cases hji:j=σ.idx
    ·subst hji;exact hpart
    ·obtain ⟨_,_,_,h5⟩:=h.par om_
     have h6:=h5 j om_
     have h7:c=σ.cnt:=by unfold scCnt at hc;rw [if_neg om_] at hc;exact hc.symm
     rw [h7];exact h6
   have h0c:(pc σ.head).cnt=c:=by
    have:=(hall 0 om_).cnt
    rwa [Nat.add_zero] at this
   split at hs
   ·rename_i h3
    cases hs
    refine ⟨?_,by show σ.head+c+0=_;omega,rfl,fun h=>absurd h (Nat.lt_irrefl 0)⟩
    have e1:σ.rcd++(pc (σ.head+σ.idx)).data=catF pc σ.head c:=by rw [←h3,catF_succ,h.rcd]
    show Recs pc e tail (σ.recs++[σ.rcd++(pc (σ.head+σ.idx)).data]) (σ.head+c)
    rw [e1]
    exact .step h.recs ⟨by omega,by omega,h0c,fun j hj=>hall j om_⟩
   ·rename_i h3
    cases hs
    have hlt:σ.idx+1<c:=by
     by_cases h0:σ.idx=0
     ·omega
     ·obtain ⟨_,h5,_⟩:=h.par om_
      unfold scCnt at hc
      rw [if_neg h0] at hc
      omega
    exact ⟨h.recs,by show σ.head+(σ.idx+1)=_;omega,by show σ.rcd++(pc (σ.head+σ.idx)).data=catF pc σ.head (σ.idx+1);rw [catF_succ,h.rcd],fun _=>⟨h0c.symm,hlt,by show c≤17;omega,hall⟩⟩
theorem ScInv.stop {pc:Nat→Pc}{e tail k:Nat}{σ:ScSt}(h:ScInv pc e tail k σ)(hs:scStep σ (pc (tail+k))=none):NoRec pc e σ.head:=by
 intro c hr
 have hpos:=h.pos
 rw [←hpos] at hs
 have hic:σ.idx<c∧scCnt σ (pc (σ.head+σ.idx))=c:=by
  by_cases h0:σ.idx=0
  ·have:=hr.c1
   have h2:=hr.cnt
   unfold scCnt
   rw [if_pos h0,h0,Nat.add_zero]
   exact ⟨by omega,h2⟩
  ·obtain ⟨h1,h2,_⟩:=h.par om_
   have h3:=hr.cnt
   unfold scCnt
   rw [if_neg h0]
   exact ⟨by omega,by omega⟩
 obtain ⟨hi,hc⟩:=hic
 have hp:=hr.part σ.idx hi
 have h17:=hr.c17
 have h1:=hr.c1
 unfold scStep at hs
 rw [hc] at hs
 rw [if_neg (fun ⟨h0,h2⟩=>by
  obtain ⟨h3,_⟩:=h.par om_
  have:=hp.cnt
  have:=hr.cnt
  omega),if_neg (fun h2=>by
  rcases h2 with h2|h2|h2|⟨h2,h3⟩
  ·exact h2 hp.idx
  ·omega
  ·omega
  ·rcases hp.full with h4|h4
   ·omega
   ·exact h3 h4)] at hs
 split at hs<;>cases hs
theorem ScInv.last {pc:Nat→Pc}{e tail k:Nat}{σ:ScSt}(h:ScInv pc e tail k σ)(hm:¬Fits pc e (tail+k)):NoRec pc e σ.head:=by
 intro c hr
 have hpos:=h.pos
 have hi:σ.idx<c:=by
  by_cases h0:σ.idx=0
  ·have:=hr.c1;omega
  ·obtain ⟨h1,h2,_⟩:=h.par om_
   have h3:=hr.cnt
   omega
 have hp:=hr.part σ.idx hi
 rw [hpos] at hp
 exact hm ⟨hp.epoch,hp.pos,hp.data⟩
end Go.Proofs
end
section
open Go Go.RowKit Go.Proofs.YtgeioealgidkiaaW.PrintWords Go.Proofs.YtgeioealgidkiaaW.PrintMore
namespace Go.Proofs
open Go.Vel
set_option linter.unusedVariables false
set_option maxRecDepth 100000
set_option maxHeartbeats 4000000
attribute [local irreducible] gives wpList wpListIn Code.wp Code.wpIn
structure RowC (W:World)(b1 b2 gl gr n e tl:Nat)(M:List PcV):Prop where
 c1:W.cell? ⟨b1,0,none⟩=some (pq gl)
 c2:W.cell? ⟨b2,0,none⟩=some (.slice (some ⟨gr,0,none⟩) n n)
 c3:W.cell? ⟨gl,2,none⟩=some (iv (n:Nat))
 c4:W.cell? ⟨gl,4,none⟩=some (iv (e:Nat))
 c6:W.cell? ⟨gl,6,none⟩=some (iv (tl:Nat))
 c9:∀j x,M[j]?=some x→∀k v,(pcells x)[k]?=some v→W.cell? ⟨gr,j*5+k,none⟩=some v
def KpR (b1 b2 gl gr:Nat)(W W':World):Prop:=∀a:Addr,(a.block=b1∨a.block=b2∨a.block=gr∨a=⟨gl,2,none⟩∨a=⟨gl,4,none⟩∨a=⟨gl,6,none⟩)→W'.cell? a=W.cell? a
theorem RowC.keep {W W':World}{b1 b2 gl gr n e tl:Nat}{M:List PcV}(h:RowC W b1 b2 gl gr n e tl M)(hk:KpR b1 b2 gl gr W W'):RowC W' b1 b2 gl gr n e tl M:=
 ⟨(hk _ (.inl rfl)).trans h.c1,(hk _ (.inr (.inl rfl))).trans h.c2,(hk _ (.inr (.inr (.inr (.inl rfl))))).trans h.c3,(hk _ (.inr (.inr (.inr (.inr (.inl rfl)))))).trans h.c4,(hk _ (.inr (.inr (.inr (.inr (.inr rfl)))))).trans h.c6,fun j x hx k v hv=>(hk _ (.inr (.inr (.inl rfl)))).trans (h.c9 j x hx k v hv)⟩
theorem RowC.cells {W W':World}{b1 b2 gl gr n e tl:Nat}{M:List PcV}(h:RowC W b1 b2 gl gr n e tl M)(hk:∀a v,W.cell? a=some v→W'.cell? a=some v):RowC W' b1 b2 gl gr n e tl M:=
 ⟨hk _ _ h.c1,hk _ _ h.c2,hk _ _ h.c3,hk _ _ h.c4,hk _ _ h.c6,fun j x hx k v hv=>hk _ _ (h.c9 j x hx k v hv)⟩
end Go.Proofs
end
section
open Go Go.RowKit Go.Proofs.YtgeioealgidkiaaW.PrintWords Go.Proofs.YtgeioealgidkiaaW.PrintMore
namespace Go.Proofs
open Go.Vel
set_option linter.unusedVariables false
section
def Cel (A:Ast):Prop:=∀h,A h→∀k o,h k=some o→∃cs t f,o=.cells cs t f∧t≠165
abbrev CelL (L:List Ast):Prop:=∀A∈L,Cel A
theorem Cel.stars {L:List Ast}(hL:CelL L):Cel (stars L):=fun h hA k o hk=>by
 obtain ⟨hs,h1,_,h3⟩:=hA
 obtain ⟨i,hi,hk'⟩:=(h3 k o).1 hk
 exact hL _ (List.getElem_mem hi) (hs i) (h1 i _ (List.getElem?_eq_getElem hi)) k o hk'
section
variable {F D:Nat→Prop}{w0 w W W':World}{L L' A R:List Ast}
end
abbrev RecV:=Value×List UInt8
def recD (x:RecV):Ast:=vec 5 1 x.1 x.2.length (x.2.map bv)
end
end Go.Proofs
end
section
open Go Go.RowKit Go.Proofs.YtgeioealgidkiaaW.PrintWords Go.Proofs.YtgeioealgidkiaaW.PrintMore
namespace Go.Proofs
open Go.Vel
set_option linter.unusedVariables false
set_option linter.unusedSimpArgs false
structure ScB (tl m:Nat)(σ:ScSt):Prop where
 idx:σ.idx≤m
 head:σ.head≤tl+17*m
 recs:σ.recs.length≤m
 rcd:σ.rcd.length≤492*m
theorem ScB.step {tl m:Nat}{σ σ':ScSt}{x:Pc}(h:ScB tl m σ)(hx:x.data.length≤492)(hs:scStep σ x=some σ'):ScB tl (m+1) σ':=by
 obtain ⟨h1,h2,h3,h4⟩:=h
 unfold scStep at hs
 split at hs
 ·cases hs
 ·split at hs
  ·cases hs
  ·rename_i h5
   split at hs
   ·cases hs
    exact ⟨Nat.zero_le _,by show σ.head+scCnt σ x≤_;omega,by simp;omega,by simp⟩
   ·cases hs
    exact ⟨by show σ.idx+1≤_;omega,by show σ.head≤_;omega,by show σ.recs.length≤_;omega,by simp only [List.length_append];omega⟩
theorem KpR.trans {b1 b2 gl gr:Nat}{A B C:World}(h:KpR b1 b2 gl gr A B)(k:KpR b1 b2 gl gr B C):KpR b1 b2 gl gr A C:=fun a ha=>(k a ha).trans (h a ha)
end Go.Proofs
end
section
open Go Go.RowKit Go.Proofs.YtgeioealgidkiaaW.PrintWords Go.Proofs.YtgeioealgidkiaaW.PrintMore
namespace Go.Proofs
open Go.Vel
set_option linter.unusedVariables false
structure Did (s s':Dsk)(m:Nat):Prop where
 len:s'.last.length=s.last.length
 life:s'.life=s.life
 pend:s'.pend.length≤s.pend.length+m
 left:s'.left≠0→s.left≠0
theorem Did.trans {s s1 s2:Dsk}{m n:Nat}(h:Did s s1 m)(g:Did s1 s2 n):Did s s2 (m+n):=
 ⟨g.len.trans h.len,g.life.trans h.life,by have:=h.pend;have:=g.pend;omega,fun q=>h.left (g.left q)⟩
theorem Did.le {s s1:Dsk}{m n:Nat}(h:Did s s1 m)(hmn:m≤n):Did s s1 n:=⟨h.len,h.life,by have:=h.pend;omega,h.left⟩
theorem Did.write (s:Dsk)(a:Int)(d:List UInt8):Did s (s.writeR a d).1 1:=by
 unfold Dsk.writeR
 split
 ·exact ⟨rfl,rfl,Nat.le_succ _,id⟩
 ·rename_i h
  split
  ·exact ⟨rfl,rfl,Nat.le_succ _,id⟩
  ·split
   ·exact ⟨rfl,rfl,Nat.le_succ _,id⟩
   ·exact ⟨rfl,rfl,by simp,fun _=>h⟩
theorem Did.flush (s:Dsk):Did s s.flushR.1 0:=by
 unfold Dsk.flushR
 split
 ·exact ⟨rfl,rfl,Nat.le_refl _,id⟩
 ·rename_i h;exact ⟨length_applyP _ _,rfl,Nat.zero_le _,fun _=>h⟩
theorem flushR_err (s:Dsk):(s.flushR.2=0∧s.flushR.1.pend=[]∧s.left≠0)∨(s.flushR.2=3∧s.flushR.1=s∧s.left=0):=by
 rcases flushR_cases s with ⟨h,e⟩|⟨h,e⟩
 ·rw [e];exact .inr ⟨rfl,rfl,h⟩
 ·rw [e];exact .inl ⟨rfl,rfl,h⟩
theorem DOk.write {s:Dsk}(h:DOk s)(a:Int)(d:List UInt8):DOk (s.writeR a d).1:=by
 by_cases hw:(s.writeR a d).2=0
 ·obtain ⟨h1,h2,h3,h4,e⟩:=writeR_ok hw
  rw [e]
  refine ⟨h.len,fun x hx=> ?_,h.n1,h.n2, ?_⟩
  ·rcases List.mem_append.1 hx with hx|hx
   ·exact h.plen x hx
   ·rw [List.mem_singleton] at hx;subst hx;exact ⟨h3,by show a.toNat<s.last.length;omega⟩
  ·have:=h.lb
   show-1≤spent s.left∧spent s.left≤_
   unfold spent;split<;>omega
 ·obtain ⟨e1,e2,e3,_⟩:=writeR_no hw
  exact ⟨by rw [e1];exact h.len,by rw [e1,e2];exact h.plen,by rw [e1];exact h.n1,by rw [e1];exact h.n2,by rw [e3];exact h.lb⟩
def Low (s:Dsk)(f no:Nat):Prop:=(newestF (s.now f) (s.now (f+1))).2.2.2≠0∨(newestF (s.now f) (s.now (f+1))).2.1≤no
theorem Low.congr {s s':Dsk}{f no:Nat}(h:Low s f no)(h0:s'.now f=s.now f)(h1:s'.now (f+1)=s.now (f+1)):Low s' f no:=by
 unfold Low at*;rw [h0,h1];exact h
theorem Low.flush {s:Dsk}{f no:Nat}(h:Low s f no)(hf:f+1<s.last.length):Low s.flushR.1 f no:=h.congr (now_flushR om_) (now_flushR hf)
theorem laysR_did {l:Lg}{d:List UInt8}{c:Nat}(hc:c=countR d.length)(hn:1≤l.n):∀(k i:Nat) (s:Dsk),i+k=c→DOk s→l.first+2+l.n≤s.last.length→
  Did s (laysR l d c s i k).1 k∧((laysR l d c s i k).2=0∨(laysR l d c s i k).1.left=0)∧∀j,j<l.first+2→(laysR l d c s i k).1.now j=s.now j
 |0,i,s,_,_,_=>⟨⟨rfl,rfl,Nat.le_refl _,id⟩,.inl rfl,fun _ _=>rfl⟩
 |k+1,i,s,hk,hok,hin=>by
  have hp:=partR_len (d:=d) (i:=i) hc om_
  have hmod:(l.head+i)%l.n<l.n:=Nat.mod_lt _ om_
  have h5:(sealF (s.now (l.first+2+(l.head+i)%l.n)) (bodyR l.epoch (l.head+i) i c (partR d i))).1.length=512:=(sealF_len (hok.now om_) (by rw [length_bodyR];omega)).1
  have hlay:layR s l d i c=s.writeR ((l.first+2+(l.head+i)%l.n:Nat):Int) (sealF (s.now (l.first+2+(l.head+i)%l.n)) (bodyR l.epoch (l.head+i) i c (partR d i))).1:=rfl
  unfold laysR
  rw [hlay]
  obtain ⟨x,hx⟩:∃x,(sealF (s.now (l.first+2+(l.head+i)%l.n)) (bodyR l.epoch (l.head+i) i c (partR d i))).1=x:=⟨_,rfl⟩
  rw [hx] at h5 ⊢
  have hw:=Did.write s ((l.first+2+(l.head+i)%l.n:Nat):Int) x
  by_cases h0:(s.writeR ((l.first+2+(l.head+i)%l.n:Nat):Int) x).2≠0
  ·rw [if_pos h0]
   obtain ⟨e1,e2,e3,e4,_⟩:=writeR_no h0
   obtain ⟨_,g2⟩:=e4 om_ om_ h5
   exact ⟨hw.le om_,.inr (by rw [e3];exact g2),fun j _=>now_congr e1 e2 j⟩
  ·rw [if_neg h0]
   obtain ⟨_,_,_,_,e⟩:=writeR_ok (Classical.not_not.1 h0)
   obtain ⟨g1,g2,g3⟩:=laysR_did hc hn k (i+1) _ om_ (hok.write ((l.first+2+(l.head+i)%l.n:Nat):Int) x) (by rw [hw.len];exact hin)
   refine ⟨(hw.trans g1).le om_,g2,fun j hj=>(g3 j hj).trans ?_⟩
   rw [e,Int.toNat_natCast];exact (now_write (s:=s) (s':=s.wrote (l.first+2+(l.head+i)%l.n) x) rfl rfl j).trans (if_neg om_)
structure LgOk (m:Nat)(l:Lg):Prop where
 ok:LOk l
 hd:LHd l
 fit:l.first+2+l.n≤m
 end_:l.begun=true→l.head≤1073741824
structure Live (s:Dsk)(l:Lg):Prop where
 low:Low s l.first (l.epoch*4294967296+l.tail)
 pend:l.begun=true→s.pend.length≤l.head-l.tail
 top:l.begun=false→l.epoch≤l.top
structure WInv (k:Nat)(s:Dsk)(ls:List Lg):Prop where
 pend:s.pend.length≤1000
 room:s.left≠0→s.pend.length≤256
 life:0≤s.life∧s.life≤(k:Int)+1
 inj:∀(i j:Nat) (a b:Lg),ls[i]?=some a→ls[j]?=some b→a.life=b.life→i=j
 le:∀a∈ls,a.life≤s.life
 ok:∀a∈ls,LgOk s.last.length a
 live:∀a∈ls,aliveR s a=true→Live s a
theorem alive_iff {s:Dsk}{l:Lg}:aliveR s l=true↔s.left≠0∧s.life=l.life:=by unfold aliveR;simp
theorem inc_ok {x:Int}(h0:0≤x)(h1:x<9223372036854775807):inc x=x+1:=by unfold inc;rw [IntKind.wrap_i64];omega
theorem WInv.next {k:Nat}{s:Dsk}{ls:List Lg}(h:WInv k s ls):WInv (k+1) s ls:=⟨h.pend,h.room,⟨h.life.1,by have:=h.life.2;omega⟩,h.inj,h.le,h.ok,h.live⟩
theorem WInv.push {k:Nat}{s:Dsk}{ls:List Lg}(h:WInv k s ls)(hlt:∀a∈ls,a.life<s.life){l:Lg}(hl:l.life=s.life)(ok:LgOk s.last.length l)(hv:Live s l):WInv k s (ls++[l]):=by
 have hg:∀i a,(ls++[l])[i]?=some a→(ls[i]?=some a∧a.life<s.life)∨(i=ls.length∧a=l):=fun i a q=>by
  by_cases hi:i<ls.length
  ·rw [List.getElem?_append_left hi] at q;exact .inl ⟨q,hlt a (List.mem_of_getElem? q)⟩
  ·rw [List.getElem?_append_right om_] at q
   have hi2:=(List.getElem?_eq_some_iff.1 q).1
   have:i-ls.length=0:=by simp at hi2;omega
   rw [this] at q
   simp at q
   exact .inr ⟨by omega,q.symm⟩
 have hm:∀a,a∈ls++[l]→a∈ls∨a=l:=fun a q=>by simpa using q
 refine ⟨h.pend,h.room,h.life,fun i j a b qi qj hab=> ?_,fun a q=> ?_,fun a q=> ?_,fun a q hq=> ?_⟩
 ·rcases hg i a qi with ⟨p1,p2⟩|⟨p1,p2⟩<;>rcases hg j b qj with ⟨q1,q2⟩|⟨q1,q2⟩
  ·exact h.inj i j a b p1 q1 hab
  ·subst q2;omega
  ·subst p2;omega
  ·omega
 ·rcases hm a q with q|rfl
  ·exact h.le a q
  ·omega
 ·rcases hm a q with q|rfl
  ·exact h.ok a q
  ·exact ok
 ·rcases hm a q with q|rfl
  ·exact h.live a q hq
  ·exact hv
theorem WInv.fuse {k:Nat}{s:Dsk}{ls:List Lg}(h:WInv k s ls)(n:Int):WInv (k+1) (s.fuseR n) ls:=by
 obtain ⟨e1,e2⟩:=fuseR_same s n
 have e3:(s.fuseR n).life=s.life:=by unfold Dsk.fuseR;split<;>rfl
 have e4:(s.fuseR n).left≠0→s.left≠0:=fun q hz=>q (by unfold Dsk.fuseR;rw [if_pos hz];exact hz)
 refine ⟨by rw [e2];exact h.pend,fun q=>by rw [e2];exact h.room (e4 q),by rw [e3];have:=h.life;omega,h.inj,fun a q=>by rw [e3];exact h.le a q,fun a q=>by rw [e1];exact h.ok a q,fun a q hq=> ?_⟩
 obtain ⟨g1,g2⟩:=alive_iff.1 hq
 have hv:=h.live a q (alive_iff.2 ⟨e4 g1,by rw [←e3];exact g2⟩)
 exact ⟨hv.low.congr (now_congr e1 e2 _) (now_congr e1 e2 _),fun b=>by rw [e2];exact hv.pend b,hv.top⟩
theorem ready_iff {s:Dsk}{l:Lg}:readyR s l=0↔aliveR s l=true∧l.begun=true:=by
 unfold readyR
 split
 ·rename_i h;rw [h];simp
 ·rename_i h
  split
  ·rename_i h2;rw [h2];simp
  ·rename_i h2;simp at h h2;simp [h,h2]
theorem DOk.flush {s:Dsk}(h:DOk s):DOk s.flushR.1:=by
 rcases flushR_cases s with ⟨_,e⟩|⟨_,e⟩
 ·rw [e];exact h
 ·rw [e]
  have h5:∀(ps:List (Nat×List UInt8)) (l:List (List UInt8)),(∀x∈l,x.length=512)→(∀x∈ps,x.2.length=512)→∀x∈applyP l ps,x.length=512:=by
   intro ps
   induction ps with
   |nil=>intro l hl _ x hx;exact hl x hx
   |cons p r ih=>
    intro l hl hp x hx
    refine ih (l.set p.1 p.2) (fun y hy=> ?_) (fun y hy=>hp y (List.mem_cons_of_mem _ hy)) x hx
    rcases List.mem_or_eq_of_mem_set hy with q|q
    ·exact hl y q
    ·rw [q];exact hp p (List.mem_cons_self)
  refine ⟨h5 s.pend s.last h.len (fun x hx=>(h.plen x hx).1),fun x hx=>by simp at hx,by show 1≤(applyP _ _).length;rw [length_applyP];exact h.n1,by show (applyP _ _).length≤_;rw [length_applyP];exact h.n2, ?_⟩
  have:=h.lb
  show-1≤spent s.left∧spent s.left≤_
  unfold spent;split<;>omega
theorem leB_cons (v n:Nat):leB v (n+1)=UInt8.ofNat (v%256)::leB (v/256) n:=by
 unfold leB
 rw [List.range_succ_eq_map,List.map_cons,List.map_map]
 congr 1
 ·simp
 ·apply List.map_congr_left
  intro i _
  simp only [Function.comp]
  rw [Nat.pow_succ',Nat.div_div_eq_div_mul]
theorem leN_leB:∀(n v:Nat),leN (leB v n)=v%256^n
 |0,v=>by simp [leB,leN,Nat.mod_one]
 |n+1,v=>by
  rw [leB_cons,leN,leN_leB n,UInt8.toNat_ofNat',Nat.mod_eq_of_lt (show v%256<2^8 from by omega),Nat.pow_succ',Nat.mod_mul]
theorem leN_leB_lt {n v:Nat}(h:v<256^n):leN (leB v n)=v:=by rw [leN_leB,Nat.mod_eq_of_lt h]
theorem cut_app {α:Type}(a b c:List α){i n:Nat}(hi:a.length=i)(hn:b.length=n):((a++(b++c)).drop i).take n=b:=by
 subst hi hn
 rw [List.drop_append,List.drop_of_length_le (Nat.le_refl _),List.nil_append,Nat.sub_self,List.drop_zero,List.take_append,List.take_of_length_le (Nat.le_refl _),Nat.sub_self,List.take_zero,List.append_nil]
theorem pcOf_body {E p i c:Nat}{d:List UInt8}(hE:E<4294967296)(hp:p<4294967296)(hi:i<65536)(hc:c<65536):pcOf (bodyR E p i c d)=⟨E,p,i,c,d⟩:=by
 have l4:=length_leB E 4
 have m4:=length_leB p 4
 have l2:=length_leB i 2
 have m2:=length_leB c 2
 unfold pcOf numN bodyR
 have e1:((leB E 4++leB p 4++leB i 2++leB c 2++d).drop 0).take 4=leB E 4:=by
  have:=cut_app [] (leB E 4) (leB p 4++(leB i 2++(leB c 2++d))) rfl l4
  simpa [List.append_assoc] using this
 have e2:((leB E 4++leB p 4++leB i 2++leB c 2++d).drop 4).take 4=leB p 4:=by
  have:=cut_app (leB E 4) (leB p 4) (leB i 2++(leB c 2++d)) l4 m4
  simpa [List.append_assoc] using this
 have e3:((leB E 4++leB p 4++leB i 2++leB c 2++d).drop 8).take 2=leB i 2:=by
  have:=cut_app (leB E 4++leB p 4) (leB i 2) (leB c 2++d) (i:=8) (by rw [List.length_append];omega) l2
  simpa [List.append_assoc] using this
 have e4:((leB E 4++leB p 4++leB i 2++leB c 2++d).drop 10).take 2=leB c 2:=by
  have:=cut_app (leB E 4++leB p 4++leB i 2) (leB c 2) d (i:=10) (by rw [List.length_append,List.length_append];omega) m2
  simpa [List.append_assoc] using this
 have e5:(leB E 4++leB p 4++leB i 2++leB c 2++d).drop 12=d:=by
  rw [List.drop_append,List.drop_of_length_le (by simp only [List.length_append];omega),List.nil_append]
  rw [show 12-(leB E 4++leB p 4++leB i 2++leB c 2).length=0 by simp only [List.length_append];omega,List.drop_zero]
 rw [e1,e2,e3,e4,e5,leN_leB_lt om_,leN_leB_lt om_,leN_leB_lt om_,leN_leB_lt om_]
def partF (o:List UInt8)(E p i c:Nat)(d:List UInt8):List UInt8:=(sealF o (bodyR E p i c d)).1
theorem partF_form {o:List UInt8}{E p i c:Nat}{d:List UInt8}(ho:o.length=512)(hd:d.length≤492):partF o E p i c d=form (turnOf (o.getD 0 0) (o.getD 511 0)) (bodyR E p i c d):=by
 unfold partF sealF
 rw [if_neg om_,if_neg (by rw [length_bodyR];omega)]
theorem pcF_part {o:List UInt8}{E p i c:Nat}{d:List UInt8}(ho:o.length=512)(hd:d.length≤492)(hE:E<4294967296)(hp:p<4294967296)(hi:i<65536)(hc:c<65536):pcF (partF o E p i c d)=⟨E,p,i,c,d⟩:=by
 have h:=openF_form (turnOf (o.getD 0 0) (o.getD 511 0)) (bodyR E p i c d) (turn_ne _ _).2.2 (by rw [length_bodyR];omega)
 unfold pcF
 rw [partF_form ho hd,h,if_pos ⟨rfl,by rw [length_bodyR];omega⟩]
 exact pcOf_body hE hp hi hc
theorem pcF_torn {m:List UInt8}(h:openF m=([],30)):pcF m=pcNo:=by
 unfold pcF;rw [h,if_neg (by simp)]
def Over (o x:List UInt8):Prop:=o.length=512∧∃b,b.length≤504∧x=form (turnOf (o.getD 0 0) (o.getD 511 0)) b
theorem torn_over {o x:List UInt8}(h:Over o x)(p:Pick):tornS [o,x] p=o∨tornS [o,x] p=x∨openF (tornS [o,x] p)=([],30):=by
 obtain ⟨ho,b,hb,hx⟩:=h
 have hc:p.2.2.toNat%513≤512:=by have:=Nat.mod_lt p.2.2.toNat (show 0<513 by decide);omega
 obtain ⟨hl,m1,m2⟩:=over_mixes o b (p.2.2.toNat%513) hc ho hb x hx
 have hi:∀q:Nat,[o,x].getD (q% [o,x].length) []=o∨[o,x].getD (q% [o,x].length) []=x:=fun q=>by
  have h2:q% [o,x].length=0∨q% [o,x].length=1:=by
   have:=Nat.mod_lt q (show 0<2 by decide)
   have e:[o,x].length=2:=rfl
   rw [e];omega
  rcases h2 with h2|h2<;>rw [h2]
  ·exact .inl rfl
  ·exact .inr rfl
 have hid:∀y:List UInt8,y.take (p.2.2.toNat%513)++y.drop (p.2.2.toNat%513)=y:=fun y=>List.take_append_drop _ y
 unfold tornS
 rcases hi p.1.toNat with e1|e1<;>rcases hi p.2.1.toNat with e2|e2<;>rw [e1,e2]
 ·exact .inl (hid o)
 ·exact m1
 ·exact m2
 ·exact .inr (.inl (hid x))
structure Sgl (s:Dsk):Prop where
 nodup:(s.pend.map (·.1)).Nodup
 over:∀x∈s.pend,Over (s.last.getD x.1 []) x.2
theorem Sgl.nil {s:Dsk}(h:s.pend=[]):Sgl s:=⟨by rw [h];exact List.nodup_nil,fun x hx=>by rw [h] at hx;cases hx⟩
theorem pend_one:∀{l:List (Nat×List UInt8)},(l.map (·.1)).Nodup→∀{x:Nat×List UInt8},x∈l→(l.filter (fun y=>y.1==x.1)).map (·.2)=[x.2]
 |[],_,x,h=>by cases h
 |y::r,hn,x,h=>by
  rw [List.map_cons,List.nodup_cons] at hn
  by_cases hxy:y.1=x.1
  ·have hno:r.filter (fun z=>z.1==x.1)=[]:=by
    rw [List.filter_eq_nil_iff]
    intro z hz hb
    exact hn.1 (List.mem_map.2 ⟨z,hz,by rw [hxy];simpa using hb⟩)
   rcases List.mem_cons.1 h with rfl|h
   ·rw [List.filter_cons_of_pos (by simp),hno];rfl
   ·exact absurd (List.mem_map.2 ⟨x,h,hxy.symm⟩) hn.1
  ·rw [List.filter_cons_of_neg (by simpa using hxy)]
   rcases List.mem_cons.1 h with rfl|h
   ·exact absurd rfl hxy
   ·exact pend_one hn.2 h
theorem Sgl.now {s:Dsk}(h:Sgl s){x:Nat×List UInt8}(hx:x∈s.pend):pendOf s x.1=[x.2]∧s.now x.1=x.2:=by
 have e:pendOf s x.1=[x.2]:=pend_one h.nodup hx
 refine ⟨e, ?_⟩
 unfold Dsk.now;rw [e];rfl
theorem now_free {s:Dsk}{k:Nat}(h:∀x∈s.pend,x.1≠k):pendOf s k=[]∧s.now k=s.last.getD k []:=by
 have e:pendOf s k=[]:=by
  unfold pendOf
  rw [List.map_eq_nil_iff,List.filter_eq_nil_iff]
  intro x hx hb
  exact h x hx (by simpa using hb)
 exact ⟨e,Dsk.now_none e⟩
theorem crash_at' {s:Dsk}{k:Nat}(hk:k<s.last.length)(ps:List Pick):(pendOf s k=[]∧(s.crashR ps).last.getD k []=s.last.getD k [])∨(pendOf s k≠[]∧∃i,(s.crashR ps).last.getD k []=tornS (candS s k) (pickAt ps i)):=by
 show (pendOf s k=[]∧(applyP s.last (crashOuts s ps)).getD k []=_)∨(_∧∃i,(applyP s.last (crashOuts s ps)).getD k []=_)
 have hmem:∀x∈crashOuts s ps,∃i,x.2=tornS (candS s x.1) (pickAt ps i)∧pendOf s x.1≠[]:=fun x hx=>by
  unfold crashOuts at hx
  obtain ⟨i,hi,rfl⟩:=List.mem_mapIdx.1 hx
  have hm:(crashKeys s)[i]∈crashKeys s:=List.getElem_mem hi
  exact ⟨i,rfl,(keysTo_mem.1 hm).2⟩
 rw [List.getD_eq_getElem?_getD,get_applyP]
 by_cases hp:pendOf s k=[]
 ·refine .inl ⟨hp, ?_⟩
  have hn:newest (crashOuts s ps) k=none:=by
   unfold newest
   rw [List.getLast?_eq_none_iff,List.map_eq_nil_iff,List.filter_eq_nil_iff]
   intro x hx hb
   obtain ⟨i,_,h2⟩:=hmem x hx
   have:x.1=k:=by simpa using hb
   subst this;exact h2 hp
  rw [hn,List.getD_eq_getElem?_getD]
 ·refine .inr ⟨hp, ?_⟩
  have hkm:k∈crashKeys s:=keysTo_mem.2 ⟨hk,hp⟩
  have hne:newest (crashOuts s ps) k≠none:=by
   unfold newest
   rw [ne_eq,List.getLast?_eq_none_iff,List.map_eq_nil_iff,List.filter_eq_nil_iff]
   intro h
   obtain ⟨j,hj⟩:=List.getElem?_of_mem hkm
   have hx:outOf s ps j k∈crashOuts s ps:=by
    unfold crashOuts
    have hl:=(List.getElem?_eq_some_iff.1 hj).1
    exact List.mem_mapIdx.2 ⟨j,hl,by rw [(List.getElem?_eq_some_iff.1 hj).2]⟩
   exact h _ hx (by simp [outOf])
  cases hq:newest (crashOuts s ps) k with
  |none=>exact absurd hq hne
  |some d=>
   unfold newest at hq
   have hm:=List.mem_of_getLast? hq
   obtain ⟨x,hx,rfl⟩:=List.mem_map.1 hm
   obtain ⟨hx1,hx2⟩:=List.mem_filter.1 hx
   obtain ⟨i,h1,_⟩:=hmem x hx1
   have h3:x.1=k:=by simpa using hx2
   simp only []
   rw [if_pos hk,h1,h3]
   exact ⟨i,rfl⟩
structure CutOf (s x:Dsk):Prop where
 pend:x.pend=[]
 len:x.last.length=s.last.length
 free:∀k,k<s.last.length→(∀y∈s.pend,y.1≠k)→x.last.getD k []=s.last.getD k []
 one:∀y∈s.pend,x.last.getD y.1 []=s.last.getD y.1 []∨x.last.getD y.1 []=y.2∨openF (x.last.getD y.1 [])=([],30)
theorem Sgl.cut {s:Dsk}(h:Sgl s)(hok:DOk s)(ps:List Pick):CutOf s (s.crashR ps):=by
 refine ⟨rfl,crashR_len s ps,fun k hk hf=> ?_,fun y hy=> ?_⟩
 ·rcases crash_at' hk ps with ⟨_,e⟩|⟨e,_⟩
  ·exact e
  ·exact absurd (now_free hf).1 e
 ·obtain ⟨e1,e2⟩:=h.now hy
  rcases crash_at' (hok.plen y hy).2 ps with ⟨e,_⟩|⟨_,i,e⟩
  ·rw [e1] at e;cases e
  ·rw [e]
   show tornS (s.last.getD y.1 []::pendOf s y.1) _=_∨tornS (s.last.getD y.1 []::pendOf s y.1) _=_∨openF (tornS (s.last.getD y.1 []::pendOf s y.1) _)=_
   rw [e1]
   exact torn_over (h.over y hy) _
section
theorem Recs.congr {pc pc':Nat→Pc}{E a:Nat}{R:List (List UInt8)}{h:Nat}(r:Recs pc E a R h)(hq:∀p i c,a≤p→p<h→(pc p).Part E p i c→pc' p=pc p):Recs pc' E a R h:=by
 induction r with
 |nil=>exact .nil
 |@step R h c r hr ih=>
  have hp:∀j,j<c→pc' (h+j)=pc (h+j):=fun j hj=>hq (h+j) j c (by have:=r.le;omega) om_ (hr.part j hj)
  have e:catF pc h c=catF pc' h c:=by
   unfold catF
   congr 1
   apply List.map_congr_left
   intro j hj
   rw [hp j (List.mem_range.1 hj)]
  rw [e]
  have hc:=hr.c1
  refine Recs.step (ih fun p i c' h1 h2 h3=>hq p i c' h1 om_ h3) ⟨hr.c1,hr.c17, ?_,fun j hj=> ?_⟩
  ·have:=hp 0 om_
   rw [Nat.add_zero] at this
   rw [this];exact hr.cnt
  ·rw [hp j hj];exact hr.part j hj
theorem Recs.pre {pc:Nat→Pc}{e:Nat}:∀(k:Nat) {a:Nat} {R R':List (List UInt8)} {h h':Nat},R.length≤k→Recs pc e a R h→Recs pc e a R' h'→NoRec pc e h'→R.length≤R'.length∧R=R'.take R.length
 |k,a,R,R',h,h',hk,r,r',e'=>by
  by_cases hx:∃c,IsRec pc e a c
  ·obtain ⟨c,hc⟩:=hx
   rcases r.uncons hc with ⟨rfl,rfl⟩|⟨R1,rfl,r1⟩
   ·exact ⟨Nat.zero_le _,by simp⟩
   ·rcases r'.uncons hc with ⟨rfl,rfl⟩|⟨R2,rfl,r2⟩
    ·exact absurd hc (e' c)
    ·cases k with
     |zero=>exact absurd hk (by simp)
     |succ k=>
      obtain ⟨q1,q2⟩:=Recs.pre k (by simpa using hk) r1 r2 e'
      refine ⟨by simpa using q1, ?_⟩
      rw [List.length_cons,List.take_succ_cons,←q2]
  ·have hno:∀{R h},Recs pc e a R h→R=[]:=fun {R h} r=>by
    have h1:R=[]∧h=a∨False:=by
     induction r with
     |nil=>exact .inl ⟨rfl,rfl⟩
     |step _ hr ih=>
      rcases ih with ⟨rfl,rfl⟩|h
      ·exact .inr (hx ⟨_,hr⟩)
      ·exact .inr h
    exact (h1.elim id False.elim).1
   have e0:=hno r
   subst e0
   exact ⟨Nat.zero_le _,by simp⟩
def Dsk.lst (s:Dsk)(k:Nat):List UInt8:=s.last.getD k []
structure Core (s:Dsk)(n E T Y H H':Nat)(R:List (List UInt8))(low:Nat):Prop where
 n0:18≤n∧n≤256
 len:s.last.length=n+2
 sgl:Sgl s
 ends:T≤Y∧Y≤H∧H≤H'∧H'≤T+n
 keys:∀y∈s.pend,∃p,Y≤p∧p<H'∧y.1=2+p%n∧(pcF y.2).epoch=E∧(pcF y.2).pos=p
 pair:∃x,newestF (s.lst 0) (s.lst 1)=(x,E*4294967296+T,[],0)
 old:∀k,k<n→(pcF (s.lst (2+k))).epoch≤E∧((pcF (s.lst (2+k))).epoch=E→(pcF (s.lst (2+k))).data≠[]→(pcF (s.lst (2+k))).pos<Y)
 recs:Recs (pcAt s 0 n) E T R H
 low:low≤R.length∧Recs (pcAt s 0 n) E T (R.take low) Y
theorem pcAt_lst {s:Dsk}{n p:Nat}(h:∀y∈s.pend,y.1≠2+p%n):pcAt s 0 n p=pcF (s.lst (2+p%n)):=by
 unfold pcAt Dsk.lst
 rw [Nat.zero_add,(now_free h).2]
theorem pcAt_new {s:Dsk}{n p:Nat}(hs:Sgl s){y:Nat×List UInt8}(hy:y∈s.pend)(h:y.1=2+p%n):pcAt s 0 n p=pcF y.2:=by
 unfold pcAt
 rw [Nat.zero_add,←h,(hs.now hy).2]
theorem mod_eq_far {n p q:Nat}(h:p%n=q%n)(h1:p<q+n)(h2:q<p+n):p=q:=by
 rcases Nat.lt_or_ge p q with hlt|hge
 ·have e:(q-p)%n=0:=by
   have:=Nat.sub_mod_eq_zero_of_mod_eq h.symm
   exact this
  rw [Nat.mod_eq_of_lt om_] at e;omega
 ·have e:(p-q)%n=0:=Nat.sub_mod_eq_zero_of_mod_eq h
  rw [Nat.mod_eq_of_lt om_] at e;omega
section
variable {s:Dsk}{n E T Y H H':Nat}{R:List (List UInt8)}{low:Nat}
theorem Core.none (h:Core s n E T Y H H' R low){q i c:Nat}(hq:H'≤q):¬(pcAt s 0 n q).Part E q i c:=by
 intro hp
 have hn:=h.n0
 have he:=h.ends
 have hm:=Nat.mod_lt q (show 0<n by omega)
 by_cases hx:∃y∈s.pend,y.1=2+q%n
 ·obtain ⟨y,hy,e⟩:=hx
  obtain ⟨p,h1,h2,h3,h4,h5⟩:=h.keys y hy
  rw [pcAt_new h.sgl hy e] at hp
  have:=hp.pos;omega
 ·rw [pcAt_lst (fun y hy e=>hx ⟨y,hy,e⟩)] at hp
  have:=(h.old (q%n) hm).2 hp.epoch hp.data
  have:=hp.pos;omega
theorem Core.no (h:Core s n E T Y H H R low):NoRec (pcAt s 0 n) E H:=fun c hr=>h.none (Nat.le_refl _) (by have:=hr.part 0 hr.c1;rwa [Nat.add_zero] at this)
structure Left (x:Dsk)(n E T:Nat)(R:List (List UInt8))(low:Nat):Prop where
 pair:∃q,newestF (x.lst 0) (x.lst 1)=(q,E*4294967296+T,[],0)
 old:∀k,k<n→(pcF (x.lst (2+k))).epoch≤E
 tell:∀R' h',Recs (pcAt x 0 n) E T R' h'→NoRec (pcAt x 0 n) E h'→low≤R'.length∧R'.length≤R.length∧R'=R.take R'.length
theorem Core.cut (h:Core s n E T Y H H' R low)(hno:NoRec (pcAt s 0 n) E H){x:Dsk}(c:CutOf s x):Left x n E T R low:=by
 have hn:=h.n0
 have he:=h.ends
 have hl:=h.len
 have hpn:∀p,pcAt x 0 n p=pcF (x.lst (2+p%n)):=fun p=>pcAt_lst (by rw [c.pend];intro y hy;cases hy)
 have hfree:∀k,k<2→∀y∈s.pend,y.1≠k:=fun k hk y hy e=>by
  obtain ⟨p,_,_,h3,_,_⟩:=h.keys y hy
  omega
 have key:∀k,k<n→pcF (x.lst (2+k))=pcF (s.lst (2+k))∨(∃y∈s.pend,y.1=2+k∧pcF (x.lst (2+k))=pcF y.2)∨pcF (x.lst (2+k))=pcNo:=fun k hk=>by
  by_cases hx:∃y∈s.pend,y.1=2+k
  ·obtain ⟨y,hy,e⟩:=hx
   rcases c.one y hy with e1|e1|e1
   ·left;unfold Dsk.lst;rw [←e,e1]
   ·right;left;exact ⟨y,hy,e,by unfold Dsk.lst;rw [←e,e1]⟩
   ·right;right;exact pcF_torn (by unfold Dsk.lst;rw [←e];exact e1)
  ·left;unfold Dsk.lst;rw [c.free (2+k) om_ (fun y hy e=>hx ⟨y,hy,e⟩)]
 refine ⟨?_,fun k hk=> ?_,fun R' h' r' n'=> ?_⟩
 ·obtain ⟨q,hq⟩:=h.pair
  refine ⟨q, ?_⟩
  unfold Dsk.lst at hq ⊢
  rw [c.free 0 om_ (hfree 0 om_),c.free 1 om_ (hfree 1 om_)];exact hq
 ·rcases key k hk with e|⟨y,hy,_,e⟩|e
  ·rw [e];exact (h.old k hk).1
  ·obtain ⟨p,_,_,_,h4,_⟩:=h.keys y hy
   rw [e];omega
  ·rw [e];exact Nat.zero_le _
 ·have hA:Recs (pcAt s 0 n) E T R' h':=r'.congr fun p i cc h1 h2 h3=>by
   have hm:=Nat.mod_lt p (show 0<n by omega)
   rw [hpn] at h3 ⊢
   rcases key (p%n) hm with e|⟨y,hy,ey,e⟩|e
   ·by_cases hx:∃y∈s.pend,y.1=2+p%n
    ·obtain ⟨y,hy,ey⟩:=hx
     obtain ⟨q,q1,q2,q3,q4,q5⟩:=h.keys y hy
     rw [e] at h3
     have hlt:=(h.old (p%n) hm).2 h3.epoch h3.data
     have hpos:=h3.pos
     have:=mod_eq_far (n:=n) (p:=p) (q:=q) om_ om_ om_
     omega
    ·rw [e,pcAt_lst (fun y hy ey=>hx ⟨y,hy,ey⟩)]
   ·rw [e,pcAt_new h.sgl hy ey]
   ·rw [e] at h3;exact absurd rfl h3.data
  have hB:Recs (pcAt x 0 n) E T (R.take low) Y:=h.low.2.congr fun p i cc h1 h2 h3=>by
   have hm:=Nat.mod_lt p (show 0<n by omega)
   have hf:∀y∈s.pend,y.1≠2+p%n:=fun y hy ey=>by
    obtain ⟨q,q1,q2,q3,q4,q5⟩:=h.keys y hy
    have:=mod_eq_far (n:=n) (p:=p) (q:=q) om_ om_ om_
    omega
   rw [hpn,pcAt_lst hf]
   unfold Dsk.lst;rw [c.free _ om_ hf]
  obtain ⟨a1,a2⟩:=Recs.pre _ (Nat.le_refl _) hA h.recs hno
  obtain ⟨b1,b2⟩:=Recs.pre _ (Nat.le_refl _) hB r' n'
  have hlow:=h.low.1
  rw [List.length_take] at b1
  exact ⟨by omega,a1,a2⟩
theorem Core.same {s':Dsk}(h:Core s n E T Y H H' R low)(h1:s'.last=s.last)(h2:s'.pend=s.pend):Core s' n E T Y H H' R low:=by
 have e:pcAt s' 0 n=pcAt s 0 n:=by funext p;unfold pcAt;rw [now_congr h1 h2]
 have el:∀k,s'.lst k=s.lst k:=fun k=>by unfold Dsk.lst;rw [h1]
 exact ⟨h.n0,by rw [h1];exact h.len,⟨by rw [h2];exact h.sgl.nodup,by rw [h1,h2];exact h.sgl.over⟩,h.ends,by rw [h2];exact h.keys,by rw [el,el];exact h.pair,fun k hk=>by rw [el];exact h.old k hk,by rw [e];exact h.recs,by rw [e];exact h.low⟩
theorem lst_flush {s':Dsk}(h1:s'=s.flushR.1)(hz:s.left≠0){k:Nat}(hk:k<s.last.length):s'.lst k=s.now k:=by
 have hp:s'.pend=[]:=by
  rcases flushR_err s with q|q
  ·rw [h1];exact q.2.1
  ·exact absurd q.2.2 hz
 have:=now_flushR (s:=s) hk
 rw [←h1,now_nil hp] at this
 exact this
theorem Core.flush (h:Core s n E T Y H H R low)(hz:s.left≠0):Core s.flushR.1 n E T H H H R R.length:=by
 have hn:=h.n0
 have he:=h.ends
 have hl:=h.len
 obtain ⟨s',hs'⟩:∃s',s'=s.flushR.1:=⟨_,rfl⟩
 have hp:s'.pend=[]:=by
  rcases flushR_err s with q|q
  ·rw [hs'];exact q.2.1
  ·exact absurd q.2.2 hz
 have hlen:s'.last.length=s.last.length:=by rw [hs'];exact (Did.flush s).len
 have hlst:∀k,k<s.last.length→s'.lst k=s.now k:=fun k hk=>lst_flush hs' hz hk
 rw [←hs']
 have hfree:∀k,k<2→∀y∈s.pend,y.1≠k:=fun k hk y hy e=>by
  obtain ⟨p,_,_,h3,_,_⟩:=h.keys y hy
  omega
 have e:pcAt s' 0 n=pcAt s 0 n:=by
  funext p
  have hm:=Nat.mod_lt p (show 0<n by omega)
  unfold pcAt
  rw [hs',now_flushR om_]
 refine ⟨hn,by omega,Sgl.nil hp,by omega,(by rw [hp];intro y hy;cases hy), ?_,fun k hk=> ?_,by rw [e];exact h.recs,Nat.le_refl _,by rw [e,List.take_length];exact h.recs⟩
 ·obtain ⟨q,hq⟩:=h.pair
  refine ⟨q, ?_⟩
  rw [hlst 0 om_,hlst 1 om_,(now_free (hfree 0 om_)).2,(now_free (hfree 1 om_)).2];exact hq
 ·rw [hlst (2+k) om_]
  by_cases hx:∃y∈s.pend,y.1=2+k
  ·obtain ⟨y,hy,ey⟩:=hx
   obtain ⟨p,h1,h2,h3,h4,h5⟩:=h.keys y hy
   rw [←ey,(h.sgl.now hy).2]
   exact ⟨by omega,fun _ _=>by omega⟩
  ·rw [(now_free (fun y hy e=>hx ⟨y,hy,e⟩)).2]
   have:=h.old k hk
   exact ⟨this.1,fun a b=>by have:=this.2 a b;unfold Dsk.lst at this;omega⟩
end
end
section
section
variable {s:Dsk}{n E T Y H H':Nat}{R:List (List UInt8)}{low:Nat}
theorem Core.free (h:Core s n E T Y H H' R low){q:Nat}(h1:H'≤q)(h2:q<T+n):∀y∈s.pend,y.1≠2+q%n:=fun y hy e=>by
 have he:=h.ends
 obtain ⟨p,q1,q2,q3,_,_⟩:=h.keys y hy
 have:=mod_eq_far (n:=n) (p:=p) (q:=q) om_ om_ om_
 omega
theorem Core.write (h:Core s n E T Y H H' R low)(hok:DOk s){i c:Nat}{d:List UInt8}(hH:H'<T+n)(hd:d.length≤492)(hE:E<4294967296)(hp:H'<4294967296)(hi:i<65536)(hc:c<65536){K:Nat}(hK:K=2+H'%n){X:List UInt8}(hX:X=partF (s.now K) E H' i c d):
  Core (s.wrote K X) n E T Y H (H'+1) R low∧pcAt (s.wrote K X) 0 n H'=⟨E,H',i,c,d⟩∧∀q,q%n≠H'%n→pcAt (s.wrote K X) 0 n q=pcAt s 0 n q:=by
 have hn:=h.n0
 have he:=h.ends
 have hl:=h.len
 have hm:=Nat.mod_lt H' (show 0<n by omega)
 have hf:=h.free (Nat.le_refl H') hH
 rw [←hK] at hf
 have hnow:s.now K=s.last.getD K []:=(now_free hf).2
 have h512:(s.now K).length=512:=hok.now om_
 have hx:pcF X=⟨E,H',i,c,d⟩:=by rw [hX];exact pcF_part h512 hd hE hp hi hc
 have hov:Over (s.last.getD K []) X:=by
  rw [←hnow]
  exact ⟨h512,bodyR E H' i c d,by rw [length_bodyR];omega,by rw [hX];exact partF_form h512 hd⟩
 obtain ⟨s',hs'⟩:∃s',s'=s.wrote K X:=⟨_,rfl⟩
 have h1:s'.last=s.last:=by rw [hs'];rfl
 have h2:s'.pend=s.pend++[(K,X)]:=by rw [hs'];rfl
 rw [←hs']
 have hnw:=now_write (s:=s) (s':=s') h1 h2
 have hat:pcAt s' 0 n H'=⟨E,H',i,c,d⟩:=by
  unfold pcAt
  rw [Nat.zero_add,←hK,hnw,if_pos rfl,hx]
 have hoth:∀q,q%n≠H'%n→pcAt s' 0 n q=pcAt s 0 n q:=fun q hq=>by
  unfold pcAt
  rw [hnw,if_neg om_]
 have hlst:∀k,s'.lst k=s.lst k:=fun k=>by unfold Dsk.lst;rw [h1]
 have hback:∀p i c,T≤p→p<H'→(pcAt s 0 n p).Part E p i c→pcAt s' 0 n p=pcAt s 0 n p:=fun p i c q1 q2 _=>hoth p fun e=>by
  have:=mod_eq_far (n:=n) (p:=p) (q:=H') e om_ om_
  omega
 refine ⟨⟨hn,by rw [h1];exact hl,⟨?_,fun y hy=> ?_⟩,by omega,fun y hy=> ?_,by rw [hlst,hlst];exact h.pair,fun k hk=>by rw [hlst];exact h.old k hk,h.recs.congr fun p i c q1 q2 q3=>hback p i c q1 om_ q3,h.low.1,h.low.2.congr fun p i c q1 q2 q3=>hback p i c q1 om_ q3⟩,hat,hoth⟩
 ·rw [h2,List.map_append]
  refine List.nodup_append.2 ⟨h.sgl.nodup,by simp,fun a ha b hb e=> ?_⟩
  obtain ⟨y,hy,rfl⟩:=List.mem_map.1 ha
  simp at hb
  exact hf y hy (e.trans hb)
 ·rw [h2] at hy
  rcases List.mem_append.1 hy with hy|hy
  ·rw [h1];exact h.sgl.over y hy
  ·rw [List.mem_singleton] at hy;subst hy;rw [h1];exact hov
 ·rw [h2] at hy
  rcases List.mem_append.1 hy with hy|hy
  ·obtain ⟨p,q1,q2,q3⟩:=h.keys y hy
   exact ⟨p,q1,by omega,q3⟩
  ·rw [List.mem_singleton] at hy;subst hy
   exact ⟨H',by omega,by omega,hK,by rw [hx],by rw [hx]⟩
end
theorem parts_take (d:List UInt8):∀c,((List.range c).map (partR d)).flatten=d.take (c*492)
 |0=>by simp
 |c+1=>by
  rw [List.range_succ,List.map_append,List.flatten_append,parts_take d c,List.map_singleton,List.flatten_singleton]
  unfold partR
  rw [←List.take_add,Nat.add_mul,Nat.one_mul]
theorem parts_cat {pc:Nat→Pc}{H c:Nat}{d:List UInt8}(hc:c=countR d.length)(h:∀i,i<c→(pc (H+i)).data=partR d i):catF pc H c=d:=by
 unfold catF
 have e:(List.range c).map (fun j=>(pc (H+j)).data)=(List.range c).map (partR d):=List.map_congr_left fun j hj=>h j (List.mem_range.1 hj)
 rw [e,parts_take,List.take_of_length_le]
 unfold countR at hc;omega
theorem parts_rec {pc:Nat→Pc}{E H c:Nat}{d:List UInt8}(hc:c=countR d.length)(h0:1≤d.length)(h1:d.length≤8364)(h:∀i,i<c→pc (H+i)=⟨E,H+i,i,c,partR d i⟩):IsRec pc E H c:=by
 have hc1:1≤c:=by unfold countR at hc;omega
 refine ⟨hc1,by unfold countR at hc;omega, ?_,fun j hj=> ?_⟩
 ·have:=h 0 om_
  rw [Nat.add_zero] at this
  rw [this]
 ·obtain ⟨q1,q2,q3⟩:=partR_len (d:=d) (i:=j) hc hj
  rw [h j hj]
  refine ⟨fun e=> ?_,rfl,rfl,rfl,rfl, ?_⟩
  ·have e:partR d j=[]:=e
   rw [e] at q2;exact absurd q2 dc_
  ·by_cases hj1:j+1=c
   ·exact .inl hj1
   ·right
    show (partR d j).length=492
    rw [q1]
    unfold countR at hc;omega
section
variable {n E T Y H top tl:Nat}{life:Int}{b:Bool}{R:List (List UInt8)}{low:Nat}{d:List UInt8}{c:Nat}
theorem lays_core {l:Lg}(hl:l=⟨0,n,life,E,top,tl,H,b⟩)(hc:c=countR d.length)(h1:d.length≤8364)(hE:E<4294967296)(hH:H+c≤T+n)(hp:H+c<4294967296):
  ∀(k i:Nat) (s:Dsk),i+k=c→Core s n E T Y H (H+i) R low→DOk s→(∀j,j<i→pcAt s 0 n (H+j)=⟨E,H+j,j,c,partR d j⟩)→
   ∃j,j≤c∧Core (laysR l d c s i k).1 n E T Y H (H+j) R low∧(∀m,m<j→pcAt (laysR l d c s i k).1 0 n (H+m)=⟨E,H+m,m,c,partR d m⟩)∧((laysR l d c s i k).2=0∧j=c∨(laysR l d c s i k).2=3∧j<c∧(laysR l d c s i k).1.left=0)∧(laysR l d c s i k).1.life=s.life∧(s.left= -1→(laysR l d c s i k).2=0∧(laysR l d c s i k).1.left= -1)
 |0,i,s,hk,h,_,hat=>⟨i,by omega,h,hat,.inl ⟨rfl,by omega⟩,rfl,fun q=>⟨rfl,q⟩⟩
 |k+1,i,s,hk,h,hok,hat=>by
  have hn:=h.n0
  have he:=h.ends
  have hlen:=h.len
  have hm:=Nat.mod_lt (H+i) (show 0<n by omega)
  have hpl:=partR_len (d:=d) (i:=i) hc om_
  have hc17:c≤17:=by unfold countR at hc;omega
  obtain ⟨K,hK⟩:∃K,K=2+(H+i)%n:=⟨_,rfl⟩
  obtain ⟨X,hX⟩:∃X,X=partF (s.now K) E (H+i) i c (partR d i):=⟨_,rfl⟩
  have hlay:layR s l d i c=s.writeR ((K:Nat):Int) X:=by
   rw [hl,hX,hK]
   show s.writeR ((0+2+(H+i)%n:Nat):Int) (sealF (s.now (0+2+(H+i)%n)) (bodyR E (H+i) i c (partR d i))).1=_
   rw [Nat.zero_add];rfl
  have hXl:X.length=512:=by
   rw [hX,partF_form (hok.now om_) hpl.2.2]
   exact length_form _ (by rw [length_bodyR];omega)
  unfold laysR
  rw [hlay]
  by_cases hz:s.left=0
  ·have hne:(s.writeR ((K:Nat):Int) X).2≠0:=by
    intro q
    exact (writeR_ok q).2.2.2.1 hz
   obtain ⟨e1,e2,e3,_,e5⟩:=writeR_no hne
   have el:=(Did.write s ((K:Nat):Int) X).life
   rw [if_pos hne]
   obtain ⟨s',hs'⟩:∃s',s'=(s.writeR ((K:Nat):Int) X).1:=⟨_,rfl⟩
   rw [←hs'] at e1 e2 e3 el ⊢
   refine ⟨i,by omega,h.same e1 e2,fun m hm=> ?_,.inr ⟨e5 hz,by omega,by rw [e3];exact hz⟩,el,fun q=>by omega⟩
   rw [←hat m hm]
   unfold pcAt
   rw [now_congr e1 e2]
  ·have hgo:=writeR_go (k:=K) (d:=X) hz om_ hXl
   rw [hgo,if_neg (fun q=>q rfl)]
   obtain ⟨g1,g2,g3⟩:=h.write hok (i:=i) (c:=c) (d:=partR d i) om_ hpl.2.2 hE om_ om_ om_ hK hX
   have hok':DOk (s.wrote K X):=by
    have:=hok.write ((K:Nat):Int) X
    rw [hgo] at this;exact this
   obtain ⟨j,j1,j2,j3,j4,j5,j6⟩:=lays_core hl hc h1 hE hH hp k (i+1) (s.wrote K X) om_ g1 hok' (fun m hm=>by
    by_cases hmi:m=i
    ·rw [hmi];exact g2
    ·rw [g3 (H+m) fun e=>by
      have:=mod_eq_far (n:=n) (p:=H+m) (q:=H+i) e om_ om_
      omega]
     exact hat m om_)
   refine ⟨j,j1,j2,j3,j4,j5,fun q=>j6 ?_⟩
   show spent s.left= -1
   rw [q];rfl
theorem append_core {s:Dsk}{l:Lg}(hl:l=⟨0,n,s.life,E,top,T,H,true⟩)(h:Core s n E T Y H H R low)(hok:DOk s)(hz:s.left≠0)(hE:E<4294967296)(hb:H+17≤1073741824)(d:List UInt8):
  ((appendR s l d).2.2=0∧1≤d.length∧d.length≤8364∧(appendR s l d).2.1=⟨0,n,s.life,E,top,T,H+countR d.length,true⟩∧countR d.length≤17∧H+countR d.length≤T+n∧Core (appendR s l d).1 n E T Y (H+countR d.length) (H+countR d.length) (R++[d]) low∧(s.left= -1→(appendR s l d).1.left= -1)∧(appendR s l d).1.life=s.life)∨
  ((appendR s l d).2.2≠0∧(appendR s l d).2.2≠3∧appendR s l d=(s,l,(appendR s l d).2.2)∧(1≤d.length→d.length≤8364→(appendR s l d).2.2=40∧T+n<H+countR d.length))∨
  ((appendR s l d).2.2=3∧(appendR s l d).1.left=0∧(appendR s l d).2.1=l∧s.left≠ -1∧(appendR s l d).1.life=s.life∧∃j,Core (appendR s l d).1 n E T Y H (H+j) R low∧NoRec (pcAt (appendR s l d).1 0 n) E H):=by
 have he:=h.ends
 have ha:aliveR s l=true:=alive_iff.2 ⟨hz,by rw [hl]⟩
 have hr:readyR s l=0:=ready_iff.2 ⟨ha,by rw [hl]⟩
 have e1:l.head=H:=by rw [hl]
 have e2:l.tail=T:=by rw [hl]
 have e3:l.n=n:=by rw [hl]
 unfold appendR
 rw [if_neg om_,e1,e2,e3]
 by_cases h0:d.length=0
 ·rw [if_pos h0];exact .inr (.inl ⟨by show (2:Int)≠0;decide,by show (2:Int)≠3;decide,rfl,fun q=>by omega⟩)
 ·rw [if_neg h0]
  by_cases h7:8364<d.length
  ·rw [if_pos h7];exact .inr (.inl ⟨by show (7:Int)≠0;decide,by show (7:Int)≠3;decide,rfl,fun _ q=>by omega⟩)
  ·rw [if_neg h7]
   obtain ⟨c,hc⟩:∃c,c=countR d.length:=⟨_,rfl⟩
   have hc17:c≤17:=by unfold countR at hc;omega
   rw [←hc,if_neg om_]
   by_cases h40:n<H-T+c
   ·rw [if_pos h40];exact .inr (.inl ⟨by show (40:Int)≠0;decide,by show (40:Int)≠3;decide,rfl,fun _ _=>⟨rfl,by omega⟩⟩)
   ·rw [if_neg h40]
    obtain ⟨j,j1,j2,j3,j4,j5,j6⟩:=lays_core hl hc om_ hE om_ om_ c 0 s om_ h hok (fun j hj=>absurd hj (Nat.not_lt_zero _))
    obtain ⟨r,hrr⟩:∃r,r=laysR l d c s 0 c:=⟨_,rfl⟩
    rw [←hrr] at j2 j3 j4 j5 j6
    simp only []
    rw [←hrr]
    rcases j4 with ⟨q1,rfl⟩|⟨q1,q2,q3⟩
    ·rw [if_neg om_]
     have hrec:=parts_rec hc om_ om_ j3
     have hcat:=parts_cat (pc:=pcAt r.1 0 n) (H:=H) hc (fun i hi=>by rw [j3 i hi])
     refine .inl ⟨rfl,by omega,by omega,by rw [hl],by omega,by omega, ?_,fun q=>(j6 q).2,j5⟩
     show Core r.1 n E T Y (H+j) (H+j) (R++[d]) low
     have hR:=j2.recs.step hrec
     rw [hcat] at hR
     have hlow:=j2.low
     refine ⟨j2.n0,j2.len,j2.sgl,by omega,j2.keys,j2.pair,j2.old,hR,by rw [List.length_append];omega, ?_⟩
     rw [List.take_append_of_le_length hlow.1];exact hlow.2
    ·rw [if_pos om_]
     refine .inr (.inr ⟨q1,q3,rfl,fun q=>by have:=(j6 q).2;omega,j5,j,j2,fun c' hr'=> ?_⟩)
     by_cases hj0:j=0
     ·subst hj0
      exact j2.none (q:=H) om_ (by have:=hr'.part 0 hr'.c1;rwa [Nat.add_zero] at this)
     ·have e0:=j3 0 om_
      rw [Nat.add_zero] at e0
      have hcc:c=c':=by have:=hr'.cnt;rw [e0] at this;exact this
      exact j2.none (q:=H+j) (Nat.le_refl _) (hr'.part j om_)
end
end
section
theorem now_lst {s:Dsk}(hp:s.pend=[])(k:Nat):s.now k=s.lst k:=now_nil hp k
section
variable {s:Dsk}{n E T Y H H':Nat}{R:List (List UInt8)}{low:Nat}
structure Flat (s:Dsk)(n E T:Nat)(R:List (List UInt8))(H:Nat):Prop where
 n0:18≤n∧n≤256
 len:s.last.length=n+2
 pend:s.pend=[]
 pair:∃x,newestF (s.lst 0) (s.lst 1)=(x,E*4294967296+T,[],0)
 old:∀k,k<n→(pcF (s.lst (2+k))).epoch≤E
 recs:Recs (pcAt s 0 n) E T R H
 no:NoRec (pcAt s 0 n) E H
theorem pcAt_flat {s x:Dsk}(hp:s.pend=[])(hx:x.pend=[]){n:Nat}(hn:0<n)(hl:n+2≤s.last.length)(h:∀k,2≤k→k<s.last.length→x.lst k=s.lst k):pcAt x 0 n=pcAt s 0 n:=by
 funext p
 have hm:=Nat.mod_lt p hn
 unfold pcAt
 rw [now_lst hp,now_lst hx,h _ om_ om_]
theorem Flat.left (h:Flat s n E T R H){x:Dsk}(hx:x.pend=[])(hpair:newestF (x.lst 0) (x.lst 1)=newestF (s.lst 0) (s.lst 1))(hr:∀k,2≤k→k<s.last.length→x.lst k=s.lst k):Left x n E T R R.length:=by
 have hn:=h.n0
 have hl:=h.len
 have e:=pcAt_flat h.pend hx (n:=n) om_ om_ hr
 refine ⟨by rw [hpair];exact h.pair,fun k hk=>by rw [hr (2+k) om_ om_];exact h.old k hk,fun R' h' r n'=> ?_⟩
 rw [e] at r n'
 obtain ⟨q1,q2⟩:=Recs.pre _ (Nat.le_refl _) r h.recs h.no
 obtain ⟨q3,_⟩:=Recs.pre _ (Nat.le_refl _) h.recs r n'
 exact ⟨q3,q1,q2⟩
end
end
section
abbrev Told:=Nat×Nat×List UInt8×Nat
theorem renew_over' {a b d:List UInt8}{no:Int}(ha:a.length=512)(hb:b.length=512)(hd:d.length≤496)(h:(renewF a b no d).2.2=0):Over (if (renewF a b no d).1=1 then b else a) (renewF a b no d).2.1:=by
 have h8:(le8 no++d).length≤504:=by rw [List.length_append,length_le8];omega
 have key:∀o:List UInt8,o.length=512→Over o (sealF o (le8 no++d)).1:=fun o ho=>⟨ho,_,h8,by unfold sealF;rw [if_neg om_,if_neg om_]⟩
 by_cases h1:no<1
 ·exfalso
  unfold renewF at h
  rw [if_neg (fun hh=>hh ⟨ha,hb⟩),if_pos h1] at h
  cases h
 ·have e:=renew_mid (l:=a) (r:=b) (no:=no) (d:=d) ⟨ha,hb⟩ h1 om_
  by_cases h3:(newestF a b).2.2.2=0∧no≤((newestF a b).2.1:Int)
  ·rw [if_pos h3] at e
   rw [e] at h;cases h
  ·rw [if_neg h3] at e
   by_cases hC:(newestF a b).2.2.2=0∧(newestF a b).1=0
   ·rw [if_pos hC] at e
    rw [e]
    show Over (if (1:Nat)=1 then b else a) _
    rw [if_pos rfl];exact key b hb
   ·rw [if_neg hC] at e
    rw [e]
    show Over (if (0:Nat)=1 then b else a) _
    rw [if_neg dc_];exact key a ha
theorem pendOf_wrote (s:Dsk)(k j:Nat)(d:List UInt8):pendOf (s.wrote k d) j=if k=j then pendOf s j++[d] else pendOf s j:=by
 unfold pendOf Dsk.wrote
 by_cases h:k=j
 ·simp [h,List.filter_append]
 ·simp [h,List.filter_append]
structure BInv (k:Nat)(s:Dsk)(sure may:Told)(op:Bool):Prop where
 ok:DOk s
 five:s.last.length=5
 left:s.left= -1
 pn:s.pend.length≤k
 tells:newestF (s.now 1) (s.now 3)=may
 st:(op=false∧pendOf s 1=[]∧pendOf s 3=[]∧sure=may)∨(op=true∧∃i x,(i=0∨i=1)∧pendOf s (1+2*i)=[x]∧pendOf s (3-2*i)=[]∧Over (s.lst (1+2*i)) x∧∀m,m=s.lst (1+2*i)∨m=x∨openF m=([],30)→m.length=512→newestF (putIn (s.lst 1) (s.lst 3) i m).1 (putIn (s.lst 1) (s.lst 3) i m).2=may∨newestF (putIn (s.lst 1) (s.lst 3) i m).1 (putIn (s.lst 1) (s.lst 3) i m).2=sure)
section
variable {k:Nat}{s:Dsk}{sure may:Told}{op:Bool}
theorem BInv.next (h:BInv k s sure may op):BInv (k+1) s sure may op:=⟨h.ok,h.five,h.left,Nat.le_succ_of_le h.pn,h.tells,h.st⟩
theorem BInv.flush (h:BInv k s sure may op):s.flushR.2=0∧BInv k s.flushR.1 may may false:=by
 have hl:=h.left
 rcases flushR_cases s with ⟨q,_⟩|⟨_,e⟩
 ·omega
 ·have hok:=h.ok.flush
  rw [e] at hok ⊢
  have n5:=h.five
  have hn:∀j,j<5→Dsk.now {s with last:=applyP s.last s.pend,pend:=[],fl:=inc s.fl,left:=spent s.left} j=s.now j:=fun j hj=>now_flush rfl rfl om_
  exact ⟨rfl,hok,(length_applyP _ _).trans h.five,by show spent s.left= -1;rw [hl];rfl,Nat.zero_le _,by rw [hn 1 dc_,hn 3 dc_];exact h.tells,.inl ⟨rfl,rfl,rfl,rfl⟩⟩
theorem BInv.quiet (h:BInv k s sure may false):pendOf s 1=[]∧pendOf s 3=[]∧sure=may∧s.now 1=s.lst 1∧s.now 3=s.lst 3:=by
 rcases h.st with ⟨_,q1,q2,q3⟩|⟨q,_⟩
 ·exact ⟨q1,q2,q3,Dsk.now_none q1,Dsk.now_none q2⟩
 ·cases q
theorem BInv.beside (h:BInv k s sure may op){j:Nat}{d:List UInt8}(h1:j≠1)(h3:j≠3)(hok:DOk (s.wrote j d)):BInv (k+1) (s.wrote j d) sure may op:=by
 have hl:=h.left
 have e1:pendOf (s.wrote j d) 1=pendOf s 1:=by rw [pendOf_wrote,if_neg h1]
 have e3:pendOf (s.wrote j d) 3=pendOf s 3:=by rw [pendOf_wrote,if_neg h3]
 have n1:(s.wrote j d).now 1=s.now 1:=by rw [now_write (s:=s) (s':=s.wrote j d) rfl rfl,if_neg h1]
 have n3:(s.wrote j d).now 3=s.now 3:=by rw [now_write (s:=s) (s':=s.wrote j d) rfl rfl,if_neg h3]
 refine ⟨hok,h.five,by show spent s.left= -1;rw [hl];rfl,by show (s.pend++[_]).length≤_;have:=h.pn;rw [List.length_append];simp;omega,by rw [n1,n3];exact h.tells, ?_⟩
 rcases h.st with ⟨q1,q2,q3,q4⟩|⟨q1,i,x,hi,q2,q3,q4,q5⟩
 ·exact .inl ⟨q1,e1.trans q2,e3.trans q3,q4⟩
 ·refine .inr ⟨q1,i,x,hi, ?_, ?_,q4,q5⟩
  ·rcases hi with rfl|rfl
   ·exact e1.trans q2
   ·exact e3.trans q2
  ·rcases hi with rfl|rfl
   ·exact e3.trans q3
   ·exact e1.trans q3
theorem BInv.renew (h:BInv k s sure may false){no:Int}{d:List UInt8}(hd:d.length≤496)(h0:(renewF (s.now 1) (s.now 3) no d).2.2=0)(hR:Renewed (s.now 1) (s.now 3) no d)
  (hok:DOk (s.wrote (1+2*(renewF (s.now 1) (s.now 3) no d).1) (renewF (s.now 1) (s.now 3) no d).2.1)):
  BInv (k+1) (s.wrote (1+2*(renewF (s.now 1) (s.now 3) no d).1) (renewF (s.now 1) (s.now 3) no d).2.1) sure ((renewF (s.now 1) (s.now 3) no d).1,no.toNat,d,0) true:=by
 obtain ⟨p1,p3,hsm,n1,n3⟩:=h.quiet
 have hl:=h.left
 have h5:=h.five
 have l1:=h.ok.now (k:=1) om_
 have l3:=h.ok.now (k:=3) om_
 have hov:=renew_over' l1 l3 hd h0
 have hslot:=hR.slot
 have hnew:=hR.new
 have htorn:=hR.torn
 have hmay:=h.tells
 generalize hr:renewF (s.now 1) (s.now 3) no d=r at*
 obtain ⟨i,x,e⟩:=r
 simp only [] at*
 have hw:=fun j=>now_write (s:=s) (s':=s.wrote (1+2*i) x) (k:=1+2*i) (d:=x) rfl rfl j
 have hp:=fun j=>pendOf_wrote s (1+2*i) j x
 refine ⟨hok,h5,by show spent s.left= -1;rw [hl];rfl,by show (s.pend++[_]).length≤_;have:=h.pn;rw [List.length_append];simp;omega, ?_,.inr ⟨rfl,i,x,hslot, ?_, ?_, ?_,fun m hm hm5=> ?_⟩⟩
 ·rw [hw 1,hw 3]
  rcases hslot with rfl|rfl
  ·rw [if_pos rfl,if_neg dc_];exact hnew
  ·rw [if_neg dc_,if_pos rfl];exact hnew
 ·rw [hp,if_pos rfl]
  rcases hslot with rfl|rfl
  ·show pendOf s 1++[x]=[x];rw [p1];rfl
  ·show pendOf s 3++[x]=[x];rw [p3];rfl
 ·rw [hp]
  rcases hslot with rfl|rfl
  ·rw [if_neg dc_];exact p3
  ·rw [if_neg dc_];exact p1
 ·show Over (s.lst (1+2*i)) x
  rcases hslot with rfl|rfl
  ·rw [if_neg dc_] at hov;rw [show 1+2*0=1 from rfl,←n1];exact hov
  ·rw [if_pos rfl] at hov;rw [show 1+2*1=3 from rfl,←n3];exact hov
 ·have hm':m=s.lst (1+2*i)∨m=x∨openF m=([],30):=hm
  show newestF (putIn (s.lst 1) (s.lst 3) i m).1 (putIn (s.lst 1) (s.lst 3) i m).2=_∨newestF (putIn (s.lst 1) (s.lst 3) i m).1 (putIn (s.lst 1) (s.lst 3) i m).2=_
  rw [←n1,←n3,hsm,←hmay]
  refine htorn m ?_ hm5
  rcases hm' with q|q
  ·left
   rcases hslot with rfl|rfl
   ·rw [if_neg dc_,n1];exact q
   ·rw [if_pos rfl,n3];exact q
  ·exact .inr q
theorem BInv.crash (h:BInv k s sure may op)(ps:List Pick)(hok:DOk (s.crashR ps)):∃t,BInv k (s.crashR ps) t t false∧(t=may∨t=sure):=by
 have h5:=h.five
 have hlen:(s.crashR ps).last.length=5:=(crashR_len s ps).trans h5
 have hn:∀j,(s.crashR ps).now j=(s.crashR ps).lst j:=fun j=>now_nil rfl j
 refine ⟨newestF ((s.crashR ps).now 1) ((s.crashR ps).now 3),⟨hok,hlen,rfl,Nat.zero_le _,rfl,.inl ⟨rfl,rfl,rfl,rfl⟩⟩, ?_⟩
 rw [hn 1,hn 3]
 have keep:∀j,j<5→pendOf s j=[]→(s.crashR ps).lst j=s.lst j:=fun j hj e=>by
  rcases crash_at' (s:=s) (k:=j) om_ ps with ⟨_,q⟩|⟨q,_⟩
  ·exact q
  ·exact absurd e q
 have hmay:=h.tells
 rcases h.st with ⟨_,q1,q3,q4⟩|⟨_,i,x,hi,q1,q3,q4,q5⟩
 ·left
  rw [keep 1 dc_ q1,keep 3 dc_ q3,←hmay,Dsk.now_none q1,Dsk.now_none q3];rfl
 ·have hm:(s.crashR ps).lst (1+2*i)=s.lst (1+2*i)∨(s.crashR ps).lst (1+2*i)=x∨openF ((s.crashR ps).lst (1+2*i))=([],30):=by
   rcases crash_at' (s:=s) (k:=1+2*i) om_ ps with ⟨q,_⟩|⟨_,j,e⟩
   ·rw [q1] at q;cases q
   ·show (s.crashR ps).last.getD (1+2*i) []=_∨(s.crashR ps).last.getD (1+2*i) []=_∨openF ((s.crashR ps).last.getD (1+2*i) [])=_
    rw [e]
    unfold candS
    rw [q1]
    exact torn_over q4 _
  have hm5:((s.crashR ps).lst (1+2*i)).length=512:=by rw [←hn];exact hok.now om_
  have hold:=keep (3-2*i) om_ q3
  have key:=q5 _ hm hm5
  rcases hi with rfl|rfl
  ·rw [show (s.crashR ps).lst 3=s.lst 3 from hold];exact key
  ·rw [show (s.crashR ps).lst 1=s.lst 1 from hold];exact key
end
theorem zsec_told:newestF zsec zsec=(0,0,[],30):=by
 have hz:openF zsec=([],30):=by decide+kernel
 rw [newest_of ⟨by decide+kernel,by decide+kernel⟩,readF_torn hz];rfl
theorem BInv.new (hok:DOk (Dsk.mk0 (List.replicate 5 zsec))):BInv 0 (Dsk.mk0 (List.replicate 5 zsec)) (0,0,[],30) (0,0,[],30) false:=
 ⟨hok,rfl,rfl,Nat.zero_le _,zsec_told,.inl ⟨rfl,rfl,rfl,rfl⟩⟩
end
theorem flush_m {s:Dsk}(h:s.left= -1):s.flushR.2=0∧s.flushR.1.left= -1:=by
 rcases flushR_cases s with ⟨q,e⟩|⟨q,e⟩
 ·omega
 ·rw [e];exact ⟨rfl,by show spent s.left= -1;rw [h];rfl⟩
structure Zero (s:Dsk):Prop where
 left:s.left= -1
 len:s.last.length=20
 now:∀j,j<20→s.now j=zsec
structure FrD (s:Dsk)(no:Nat):Prop where
 left:s.left= -1
 len:s.last.length=20
 pair:∃x,newestF (s.now 0) (s.now 1)=(x,no,[],0)
 ring:∀j,2≤j→j<20→s.now j=zsec
theorem Zero.flush {s:Dsk}(h:Zero s):Zero s.flushR.1:=⟨(flush_m h.left).2,(Did.flush s).len.trans h.len,fun j hj=>(now_flushR (by rw [h.len];exact hj)).trans (h.now j hj)⟩
theorem DOk.take {s:Dsk}(h:DOk s):DOk s.take:=⟨h.len,h.plen,h.n1,h.n2,h.lb⟩
theorem pc_zero:pcF zsec=pcNo:=by
 have h:(openF zsec).1.length<12:=by
  unfold openF
  split
  ·decide
  ·split
   ·decide
   ·split
    ·rw [List.length_take,show (zsec.getD 1 0).toNat+256*(zsec.getD 2 0).toNat=0 from by decide];omega
    ·decide
 unfold pcF;rw [if_neg om_]
theorem FrD.take {s:Dsk}{no:Nat}(h:FrD s no):FrD s.take no:=⟨h.left,h.len,h.pair,h.ring⟩
theorem FrD.flush {s:Dsk}{no:Nat}(h:FrD s no):FrD s.flushR.1 no:=by
 have hl:=h.len
 refine ⟨(flush_m h.left).2,(Did.flush s).len.trans hl, ?_,fun j h2 h3=>(now_flushR om_).trans (h.ring j h2 h3)⟩
 rw [now_flushR om_,now_flushR om_];exact h.pair
structure ZeroN (n:Nat)(s:Dsk):Prop where
 left:s.left= -1
 len:s.last.length=n+2
 now:∀j,j<n+2→s.now j=zsec
structure FrN (n:Nat)(s:Dsk)(no:Nat):Prop where
 left:s.left= -1
 len:s.last.length=n+2
 pair:∃x,newestF (s.now 0) (s.now 1)=(x,no,[],0)
 ring:∀j,2≤j→j<n+2→s.now j=zsec
theorem ZeroN.flush {n:Nat}{s:Dsk}(h:ZeroN n s):ZeroN n s.flushR.1:=⟨(flush_m h.left).2,(Did.flush s).len.trans h.len,fun j hj=>(now_flushR (by rw [h.len];exact hj)).trans (h.now j hj)⟩
theorem FrN.take {n:Nat}{s:Dsk}{no:Nat}(h:FrN n s no):FrN n s.take no:=⟨h.left,h.len,h.pair,h.ring⟩
theorem FrN.flush {n:Nat}{s:Dsk}{no:Nat}(h:FrN n s no):FrN n s.flushR.1 no:=by
 have hl:=h.len
 refine ⟨(flush_m h.left).2,(Did.flush s).len.trans hl, ?_,fun j h2 h3=>(now_flushR om_).trans (h.ring j h2 h3)⟩
 rw [now_flushR om_,now_flushR om_];exact h.pair
section
def May (B:List (List UInt8))(low:Nat)(none:Bool)(told:List (List UInt8)):Prop:=
 (none=true∧told=[])∨(low≤told.length∧told.length≤B.length∧told=B.take told.length)
structure Cutted (k n:Nat)(x:Dsk)(B:List (List UInt8))(low:Nat)(none:Bool)(E T:Nat):Prop where
 e1:1≤E
 e2:E≤k+2
 t:T≤17*k
 pair:∃q,newestF (x.lst 0) (x.lst 1)=(q,E*4294967296+T,[],0)
 old:∀j,j<n→(pcF (x.lst (2+j))).epoch≤E
 tell:∀R' h',Recs (pcAt x 0 n) E T R' h'→NoRec (pcAt x 0 n) E h'→May B low none R'
def Back (k n:Nat)(s:Dsk)(B:List (List UInt8))(low:Nat)(none:Bool):Prop:=∀x,CutOf s x→∃E T,Cutted k n x B low none E T
theorem Left.cutted {k n E T low low':Nat}{x:Dsk}{R B:List (List UInt8)}{none:Bool}(h:Left x n E T R low)(h1:1≤E)(h2:E≤k+2)(h3:T≤17*k)(hm:∀R',low≤R'.length→R'.length≤R.length→R'=R.take R'.length→May B low' none R'):Cutted k n x B low' none E T:=
 ⟨h1,h2,h3,h.pair,h.old,fun R' h' r n'=>by obtain ⟨q1,q2,q3⟩:=h.tell R' h' r n';exact hm R' q1 q2 q3⟩
theorem Left.cut1 {k n E T low:Nat}{x:Dsk}{R B:List (List UInt8)}{none:Bool}(h:Left x n E T R low)(h1:1≤E)(h2:E≤k+2)(h3:T≤17*k)(hb:R=B.take R.length)(hl:R.length≤B.length):Cutted k n x B low none E T:=
 h.cutted h1 h2 h3 fun R' q1 q2 q3=>.inr ⟨q1,by omega,by
  rw [hb,List.take_take,Nat.min_eq_left q2] at q3;exact q3⟩
theorem Cutted.next {k n E T low:Nat}{x:Dsk}{B:List (List UInt8)}{none:Bool}(h:Cutted k n x B low none E T):Cutted (k+1) n x B low none E T:=⟨h.e1,by have:=h.e2;omega,by have:=h.t;omega,h.pair,h.old,h.tell⟩
theorem Cutted.mono {k n E T low:Nat}{x:Dsk}{B:List (List UInt8)}{none:Bool}(h:Cutted k n x B low none E T):Cutted k n x B low true E T:=⟨h.e1,h.e2,h.t,h.pair,h.old,fun R' h' r n'=>(h.tell R' h' r n').elim (fun q=>.inl ⟨rfl,q.2⟩) .inr⟩
structure PInv (k n:Nat)(s:Dsk)(l:Lg)(B:List (List UInt8))(low:Nat)(none:Bool):Prop where
 n0:18≤n∧n≤256
 len:s.last.length=n+2
 ok:DOk s
 life:0≤s.life∧s.life≤2*(k:Int)+5
 lg:LgOk (n+2) l
 pend:s.pend.length≤20*k+300
 st:(none=false∧∃E top T H Y,l=⟨0,n,s.life,E,top,T,H,true⟩∧1≤E∧E≤k+2∧top≤k+2∧H≤17*k∧Core s n E T Y H H B low)∨(s.left=0∧Sgl s∧Back k n s B low none)
theorem PInv.sgl {k n:Nat}{s:Dsk}{l:Lg}{B:List (List UInt8)}{low:Nat}{none:Bool}(h:PInv k n s l B low none):Sgl s:=by
 rcases h.st with ⟨_,E,top,T,H,Y,_,_,_,_,_,hc⟩|⟨_,q,_⟩
 ·exact hc.sgl
 ·exact q
theorem PInv.back {k n:Nat}{s:Dsk}{l:Lg}{B:List (List UInt8)}{low:Nat}{none:Bool}(h:PInv k n s l B low none):Back k n s B low none:=by
 rcases h.st with ⟨_,E,top,T,H,Y,_,h1,h2,_,h3,hc⟩|⟨_,_,q⟩
 ·intro x c
  have he:=hc.ends
  exact ⟨E,T,(hc.cut hc.no c).cut1 h1 h2 om_ (by rw [List.take_length]) (Nat.le_refl _)⟩
 ·exact q
theorem Back.next {k n:Nat}{s:Dsk}{B:List (List UInt8)}{low:Nat}{none:Bool}(h:Back k n s B low none):Back (k+1) n s B low none:=fun x c=>by obtain ⟨E,T,q⟩:=h x c;exact ⟨E,T,q.next⟩
theorem PInv.next {k n:Nat}{s:Dsk}{l:Lg}{B:List (List UInt8)}{low:Nat}{none:Bool}(h:PInv k n s l B low none):PInv (k+1) n s l B low none:=
 ⟨h.n0,h.len,h.ok,by have:=h.life;omega,h.lg,by have:=h.pend;omega,by
  rcases h.st with ⟨q,E,top,T,H,Y,h0,h1,h2,h3,h4,hc⟩|⟨q1,q2,q3⟩
  ·exact .inl ⟨q,E,top,T,H,Y,h0,h1,by omega,by omega,by omega,hc⟩
  ·exact .inr ⟨q1,q2,q3.next⟩⟩
theorem appendR_did {s:Dsk}{l:Lg}(hok:DOk s)(hn:1≤l.n)(hin:l.first+2+l.n≤s.last.length)(d:List UInt8):Did s (appendR s l d).1 17:=by
 have hs:Did s s 17:=⟨rfl,rfl,by omega,id⟩
 unfold appendR
 split
 ·exact hs
 ·split
  ·exact hs
  ·rename_i h0
   split
   ·exact hs
   ·rename_i h1
    split
    ·exact hs
    ·split
     ·exact hs
     ·have g:=(laysR_did (l:=l) (d:=d) rfl hn (countR d.length) 0 s (Nat.zero_add _) hok hin).1
      have hc:countR d.length≤17:=by unfold countR;omega
      simp only []
      split
      ·exact g.le hc
      ·exact g.le hc
section
variable {F:Nat→Prop}{w0 w:World}{L:List Ast}{g gd k n:Nat}{l:Lg}{s:Dsk}{B:List (List UInt8)}{low:Nat}{none:Bool}
theorem dead_append {s:Dsk}{l:Lg}(hz:s.left=0)(d:List UInt8):appendR s l d=(s,l,3):=by
 have hr:readyR s l=3:=by unfold readyR;rw [if_pos (alive_burnt hz)]
 unfold appendR;rw [if_pos om_,hr]
theorem PInv.append (h:PInv k n s l B low none)(hk:k≤70000){s':Dsk}(hok':DOk s')(d:List UInt8)(hs':s'=(appendR s l d).1):
  ((appendR s l d).2.2=0∧s.left≠0∧1≤d.length∧d.length≤8364∧PInv (k+1) n s' (appendR s l d).2.1 (B++[d]) low none)∨
  ((appendR s l d).2.2=3∧s.left≠0∧PInv (k+1) n s' (appendR s l d).2.1 (B++[d]) low none)∨
  ((appendR s l d).2.2=3∧s.left=0∧PInv (k+1) n s' (appendR s l d).2.1 B low none)∨
  ((appendR s l d).2.2≠0∧(appendR s l d).2.2≠3∧PInv (k+1) n s' (appendR s l d).2.1 B low none):=by
 have hd:=appendR_did h.ok (l:=l) (by have:=h.lg.ok.n0;omega) (by have:=h.lg.fit;have:=h.len;omega) d
 have hdp:=hd.pend
 have hdl:=hd.len
 have hlife:=h.life
 have hpend:=h.pend
 have hlen:=h.len
 rw [←hs'] at hd hdp hdl
 by_cases hz:s.left=0
 ·have e:=dead_append (l:=l) hz d
  refine .inr (.inr (.inl ⟨by rw [e],hz, ?_⟩))
  rw [hs',e];exact h.next
 ·rcases h.st with ⟨hnone,E,top,T,H,Y,hl,h1,h2,h3,h4,hc⟩|⟨q,_⟩
  ·have hn:=hc.n0
   have he:=hc.ends
   rcases append_core hl hc h.ok hz om_ om_ d with ⟨e,a1,a2,a3,a4,a5,a6,_,a7⟩|⟨e0,e3,a1,_⟩|⟨e,a1,a2,_,a3,j,a4,a5⟩
   ·refine .inl ⟨e,hz,a1,a2, ?_⟩
    rw [a3]
    rw [←hs'] at a6 a7
    refine ⟨hn,by omega,hok',by rw [a7];omega,⟨⟨Nat.zero_le _,hn.1,hn.2,by show E≤_;omega,by show top<_;omega,by show T≤_;omega⟩,⟨by show T≤H+_;omega,by show H+_≤T+n;omega⟩,by show 0+2+n≤n+2;omega,fun _=>by show H+_≤_;omega⟩,by omega,.inl ⟨hnone,E,top,T,H+countR d.length,Y,by rw [a7],h1,by omega,by omega,by omega,a6⟩⟩
   ·refine .inr (.inr (.inr ⟨e0,e3, ?_⟩))
    have e1:s'=s:=by rw [hs',a1]
    rw [e1,show (appendR s l d).2.1=l from by rw [a1]]
    exact h.next
   ·refine .inr (.inl ⟨e,hz, ?_⟩)
    rw [a2]
    rw [←hs'] at a1 a3 a4 a5
    refine ⟨hn,by omega,hok',by rw [a3];omega,h.lg,by omega,.inr ⟨a1,a4.sgl,fun x c=>⟨E,T, ?_⟩⟩⟩
    exact (a4.cut a5 c).cut1 h1 om_ om_ (by rw [List.take_append_of_le_length (Nat.le_refl _),List.take_length]) (by rw [List.length_append];omega)
  ·exact absurd q hz
theorem CutOf.fuse {s x:Dsk}{a:Int}(c:CutOf (s.fuseR a) x):CutOf s x:=by
 obtain ⟨e1,e2⟩:=fuseR_same s a
 refine ⟨c.pend,c.len.trans (by rw [e1]),fun j hj hf=> ?_,fun y hy=> ?_⟩
 ·have:=c.free j (by rw [e1];exact hj) (by rw [e2];exact hf)
  rw [this,e1]
 ·have:=c.one y (by rw [e2];exact hy)
  rw [e1] at this;exact this
theorem fuseR_life (s:Dsk)(a:Int):(s.fuseR a).life=s.life:=by unfold Dsk.fuseR;split<;>rfl
theorem PInv.fuse (h:PInv k n s l B low none)(a:Int)(hok':DOk (s.fuseR a)):PInv (k+1) n (s.fuseR a) l B low none:=by
 obtain ⟨e1,e2⟩:=fuseR_same s a
 have hlife:=h.life
 have hpend:=h.pend
 have hlen:=h.len
 refine ⟨h.n0,by rw [e1];exact hlen,hok',by rw [fuseR_life];omega,h.lg,by rw [e2];omega, ?_⟩
 rcases h.st with ⟨hnone,E,top,T,H,Y,hl,h1,h2,h3,h4,hc⟩|⟨q1,q2,q3⟩
 ·exact .inl ⟨hnone,E,top,T,H,Y,by rw [fuseR_life];exact hl,h1,by omega,by omega,by omega,hc.same e1 e2⟩
 ·refine .inr ⟨by unfold Dsk.fuseR;rw [if_pos q1];exact q1,⟨by rw [e2];exact q2.nodup,by rw [e1,e2];exact q2.over⟩,fun x c=>q3.next x c.fuse⟩
end
end
end Go.Proofs
end
section
open Go Go.RowKit Go.Proofs.YtgeioealgidkiaaW.PrintWords Go.Proofs.YtgeioealgidkiaaW.PrintMore
namespace Go.Proofs
open Go.Vel
set_option linter.unusedVariables false
set_option maxRecDepth 100000
section
structure PCut (k n:Nat)(x:Dsk)(B:List (List UInt8))(low:Nat)(nn:Bool):Prop where
 n0:18≤n∧n≤256
 len:x.last.length=n+2
 ok:DOk x
 pend:x.pend=[]
 left:x.left= -1
 life:0≤x.life∧x.life≤2*(k:Int)+6
 cut:∃E T,Cutted k n x B low nn E T
theorem Cutted.flat {k n E T low:Nat}{x y:Dsk}{B:List (List UInt8)}{nn:Bool}(h:Cutted k n x B low nn E T)(hx:x.pend=[])(hy:y.pend=[])(hn:0<n)(hl:x.last.length=n+2)(e:∀j,j<n+2→y.lst j=x.lst j):Cutted k n y B low nn E T:=by
 have e1:=pcAt_flat hx hy (n:=n) hn om_ (fun j _ h2=>e j om_)
 exact ⟨h.e1,h.e2,h.t,by rw [e 0 om_,e 1 om_];exact h.pair,fun j hj=>by rw [e (2+j) om_];exact h.old j hj,by rw [e1];exact h.tell⟩
theorem PInv.crash {k n low:Nat}{s:Dsk}{l:Lg}{B:List (List UInt8)}{nn:Bool}(h:PInv k n s l B low nn)(hk:k≤70000)(ps:List Pick)(hok:DOk (s.crashR ps)):PCut k n (s.crashR ps) B low nn:=by
 have hl:=h.life
 have e:(s.crashR ps).life=s.life+1:=inc_ok hl.1 om_
 exact ⟨h.n0,(crashR_len s ps).trans h.len,hok,rfl,rfl,by rw [e];omega,h.back _ (h.sgl.cut h.ok ps)⟩
theorem PCut.load {k n low:Nat}{x y:Dsk}{B:List (List UInt8)}{nn:Bool}(h:PCut k n x B low nn)(hy:y=Dsk.mk0 x.last)(hok:DOk y):PCut k n y B low nn:=by
 obtain ⟨E,T,hc⟩:=h.cut
 have hn:=h.n0
 have el:y.last=x.last:=by rw [hy];rfl
 refine ⟨h.n0,by rw [el];exact h.len,hok,by rw [hy];rfl,by rw [hy];rfl,by rw [show y.life=1 by rw [hy];rfl];omega,E,T,hc.flat h.pend (by rw [hy];rfl) om_ h.len fun j _=>by unfold Dsk.lst;rw [el]⟩
section
variable {F:Nat→Prop}{w0 w:World}{L:List Ast}{g gd k n:Nat}{l:Lg}{s:Dsk}{B:List (List UInt8)}{low:Nat}{nn:Bool}
end
end
end Go.Proofs
end
section
open Go Go.RowKit Go.Proofs.YtgeioealgidkiaaW.PrintWords Go.Proofs.YtgeioealgidkiaaW.PrintMore
namespace Go.Proofs
open Go.Vel
set_option linter.unusedVariables false
set_option maxRecDepth 100000
set_option maxHeartbeats 4000000
attribute [local irreducible] gives wpList Code.wp
theorem RdV.fr {F:Nat→Prop}{w w':World}{A:Option Addr}{vs:List Value}(h:RdV w A vs)(hf:Fr F w w')(hF:∀k,F k→False):RdV w' A vs:=fun h0=>by
 obtain ⟨ad,e,hc⟩:=h h0
 refine ⟨ad,e,fun j u hu=> ?_⟩
 have h1:=hc j u hu
 have hb:(ad.add j).block<w.heap.size:=by
  unfold World.cell? at h1
  cases hq:w.heap[(ad.add j).block]? with
  |none=>simp [hq] at h1
  |some o=>exact (Array.getElem?_eq_some_iff.1 hq).1
 rw [←h1]
 unfold World.cell?
 rw [hf.block _ hb (fun hk=>hF _ hk)]
theorem RoV.of_rd {w:World}{A:Option Addr}{vs:List Value}(h:RdV w A vs)(L:List Ast):RoV none' w L A vs:=⟨fun w' L' S=>RdV.fr h S.fr (fun _ h=>h)⟩
theorem pw_crash {F:Nat→Prop}{w0 w:World}{L:List Ast}{g:Nat}{s:Dsk}{A:Option Addr}{ps:List Pick}{n c:Nat}(S:St F w0 w (PW g s::L))(hr:RoV F w0 L A (picksV ps))(hn:n=ps.length)(hpm:ps.length≤9223372036854775807):
  Calls Try.prog 64 #[pq g,.slice A n c] w fun e w'=>e=.returned (.tuple #[])∧St F w0 w' (PW g (s.crashR ps)::L):=by
 obtain ⟨r,S⟩:=St.pw S
 exact (pd_crash S hr hn hpm).mono fun e w' h=>⟨h.1,St.wp (r:=r) (s:=s.crashR ps) h.2⟩
structure RoL (F:Nat→Prop)(w0:World)(L:List Ast)(A:Option Addr)(R:List RecV):Prop where
 vs:RoV F w0 L A (R.map (·.1))
 el:∀x∈R,∃B c,x.1=.slice B x.2.length c∧RoT F w0 L B x.2∧x.2.length≤140737488355328
theorem RoL.more {F:Nat→Prop}{w0:World}{L:List Ast}{A:Option Addr}{R:List RecV}(h:RoL F w0 L A R)(X:Ast):RoL F w0 (X::L) A R:=⟨h.vs.more,fun x hx=>by obtain ⟨B,c,h1,h2,h3⟩:=h.el x hx;exact ⟨B,c,h1,h2.more,h3⟩⟩
section
theorem results_ctt {P:Program}{fn:Func}{p q r:Tmp}{ty:TypeId}(h:fn.results=#[.cell p ty,.tmp q,.tmp r])(tmps:Array Value){w:World}{g:Nat}{cs:Array Value}{t:TypeId}{b c:Value}(hg:w.heap[g]?=some (.cells cs t (0,0)))(hp:tmps.getD p undef=.pointer (some ⟨g,0,none⟩))(hT:aggB P ty cs.size=true)(hb:tmps.getD q undef=b)(hc:tmps.getD r undef=c):
  (results fn tmps).run P w=.ok (.tuple #[.agg cs,b,c]) w:=by
 have hp':tmps[p]?.getD undef=pq g:=by simpa using hp
 have hb':tmps[q]?.getD undef=b:=by simpa using hb
 have hc':tmps[r]?.getD undef=c:=by simpa using hc
 obtain ⟨h1,i,hi,hs⟩:=aggB_run hT w
 have hl:=run_loadCells_list (P:=P) w ⟨g,0,none⟩ cs.toList (fun j v hv=>by
  rw [Addr.add_lit,Nat.zero_add,cell_of_row w g j cs t (0,0) hg];simpa using hv)
 simp only [Array.length_toList,Array.toArray_toList] at hl
 simp [results,h,hp',hb',hc',asAddr,loadVar,h1,sizeOf,typeInfo,hi,hs,hl]
def datD (x:RecV):Ast:=bytesX x.1 x.2
section
variable {F:Nat→Prop}{w0 w:World}{L:List Ast}
theorem rot_dat {RX:List RecV}{A:Option Addr}{n c:Nat}{l:List UInt8}(i:Nat)(hi:L[i]?=some (stars (RX.map datD)))(hx:((.slice A n c:Value),l)∈RX):RoT F w0 L A l:=⟨fun w' L' S'=>by
 have h1:(L'++L)[L'.length+i]?=some (stars (RX.map datD)):=by rw [List.getElem?_append_right om_];simpa using hi
 have h2:=(S'.mem _ h1).star_mem (List.mem_map_of_mem hx)
 exact (RoT.bytesX (F:=F) (w0:=w0) 0 (show [bytesX (.slice A n c) l][0]?=_ from rfl) rfl).now h2⟩
theorem St.dat_more {RX:List RecV}{x:RecV}(S:St F w0 w (datD x::stars (RX.map datD)::L)):St F w0 w (stars ((RX++[x]).map datD)::L):=by
 rw [List.map_append]
 have S1:St F w0 w (stars [datD x]::stars (RX.map datD)::L):=St.star (LA:=[datD x]) S
 exact St.star_join S1.swap
theorem St.datX {A:Option Addr}{n c:Nat}{l:List UInt8}{RX:List RecV}(S:St F w0 w (bytesX (.slice A n c) l::stars (RX.map datD)::L)):St F w0 w (stars ((RX++[((.slice A n c:Value),l)]).map datD)::L):=St.dat_more (x:=(.slice A n c,l)) S
theorem vecX {A:Option Addr}{n c:Nat}{l:List UInt8}{t:TypeId}(hn:n=l.length)(S:St F w0 w (vec t 1 (.slice A n c) n (l.map bv)::L)):St F w0 w (bytesX (.slice A n c) l::L):=S.map1 fun h hh=>by
 subst hn
 rcases hh with ⟨e,e2,_,_⟩|⟨g,c',junk,e,h1,h2,h3,h4⟩
 ·simp at e
  obtain ⟨rfl,rfl,rfl⟩:=e
  refine ⟨none,0,by rw [e2],by omega,fun w hw h0=>by omega⟩
 ·simp at e
  obtain ⟨rfl,rfl⟩:=e
  refine ⟨_,_,rfl,h1,fun w hw h0=>⟨_,rfl,fun j v hv=> ?_⟩⟩
  have hb:w.heap[g]?=some (.cells (l.map bv++junk).toArray t (0,0)):=hw g _ ((h4 g).trans (if_pos rfl))
  rw [Addr.add_lit,Nat.zero_add,cell_of_row w g j _ t (0,0) hb]
  have hj:=(List.getElem?_eq_some_iff.1 hv).1
  rw [List.getElem?_toArray,List.getElem?_append_left hj];exact hv
theorem St.datN (S:St F w0 w L):St F w0 w (stars (([((.slice none 0 0:Value),([]:List UInt8))]:List RecV).map datD)::L):=by
 have S1:=vecX (A:=none) (n:=0) (c:=0) (l:=[]) (t:=5) rfl (St.vec_nil S)
 exact St.star (LA:=[datD (nS_,[])]) S1
end
structure BP where
 gd:Nat
 s:Dsk
 su:Told
 ma:Told
 op:Bool
 AS:Option Addr
 AM:Option Addr
 cS:Nat
 cM:Nat
 RX:List RecV
def BP.parts (gk:Nat)(p:BP):List Ast:=[row gk #[.pointer (some ⟨p.gd,0,none⟩),.int .i64 (p.su.1:Int),.int .i64 (p.su.2.1:Int),.slice p.AS p.su.2.2.1.length p.cS,.int .i64 (p.su.2.2.2:Int),.int .i64 (p.ma.1:Int),.int .i64 (p.ma.2.1:Int),.slice p.AM p.ma.2.2.1.length p.cM,.int .i64 (p.ma.2.2.2:Int),.bool p.op] 84,PW p.gd p.s,stars (p.RX.map datD)]
structure BP.Ok (k:Nat)(p:BP):Prop where
 inv:BInv k p.s p.su p.ma p.op
 ms:((.slice p.AS p.su.2.2.1.length p.cS:Value),p.su.2.2.1)∈p.RX
 mm:((.slice p.AM p.ma.2.2.1.length p.cM:Value),p.ma.2.2.1)∈p.RX
 ls:p.su.2.2.1.length≤504
 lm:p.ma.2.2.1.length≤504
def PBen (gk k:Nat):Ast:=fun h=>∃p:BP,p.Ok k∧stars (p.parts gk) h
section
variable {F:Nat→Prop}{w0 w:World}{L:List Ast}{gk k:Nat}
theorem St.beo (S:St F w0 w (PBen gk k::L)):∃p:BP,p.Ok k∧St F w0 w (p.parts gk++L):=by
 obtain ⟨p,S⟩:=St.ex S
 obtain ⟨h1,S⟩:=St.fact S
 exact ⟨p,h1,S.flat⟩
theorem St.bec {p:BP}(h1:p.Ok k)(S:St F w0 w (p.parts gk++L)):St F w0 w (PBen gk k::L):=(St.star S).map1 fun h hh=>⟨p,h1,hh⟩
theorem St.ben (S:St F w0 w (PBen gk k::L)):St F w0 w (PBen gk (k+1)::L):=S.map1 fun h hh=>by
 obtain ⟨p,h1,h2⟩:=hh
 exact ⟨p,⟨h1.inv.next,h1.ms,h1.mm,h1.ls,h1.lm⟩,h2⟩
end
theorem w_look {F:Nat→Prop}{w0 w:World}{L:List Ast}{gk gd:Nat}{s:Dsk}{su ma:Told}{AS AM:Option Addr}{cS cM:Nat}{op:Bool}(S:St F w0 w (row gk #[.pointer (some ⟨gd,0,none⟩),.int .i64 (su.1:Int),.int .i64 (su.2.1:Int),.slice AS su.2.2.1.length cS,.int .i64 (su.2.2.2:Int),.int .i64 (ma.1:Int),.int .i64 (ma.2.1:Int),.slice AM ma.2.2.1.length cM,.int .i64 (ma.2.2.2:Int),.bool op] 84::PW gd s::L))(hz:s.left= -1)(h5:s.last.length=5):Calls Try.prog 52 #[.pointer (some ⟨gk,0,none⟩)] w fun e w'=>∃Aq cq A1 A3,e=.returned (.tuple #[.agg #[.int .i64 ((newestF (s.now 1) (s.now 3)).1:Int),.int .i64 ((newestF (s.now 1) (s.now 3)).2.1:Int),.slice Aq (newestF (s.now 1) (s.now 3)).2.2.1.length cq,.int .i64 ((newestF (s.now 1) (s.now 3)).2.2.2:Int)],.slice A1 512 512,.slice A3 512 512])∧St F w0 w' (bytesX (.slice Aq (newestF (s.now 1) (s.now 3)).2.2.1.length cq) (newestF (s.now 1) (s.now 3)).2.2.1::bytesA (.slice A1 512 512) (s.now 1)::bytesA (.slice A3 512 512) (s.now 3)::row gk #[.pointer (some ⟨gd,0,none⟩),.int .i64 (su.1:Int),.int .i64 (su.2.1:Int),.slice AS su.2.2.1.length cS,.int .i64 (su.2.2.2:Int),.int .i64 (ma.1:Int),.int .i64 (ma.2.1:Int),.slice AM ma.2.2.1.length cM,.int .i64 (ma.2.2.2:Int),.bool op] 84::PW gd s::L):=by
 have hok:=St.pw_ok (L:=[]) (S.mem 1 rfl)
 have l1:(s.now 1).length=512:=hok.now om_
 have l3:(s.now 3).length=512:=hok.now om_
 refine eN (fr [pq gk] 38) Try.func52 rfl (sR (nW rfl (.agg #[iv 0,iv 0,nS_,iv 0]) S fun g1 w2 hg3 S4=>pv (nS_) (pv (nS_) (wER (pv (pq gk) (pv (pq gk) (pv (pq gk) (lR (pq gd) S4 1 0 (g_ (gv_call (args:=#[pq gd,iv 1]) rfl Try.func26 kr_ rfl rfl kr_ ?_))))))))))
 have S5:=St.pm 3 [2,0,1] S4
 refine Calls.mono (pw_read (k:=1) S5 om_ om_) ?_
 rintro _ w6 ⟨m8,rfl,S7⟩
 refine ⟨_,rfl,(pv (.tuple #[.slice m8 512 512,iv 0]) (pv (.slice m8 512 512) (pv (iv 0) (pv (.slice m8 512 512) (pv (iv 0) (wER (pv (pq gk) (pv (pq gk) (pv (pq gk) (lR (pq gd) S7 3 0 (g_ (gv_call (args:=#[pq gd,iv 3]) rfl Try.func26 kr_ rfl rfl kr_ ?_))))))))))))⟩
 have S9:=St.pm 4 [1,0,2,3] S7
 refine Calls.mono (pw_read (k:=3) S9 om_ om_) ?_
 rintro _ w10 ⟨m12,rfl,S11⟩
 refine ⟨_,rfl,(pv (.tuple #[.slice m12 512 512,iv 0]) (pv (.slice m12 512 512) (pv (iv 0) (pv (.slice m12 512 512) (pv (iv 0) (wE (nS (sR (pv (iv 0) (sO Try.func49 #[iv 0] (num_ro) (dN 0 0 (fun hd13=>False.elim (hd13 rfl)) fun _=>pv fv (pW (iv 0) ?_))))))))))))⟩
 refine wl_when kr_ (gv_call (args:=#[iv 0]) rfl Try.func49 kr_ rfl rfl kr_ (Calls.mono (num_ro) ?_))
 rintro _ _ ⟨rfl,rfl⟩
 refine ⟨_,rfl,(wl_when kr_ (gv_ne (x:=0) (y:=0) kr_ (fun hd14=>False.elim (hd14 rfl)) (fun _=>pv fv (wE (nCF (wp_skip (nSR (pv (.slice m8 512 512) (pv (.slice m12 512 512) (sP2 Try.func102 #[.slice m8 512 512,.slice m12 512 512] (ask_all (a:=s.now 1) (b:=s.now 3) S11 l1.symm l3.symm (RoT.bytes 2 rfl rfl) (RoT.bytes 0 rfl rfl) om_ om_) fun Aq cq w15 S16=>pv (.slice m8 512 512) (pv (.slice m12 512 512) (g_ (gv_stA (k:=0) (vs:=[iv ((newestF (s.now 1) (s.now 3)).1:Int),iv ((newestF (s.now 1) (s.now 3)).2.1:Int),.slice Aq ((newestF (s.now 1) (s.now 3)).2.2.1.length) cq,iv ((newestF (s.now 1) (s.now 3)).2.2.2:Int)]) S16 4 rfl rfl kr_ kr_ kr_ rfl (by simp [Value.oneCell']) (Nat.le_of_ble_eq_true kr_) (L':=(bytesX (.slice Aq (newestF (s.now 1) (s.now 3)).2.2.1.length cq) (newestF (s.now 1) (s.now 3)).2.2.1::bytesA (.slice m12 512 512) (s.now 3)::PW gd s::bytesA (.slice m8 512 512) (s.now 1)::row g1 #[iv ((newestF (s.now 1) (s.now 3)).1:Int),iv ((newestF (s.now 1) (s.now 3)).2.1:Int),.slice Aq ((newestF (s.now 1) (s.now 3)).2.2.1.length) cq,iv ((newestF (s.now 1) (s.now 3)).2.2.2:Int)] 81::row gk #[pq gd,iv (su.1:Int),iv (su.2.1:Int),.slice AS su.2.2.1.length cS,iv (su.2.2.2:Int),iv (ma.1:Int),iv (ma.2.1:Int),.slice AM ma.2.2.1.length cM,iv (ma.2.2.2:Int),.bool op] 84::L)) rfl (fun w17 S18=> ?_))))))))))))))⟩
 refine pv (.slice m8 512 512) (pv (.slice m12 512 512) (wE (then_n (wp_ret (bodyPost_ret (v:=.tuple #[.agg #[iv ((newestF (s.now 1) (s.now 3)).1:Int),iv ((newestF (s.now 1) (s.now 3)).2.1:Int),.slice Aq ((newestF (s.now 1) (s.now 3)).2.2.1.length) cq,iv ((newestF (s.now 1) (s.now 3)).2.2.2:Int)],.slice m8 512 512,.slice m12 512 512]) (results_ctt rfl _ (S18.get 4 rfl) kr_ kr_ kr_ kr_) rfl ?_)))))
 have S19:=St.pm 6 [0,3,1,5,2] S18
 exact ⟨Aq,cq,m8,m12,rfl,S19⟩
theorem w_bflush {F:Nat→Prop}{w0 w:World}{L:List Ast}{gk gd:Nat}{s:Dsk}{su ma:Told}{AS AM:Option Addr}{cS cM:Nat}{op:Bool}(S:St F w0 w (row gk #[.pointer (some ⟨gd,0,none⟩),.int .i64 (su.1:Int),.int .i64 (su.2.1:Int),.slice AS su.2.2.1.length cS,.int .i64 (su.2.2.2:Int),.int .i64 (ma.1:Int),.int .i64 (ma.2.1:Int),.slice AM ma.2.2.1.length cM,.int .i64 (ma.2.2.2:Int),.bool op] 84::PW gd s::L))(hf0:s.flushR.2=0):Calls Try.prog 101 #[.pointer (some ⟨gk,0,none⟩)] w fun e w'=>e=.returned (.bool true)∧St F w0 w' (row gk #[.pointer (some ⟨gd,0,none⟩),.int .i64 (ma.1:Int),.int .i64 (ma.2.1:Int),.slice AM ma.2.2.1.length cM,.int .i64 (ma.2.2.2:Int),.int .i64 (ma.1:Int),.int .i64 (ma.2.1:Int),.slice AM ma.2.2.1.length cM,.int .i64 (ma.2.2.2:Int),.bool false] 84::PW gd s.flushR.1::L):=by
 refine eN (fr [pq gk] 21) Try.func101 rfl (sR (pv fv (wER (pv (pq gk) (pv (pq gk) (pv (pq gk) (lR (pq gd) S 0 0 (g_ (gv_call (args:=#[pq gd]) rfl Try.func87 kr_ rfl rfl kr_ ?_)))))))))
 have S1:=St.pm 2 [1,0] S
 have hpf:=pw_flush S1
 rw [hf0] at hpf
 refine Calls.mono hpf ?_
 rintro _ w2 ⟨rfl,S3⟩
 refine ⟨_,rfl,(pv (iv 0) (wER (pv (pq gk) (pv (pq gk) (pv (pq gk) (pv (po gk 5) (g_ (gv_ldA (k:=5) (n:=4) (vs:=[iv (ma.1:Int),iv (ma.2.1:Int),.slice AM ma.2.2.1.length cM,iv (ma.2.2.2:Int)]) S3 1 rfl rfl kr_ kr_ rfl rfl (pv (pq gk) (pv (po gk 1) (g_ (gv_stA (k:=1) (vs:=[iv (ma.1:Int),iv (ma.2.1:Int),.slice AM ma.2.2.1.length cM,iv (ma.2.2.2:Int)]) S3 1 rfl rfl kr_ kr_ kr_ rfl (by simp [Value.oneCell']) (Nat.le_of_ble_eq_true kr_) (L':=(PW gd s.flushR.1::row gk #[pq gd,iv (ma.1:Int),iv (ma.2.1:Int),.slice AM ma.2.2.1.length cM,iv (ma.2.2.2:Int),iv (ma.1:Int),iv (ma.2.1:Int),.slice AM ma.2.2.1.length cM,iv (ma.2.2.2:Int),.bool op] 84::L)) rfl (fun w4 S5=>wER (pv (pq gk) (pv (pq gk) ?_)))))))))))))))⟩
 refine pv (po gk 9) (sS S5 1 rfl 9 (.bool false) fun w6 S7=>wER (pv (iv 0) (sO Try.func49 #[iv 0] (num_ro) (dE 0 0 (fun _=>pv tv (wE (then_n (wp_ret (bA (.bool true) ?_))))) fun hd8=>False.elim (hd8 rfl)))))
 have S9:=St.pm 2 [1,0] S7
 exact ⟨rfl,S9⟩
theorem ps_renewN {F:Nat→Prop}{w0 w:World}{L:List Ast}(S:St F w0 w L){A B D:Option Addr}{a b d:List UInt8}{m n ca cb cd:Nat}{no:Int}(hm:m=a.length)(hn:n=b.length)(ha:RoT F w0 L A a)(hb:RoT F w0 L B b)(hd:RoT F w0 L D d)(hma:a.length≤9223372036854775807)(hmb:b.length≤9223372036854775807)(hmd:d.length≤140737488355328)(hno:no≤9223372036854775807):Calls Try.prog 133 #[.slice A m ca,.slice B n cb,.int .i64 no,.slice D d.length cd] w fun e w'=>∃A c,e=.returned (.tuple #[.int .i64 ((renewF a b no d).1:Int),.slice A (renewF a b no d).2.1.length c,.int .i64 ((renewF a b no d).2.2:Int)])∧St F w0 w' (bytesX (.slice A (renewF a b no d).2.1.length c) (renewF a b no d).2.1::L):=by
 subst hm hn;exact ps_renew S ha hb hd hma hmb hmd hno
theorem w_brenewF {F:Nat→Prop}{w0 w:World}{L:List Ast}{gk k:Nat}{AD:Option Addr}{d:List UInt8}{cD nD:Nat}{no:Int}{gd:Nat}{s:Dsk}{su ma:Told}{AS AM:Option Addr}{cS cM:Nat}{RX:List RecV}(S:St F w0 w (row gk #[.pointer (some ⟨gd,0,none⟩),.int .i64 (su.1:Int),.int .i64 (su.2.1:Int),.slice AS su.2.2.1.length cS,.int .i64 (su.2.2.2:Int),.int .i64 (ma.1:Int),.int .i64 (ma.2.1:Int),.slice AM ma.2.2.1.length cM,.int .i64 (ma.2.2.2:Int),.bool false] 84::PW gd s::stars (RX.map datD)::L))(hb:BP.Ok k ⟨gd,s,su,ma,false,AS,AM,cS,cM,RX⟩)(hk:k<4398046511104)(hnD:nD=d.length)(hd:((.slice AD nD cD:Value),d)∈RX)(hd5:d.length≤496)(hno:no≤9223372036854775807):Calls Try.prog 99 #[.pointer (some ⟨gk,0,none⟩),.int .i64 no,.slice AD nD cD] w fun e w'=>e=.returned (.bool true)∧St F w0 w' (PBen gk (k+1)::L):=by
 subst hnD
 have hI:BInv k s su ma false:=hb.inv
 have hI1:BInv k s su ma false:=hI
 have hz:=hI1.left
 have h5:=hI1.five
 have hsu:su=(newestF (s.now 1) (s.now 3)):=hI1.quiet.2.2.1.trans hI1.tells.symm
 have hok1:=hI1.ok
 have l1:(s.now 1).length=512:=hok1.now om_
 have l3:(s.now 3).length=512:=hok1.now om_
 have hpn:=hI1.pn
 have hrt:=renew_told (a:=s.now 1) (b:=s.now 3) (no:=no) (d:=d) ⟨l1,l3⟩ hd5 hno
 refine eN (fr [pq gk,iv no,.slice AD d.length cD] 80) Try.func99 rfl (sR (pv fv (wE (nS (sR (pv (pq gk) (pv (pq gk) (pv (po gk 9) (lR (.bool false) S 0 9 (pv fv (wN (wN (wN ?_)))))))))))))
 refine pv fv (wE (nCF (wp_skip (nSR (pv (pq gk) (g_ (gv_call (args:=#[pq gk]) rfl Try.func52 kr_ rfl rfl kr_ (Calls.mono (w_look S hz h5) ?_))))))))
 rintro _ w1 ⟨Aq3,cq4,A15,A36,rfl,S2⟩
 refine ⟨_,rfl,(pv (.tuple #[.agg #[iv ((newestF (s.now 1) (s.now 3)).1:Int),iv ((newestF (s.now 1) (s.now 3)).2.1:Int),.slice Aq3 ((newestF (s.now 1) (s.now 3)).2.2.1.length) cq4,iv ((newestF (s.now 1) (s.now 3)).2.2.2:Int)],.slice A15 512 512,.slice A36 512 512]) (pv (.agg #[iv ((newestF (s.now 1) (s.now 3)).1:Int),iv ((newestF (s.now 1) (s.now 3)).2.1:Int),.slice Aq3 ((newestF (s.now 1) (s.now 3)).2.2.1.length) cq4,iv ((newestF (s.now 1) (s.now 3)).2.2.2:Int)]) (pv (.slice A15 512 512) (pv (.slice A36 512 512) (nW rfl (.agg #[iv 0,iv 0,nS_,iv 0]) S2 fun g7 w8 hg9 S10=>g_ (gv_stA (k:=0) (vs:=[iv ((newestF (s.now 1) (s.now 3)).1:Int),iv ((newestF (s.now 1) (s.now 3)).2.1:Int),.slice Aq3 ((newestF (s.now 1) (s.now 3)).2.2.1.length) cq4,iv ((newestF (s.now 1) (s.now 3)).2.2.2:Int)]) S10 0 rfl rfl kr_ kr_ kr_ rfl (by simp [Value.oneCell']) (Nat.le_of_ble_eq_true kr_) (L':=(row g7 #[iv ((newestF (s.now 1) (s.now 3)).1:Int),iv ((newestF (s.now 1) (s.now 3)).2.1:Int),.slice Aq3 ((newestF (s.now 1) (s.now 3)).2.2.1.length) cq4,iv ((newestF (s.now 1) (s.now 3)).2.2.2:Int)] 81::bytesX (.slice Aq3 (newestF (s.now 1) (s.now 3)).2.2.1.length cq4) (newestF (s.now 1) (s.now 3)).2.2.1::bytesA (.slice A15 512 512) (s.now 1)::bytesA (.slice A36 512 512) (s.now 3)::row gk #[pq gd,iv (su.1:Int),iv (su.2.1:Int),.slice AS su.2.2.1.length cS,iv (su.2.2.2:Int),iv (ma.1:Int),iv (ma.2.1:Int),.slice AM ma.2.2.1.length cM,iv (ma.2.2.2:Int),.bool false] 84::PW gd s::stars (RX.map datD)::L)) rfl (fun w11 S12=> ?_)))))))⟩
 refine pv (.slice A15 512 512) (pv (.slice A36 512 512) (wER (pv (.slice A15 512 512) (pv (.slice A36 512 512) (pv (iv no) (pv (.slice AD d.length cD) (sP2 Try.func43 #[.slice AD d.length cD] (tw3 (l:=d) S12 (rot_dat 6 rfl hd) om_) fun At ct w13 S14=>sP2 Try.func133 #[.slice A15 512 512,.slice A36 512 512,iv no,.slice At d.length ct] (ps_renewN (a:=s.now 1) (b:=s.now 3) (d:=d) S14 l1.symm l3.symm (RoT.bytes 3 rfl rfl) (RoT.bytes 4 rfl rfl) (RoT.ofVec 0 rfl) om_ om_ om_ hno) fun Ar cr w15 S16=>pv (.tuple #[iv ((renewF (s.now 1) (s.now 3) no d).1:Int),.slice Ar ((renewF (s.now 1) (s.now 3) no d).2.1.length) cr,iv ((renewF (s.now 1) (s.now 3) no d).2.2:Int)]) (pv (iv ((renewF (s.now 1) (s.now 3) no d).1:Int)) (pv (.slice Ar ((renewF (s.now 1) (s.now 3) no d).2.1.length) cr) (pv (iv ((renewF (s.now 1) (s.now 3) no d).2.2:Int)) (pv (iv ((renewF (s.now 1) (s.now 3) no d).1:Int)) ?_)))))))))))
 refine pv (.slice Ar ((renewF (s.now 1) (s.now 3) no d).2.1.length) cr) (pv (iv ((renewF (s.now 1) (s.now 3) no d).2.2:Int)) (wE (nS (sR ?_))))
 rcases hrt with ⟨hbad,hmay⟩|⟨hgood,hmay,hR⟩
 ·have hb2:¬no<1→(su.2.2.2:Int)=0∧no≤(su.2.1:Int):=fun h=>by rw [hsu];omega
  refine pv (iv ((renewF (s.now 1) (s.now 3) no d).2.2:Int)) (sO Try.func49 #[iv ((renewF (s.now 1) (s.now 3) no d).2.2:Int)] (num_ro) (dN ((renewF (s.now 1) (s.now 3) no d).2.2:Int) 0 (fun _=>wE (nCT (sR (pv (iv no) (dC ((no:Int)<1) (fun hb18=> ?_) fun hb18=> ?_))))) fun hd17=>False.elim om_))
  ·refine pv tv (wN (wN (wN (wN (wN (wN (wN (wN (wN (wN (wN (wN (wN ?_)))))))))))))
   refine wN (wN (pv tv (pv tv (wE ?_))))
   refine then_n (rR (bA (.bool true) ?_))
   have S19:=St.pm 9 [6,7,8] S16
   exact ⟨rfl,St.bec (p:=⟨gd,s,su,ma,false,AS,AM,cS,cM,RX⟩) ⟨hI1.next,hb.ms,hb.mm,hb.ls,hb.lm⟩ S19⟩
  ·refine pv fv (pW (pq gk) (pW (pq gk) (pW (po gk 1) (pW (po gk 4) (wl_when kr_ (gv_ldR (v:=iv (su.2.2.2:Int)) rfl kr_ kr_ (((S16.blk 6 rfl).cell 4).trans rfl) (wl_when kr_ (gv_eq (x:=(su.2.2.2:Int)) (y:=0) kr_ (fun _=>pW (.bool true) (pW (iv no) (pW (pq gk) (pW (pq gk) (pW (po gk 1) (pW (po gk 2) (wl_when kr_ (gv_ldR (v:=iv (su.2.1:Int)) rfl kr_ kr_ (((S16.blk 6 rfl).cell 2).trans rfl) ?_)))))))) (fun hd20=>False.elim (hd20 (hb2 (by assumption)).1))))))))))
   refine wl_when kr_ (gv_dec (p:=(no:Int)≤(su.2.1:Int)) kr_ (fun _=>pW (.bool true) (pv tv (pv tv (wE ?_)))) (fun hd21=>False.elim (hd21 (hb2 (by assumption)).2)))
   refine then_n (rR (bA (.bool true) ?_))
   have S22:=St.pm 9 [6,7,8] S16
   exact ⟨rfl,St.bec (p:=⟨gd,s,su,ma,false,AS,AM,cS,cM,RX⟩) ⟨hI1.next,hb.ms,hb.mm,hb.ls,hb.lm⟩ S22⟩
 ·have hslot:=hR.slot
  have hrl:=hR.len
  refine pv (iv ((renewF (s.now 1) (s.now 3) no d).2.2:Int)) (sO Try.func49 #[iv ((renewF (s.now 1) (s.now 3) no d).2.2:Int)] (num_ro) (dN ((renewF (s.now 1) (s.now 3) no d).2.2:Int) 0 (fun hd23=>False.elim om_) fun _=>wE (nCF (wp_skip (nSR (pv (pq gk) (pv (pq gk) (pv (pq gk) (lR (pq gd) S16 6 0 (pv (iv ((renewF (s.now 1) (s.now 3) no d).1:Int)) (gI .i64 (IntKind.i64.wrap (2*((renewF (s.now 1) (s.now 3) no d).1:Int))) ((2*(renewF (s.now 1) (s.now 3) no d).1:Nat):Int) wq_ (gI .i64 (IntKind.i64.wrap (1+((2*(renewF (s.now 1) (s.now 3) no d).1:Nat):Int))) ((1+2*(renewF (s.now 1) (s.now 3) no d).1:Nat):Int) wq_ ?_))))))))))))
  refine pv (.slice Ar ((renewF (s.now 1) (s.now 3) no d).2.1.length) cr) (g_ (gv_call (args:=#[pq gd,nI_ (1+2*(renewF (s.now 1) (s.now 3) no d).1),.slice Ar ((renewF (s.now 1) (s.now 3) no d).2.1.length) cr]) rfl Try.func33 kr_ rfl rfl kr_ ?_))
  have S24:=St.pm 9 [7,0,1,2,3,4,5,6,8] S16
  have hwr:=pw_write_go (n:=(renewF (s.now 1) (s.now 3) no d).2.1.length) (cd:=cr) (k:=1+2*(renewF (s.now 1) (s.now 3) no d).1) S24 (RoT.bytesX 0 rfl rfl) rfl hrl om_ om_ om_
  refine Calls.mono hwr ?_
  rintro _ w25 ⟨rfl,S26⟩
  refine ⟨_,rfl,(pv (iv 0) (wE ?_))⟩
  refine nSR (pv (pq gk) (pv (iv ((renewF (s.now 1) (s.now 3) no d).1:Int)) (pv (iv no) (pv (.slice AD d.length cD) (pv (.agg #[iv ((renewF (s.now 1) (s.now 3) no d).1:Int),iv no,.slice AD d.length cD,iv 0]) (pv (pq gk) (pv (po gk 5) (g_ (gv_stA (k:=5) (vs:=[iv ((renewF (s.now 1) (s.now 3) no d).1:Int),iv no,.slice AD d.length cD,iv 0]) S26 7 rfl rfl kr_ kr_ kr_ rfl (by simp [Value.oneCell']) (Nat.le_of_ble_eq_true kr_) (L':=(PW gd (s.wrote (1+2*(renewF (s.now 1) (s.now 3) no d).1) (renewF (s.now 1) (s.now 3) no d).2.1)::bytesX (.slice Ar (renewF (s.now 1) (s.now 3) no d).2.1.length cr) (renewF (s.now 1) (s.now 3) no d).2.1::vec 5 1 (.slice At d.length ct) d.length (d.map bv)::row g7 #[iv ((newestF (s.now 1) (s.now 3)).1:Int),iv ((newestF (s.now 1) (s.now 3)).2.1:Int),.slice Aq3 ((newestF (s.now 1) (s.now 3)).2.2.1.length) cq4,iv ((newestF (s.now 1) (s.now 3)).2.2.2:Int)] 81::bytesX (.slice Aq3 (newestF (s.now 1) (s.now 3)).2.2.1.length cq4) (newestF (s.now 1) (s.now 3)).2.2.1::bytesA (.slice A15 512 512) (s.now 1)::bytesA (.slice A36 512 512) (s.now 3)::row gk #[pq gd,iv (su.1:Int),iv (su.2.1:Int),.slice AS su.2.2.1.length cS,iv (su.2.2.2:Int),iv ((renewF (s.now 1) (s.now 3) no d).1:Int),iv no,.slice AD d.length cD,iv 0,.bool false] 84::stars (RX.map datD)::L)) rfl (fun w27 S28=>wER (pv (pq gk) (pv (pq gk) ?_))))))))))))
  refine pv (po gk 9) (sS S28 7 rfl 9 (.bool true) fun w29 S30=>wER (pv (iv 0) (sO Try.func49 #[iv 0] (num_ro) (dE 0 0 (fun _=>pv tv (wE (then_n (wp_ret (bA (.bool true) ?_))))) fun hd31=>False.elim (hd31 rfl)))))
  have S32:=St.pm 9 [7,0,8] S30
  have hnn:Int.ofNat no.toNat=no:=by show ((no.toNat:Nat):Int)=no;omega
  have hok2:=St.pw_ok (L:=[]) (S32.mem 1 rfl)
  have S9:St F w0 w29 (row gk #[pq gd,iv (su.1:Int),iv (su.2.1:Int),.slice AS su.2.2.1.length cS,iv (su.2.2.2:Int),iv ((((renewF (s.now 1) (s.now 3) no d).1,no.toNat,d,0):Told).1:Int),iv ((((renewF (s.now 1) (s.now 3) no d).1,no.toNat,d,0):Told).2.1:Int),.slice AD ((((renewF (s.now 1) (s.now 3) no d).1,no.toNat,d,0):Told).2.2.1.length) cD,iv ((((renewF (s.now 1) (s.now 3) no d).1,no.toNat,d,0):Told).2.2.2:Int),.bool true] 84::PW gd (s.wrote (1+2*(renewF (s.now 1) (s.now 3) no d).1) (renewF (s.now 1) (s.now 3) no d).2.1)::stars (RX.map datD)::L):=by
     show St F w0 w29 (row gk #[pq gd,iv (su.1:Int),iv (su.2.1:Int),.slice AS su.2.2.1.length cS,iv (su.2.2.2:Int),iv ((renewF (s.now 1) (s.now 3) no d).1:Int),iv (Int.ofNat no.toNat),.slice AD d.length cD,nI_ 0,.bool true] 84::_)
     rw [hnn];exact S32
  exact ⟨rfl,St.bec (p:=⟨gd,s.wrote (1+2*(renewF (s.now 1) (s.now 3) no d).1) (renewF (s.now 1) (s.now 3) no d).2.1,su,((renewF (s.now 1) (s.now 3) no d).1,no.toNat,d,0),true,AS,AD,cS,cD,RX⟩) ⟨hI1.renew hd5 hgood hR hok2,hb.ms,hd,hb.ls,by show d.length≤504;omega⟩ S9⟩
theorem w_brenewT {F:Nat→Prop}{w0 w:World}{L:List Ast}{gk k:Nat}{AD:Option Addr}{d:List UInt8}{cD nD:Nat}{no:Int}{gd:Nat}{s:Dsk}{su ma:Told}{AS AM:Option Addr}{cS cM:Nat}{RX:List RecV}(S:St F w0 w (row gk #[.pointer (some ⟨gd,0,none⟩),.int .i64 (su.1:Int),.int .i64 (su.2.1:Int),.slice AS su.2.2.1.length cS,.int .i64 (su.2.2.2:Int),.int .i64 (ma.1:Int),.int .i64 (ma.2.1:Int),.slice AM ma.2.2.1.length cM,.int .i64 (ma.2.2.2:Int),.bool true] 84::PW gd s::stars (RX.map datD)::L))(hb:BP.Ok k ⟨gd,s,su,ma,true,AS,AM,cS,cM,RX⟩)(hk:k<4398046511104)(hnD:nD=d.length)(hd:((.slice AD nD cD:Value),d)∈RX)(hd5:d.length≤496)(hno:no≤9223372036854775807):Calls Try.prog 99 #[.pointer (some ⟨gk,0,none⟩),.int .i64 no,.slice AD nD cD] w fun e w'=>e=.returned (.bool true)∧St F w0 w' (PBen gk (k+1)::L):=by
 subst hnD
 have hI:BInv k s su ma true:=hb.inv
 have hI1:BInv k s.flushR.1 ma ma false:=hI.flush.2
 have hz:=hI1.left
 have h5:=hI1.five
 have hsu:ma=(newestF (s.flushR.1.now 1) (s.flushR.1.now 3)):=hI1.quiet.2.2.1.trans hI1.tells.symm
 have hok1:=hI1.ok
 have l1:(s.flushR.1.now 1).length=512:=hok1.now om_
 have l3:(s.flushR.1.now 3).length=512:=hok1.now om_
 have hpn:=hI1.pn
 have hrt:=renew_told (a:=s.flushR.1.now 1) (b:=s.flushR.1.now 3) (no:=no) (d:=d) ⟨l1,l3⟩ hd5 hno
 refine eN (fr [pq gk,iv no,.slice AD d.length cD] 80) Try.func99 rfl (sR (pv fv (wE (nS (sR (pv (pq gk) (pv (pq gk) (pv (po gk 9) (lR (.bool true) S 0 9 (pv tv (pW (pq gk) (wl_when kr_ (gv_call (args:=#[pq gk]) rfl Try.func101 kr_ rfl rfl kr_ (Calls.mono (w_bflush S hI.flush.1) ?_))))))))))))))
 rintro _ w1 ⟨rfl,S2⟩
 refine ⟨_,rfl,(pW (.bool false) (pv fv (wE (nCF (wp_skip (nSR (pv (pq gk) (g_ (gv_call (args:=#[pq gk]) rfl Try.func52 kr_ rfl rfl kr_ (Calls.mono (w_look S2 hz h5) ?_))))))))))⟩
 rintro _ w3 ⟨Aq5,cq6,A17,A38,rfl,S4⟩
 refine ⟨_,rfl,(pv (.tuple #[.agg #[iv ((newestF (s.flushR.1.now 1) (s.flushR.1.now 3)).1:Int),iv ((newestF (s.flushR.1.now 1) (s.flushR.1.now 3)).2.1:Int),.slice Aq5 ((newestF (s.flushR.1.now 1) (s.flushR.1.now 3)).2.2.1.length) cq6,iv ((newestF (s.flushR.1.now 1) (s.flushR.1.now 3)).2.2.2:Int)],.slice A17 512 512,.slice A38 512 512]) (pv (.agg #[iv ((newestF (s.flushR.1.now 1) (s.flushR.1.now 3)).1:Int),iv ((newestF (s.flushR.1.now 1) (s.flushR.1.now 3)).2.1:Int),.slice Aq5 ((newestF (s.flushR.1.now 1) (s.flushR.1.now 3)).2.2.1.length) cq6,iv ((newestF (s.flushR.1.now 1) (s.flushR.1.now 3)).2.2.2:Int)]) (pv (.slice A17 512 512) (pv (.slice A38 512 512) (nW rfl (.agg #[iv 0,iv 0,nS_,iv 0]) S4 fun g9 w10 hg11 S12=>g_ (gv_stA (k:=0) (vs:=[iv ((newestF (s.flushR.1.now 1) (s.flushR.1.now 3)).1:Int),iv ((newestF (s.flushR.1.now 1) (s.flushR.1.now 3)).2.1:Int),.slice Aq5 ((newestF (s.flushR.1.now 1) (s.flushR.1.now 3)).2.2.1.length) cq6,iv ((newestF (s.flushR.1.now 1) (s.flushR.1.now 3)).2.2.2:Int)]) S12 0 rfl rfl kr_ kr_ kr_ rfl (by simp [Value.oneCell']) (Nat.le_of_ble_eq_true kr_) (L':=(row g9 #[iv ((newestF (s.flushR.1.now 1) (s.flushR.1.now 3)).1:Int),iv ((newestF (s.flushR.1.now 1) (s.flushR.1.now 3)).2.1:Int),.slice Aq5 ((newestF (s.flushR.1.now 1) (s.flushR.1.now 3)).2.2.1.length) cq6,iv ((newestF (s.flushR.1.now 1) (s.flushR.1.now 3)).2.2.2:Int)] 81::bytesX (.slice Aq5 (newestF (s.flushR.1.now 1) (s.flushR.1.now 3)).2.2.1.length cq6) (newestF (s.flushR.1.now 1) (s.flushR.1.now 3)).2.2.1::bytesA (.slice A17 512 512) (s.flushR.1.now 1)::bytesA (.slice A38 512 512) (s.flushR.1.now 3)::row gk #[pq gd,iv (ma.1:Int),iv (ma.2.1:Int),.slice AM ma.2.2.1.length cM,iv (ma.2.2.2:Int),iv (ma.1:Int),iv (ma.2.1:Int),.slice AM ma.2.2.1.length cM,iv (ma.2.2.2:Int),.bool false] 84::PW gd s.flushR.1::stars (RX.map datD)::L)) rfl (fun w13 S14=> ?_)))))))⟩
 refine pv (.slice A17 512 512) (pv (.slice A38 512 512) (wER (pv (.slice A17 512 512) (pv (.slice A38 512 512) (pv (iv no) (pv (.slice AD d.length cD) (sP2 Try.func43 #[.slice AD d.length cD] (tw3 (l:=d) S14 (rot_dat 6 rfl hd) om_) fun At ct w15 S16=>sP2 Try.func133 #[.slice A17 512 512,.slice A38 512 512,iv no,.slice At d.length ct] (ps_renewN (a:=s.flushR.1.now 1) (b:=s.flushR.1.now 3) (d:=d) S16 l1.symm l3.symm (RoT.bytes 3 rfl rfl) (RoT.bytes 4 rfl rfl) (RoT.ofVec 0 rfl) om_ om_ om_ hno) fun Ar cr w17 S18=>pv (.tuple #[iv ((renewF (s.flushR.1.now 1) (s.flushR.1.now 3) no d).1:Int),.slice Ar ((renewF (s.flushR.1.now 1) (s.flushR.1.now 3) no d).2.1.length) cr,iv ((renewF (s.flushR.1.now 1) (s.flushR.1.now 3) no d).2.2:Int)]) (pv (iv ((renewF (s.flushR.1.now 1) (s.flushR.1.now 3) no d).1:Int)) (pv (.slice Ar ((renewF (s.flushR.1.now 1) (s.flushR.1.now 3) no d).2.1.length) cr) (pv (iv ((renewF (s.flushR.1.now 1) (s.flushR.1.now 3) no d).2.2:Int)) (pv (iv ((renewF (s.flushR.1.now 1) (s.flushR.1.now 3) no d).1:Int)) ?_)))))))))))
 refine pv (.slice Ar ((renewF (s.flushR.1.now 1) (s.flushR.1.now 3) no d).2.1.length) cr) (pv (iv ((renewF (s.flushR.1.now 1) (s.flushR.1.now 3) no d).2.2:Int)) (wE (nS (sR ?_))))
 rcases hrt with ⟨hbad,hmay⟩|⟨hgood,hmay,hR⟩
 ·have hb2:¬no<1→(ma.2.2.2:Int)=0∧no≤(ma.2.1:Int):=fun h=>by rw [hsu];omega
  refine pv (iv ((renewF (s.flushR.1.now 1) (s.flushR.1.now 3) no d).2.2:Int)) (sO Try.func49 #[iv ((renewF (s.flushR.1.now 1) (s.flushR.1.now 3) no d).2.2:Int)] (num_ro) (dN ((renewF (s.flushR.1.now 1) (s.flushR.1.now 3) no d).2.2:Int) 0 (fun _=>wE (nCT (sR (pv (iv no) (dC ((no:Int)<1) (fun hb20=> ?_) fun hb20=> ?_))))) fun hd19=>False.elim om_))
  ·refine pv tv (wN (wN (wN (wN (wN (wN (wN (wN (wN (wN (wN (wN (wN ?_)))))))))))))
   refine wN (wN (pv tv (pv tv (wE ?_))))
   refine then_n (rR (bA (.bool true) ?_))
   have S21:=St.pm 9 [6,7,8] S18
   exact ⟨rfl,St.bec (p:=⟨gd,s.flushR.1,ma,ma,false,AM,AM,cM,cM,RX⟩) ⟨hI1.next,hb.mm,hb.mm,hb.lm,hb.lm⟩ S21⟩
  ·refine pv fv (pW (pq gk) (pW (pq gk) (pW (po gk 1) (pW (po gk 4) (wl_when kr_ (gv_ldR (v:=iv (ma.2.2.2:Int)) rfl kr_ kr_ (((S18.blk 6 rfl).cell 4).trans rfl) (wl_when kr_ (gv_eq (x:=(ma.2.2.2:Int)) (y:=0) kr_ (fun _=>pW (.bool true) (pW (iv no) (pW (pq gk) (pW (pq gk) (pW (po gk 1) (pW (po gk 2) (wl_when kr_ (gv_ldR (v:=iv (ma.2.1:Int)) rfl kr_ kr_ (((S18.blk 6 rfl).cell 2).trans rfl) ?_)))))))) (fun hd22=>False.elim (hd22 (hb2 (by assumption)).1))))))))))
   refine wl_when kr_ (gv_dec (p:=(no:Int)≤(ma.2.1:Int)) kr_ (fun _=>pW (.bool true) (pv tv (pv tv (wE ?_)))) (fun hd23=>False.elim (hd23 (hb2 (by assumption)).2)))
   refine then_n (rR (bA (.bool true) ?_))
   have S24:=St.pm 9 [6,7,8] S18
   exact ⟨rfl,St.bec (p:=⟨gd,s.flushR.1,ma,ma,false,AM,AM,cM,cM,RX⟩) ⟨hI1.next,hb.mm,hb.mm,hb.lm,hb.lm⟩ S24⟩
 ·have hslot:=hR.slot
  have hrl:=hR.len
  refine pv (iv ((renewF (s.flushR.1.now 1) (s.flushR.1.now 3) no d).2.2:Int)) (sO Try.func49 #[iv ((renewF (s.flushR.1.now 1) (s.flushR.1.now 3) no d).2.2:Int)] (num_ro) (dN ((renewF (s.flushR.1.now 1) (s.flushR.1.now 3) no d).2.2:Int) 0 (fun hd25=>False.elim om_) fun _=>wE (nCF (wp_skip (nSR (pv (pq gk) (pv (pq gk) (pv (pq gk) (lR (pq gd) S18 6 0 (pv (iv ((renewF (s.flushR.1.now 1) (s.flushR.1.now 3) no d).1:Int)) (gI .i64 (IntKind.i64.wrap (2*((renewF (s.flushR.1.now 1) (s.flushR.1.now 3) no d).1:Int))) ((2*(renewF (s.flushR.1.now 1) (s.flushR.1.now 3) no d).1:Nat):Int) wq_ (gI .i64 (IntKind.i64.wrap (1+((2*(renewF (s.flushR.1.now 1) (s.flushR.1.now 3) no d).1:Nat):Int))) ((1+2*(renewF (s.flushR.1.now 1) (s.flushR.1.now 3) no d).1:Nat):Int) wq_ ?_))))))))))))
  refine pv (.slice Ar ((renewF (s.flushR.1.now 1) (s.flushR.1.now 3) no d).2.1.length) cr) (g_ (gv_call (args:=#[pq gd,nI_ (1+2*(renewF (s.flushR.1.now 1) (s.flushR.1.now 3) no d).1),.slice Ar ((renewF (s.flushR.1.now 1) (s.flushR.1.now 3) no d).2.1.length) cr]) rfl Try.func33 kr_ rfl rfl kr_ ?_))
  have S26:=St.pm 9 [7,0,1,2,3,4,5,6,8] S18
  have hwr:=pw_write_go (n:=(renewF (s.flushR.1.now 1) (s.flushR.1.now 3) no d).2.1.length) (cd:=cr) (k:=1+2*(renewF (s.flushR.1.now 1) (s.flushR.1.now 3) no d).1) S26 (RoT.bytesX 0 rfl rfl) rfl hrl om_ om_ om_
  refine Calls.mono hwr ?_
  rintro _ w27 ⟨rfl,S28⟩
  refine ⟨_,rfl,(pv (iv 0) (wE ?_))⟩
  refine nSR (pv (pq gk) (pv (iv ((renewF (s.flushR.1.now 1) (s.flushR.1.now 3) no d).1:Int)) (pv (iv no) (pv (.slice AD d.length cD) (pv (.agg #[iv ((renewF (s.flushR.1.now 1) (s.flushR.1.now 3) no d).1:Int),iv no,.slice AD d.length cD,iv 0]) (pv (pq gk) (pv (po gk 5) (g_ (gv_stA (k:=5) (vs:=[iv ((renewF (s.flushR.1.now 1) (s.flushR.1.now 3) no d).1:Int),iv no,.slice AD d.length cD,iv 0]) S28 7 rfl rfl kr_ kr_ kr_ rfl (by simp [Value.oneCell']) (Nat.le_of_ble_eq_true kr_) (L':=(PW gd (s.flushR.1.wrote (1+2*(renewF (s.flushR.1.now 1) (s.flushR.1.now 3) no d).1) (renewF (s.flushR.1.now 1) (s.flushR.1.now 3) no d).2.1)::bytesX (.slice Ar (renewF (s.flushR.1.now 1) (s.flushR.1.now 3) no d).2.1.length cr) (renewF (s.flushR.1.now 1) (s.flushR.1.now 3) no d).2.1::vec 5 1 (.slice At d.length ct) d.length (d.map bv)::row g9 #[iv ((newestF (s.flushR.1.now 1) (s.flushR.1.now 3)).1:Int),iv ((newestF (s.flushR.1.now 1) (s.flushR.1.now 3)).2.1:Int),.slice Aq5 ((newestF (s.flushR.1.now 1) (s.flushR.1.now 3)).2.2.1.length) cq6,iv ((newestF (s.flushR.1.now 1) (s.flushR.1.now 3)).2.2.2:Int)] 81::bytesX (.slice Aq5 (newestF (s.flushR.1.now 1) (s.flushR.1.now 3)).2.2.1.length cq6) (newestF (s.flushR.1.now 1) (s.flushR.1.now 3)).2.2.1::bytesA (.slice A17 512 512) (s.flushR.1.now 1)::bytesA (.slice A38 512 512) (s.flushR.1.now 3)::row gk #[pq gd,iv (ma.1:Int),iv (ma.2.1:Int),.slice AM ma.2.2.1.length cM,iv (ma.2.2.2:Int),iv ((renewF (s.flushR.1.now 1) (s.flushR.1.now 3) no d).1:Int),iv no,.slice AD d.length cD,iv 0,.bool false] 84::stars (RX.map datD)::L)) rfl (fun w29 S30=> ?_))))))))))
  refine wER (pv (pq gk) (pv (pq gk) (pv (po gk 9) (sS S30 7 rfl 9 (.bool true) fun w31 S32=>wER (pv (iv 0) (sO Try.func49 #[iv 0] (num_ro) (dE 0 0 (fun _=>pv tv (wE (then_n (wp_ret (bA (.bool true) ?_))))) fun hd33=>False.elim (hd33 rfl))))))))
  have S34:=St.pm 9 [7,0,8] S32
  have hnn:Int.ofNat no.toNat=no:=by show ((no.toNat:Nat):Int)=no;omega
  have hok2:=St.pw_ok (L:=[]) (S34.mem 1 rfl)
  have S9:St F w0 w31 (row gk #[pq gd,iv (ma.1:Int),iv (ma.2.1:Int),.slice AM ma.2.2.1.length cM,iv (ma.2.2.2:Int),iv ((((renewF (s.flushR.1.now 1) (s.flushR.1.now 3) no d).1,no.toNat,d,0):Told).1:Int),iv ((((renewF (s.flushR.1.now 1) (s.flushR.1.now 3) no d).1,no.toNat,d,0):Told).2.1:Int),.slice AD ((((renewF (s.flushR.1.now 1) (s.flushR.1.now 3) no d).1,no.toNat,d,0):Told).2.2.1.length) cD,iv ((((renewF (s.flushR.1.now 1) (s.flushR.1.now 3) no d).1,no.toNat,d,0):Told).2.2.2:Int),.bool true] 84::PW gd (s.flushR.1.wrote (1+2*(renewF (s.flushR.1.now 1) (s.flushR.1.now 3) no d).1) (renewF (s.flushR.1.now 1) (s.flushR.1.now 3) no d).2.1)::stars (RX.map datD)::L):=by
     show St F w0 w31 (row gk #[pq gd,iv (ma.1:Int),iv (ma.2.1:Int),.slice AM ma.2.2.1.length cM,iv (ma.2.2.2:Int),iv ((renewF (s.flushR.1.now 1) (s.flushR.1.now 3) no d).1:Int),iv (Int.ofNat no.toNat),.slice AD d.length cD,nI_ 0,.bool true] 84::_)
     rw [hnn];exact S34
  exact ⟨rfl,St.bec (p:=⟨gd,s.flushR.1.wrote (1+2*(renewF (s.flushR.1.now 1) (s.flushR.1.now 3) no d).1) (renewF (s.flushR.1.now 1) (s.flushR.1.now 3) no d).2.1,ma,((renewF (s.flushR.1.now 1) (s.flushR.1.now 3) no d).1,no.toNat,d,0),true,AM,AD,cM,cD,RX⟩) ⟨hI1.renew hd5 hgood hR hok2,hb.mm,hd,hb.lm,by show d.length≤504;omega⟩ S9⟩
end
section
theorem told_eq {a b:Told}(h:a=b):(a.1:Int)=(b.1:Int)∧(a.2.1:Int)=(b.2.1:Int)∧(a.2.2.2:Int)=(b.2.2.2:Int)∧a.2.2.1=b.2.2.1:=by subst h;exact ⟨rfl,rfl,rfl,rfl⟩
theorem told_ne {a b:Told}(h:a≠b):¬((a.1:Int)=(b.1:Int)∧(a.2.1:Int)=(b.2.1:Int)∧(a.2.2.2:Int)=(b.2.2.2:Int)∧a.2.2.1=b.2.2.1):=fun ⟨h1,h2,h3,h4⟩=>h (by
 obtain ⟨a1,a2,a3,a4⟩:=a
 obtain ⟨b1,b2,b3,b4⟩:=b
 simp only [] at*
 rw [Int.ofNat.inj h1,Int.ofNat.inj h2,Int.ofNat.inj h3,h4])
section
variable {F:Nat→Prop}{w0 w:World}{L:List Ast}{gk k:Nat}
theorem w_brenew {AD:Option Addr}{d:List UInt8}{cD nD:Nat}{no:Int}(S:St F w0 w (PBen gk k::vec 5 1 (.slice AD nD cD) nD (d.map bv)::L))(hk:k<4398046511104)(hnD:nD=d.length)(hd5:d.length≤496)(hno:no≤9223372036854775807):Calls Try.prog 99 #[.pointer (some ⟨gk,0,none⟩),.int .i64 no,.slice AD nD cD] w fun e w'=>e=.returned (.bool true)∧St F w0 w' (PBen gk (k+1)::L):=by
 obtain ⟨⟨gd,s,su,ma,op,AS,AM,cS,cM,RX⟩,hb,S⟩:=St.beo S
 have S1:=vecX hnD (St.permT [_,_,_,_] [3,2,0,1] dc_ rfl (show St F w0 w ([_,_,_,_]++L) from S))
 have S2:=St.datX S1
 have S3:=St.permT [_,_,_] [1,2,0] dc_ rfl (show St F w0 w ([_,_,_]++L) from S2)
 have hb2:BP.Ok k ⟨gd,s,su,ma,op,AS,AM,cS,cM,RX++[((.slice AD nD cD:Value),d)]⟩:=⟨hb.inv,List.mem_append_left _ hb.ms,List.mem_append_left _ hb.mm,hb.ls,hb.lm⟩
 have hm:((.slice AD nD cD:Value),d)∈RX++[((.slice AD nD cD:Value),d)]:=List.mem_append_right _ (List.mem_singleton.2 rfl)
 cases op
 ·exact w_brenewF S3 hb2 hk hnD hm hd5 hno
 ·exact w_brenewT S3 hb2 hk hnD hm hd5 hno
theorem pw_write_ga {F:Nat→Prop}{w0 w:World}{L:List Ast}{gd:Nat}{s:Dsk}{at_:Int}{k:Nat}{A:Option Addr}{d:List UInt8}{cd n:Nat}(hat:at_=((k:Nat):Int))(S:St F w0 w (PW gd s::L))(hr:RoT F w0 L A d)(hn:n=d.length)(hd:d.length=512)(hz:s.left≠0)(hk:k<s.last.length)(hpn:s.pend.length<4398046511104):
  Calls Try.prog 33 #[pq gd,iv at_,.slice A n cd] w fun e w'=>e=.returned (iv 0)∧St F w0 w' (PW gd (s.wrote k d)::L):=by
 subst hat;exact pw_write_go S hr hn hd hz hk hpn
theorem up496 {F:Nat→Prop}{w0 w:World}{L:List Ast}{A:Option Addr}{l:List UInt8}{ca:Nat}(S:St F w0 w L)(hr:RoT F w0 L A l)(hlm:l.length≤140737488355328):Calls Try.prog 100 #[.slice A l.length ca,.int .i64 496] w fun e w'=>∃A c,e=.returned (.slice A (l.take 496).length c)∧St F w0 w' (vec 5 1 (.slice A (l.take 496).length c) (l.take 496).length ((l.take 496).map bv)::L):=by
 have h:=up3 (ca:=ca) (n:=496) S hr hlm
 rwa [show (496:Int).toNat=496 from rfl] at h
end
theorem w_beat {F:Nat→Prop}{w0 w:World}{L:List Ast}{gk k:Nat}(S:St F w0 w (PBen gk k::L))(hk:k<4398046511104){kind no:Int}{Ax A2:Option Addr}{d:List UInt8}{ps:List Pick}{cd cq:Nat}(hr:∀L,RoT F w0 L Ax d)(hrp:∀L,RoV F w0 L A2 (picksV ps))(hdm:d.length≤140737488355328)(hpm:ps.length≤9223372036854775807)(hno:no≤9223372036854775807):Calls Try.prog 51 #[.pointer (some ⟨gk,0,none⟩),.agg #[.int .i64 kind,.int .i64 no,.slice Ax d.length cd,.slice A2 ps.length cq]] w fun e w'=>e=.returned (.bool true)∧St F w0 w' (PBen gk (k+1)::L):=by
 refine eN (fr [pq gk,.agg #[iv kind,iv no,.slice Ax d.length cd,.slice A2 ps.length cq]] 89) Try.func51 rfl (sR (nB rfl (.agg #[iv kind,iv no,.slice Ax d.length cd,.slice A2 ps.length cq]) S fun g1 w2 hg3 S4=>pv fv (wE (nS (sR (pv (pq g1) (lR (iv kind) S4 0 0 (wE (then_n (wp_block (sR (dE kind 1 (fun hb5=> ?_) fun hb5=> ?_))))))))))))
 ·refine pv tv (wE (nCT (wp_seq (wp_region_phu (γ:=Option Addr×Nat) 7 [5,6] (fun (c_:Option Addr×Nat) (i_:Nat)=>(match i_ with|0=>pq gk|1=>po g1 1|2=>iv no|3=>po g1 2|4=>.slice Ax d.length cd|5=>.slice c_.1 ((d.take 496).length) c_.2|6=>.bool true|_=>undef:Value)) (fun (c_:Option Addr×Nat) (p_:Nat) (w_:World)=>(match p_ with|0=>St F w0 w_ (row g1 #[iv kind,iv no,.slice Ax d.length cd,.slice A2 ps.length cq] 87::PBen gk k::L)|1=>St F w0 w_ (vec 5 1 (.slice c_.1 ((d.take 496).length) c_.2) ((d.take 496).length) ((d.take 496).map bv)::row g1 #[iv kind,iv no,.slice Ax d.length cd,.slice A2 ps.length cq] 87::PBen gk k::L)|_=>St F w0 w_ (PBen gk (k+1)::row g1 #[iv kind,iv no,.slice Ax d.length cd,.slice A2 ps.length cq] 87::L):Prop)) (none,0) kr_ kr_ kr_ kr_ (S4.drew) ?_ ?_ ?_))))
  ·intro i_ c_ p_ vals_ w1 hi_ hiE_ hp_ hk_ hu_ hPh_ hd_
   rcases i_ with _|_|_|_|_|_|_|i_
   ·exact tG_ rfl hd_ (gV (pq gk) ⟨rfl,rfl⟩)
   ·exact tG_ rfl hd_ (gV (po g1 1) ⟨rfl,rfl⟩)
   ·rcases p_ with _|_|_|p_
    ·have S8:=St.id hPh_
     exact tG_ rfl hd_ (gL (iv no) rfl (((S8.blk 0 rfl).cell 1).trans rfl) ⟨rfl,rfl⟩)
    ·have S9:=St.id hPh_
     exact tG_ rfl hd_ (gL (iv no) rfl (((S9.blk 1 rfl).cell 1).trans rfl) ⟨rfl,rfl⟩)
    ·exact absurd (hu_ 1 dc_ kr_) dc_
    ·exact absurd hp_ (by simp)
   ·exact tG_ rfl hd_ (gV (po g1 2) ⟨rfl,rfl⟩)
   ·rcases p_ with _|_|_|p_
    ·have S11:=St.id hPh_
     exact tG_ rfl hd_ (gL (.slice Ax d.length cd) rfl (((S11.blk 0 rfl).cell 2).trans rfl) ⟨rfl,rfl⟩)
    ·exact absurd (hu_ 0 dc_ kr_) dc_
    ·exact absurd (hu_ 0 dc_ kr_) dc_
    ·exact absurd hp_ (by simp)
   ·exact absurd hiE_ dc_
   ·exact absurd hiE_ dc_
   ·exact absurd hi_ om_
  ·intro k_ c_ vals_ w1 hk_ hPh_ hd_
   rcases k_ with _|_|k_
   ·have S12:=St.id hPh_
    refine tG_ rfl hd_ (gv_call (args:=#[.slice Ax d.length cd,iv 496]) rfl Try.func100 kr_ rfl rfl kr_ (Calls.mono (up496 (l:=d) S12 (hr _) hdm) ?_))
    rintro _ w13 ⟨A15,c16,rfl,S14⟩
    refine ⟨_,rfl,⟨(A15,c16),rfl, ?_,S14⟩⟩
    intro i_ hi_ hne_ hdp_
    rcases i_ with _|_|_|_|_|_|_|i_
    ·rfl
    ·rfl
    ·rfl
    ·rfl
    ·rfl
    ·exact absurd rfl hne_
    ·exact dN_ hdp_
    ·exact absurd hi_ om_
   ·have S17:=St.id hPh_
    refine tG_ rfl hd_ (gv_call (args:=#[pq gk,iv no,.slice c_.1 ((d.take 496).length) c_.2]) rfl Try.func99 kr_ rfl rfl kr_ ?_)
    have S18:=St.pm 3 [2,0,1] S17
    refine Calls.mono (w_brenew (d:=d.take 496) S18 hk rfl (by rw [List.length_take];omega) hno) ?_
    rintro _ w19 ⟨rfl,S20⟩
    refine ⟨_,rfl,⟨(c_.1,c_.2),rfl, ?_,S20⟩⟩
    intro i_ hi_ hne_ hdp_
    rcases i_ with _|_|_|_|_|_|_|i_
    ·rfl
    ·rfl
    ·rfl
    ·rfl
    ·rfl
    ·rfl
    ·exact absurd rfl hne_
    ·exact absurd hi_ om_
   ·exact absurd hk_ (by simp)
  ·intro c_ w1 hPh_
   have S21:=St.id hPh_
   refine (pv tv (wE (then_n (wp_ret (inb_r (then_r (bA (.bool true) ?_)))))))
   have S22:=St.pm 2 [0] S21
   exact ⟨rfl,S22⟩
 ·refine pv fv (wE (nCF (sR (dE kind 2 (fun hb23=> ?_) fun hb23=> ?_))))
  ·refine pv tv (wE (nCT (sR ?_)))
   have S24:=St.pm 2 [1,0] S4
   obtain ⟨⟨gd,s,su,ma,op,AS,AM,cS,cM,RX⟩,hb,S0⟩:=St.beo S24
   have hI:BInv k s su ma op:=hb.inv
   have hls:su.2.2.1.length≤504:=hb.ls
   have hlm:ma.2.2.1.length≤504:=hb.lm
   have hz:=hI.left
   have h5:=hI.five
   have hpn:=hI.pn
   change St F w0 w2 (row gk #[pq gd,iv (su.1:Int),iv (su.2.1:Int),.slice AS su.2.2.1.length cS,iv (su.2.2.2:Int),iv (ma.1:Int),iv (ma.2.1:Int),.slice AM ma.2.2.1.length cM,iv (ma.2.2.2:Int),.bool op] 84::PW gd s::stars (RX.map datD)::row g1 #[iv kind,iv no,.slice Ax d.length cd,.slice A2 ps.length cq] 87::L) at S0
   refine pv (pq gk) (sP Try.func101 #[pq gk] (w_bflush S0 hI.flush.1) fun w25 S26=>pv tv (wE (then_n (wp_ret (inb_r (then_r (bA (.bool true) ?_)))))))
   have S27:=St.pm 4 [0,1,2] S26
   exact ⟨rfl,St.bec (p:=⟨gd,s.flushR.1,ma,ma,false,AM,AM,cM,cM,RX⟩) ⟨hI.flush.2.next,hb.mm,hb.mm,hb.lm,hb.lm⟩ S27⟩
  ·refine pv fv (wE (nCF (sR (dE kind 3 (fun hb28=> ?_) fun hb28=> ?_))))
   ·refine pv tv (wE (nCT (wp_seq ?_)))
    have S29:=St.pm 2 [1,0] S4
    obtain ⟨⟨gd,s,su,ma,op,AS,AM,cS,cM,RX⟩,hb,S0⟩:=St.beo S29
    have hI:BInv k s su ma op:=hb.inv
    have hls:su.2.2.1.length≤504:=hb.ls
    have hlm:ma.2.2.1.length≤504:=hb.lm
    have hz:=hI.left
    have h5:=hI.five
    have hpn:=hI.pn
    change St F w0 w2 (row gk #[pq gd,iv (su.1:Int),iv (su.2.1:Int),.slice AS su.2.2.1.length cS,iv (su.2.2.2:Int),iv (ma.1:Int),iv (ma.2.1:Int),.slice AM ma.2.2.1.length cM,iv (ma.2.2.2:Int),.bool op] 84::PW gd s::stars (RX.map datD)::row g1 #[iv kind,iv no,.slice Ax d.length cd,.slice A2 ps.length cq] 87::L) at S0
    refine wp_region_phu (γ:=Unit) 7 [6] (fun (c2_:Unit) (i_:Nat)=>(match i_ with|0=>pq gk|1=>pq gk|2=>pq gk|3=>pq gd|4=>po g1 3|5=>.slice A2 ps.length cq|6=>.tuple #[]|_=>undef:Value)) (fun (c2_:Unit) (p_:Nat) (w_:World)=>(match p_ with|0=>St F w0 w_ (row gk #[pq gd,iv (su.1:Int),iv (su.2.1:Int),.slice AS su.2.2.1.length cS,iv (su.2.2.2:Int),iv (ma.1:Int),iv (ma.2.1:Int),.slice AM ma.2.2.1.length cM,iv (ma.2.2.2:Int),.bool op] 84::PW gd s::stars (RX.map datD)::row g1 #[iv kind,iv no,.slice Ax d.length cd,.slice A2 ps.length cq] 87::L)|_=>St F w0 w_ (PW gd (s.crashR ps)::row gk #[pq gd,iv (su.1:Int),iv (su.2.1:Int),.slice AS su.2.2.1.length cS,iv (su.2.2.2:Int),iv (ma.1:Int),iv (ma.2.1:Int),.slice AM ma.2.2.1.length cM,iv (ma.2.2.2:Int),.bool op] 84::stars (RX.map datD)::row g1 #[iv kind,iv no,.slice Ax d.length cd,.slice A2 ps.length cq] 87::L):Prop)) () kr_ kr_ kr_ kr_ (S0.drew) ?_ ?_ ?_
    ·intro i_ c2_ p_ vals_ w1 hi_ hiE_ hp_ hk_ hu_ hPh_ hd_
     rcases i_ with _|_|_|_|_|_|_|i_
     ·exact tG_ rfl hd_ (gV (pq gk) ⟨rfl,rfl⟩)
     ·exact tG_ rfl hd_ (gV (pq gk) ⟨rfl,rfl⟩)
     ·exact tG_ rfl hd_ (gV (pq gk) ⟨rfl,rfl⟩)
     ·rcases p_ with _|_|p_
      ·have S33:=St.id hPh_
       exact tG_ rfl hd_ (gL (pq gd) rfl (((S33.blk 0 rfl).cell 0).trans rfl) ⟨rfl,rfl⟩)
      ·exact absurd (hu_ 0 dc_ kr_) dc_
      ·exact absurd hp_ (by simp)
     ·exact tG_ rfl hd_ (gV (po g1 3) ⟨rfl,rfl⟩)
     ·rcases p_ with _|_|p_
      ·have S35:=St.id hPh_
       exact tG_ rfl hd_ (gL (.slice A2 ps.length cq) rfl (((S35.blk 3 rfl).cell 3).trans rfl) ⟨rfl,rfl⟩)
      ·exact absurd (hu_ 0 dc_ kr_) dc_
      ·exact absurd hp_ (by simp)
     ·exact absurd hiE_ dc_
     ·exact absurd hi_ om_
    ·intro k_ c2_ vals_ w1 hk_ hPh_ hd_
     rcases k_ with _|k_
     ·have S36:=St.id hPh_
      refine tG_ rfl hd_ (gv_call (args:=#[pq gd,.slice A2 ps.length cq]) rfl Try.func64 kr_ rfl rfl kr_ ?_)
      have S37:=St.pm 4 [1,0,2,3] S36
      refine Calls.mono (pw_crash (n:=ps.length) (c:=cq) (ps:=ps) S37 (hrp _) rfl hpm) ?_
      rintro _ w38 ⟨rfl,S39⟩
      refine ⟨_,rfl,⟨(),rfl, ?_,S39⟩⟩
      intro i_ hi_ hne_ hdp_
      rcases i_ with _|_|_|_|_|_|_|i_
      ·rfl
      ·rfl
      ·rfl
      ·rfl
      ·rfl
      ·rfl
      ·exact absurd rfl hne_
      ·exact absurd hi_ om_
     ·exact absurd hk_ (by simp)
    ·intro c2_ w1 hPh_
     have S40:=St.id hPh_
     refine (wE (nSR ?_))
     have hokC:DOk (s.crashR ps):=St.pw_ok (L:=[]) (S40.mem 0 rfl)
     obtain ⟨t,hC,htt⟩:=hI.crash ps hokC
     obtain rfl:(newestF ((s.crashR ps).now 1) ((s.crashR ps).now 3))=t:=hC.tells
     have hc5:=hC.five
     have hl4:(newestF ((s.crashR ps).now 1) ((s.crashR ps).now 3)).2.2.1.length≤504:=newest_len _ _ (hokC.now om_) (hokC.now om_)
     refine pv (pq gk) (g_ (gv_call (args:=#[pq gk]) rfl Try.func52 kr_ rfl rfl kr_ ?_))
     have S41:=St.pm 4 [1,0,2,3] S40
     refine Calls.mono (w_look S41 hC.left hC.five) ?_
     rintro _ w42 ⟨Aq44,cq45,A146,A347,rfl,S43⟩
     refine ⟨_,rfl,(pv (.tuple #[.agg #[iv ((newestF ((s.crashR ps).now 1) ((s.crashR ps).now 3)).1:Int),iv ((newestF ((s.crashR ps).now 1) ((s.crashR ps).now 3)).2.1:Int),.slice Aq44 ((newestF ((s.crashR ps).now 1) ((s.crashR ps).now 3)).2.2.1.length) cq45,iv ((newestF ((s.crashR ps).now 1) ((s.crashR ps).now 3)).2.2.2:Int)],.slice A146 512 512,.slice A347 512 512]) (pv (.agg #[iv ((newestF ((s.crashR ps).now 1) ((s.crashR ps).now 3)).1:Int),iv ((newestF ((s.crashR ps).now 1) ((s.crashR ps).now 3)).2.1:Int),.slice Aq44 ((newestF ((s.crashR ps).now 1) ((s.crashR ps).now 3)).2.2.1.length) cq45,iv ((newestF ((s.crashR ps).now 1) ((s.crashR ps).now 3)).2.2.2:Int)]) (pv (.slice A146 512 512) (pv (.slice A347 512 512) (nW rfl (.agg #[iv 0,iv 0,nS_,iv 0]) S43 fun g48 w49 hg50 S51=>g_ (gv_stA (k:=0) (vs:=[iv ((newestF ((s.crashR ps).now 1) ((s.crashR ps).now 3)).1:Int),iv ((newestF ((s.crashR ps).now 1) ((s.crashR ps).now 3)).2.1:Int),.slice Aq44 ((newestF ((s.crashR ps).now 1) ((s.crashR ps).now 3)).2.2.1.length) cq45,iv ((newestF ((s.crashR ps).now 1) ((s.crashR ps).now 3)).2.2.2:Int)]) S51 0 rfl rfl kr_ kr_ kr_ rfl (by simp [Value.oneCell']) (Nat.le_of_ble_eq_true kr_) (L':=(row g48 #[iv ((newestF ((s.crashR ps).now 1) ((s.crashR ps).now 3)).1:Int),iv ((newestF ((s.crashR ps).now 1) ((s.crashR ps).now 3)).2.1:Int),.slice Aq44 ((newestF ((s.crashR ps).now 1) ((s.crashR ps).now 3)).2.2.1.length) cq45,iv ((newestF ((s.crashR ps).now 1) ((s.crashR ps).now 3)).2.2.2:Int)] 81::bytesX (.slice Aq44 (newestF ((s.crashR ps).now 1) ((s.crashR ps).now 3)).2.2.1.length cq45) (newestF ((s.crashR ps).now 1) ((s.crashR ps).now 3)).2.2.1::bytesA (.slice A146 512 512) ((s.crashR ps).now 1)::bytesA (.slice A347 512 512) ((s.crashR ps).now 3)::row gk #[pq gd,iv (su.1:Int),iv (su.2.1:Int),.slice AS su.2.2.1.length cS,iv (su.2.2.2:Int),iv (ma.1:Int),iv (ma.2.1:Int),.slice AM ma.2.2.1.length cM,iv (ma.2.2.2:Int),.bool op] 84::PW gd (s.crashR ps)::stars (RX.map datD)::row g1 #[iv kind,iv no,.slice Ax d.length cd,.slice A2 ps.length cq] 87::L)) rfl (fun w52 S53=> ?_)))))))⟩
     refine pv (.slice A146 512 512) (pv (.slice A347 512 512) (wE (nS (wp_seq ?_))))
     have S54:=St.pm 8 [1,6,0,2,3,4,5,7] S53
     have S55:St F w0 w52 (stars ((RX++[((.slice Aq44 (newestF ((s.crashR ps).now 1) ((s.crashR ps).now 3)).2.2.1.length cq45:Value),(newestF ((s.crashR ps).now 1) ((s.crashR ps).now 3)).2.2.1)]).map datD)::row g48 #[iv ((newestF ((s.crashR ps).now 1) ((s.crashR ps).now 3)).1:Int),iv ((newestF ((s.crashR ps).now 1) ((s.crashR ps).now 3)).2.1:Int),.slice Aq44 ((newestF ((s.crashR ps).now 1) ((s.crashR ps).now 3)).2.2.1.length) cq45,iv ((newestF ((s.crashR ps).now 1) ((s.crashR ps).now 3)).2.2.2:Int)] 81::bytesA (.slice A146 512 512) ((s.crashR ps).now 1)::bytesA (.slice A347 512 512) ((s.crashR ps).now 3)::row gk #[pq gd,iv (su.1:Int),iv (su.2.1:Int),.slice AS su.2.2.1.length cS,iv (su.2.2.2:Int),iv (ma.1:Int),iv (ma.2.1:Int),.slice AM ma.2.2.1.length cM,iv (ma.2.2.2:Int),.bool op] 84::PW gd (s.crashR ps)::row g1 #[iv kind,iv no,.slice Ax d.length cd,.slice A2 ps.length cq] 87::L):=St.datX S54
     by_cases hq:(newestF ((s.crashR ps).now 1) ((s.crashR ps).now 3))=su
     ·refine wp_region_phu (γ:=Unit) 16 [5] (fun (c3_:Unit) (i_:Nat)=>(match i_ with|0=>.agg #[iv ((newestF ((s.crashR ps).now 1) ((s.crashR ps).now 3)).1:Int),iv ((newestF ((s.crashR ps).now 1) ((s.crashR ps).now 3)).2.1:Int),.slice Aq44 ((newestF ((s.crashR ps).now 1) ((s.crashR ps).now 3)).2.2.1.length) cq45,iv ((newestF ((s.crashR ps).now 1) ((s.crashR ps).now 3)).2.2.2:Int)]|1=>pq gk|2=>pq gk|3=>po gk 1|4=>.agg #[iv (su.1:Int),iv (su.2.1:Int),.slice AS su.2.2.1.length cS,iv (su.2.2.2:Int)]|5=>.bool true|6=>.bool false|7=>.bool false|8=>undef|9=>undef|10=>undef|11=>undef|12=>undef|13=>undef|14=>undef|15=>.bool false|_=>undef:Value)) (fun (c3_:Unit) (p_:Nat) (w_:World)=>(match p_ with|0=>St F w0 w_ (stars ((RX++[((.slice Aq44 (newestF ((s.crashR ps).now 1) ((s.crashR ps).now 3)).2.2.1.length cq45:Value),(newestF ((s.crashR ps).now 1) ((s.crashR ps).now 3)).2.2.1)]).map datD)::row g48 #[iv ((newestF ((s.crashR ps).now 1) ((s.crashR ps).now 3)).1:Int),iv ((newestF ((s.crashR ps).now 1) ((s.crashR ps).now 3)).2.1:Int),.slice Aq44 ((newestF ((s.crashR ps).now 1) ((s.crashR ps).now 3)).2.2.1.length) cq45,iv ((newestF ((s.crashR ps).now 1) ((s.crashR ps).now 3)).2.2.2:Int)] 81::bytesA (.slice A146 512 512) ((s.crashR ps).now 1)::bytesA (.slice A347 512 512) ((s.crashR ps).now 3)::row gk #[pq gd,iv (su.1:Int),iv (su.2.1:Int),.slice AS su.2.2.1.length cS,iv (su.2.2.2:Int),iv (ma.1:Int),iv (ma.2.1:Int),.slice AM ma.2.2.1.length cM,iv (ma.2.2.2:Int),.bool op] 84::PW gd (s.crashR ps)::row g1 #[iv kind,iv no,.slice Ax d.length cd,.slice A2 ps.length cq] 87::L)|_=>St F w0 w_ (stars ((RX++[((.slice Aq44 (newestF ((s.crashR ps).now 1) ((s.crashR ps).now 3)).2.2.1.length cq45:Value),(newestF ((s.crashR ps).now 1) ((s.crashR ps).now 3)).2.2.1)]).map datD)::row g48 #[iv ((newestF ((s.crashR ps).now 1) ((s.crashR ps).now 3)).1:Int),iv ((newestF ((s.crashR ps).now 1) ((s.crashR ps).now 3)).2.1:Int),.slice Aq44 ((newestF ((s.crashR ps).now 1) ((s.crashR ps).now 3)).2.2.1.length) cq45,iv ((newestF ((s.crashR ps).now 1) ((s.crashR ps).now 3)).2.2.2:Int)] 81::bytesA (.slice A146 512 512) ((s.crashR ps).now 1)::bytesA (.slice A347 512 512) ((s.crashR ps).now 3)::row gk #[pq gd,iv (su.1:Int),iv (su.2.1:Int),.slice AS su.2.2.1.length cS,iv (su.2.2.2:Int),iv (ma.1:Int),iv (ma.2.1:Int),.slice AM ma.2.2.1.length cM,iv (ma.2.2.2:Int),.bool op] 84::PW gd (s.crashR ps)::row g1 #[iv kind,iv no,.slice Ax d.length cd,.slice A2 ps.length cq] 87::L):Prop)) () kr_ kr_ kr_ kr_ (S55.drew) ?_ ?_ ?_
      ·intro i_ c3_ p_ vals_ w1 hi_ hiE_ hp_ hk_ hu_ hPh_ hd_
       rcases i_ with _|_|_|_|_|_|_|_|_|_|_|_|_|_|_|_|i_
       ·rcases p_ with _|_|p_
        ·have S56:=St.id hPh_
         exact tG_ rfl hd_ (gv_ldA (k:=0) (n:=4) (vs:=[iv ((newestF ((s.crashR ps).now 1) ((s.crashR ps).now 3)).1:Int),iv ((newestF ((s.crashR ps).now 1) ((s.crashR ps).now 3)).2.1:Int),.slice Aq44 ((newestF ((s.crashR ps).now 1) ((s.crashR ps).now 3)).2.2.1.length) cq45,iv ((newestF ((s.crashR ps).now 1) ((s.crashR ps).now 3)).2.2.2:Int)]) S56 1 rfl rfl kr_ kr_ rfl rfl ⟨rfl,rfl⟩)
        ·exact absurd (hu_ 0 dc_ kr_) dc_
        ·exact absurd hp_ (by simp)
       ·exact tG_ rfl hd_ (gV (pq gk) ⟨rfl,rfl⟩)
       ·exact tG_ rfl hd_ (gV (pq gk) ⟨rfl,rfl⟩)
       ·exact tG_ rfl hd_ (gV (po gk 1) ⟨rfl,rfl⟩)
       ·rcases p_ with _|_|p_
        ·have S60:=St.id hPh_
         exact tG_ rfl hd_ (gv_ldA (k:=1) (n:=4) (vs:=[iv (su.1:Int),iv (su.2.1:Int),.slice AS su.2.2.1.length cS,iv (su.2.2.2:Int)]) S60 4 rfl rfl kr_ kr_ rfl rfl ⟨rfl,rfl⟩)
        ·exact absurd (hu_ 0 dc_ kr_) dc_
        ·exact absurd hp_ (by simp)
       ·exact absurd hiE_ dc_
       ·exact tG_ rfl hd_ (gV (.bool false) ⟨rfl,rfl⟩)
       ·exact tG_ rfl hd_ (gV (.bool false) ⟨rfl,rfl⟩)
       ·exact tO_ 7 47 7 true false rfl hd_ ⟨rfl,rfl⟩
       ·exact tO_ 7 47 7 true false rfl hd_ ⟨rfl,rfl⟩
       ·exact tO_ 7 47 7 true false rfl hd_ ⟨rfl,rfl⟩
       ·exact tO_ 7 47 7 true false rfl hd_ ⟨rfl,rfl⟩
       ·exact tO_ 7 47 7 true false rfl hd_ ⟨rfl,rfl⟩
       ·exact tO_ 7 47 7 true false rfl hd_ ⟨rfl,rfl⟩
       ·exact tO_ 7 47 7 true false rfl hd_ ⟨rfl,rfl⟩
       ·exact tG_ rfl hd_ (gV (.bool false) ⟨rfl,rfl⟩)
       ·exact absurd hi_ om_
      ·intro k_ c3_ vals_ w1 hk_ hPh_ hd_
       rcases k_ with _|k_
       ·have S71:=St.id hPh_
        refine tG_ rfl hd_ (gv_call (args:=#[.agg #[iv ((newestF ((s.crashR ps).now 1) ((s.crashR ps).now 3)).1:Int),iv ((newestF ((s.crashR ps).now 1) ((s.crashR ps).now 3)).2.1:Int),.slice Aq44 ((newestF ((s.crashR ps).now 1) ((s.crashR ps).now 3)).2.2.1.length) cq45,iv ((newestF ((s.crashR ps).now 1) ((s.crashR ps).now 3)).2.2.2:Int)],.agg #[iv (su.1:Int),iv (su.2.1:Int),.slice AS su.2.2.1.length cS,iv (su.2.2.2:Int)]]) rfl Try.func53 kr_ rfl rfl kr_ (Calls.mono (alike_all (x:=(newestF ((s.crashR ps).now 1) ((s.crashR ps).now 3)).2.2.1) (y:=su.2.2.1) (t:=true) S71 rfl rfl (rot_dat 0 rfl (List.mem_append_right _ (List.mem_singleton.2 rfl))) (rot_dat 0 rfl (List.mem_append_left _ hb.ms)) om_ om_ (decide_eq_true (told_eq hq))) ?_))
        rintro _ w72 ⟨rfl,S73⟩
        refine ⟨_,rfl,⟨(),rfl, ?_,S73⟩⟩
        intro i_ hi_ hne_ hdp_
        rcases i_ with _|_|_|_|_|_|_|_|_|_|_|_|_|_|_|_|i_
        ·rfl
        ·rfl
        ·rfl
        ·rfl
        ·rfl
        ·exact absurd rfl hne_
        ·exact dN_ hdp_
        ·exact dN_ hdp_
        ·exact dN_ hdp_
        ·exact dN_ hdp_
        ·exact dN_ hdp_
        ·exact dN_ hdp_
        ·exact dN_ hdp_
        ·exact dN_ hdp_
        ·exact dN_ hdp_
        ·exact dN_ hdp_
        ·exact absurd hi_ om_
       ·exact absurd hk_ (by simp)
      ·intro c3_ w1 hPh_
       have S74:=St.id hPh_
       refine wE ?_
       refine nCF (wp_skip (nSR (pv (pq gk) (g_ (gv_ldA (k:=0) (n:=4) (vs:=[iv ((newestF ((s.crashR ps).now 1) ((s.crashR ps).now 3)).1:Int),iv ((newestF ((s.crashR ps).now 1) ((s.crashR ps).now 3)).2.1:Int),.slice Aq44 ((newestF ((s.crashR ps).now 1) ((s.crashR ps).now 3)).2.2.1.length) cq45,iv ((newestF ((s.crashR ps).now 1) ((s.crashR ps).now 3)).2.2.2:Int)]) S74 1 rfl rfl kr_ kr_ rfl rfl (pv (pq gk) (pv (po gk 1) (g_ (gv_stA (k:=1) (vs:=[iv ((newestF ((s.crashR ps).now 1) ((s.crashR ps).now 3)).1:Int),iv ((newestF ((s.crashR ps).now 1) ((s.crashR ps).now 3)).2.1:Int),.slice Aq44 ((newestF ((s.crashR ps).now 1) ((s.crashR ps).now 3)).2.2.1.length) cq45,iv ((newestF ((s.crashR ps).now 1) ((s.crashR ps).now 3)).2.2.2:Int)]) S74 4 rfl rfl kr_ kr_ kr_ rfl (by simp [Value.oneCell']) (Nat.le_of_ble_eq_true kr_) (L':=(stars ((RX++[((.slice Aq44 (newestF ((s.crashR ps).now 1) ((s.crashR ps).now 3)).2.2.1.length cq45:Value),(newestF ((s.crashR ps).now 1) ((s.crashR ps).now 3)).2.2.1)]).map datD)::row g48 #[iv ((newestF ((s.crashR ps).now 1) ((s.crashR ps).now 3)).1:Int),iv ((newestF ((s.crashR ps).now 1) ((s.crashR ps).now 3)).2.1:Int),.slice Aq44 ((newestF ((s.crashR ps).now 1) ((s.crashR ps).now 3)).2.2.1.length) cq45,iv ((newestF ((s.crashR ps).now 1) ((s.crashR ps).now 3)).2.2.2:Int)] 81::bytesA (.slice A146 512 512) ((s.crashR ps).now 1)::bytesA (.slice A347 512 512) ((s.crashR ps).now 3)::row gk #[pq gd,iv ((newestF ((s.crashR ps).now 1) ((s.crashR ps).now 3)).1:Int),iv ((newestF ((s.crashR ps).now 1) ((s.crashR ps).now 3)).2.1:Int),.slice Aq44 ((newestF ((s.crashR ps).now 1) ((s.crashR ps).now 3)).2.2.1.length) cq45,iv ((newestF ((s.crashR ps).now 1) ((s.crashR ps).now 3)).2.2.2:Int),iv (ma.1:Int),iv (ma.2.1:Int),.slice AM ma.2.2.1.length cM,iv (ma.2.2.2:Int),.bool op] 84::PW gd (s.crashR ps)::row g1 #[iv kind,iv no,.slice Ax d.length cd,.slice A2 ps.length cq] 87::L)) rfl (fun w75 S76=> ?_))))))))))
       refine wER (pv (pq gk) (g_ (gv_ldA (k:=0) (n:=4) (vs:=[iv ((newestF ((s.crashR ps).now 1) ((s.crashR ps).now 3)).1:Int),iv ((newestF ((s.crashR ps).now 1) ((s.crashR ps).now 3)).2.1:Int),.slice Aq44 ((newestF ((s.crashR ps).now 1) ((s.crashR ps).now 3)).2.2.1.length) cq45,iv ((newestF ((s.crashR ps).now 1) ((s.crashR ps).now 3)).2.2.2:Int)]) S76 1 rfl rfl kr_ kr_ rfl rfl (pv (pq gk) (pv (po gk 5) (g_ (gv_stA (k:=5) (vs:=[iv ((newestF ((s.crashR ps).now 1) ((s.crashR ps).now 3)).1:Int),iv ((newestF ((s.crashR ps).now 1) ((s.crashR ps).now 3)).2.1:Int),.slice Aq44 ((newestF ((s.crashR ps).now 1) ((s.crashR ps).now 3)).2.2.1.length) cq45,iv ((newestF ((s.crashR ps).now 1) ((s.crashR ps).now 3)).2.2.2:Int)]) S76 4 rfl rfl kr_ kr_ kr_ rfl (by simp [Value.oneCell']) (Nat.le_of_ble_eq_true kr_) (L':=(stars ((RX++[((.slice Aq44 (newestF ((s.crashR ps).now 1) ((s.crashR ps).now 3)).2.2.1.length cq45:Value),(newestF ((s.crashR ps).now 1) ((s.crashR ps).now 3)).2.2.1)]).map datD)::row g48 #[iv ((newestF ((s.crashR ps).now 1) ((s.crashR ps).now 3)).1:Int),iv ((newestF ((s.crashR ps).now 1) ((s.crashR ps).now 3)).2.1:Int),.slice Aq44 ((newestF ((s.crashR ps).now 1) ((s.crashR ps).now 3)).2.2.1.length) cq45,iv ((newestF ((s.crashR ps).now 1) ((s.crashR ps).now 3)).2.2.2:Int)] 81::bytesA (.slice A146 512 512) ((s.crashR ps).now 1)::bytesA (.slice A347 512 512) ((s.crashR ps).now 3)::row gk #[pq gd,iv ((newestF ((s.crashR ps).now 1) ((s.crashR ps).now 3)).1:Int),iv ((newestF ((s.crashR ps).now 1) ((s.crashR ps).now 3)).2.1:Int),.slice Aq44 ((newestF ((s.crashR ps).now 1) ((s.crashR ps).now 3)).2.2.1.length) cq45,iv ((newestF ((s.crashR ps).now 1) ((s.crashR ps).now 3)).2.2.2:Int),iv ((newestF ((s.crashR ps).now 1) ((s.crashR ps).now 3)).1:Int),iv ((newestF ((s.crashR ps).now 1) ((s.crashR ps).now 3)).2.1:Int),.slice Aq44 ((newestF ((s.crashR ps).now 1) ((s.crashR ps).now 3)).2.2.1.length) cq45,iv ((newestF ((s.crashR ps).now 1) ((s.crashR ps).now 3)).2.2.2:Int),.bool op] 84::PW gd (s.crashR ps)::row g1 #[iv kind,iv no,.slice Ax d.length cd,.slice A2 ps.length cq] 87::L)) rfl (fun w77 S78=> ?_))))))))
       refine wE (nR (pv (pq gk) (pv (pq gk) (pv (po gk 9) (sS S78 4 rfl 9 (.bool false) fun w79 S80=>wE (inb_n (nSR (pv tv (wE (then_n (wp_ret (bA (.bool true) ?_))))))))))))
       have S81:=St.pm 7 [4,5,0] S80
       exact ⟨rfl,St.bec (p:=⟨gd,(s.crashR ps),(newestF ((s.crashR ps).now 1) ((s.crashR ps).now 3)),(newestF ((s.crashR ps).now 1) ((s.crashR ps).now 3)),false,Aq44,Aq44,cq45,cq45,(RX++[((.slice Aq44 (newestF ((s.crashR ps).now 1) ((s.crashR ps).now 3)).2.2.1.length cq45:Value),(newestF ((s.crashR ps).now 1) ((s.crashR ps).now 3)).2.2.1)])⟩) ⟨hC.next,(List.mem_append_right _ (List.mem_singleton.2 rfl)),(List.mem_append_right _ (List.mem_singleton.2 rfl)),hl4,hl4⟩ S81⟩
     ·refine wp_region_phu (γ:=Unit) 16 [5,13] (fun (c4_:Unit) (i_:Nat)=>(match i_ with|0=>.agg #[iv ((newestF ((s.crashR ps).now 1) ((s.crashR ps).now 3)).1:Int),iv ((newestF ((s.crashR ps).now 1) ((s.crashR ps).now 3)).2.1:Int),.slice Aq44 ((newestF ((s.crashR ps).now 1) ((s.crashR ps).now 3)).2.2.1.length) cq45,iv ((newestF ((s.crashR ps).now 1) ((s.crashR ps).now 3)).2.2.2:Int)]|1=>pq gk|2=>pq gk|3=>po gk 1|4=>.agg #[iv (su.1:Int),iv (su.2.1:Int),.slice AS su.2.2.1.length cS,iv (su.2.2.2:Int)]|5=>.bool false|6=>.bool true|7=>.bool true|8=>.agg #[iv ((newestF ((s.crashR ps).now 1) ((s.crashR ps).now 3)).1:Int),iv ((newestF ((s.crashR ps).now 1) ((s.crashR ps).now 3)).2.1:Int),.slice Aq44 ((newestF ((s.crashR ps).now 1) ((s.crashR ps).now 3)).2.2.1.length) cq45,iv ((newestF ((s.crashR ps).now 1) ((s.crashR ps).now 3)).2.2.2:Int)]|9=>pq gk|10=>pq gk|11=>po gk 5|12=>.agg #[iv (ma.1:Int),iv (ma.2.1:Int),.slice AM ma.2.2.1.length cM,iv (ma.2.2.2:Int)]|13=>.bool true|14=>.bool false|15=>.bool false|_=>undef:Value)) (fun (c4_:Unit) (p_:Nat) (w_:World)=>(match p_ with|0=>St F w0 w_ (stars ((RX++[((.slice Aq44 (newestF ((s.crashR ps).now 1) ((s.crashR ps).now 3)).2.2.1.length cq45:Value),(newestF ((s.crashR ps).now 1) ((s.crashR ps).now 3)).2.2.1)]).map datD)::row g48 #[iv ((newestF ((s.crashR ps).now 1) ((s.crashR ps).now 3)).1:Int),iv ((newestF ((s.crashR ps).now 1) ((s.crashR ps).now 3)).2.1:Int),.slice Aq44 ((newestF ((s.crashR ps).now 1) ((s.crashR ps).now 3)).2.2.1.length) cq45,iv ((newestF ((s.crashR ps).now 1) ((s.crashR ps).now 3)).2.2.2:Int)] 81::bytesA (.slice A146 512 512) ((s.crashR ps).now 1)::bytesA (.slice A347 512 512) ((s.crashR ps).now 3)::row gk #[pq gd,iv (su.1:Int),iv (su.2.1:Int),.slice AS su.2.2.1.length cS,iv (su.2.2.2:Int),iv (ma.1:Int),iv (ma.2.1:Int),.slice AM ma.2.2.1.length cM,iv (ma.2.2.2:Int),.bool op] 84::PW gd (s.crashR ps)::row g1 #[iv kind,iv no,.slice Ax d.length cd,.slice A2 ps.length cq] 87::L)|1=>St F w0 w_ (stars ((RX++[((.slice Aq44 (newestF ((s.crashR ps).now 1) ((s.crashR ps).now 3)).2.2.1.length cq45:Value),(newestF ((s.crashR ps).now 1) ((s.crashR ps).now 3)).2.2.1)]).map datD)::row g48 #[iv ((newestF ((s.crashR ps).now 1) ((s.crashR ps).now 3)).1:Int),iv ((newestF ((s.crashR ps).now 1) ((s.crashR ps).now 3)).2.1:Int),.slice Aq44 ((newestF ((s.crashR ps).now 1) ((s.crashR ps).now 3)).2.2.1.length) cq45,iv ((newestF ((s.crashR ps).now 1) ((s.crashR ps).now 3)).2.2.2:Int)] 81::bytesA (.slice A146 512 512) ((s.crashR ps).now 1)::bytesA (.slice A347 512 512) ((s.crashR ps).now 3)::row gk #[pq gd,iv (su.1:Int),iv (su.2.1:Int),.slice AS su.2.2.1.length cS,iv (su.2.2.2:Int),iv (ma.1:Int),iv (ma.2.1:Int),.slice AM ma.2.2.1.length cM,iv (ma.2.2.2:Int),.bool op] 84::PW gd (s.crashR ps)::row g1 #[iv kind,iv no,.slice Ax d.length cd,.slice A2 ps.length cq] 87::L)|_=>St F w0 w_ (stars ((RX++[((.slice Aq44 (newestF ((s.crashR ps).now 1) ((s.crashR ps).now 3)).2.2.1.length cq45:Value),(newestF ((s.crashR ps).now 1) ((s.crashR ps).now 3)).2.2.1)]).map datD)::row g48 #[iv ((newestF ((s.crashR ps).now 1) ((s.crashR ps).now 3)).1:Int),iv ((newestF ((s.crashR ps).now 1) ((s.crashR ps).now 3)).2.1:Int),.slice Aq44 ((newestF ((s.crashR ps).now 1) ((s.crashR ps).now 3)).2.2.1.length) cq45,iv ((newestF ((s.crashR ps).now 1) ((s.crashR ps).now 3)).2.2.2:Int)] 81::bytesA (.slice A146 512 512) ((s.crashR ps).now 1)::bytesA (.slice A347 512 512) ((s.crashR ps).now 3)::row gk #[pq gd,iv (su.1:Int),iv (su.2.1:Int),.slice AS su.2.2.1.length cS,iv (su.2.2.2:Int),iv (ma.1:Int),iv (ma.2.1:Int),.slice AM ma.2.2.1.length cM,iv (ma.2.2.2:Int),.bool op] 84::PW gd (s.crashR ps)::row g1 #[iv kind,iv no,.slice Ax d.length cd,.slice A2 ps.length cq] 87::L):Prop)) () kr_ kr_ kr_ kr_ (S55.drew) ?_ ?_ ?_
      ·intro i_ c4_ p_ vals_ w1 hi_ hiE_ hp_ hk_ hu_ hPh_ hd_
       rcases i_ with _|_|_|_|_|_|_|_|_|_|_|_|_|_|_|_|i_
       ·rcases p_ with _|_|_|p_
        ·have S82:=St.id hPh_
         exact tG_ rfl hd_ (gv_ldA (k:=0) (n:=4) (vs:=[iv ((newestF ((s.crashR ps).now 1) ((s.crashR ps).now 3)).1:Int),iv ((newestF ((s.crashR ps).now 1) ((s.crashR ps).now 3)).2.1:Int),.slice Aq44 ((newestF ((s.crashR ps).now 1) ((s.crashR ps).now 3)).2.2.1.length) cq45,iv ((newestF ((s.crashR ps).now 1) ((s.crashR ps).now 3)).2.2.2:Int)]) S82 1 rfl rfl kr_ kr_ rfl rfl ⟨rfl,rfl⟩)
        ·exact absurd (hu_ 0 dc_ kr_) dc_
        ·exact absurd (hu_ 0 dc_ kr_) dc_
        ·exact absurd hp_ (by simp)
       ·exact tG_ rfl hd_ (gV (pq gk) ⟨rfl,rfl⟩)
       ·exact tG_ rfl hd_ (gV (pq gk) ⟨rfl,rfl⟩)
       ·exact tG_ rfl hd_ (gV (po gk 1) ⟨rfl,rfl⟩)
       ·rcases p_ with _|_|_|p_
        ·have S86:=St.id hPh_
         exact tG_ rfl hd_ (gv_ldA (k:=1) (n:=4) (vs:=[iv (su.1:Int),iv (su.2.1:Int),.slice AS su.2.2.1.length cS,iv (su.2.2.2:Int)]) S86 4 rfl rfl kr_ kr_ rfl rfl ⟨rfl,rfl⟩)
        ·exact absurd (hu_ 0 dc_ kr_) dc_
        ·exact absurd (hu_ 0 dc_ kr_) dc_
        ·exact absurd hp_ (by simp)
       ·exact absurd hiE_ dc_
       ·exact tG_ rfl hd_ (gV (.bool true) ⟨rfl,rfl⟩)
       ·exact tG_ rfl hd_ (gV (.bool true) ⟨rfl,rfl⟩)
       ·rcases p_ with _|_|_|p_
        ·exact absurd (hk_ 0 dc_ kr_) dc_
        ·have S89:=St.id hPh_
         exact tW_ 7 47 7 true rfl hd_ (gv_ldA (k:=0) (n:=4) (vs:=[iv ((newestF ((s.crashR ps).now 1) ((s.crashR ps).now 3)).1:Int),iv ((newestF ((s.crashR ps).now 1) ((s.crashR ps).now 3)).2.1:Int),.slice Aq44 ((newestF ((s.crashR ps).now 1) ((s.crashR ps).now 3)).2.2.1.length) cq45,iv ((newestF ((s.crashR ps).now 1) ((s.crashR ps).now 3)).2.2.2:Int)]) S89 1 rfl rfl kr_ kr_ rfl rfl ⟨rfl,rfl⟩)
        ·exact absurd (hu_ 1 dc_ kr_) dc_
        ·exact absurd hp_ (by simp)
       ·exact tW_ 7 47 7 true rfl hd_ (gv_val (v:=pq gk) (w':=w1) kr_ ⟨rfl,rfl⟩)
       ·exact tW_ 7 47 7 true rfl hd_ (gv_val (v:=pq gk) (w':=w1) kr_ ⟨rfl,rfl⟩)
       ·exact tW_ 7 47 7 true rfl hd_ (gv_val (v:=po gk 5) (w':=w1) kr_ ⟨rfl,rfl⟩)
       ·rcases p_ with _|_|_|p_
        ·exact absurd (hk_ 0 dc_ kr_) dc_
        ·have S93:=St.id hPh_
         exact tW_ 7 47 7 true rfl hd_ (gv_ldA (k:=5) (n:=4) (vs:=[iv (ma.1:Int),iv (ma.2.1:Int),.slice AM ma.2.2.1.length cM,iv (ma.2.2.2:Int)]) S93 4 rfl rfl kr_ kr_ rfl rfl ⟨rfl,rfl⟩)
        ·exact absurd (hu_ 1 dc_ kr_) dc_
        ·exact absurd hp_ (by simp)
       ·exact absurd hiE_ dc_
       ·exact tW_ 7 47 7 true rfl hd_ (gv_val (v:=.bool false) (w':=w1) kr_ ⟨rfl,rfl⟩)
       ·exact tG_ rfl hd_ (gV (.bool false) ⟨rfl,rfl⟩)
       ·exact absurd hi_ om_
      ·intro k_ c4_ vals_ w1 hk_ hPh_ hd_
       rcases k_ with _|_|k_
       ·have S96:=St.id hPh_
        refine tG_ rfl hd_ (gv_call (args:=#[.agg #[iv ((newestF ((s.crashR ps).now 1) ((s.crashR ps).now 3)).1:Int),iv ((newestF ((s.crashR ps).now 1) ((s.crashR ps).now 3)).2.1:Int),.slice Aq44 ((newestF ((s.crashR ps).now 1) ((s.crashR ps).now 3)).2.2.1.length) cq45,iv ((newestF ((s.crashR ps).now 1) ((s.crashR ps).now 3)).2.2.2:Int)],.agg #[iv (su.1:Int),iv (su.2.1:Int),.slice AS su.2.2.1.length cS,iv (su.2.2.2:Int)]]) rfl Try.func53 kr_ rfl rfl kr_ (Calls.mono (alike_all (x:=(newestF ((s.crashR ps).now 1) ((s.crashR ps).now 3)).2.2.1) (y:=su.2.2.1) (t:=false) S96 rfl rfl (rot_dat 0 rfl (List.mem_append_right _ (List.mem_singleton.2 rfl))) (rot_dat 0 rfl (List.mem_append_left _ hb.ms)) om_ om_ (decide_eq_false (told_ne hq))) ?_))
        rintro _ w97 ⟨rfl,S98⟩
        refine ⟨_,rfl,⟨(),rfl, ?_,S98⟩⟩
        intro i_ hi_ hne_ hdp_
        rcases i_ with _|_|_|_|_|_|_|_|_|_|_|_|_|_|_|_|i_
        ·rfl
        ·rfl
        ·rfl
        ·rfl
        ·rfl
        ·exact absurd rfl hne_
        ·exact dN_ hdp_
        ·exact dN_ hdp_
        ·exact dN_ hdp_
        ·exact dN_ hdp_
        ·exact dN_ hdp_
        ·exact dN_ hdp_
        ·exact dN_ hdp_
        ·exact dN_ hdp_
        ·exact dN_ hdp_
        ·exact dN_ hdp_
        ·exact absurd hi_ om_
       ·have S99:=St.id hPh_
        refine tW_ 7 47 7 true rfl hd_ (gv_call (args:=#[.agg #[iv ((newestF ((s.crashR ps).now 1) ((s.crashR ps).now 3)).1:Int),iv ((newestF ((s.crashR ps).now 1) ((s.crashR ps).now 3)).2.1:Int),.slice Aq44 ((newestF ((s.crashR ps).now 1) ((s.crashR ps).now 3)).2.2.1.length) cq45,iv ((newestF ((s.crashR ps).now 1) ((s.crashR ps).now 3)).2.2.2:Int)],.agg #[iv (ma.1:Int),iv (ma.2.1:Int),.slice AM ma.2.2.1.length cM,iv (ma.2.2.2:Int)]]) rfl Try.func53 kr_ rfl rfl kr_ (Calls.mono (alike_all (x:=(newestF ((s.crashR ps).now 1) ((s.crashR ps).now 3)).2.2.1) (y:=ma.2.2.1) (t:=true) S99 rfl rfl (rot_dat 0 rfl (List.mem_append_right _ (List.mem_singleton.2 rfl))) (rot_dat 0 rfl (List.mem_append_left _ hb.mm)) om_ om_ (decide_eq_true (told_eq (htt.resolve_right hq)))) ?_))
        rintro _ w100 ⟨rfl,S101⟩
        refine ⟨_,rfl,⟨(),rfl, ?_,S101⟩⟩
        intro i_ hi_ hne_ hdp_
        rcases i_ with _|_|_|_|_|_|_|_|_|_|_|_|_|_|_|_|i_
        ·rfl
        ·rfl
        ·rfl
        ·rfl
        ·rfl
        ·rfl
        ·rfl
        ·rfl
        ·rfl
        ·rfl
        ·rfl
        ·rfl
        ·rfl
        ·exact absurd rfl hne_
        ·exact dN_ hdp_
        ·exact dN_ hdp_
        ·exact absurd hi_ om_
       ·exact absurd hk_ (by simp)
      ·intro c4_ w1 hPh_
       have S102:=St.id hPh_
       refine wE ?_
       refine nCF (wp_skip (nSR (pv (pq gk) (g_ (gv_ldA (k:=0) (n:=4) (vs:=[iv ((newestF ((s.crashR ps).now 1) ((s.crashR ps).now 3)).1:Int),iv ((newestF ((s.crashR ps).now 1) ((s.crashR ps).now 3)).2.1:Int),.slice Aq44 ((newestF ((s.crashR ps).now 1) ((s.crashR ps).now 3)).2.2.1.length) cq45,iv ((newestF ((s.crashR ps).now 1) ((s.crashR ps).now 3)).2.2.2:Int)]) S102 1 rfl rfl kr_ kr_ rfl rfl (pv (pq gk) (pv (po gk 1) (g_ (gv_stA (k:=1) (vs:=[iv ((newestF ((s.crashR ps).now 1) ((s.crashR ps).now 3)).1:Int),iv ((newestF ((s.crashR ps).now 1) ((s.crashR ps).now 3)).2.1:Int),.slice Aq44 ((newestF ((s.crashR ps).now 1) ((s.crashR ps).now 3)).2.2.1.length) cq45,iv ((newestF ((s.crashR ps).now 1) ((s.crashR ps).now 3)).2.2.2:Int)]) S102 4 rfl rfl kr_ kr_ kr_ rfl (by simp [Value.oneCell']) (Nat.le_of_ble_eq_true kr_) (L':=(stars ((RX++[((.slice Aq44 (newestF ((s.crashR ps).now 1) ((s.crashR ps).now 3)).2.2.1.length cq45:Value),(newestF ((s.crashR ps).now 1) ((s.crashR ps).now 3)).2.2.1)]).map datD)::row g48 #[iv ((newestF ((s.crashR ps).now 1) ((s.crashR ps).now 3)).1:Int),iv ((newestF ((s.crashR ps).now 1) ((s.crashR ps).now 3)).2.1:Int),.slice Aq44 ((newestF ((s.crashR ps).now 1) ((s.crashR ps).now 3)).2.2.1.length) cq45,iv ((newestF ((s.crashR ps).now 1) ((s.crashR ps).now 3)).2.2.2:Int)] 81::bytesA (.slice A146 512 512) ((s.crashR ps).now 1)::bytesA (.slice A347 512 512) ((s.crashR ps).now 3)::row gk #[pq gd,iv ((newestF ((s.crashR ps).now 1) ((s.crashR ps).now 3)).1:Int),iv ((newestF ((s.crashR ps).now 1) ((s.crashR ps).now 3)).2.1:Int),.slice Aq44 ((newestF ((s.crashR ps).now 1) ((s.crashR ps).now 3)).2.2.1.length) cq45,iv ((newestF ((s.crashR ps).now 1) ((s.crashR ps).now 3)).2.2.2:Int),iv (ma.1:Int),iv (ma.2.1:Int),.slice AM ma.2.2.1.length cM,iv (ma.2.2.2:Int),.bool op] 84::PW gd (s.crashR ps)::row g1 #[iv kind,iv no,.slice Ax d.length cd,.slice A2 ps.length cq] 87::L)) rfl (fun w103 S104=> ?_))))))))))
       refine wER (pv (pq gk) (g_ (gv_ldA (k:=0) (n:=4) (vs:=[iv ((newestF ((s.crashR ps).now 1) ((s.crashR ps).now 3)).1:Int),iv ((newestF ((s.crashR ps).now 1) ((s.crashR ps).now 3)).2.1:Int),.slice Aq44 ((newestF ((s.crashR ps).now 1) ((s.crashR ps).now 3)).2.2.1.length) cq45,iv ((newestF ((s.crashR ps).now 1) ((s.crashR ps).now 3)).2.2.2:Int)]) S104 1 rfl rfl kr_ kr_ rfl rfl (pv (pq gk) (pv (po gk 5) (g_ (gv_stA (k:=5) (vs:=[iv ((newestF ((s.crashR ps).now 1) ((s.crashR ps).now 3)).1:Int),iv ((newestF ((s.crashR ps).now 1) ((s.crashR ps).now 3)).2.1:Int),.slice Aq44 ((newestF ((s.crashR ps).now 1) ((s.crashR ps).now 3)).2.2.1.length) cq45,iv ((newestF ((s.crashR ps).now 1) ((s.crashR ps).now 3)).2.2.2:Int)]) S104 4 rfl rfl kr_ kr_ kr_ rfl (by simp [Value.oneCell']) (Nat.le_of_ble_eq_true kr_) (L':=(stars ((RX++[((.slice Aq44 (newestF ((s.crashR ps).now 1) ((s.crashR ps).now 3)).2.2.1.length cq45:Value),(newestF ((s.crashR ps).now 1) ((s.crashR ps).now 3)).2.2.1)]).map datD)::row g48 #[iv ((newestF ((s.crashR ps).now 1) ((s.crashR ps).now 3)).1:Int),iv ((newestF ((s.crashR ps).now 1) ((s.crashR ps).now 3)).2.1:Int),.slice Aq44 ((newestF ((s.crashR ps).now 1) ((s.crashR ps).now 3)).2.2.1.length) cq45,iv ((newestF ((s.crashR ps).now 1) ((s.crashR ps).now 3)).2.2.2:Int)] 81::bytesA (.slice A146 512 512) ((s.crashR ps).now 1)::bytesA (.slice A347 512 512) ((s.crashR ps).now 3)::row gk #[pq gd,iv ((newestF ((s.crashR ps).now 1) ((s.crashR ps).now 3)).1:Int),iv ((newestF ((s.crashR ps).now 1) ((s.crashR ps).now 3)).2.1:Int),.slice Aq44 ((newestF ((s.crashR ps).now 1) ((s.crashR ps).now 3)).2.2.1.length) cq45,iv ((newestF ((s.crashR ps).now 1) ((s.crashR ps).now 3)).2.2.2:Int),iv ((newestF ((s.crashR ps).now 1) ((s.crashR ps).now 3)).1:Int),iv ((newestF ((s.crashR ps).now 1) ((s.crashR ps).now 3)).2.1:Int),.slice Aq44 ((newestF ((s.crashR ps).now 1) ((s.crashR ps).now 3)).2.2.1.length) cq45,iv ((newestF ((s.crashR ps).now 1) ((s.crashR ps).now 3)).2.2.2:Int),.bool op] 84::PW gd (s.crashR ps)::row g1 #[iv kind,iv no,.slice Ax d.length cd,.slice A2 ps.length cq] 87::L)) rfl (fun w105 S106=> ?_))))))))
       refine wE (nR (pv (pq gk) (pv (pq gk) (pv (po gk 9) (sS S106 4 rfl 9 (.bool false) fun w107 S108=>wE (inb_n (nSR (pv tv (wE (then_n (wp_ret (bA (.bool true) ?_))))))))))))
       have S109:=St.pm 7 [4,5,0] S108
       exact ⟨rfl,St.bec (p:=⟨gd,(s.crashR ps),(newestF ((s.crashR ps).now 1) ((s.crashR ps).now 3)),(newestF ((s.crashR ps).now 1) ((s.crashR ps).now 3)),false,Aq44,Aq44,cq45,cq45,(RX++[((.slice Aq44 (newestF ((s.crashR ps).now 1) ((s.crashR ps).now 3)).2.2.1.length cq45:Value),(newestF ((s.crashR ps).now 1) ((s.crashR ps).now 3)).2.2.1)])⟩) ⟨hC.next,(List.mem_append_right _ (List.mem_singleton.2 rfl)),(List.mem_append_right _ (List.mem_singleton.2 rfl)),hl4,hl4⟩ S109⟩
   ·refine pv fv (wE (nCF (sR (dE kind 4 (fun hb110=> ?_) fun hb110=> ?_))))
    ·refine pv tv (wE (nCT (sR (pv (iv 0) (wE (nS (sR (pv (po g1 1) (lR (iv no) S4 0 1 (dE no 2 (fun hb111=> ?_) fun hb111=> ?_))))))))))
     ·refine pv tv (wN (wN (wN (pv tv (wE (nCT (wp_region_lit (pv (po g1 1) (lR (iv no) S4 0 1 (pv (iv no) (wE (nS ?_))))))))))))
      have S112:=St.pm 2 [1,0] S4
      obtain ⟨⟨gd,s,su,ma,op,AS,AM,cS,cM,RX⟩,hb,S0⟩:=St.beo S112
      have hI:BInv k s su ma op:=hb.inv
      have hls:su.2.2.1.length≤504:=hb.ls
      have hlm:ma.2.2.1.length≤504:=hb.lm
      have hz:=hI.left
      have h5:=hI.five
      have hpn:=hI.pn
      change St F w0 w2 (row gk #[pq gd,iv (su.1:Int),iv (su.2.1:Int),.slice AS su.2.2.1.length cS,iv (su.2.2.2:Int),iv (ma.1:Int),iv (ma.2.1:Int),.slice AM ma.2.2.1.length cM,iv (ma.2.2.2:Int),.bool op] 84::PW gd s::stars (RX.map datD)::row g1 #[iv kind,iv no,.slice Ax d.length cd,.slice A2 ps.length cq] 87::L) at S0
      refine wp_region_phu (γ:=Option Addr×Nat) 9 [7,8] (fun (c5_:Option Addr×Nat) (i_:Nat)=>(match i_ with|0=>pq gk|1=>pq gk|2=>pq gk|3=>pq gd|4=>iv no|5=>po g1 2|6=>.slice Ax d.length cd|7=>.slice c5_.1 512 c5_.2|8=>iv 0|_=>undef:Value)) (fun (c5_:Option Addr×Nat) (p_:Nat) (w_:World)=>(match p_ with|0=>St F w0 w_ (row gk #[pq gd,iv (su.1:Int),iv (su.2.1:Int),.slice AS su.2.2.1.length cS,iv (su.2.2.2:Int),iv (ma.1:Int),iv (ma.2.1:Int),.slice AM ma.2.2.1.length cM,iv (ma.2.2.2:Int),.bool op] 84::PW gd s::stars (RX.map datD)::row g1 #[iv kind,iv no,.slice Ax d.length cd,.slice A2 ps.length cq] 87::L)|1=>St F w0 w_ (vec 5 1 (.slice c5_.1 512 c5_.2) 512 ((sec3 d).map bv)::row gk #[pq gd,iv (su.1:Int),iv (su.2.1:Int),.slice AS su.2.2.1.length cS,iv (su.2.2.2:Int),iv (ma.1:Int),iv (ma.2.1:Int),.slice AM ma.2.2.1.length cM,iv (ma.2.2.2:Int),.bool op] 84::PW gd s::stars (RX.map datD)::row g1 #[iv kind,iv no,.slice Ax d.length cd,.slice A2 ps.length cq] 87::L)|_=>St F w0 w_ (PW gd (s.wrote 2 (sec3 d))::vec 5 1 (.slice c5_.1 512 c5_.2) 512 ((sec3 d).map bv)::row gk #[pq gd,iv (su.1:Int),iv (su.2.1:Int),.slice AS su.2.2.1.length cS,iv (su.2.2.2:Int),iv (ma.1:Int),iv (ma.2.1:Int),.slice AM ma.2.2.1.length cM,iv (ma.2.2.2:Int),.bool op] 84::stars (RX.map datD)::row g1 #[iv kind,iv no,.slice Ax d.length cd,.slice A2 ps.length cq] 87::L):Prop)) (none,0) kr_ kr_ kr_ kr_ (S0.drew) ?_ ?_ ?_
      ·intro i_ c5_ p_ vals_ w1 hi_ hiE_ hp_ hk_ hu_ hPh_ hd_
       rcases i_ with _|_|_|_|_|_|_|_|_|i_
       ·exact tG_ rfl hd_ (gV (pq gk) ⟨rfl,rfl⟩)
       ·exact tG_ rfl hd_ (gV (pq gk) ⟨rfl,rfl⟩)
       ·exact tG_ rfl hd_ (gV (pq gk) ⟨rfl,rfl⟩)
       ·rcases p_ with _|_|_|p_
        ·have S116:=St.id hPh_
         exact tG_ rfl hd_ (gL (pq gd) rfl (((S116.blk 0 rfl).cell 0).trans rfl) ⟨rfl,rfl⟩)
        ·have S117:=St.id hPh_
         exact tG_ rfl hd_ (gL (pq gd) rfl (((S117.blk 1 rfl).cell 0).trans rfl) ⟨rfl,rfl⟩)
        ·exact absurd (hu_ 1 dc_ kr_) dc_
        ·exact absurd hp_ (by simp)
       ·exact tG_ rfl hd_ (gV (iv no) ⟨rfl,rfl⟩)
       ·exact tG_ rfl hd_ (gV (po g1 2) ⟨rfl,rfl⟩)
       ·rcases p_ with _|_|_|p_
        ·have S120:=St.id hPh_
         exact tG_ rfl hd_ (gL (.slice Ax d.length cd) rfl (((S120.blk 3 rfl).cell 2).trans rfl) ⟨rfl,rfl⟩)
        ·exact absurd (hu_ 0 dc_ kr_) dc_
        ·exact absurd (hu_ 0 dc_ kr_) dc_
        ·exact absurd hp_ (by simp)
       ·exact absurd hiE_ dc_
       ·exact absurd hiE_ dc_
       ·exact absurd hi_ om_
      ·intro k_ c5_ vals_ w1 hk_ hPh_ hd_
       rcases k_ with _|_|k_
       ·have S121:=St.id hPh_
        refine tG_ rfl hd_ (gv_call (args:=#[.slice Ax d.length cd]) rfl Try.func41 kr_ rfl rfl kr_ (Calls.mono (se3 (l:=d) S121 (hr _) hdm) ?_))
        rintro _ w122 ⟨A124,c125,rfl,S123⟩
        refine ⟨_,rfl,⟨(A124,c125),rfl, ?_,S123⟩⟩
        intro i_ hi_ hne_ hdp_
        rcases i_ with _|_|_|_|_|_|_|_|_|i_
        ·rfl
        ·rfl
        ·rfl
        ·rfl
        ·rfl
        ·rfl
        ·rfl
        ·exact absurd rfl hne_
        ·exact dN_ hdp_
        ·exact absurd hi_ om_
       ·have S126:=St.id hPh_
        refine tG_ rfl hd_ (gv_call (args:=#[pq gd,iv no,.slice c5_.1 512 c5_.2]) rfl Try.func33 kr_ rfl rfl kr_ ?_)
        have S127:=St.pm 5 [2,0,1,3,4] S126
        refine Calls.mono (pw_write_ga (k:=2) hb111 S127 (RoT.ofVec 0 rfl) (sec3_len d).symm (sec3_len d) om_ om_ om_) ?_
        rintro _ w128 ⟨rfl,S129⟩
        refine ⟨_,rfl,⟨(c5_.1,c5_.2),rfl, ?_,S129⟩⟩
        intro i_ hi_ hne_ hdp_
        rcases i_ with _|_|_|_|_|_|_|_|_|i_
        ·rfl
        ·rfl
        ·rfl
        ·rfl
        ·rfl
        ·rfl
        ·rfl
        ·rfl
        ·exact absurd rfl hne_
        ·exact absurd hi_ om_
       ·exact absurd hk_ (by simp)
      ·intro c5_ w1 hPh_
       have S130:=St.id hPh_
       refine (pv (iv 0) (wE (nSR (pv (iv 0) (sO Try.func49 #[iv 0] (num_ro) (dE 0 0 (fun _=>pv tv (wE (then_n (wp_ret (inb_r (then_r (bA (.bool true) ?_))))))) fun hd131=>False.elim (hd131 rfl)))))))
       have S132:=St.pm 5 [2,0,3] S130
       have hokW:=St.pw_ok (L:=[]) (S132.mem 1 rfl)
       exact ⟨rfl,St.bec (p:=⟨gd,s.wrote 2 (sec3 d),su,ma,op,AS,AM,cS,cM,RX⟩) ⟨hI.beside dc_ dc_ hokW,hb.ms,hb.mm,hb.ls,hb.lm⟩ S132⟩
     ·refine pv fv (pW (po g1 1) (wl_when kr_ (gv_ldR (v:=iv no) rfl kr_ kr_ (((S4.blk 0 rfl).cell 1).trans rfl) (wl_when kr_ (gv_eq (x:=no) (y:=4) kr_ (fun hb133=> ?_) (fun hb133=> ?_))))))
      ·refine pv tv (wE (nCT (wp_region_lit (pv (po g1 1) (lR (iv no) S4 0 1 (pv (iv no) (wE (nS ?_))))))))
       have S134:=St.pm 2 [1,0] S4
       obtain ⟨⟨gd,s,su,ma,op,AS,AM,cS,cM,RX⟩,hb,S0⟩:=St.beo S134
       have hI:BInv k s su ma op:=hb.inv
       have hls:su.2.2.1.length≤504:=hb.ls
       have hlm:ma.2.2.1.length≤504:=hb.lm
       have hz:=hI.left
       have h5:=hI.five
       have hpn:=hI.pn
       change St F w0 w2 (row gk #[pq gd,iv (su.1:Int),iv (su.2.1:Int),.slice AS su.2.2.1.length cS,iv (su.2.2.2:Int),iv (ma.1:Int),iv (ma.2.1:Int),.slice AM ma.2.2.1.length cM,iv (ma.2.2.2:Int),.bool op] 84::PW gd s::stars (RX.map datD)::row g1 #[iv kind,iv no,.slice Ax d.length cd,.slice A2 ps.length cq] 87::L) at S0
       refine wp_region_phu (γ:=Option Addr×Nat) 9 [7,8] (fun (c6_:Option Addr×Nat) (i_:Nat)=>(match i_ with|0=>pq gk|1=>pq gk|2=>pq gk|3=>pq gd|4=>iv no|5=>po g1 2|6=>.slice Ax d.length cd|7=>.slice c6_.1 512 c6_.2|8=>iv 0|_=>undef:Value)) (fun (c6_:Option Addr×Nat) (p_:Nat) (w_:World)=>(match p_ with|0=>St F w0 w_ (row gk #[pq gd,iv (su.1:Int),iv (su.2.1:Int),.slice AS su.2.2.1.length cS,iv (su.2.2.2:Int),iv (ma.1:Int),iv (ma.2.1:Int),.slice AM ma.2.2.1.length cM,iv (ma.2.2.2:Int),.bool op] 84::PW gd s::stars (RX.map datD)::row g1 #[iv kind,iv no,.slice Ax d.length cd,.slice A2 ps.length cq] 87::L)|1=>St F w0 w_ (vec 5 1 (.slice c6_.1 512 c6_.2) 512 ((sec3 d).map bv)::row gk #[pq gd,iv (su.1:Int),iv (su.2.1:Int),.slice AS su.2.2.1.length cS,iv (su.2.2.2:Int),iv (ma.1:Int),iv (ma.2.1:Int),.slice AM ma.2.2.1.length cM,iv (ma.2.2.2:Int),.bool op] 84::PW gd s::stars (RX.map datD)::row g1 #[iv kind,iv no,.slice Ax d.length cd,.slice A2 ps.length cq] 87::L)|_=>St F w0 w_ (PW gd (s.wrote 4 (sec3 d))::vec 5 1 (.slice c6_.1 512 c6_.2) 512 ((sec3 d).map bv)::row gk #[pq gd,iv (su.1:Int),iv (su.2.1:Int),.slice AS su.2.2.1.length cS,iv (su.2.2.2:Int),iv (ma.1:Int),iv (ma.2.1:Int),.slice AM ma.2.2.1.length cM,iv (ma.2.2.2:Int),.bool op] 84::stars (RX.map datD)::row g1 #[iv kind,iv no,.slice Ax d.length cd,.slice A2 ps.length cq] 87::L):Prop)) (none,0) kr_ kr_ kr_ kr_ (S0.drew) ?_ ?_ ?_
       ·intro i_ c6_ p_ vals_ w1 hi_ hiE_ hp_ hk_ hu_ hPh_ hd_
        rcases i_ with _|_|_|_|_|_|_|_|_|i_
        ·exact tG_ rfl hd_ (gV (pq gk) ⟨rfl,rfl⟩)
        ·exact tG_ rfl hd_ (gV (pq gk) ⟨rfl,rfl⟩)
        ·exact tG_ rfl hd_ (gV (pq gk) ⟨rfl,rfl⟩)
        ·rcases p_ with _|_|_|p_
         ·have S138:=St.id hPh_
          exact tG_ rfl hd_ (gL (pq gd) rfl (((S138.blk 0 rfl).cell 0).trans rfl) ⟨rfl,rfl⟩)
         ·have S139:=St.id hPh_
          exact tG_ rfl hd_ (gL (pq gd) rfl (((S139.blk 1 rfl).cell 0).trans rfl) ⟨rfl,rfl⟩)
         ·exact absurd (hu_ 1 dc_ kr_) dc_
         ·exact absurd hp_ (by simp)
        ·exact tG_ rfl hd_ (gV (iv no) ⟨rfl,rfl⟩)
        ·exact tG_ rfl hd_ (gV (po g1 2) ⟨rfl,rfl⟩)
        ·rcases p_ with _|_|_|p_
         ·have S142:=St.id hPh_
          exact tG_ rfl hd_ (gL (.slice Ax d.length cd) rfl (((S142.blk 3 rfl).cell 2).trans rfl) ⟨rfl,rfl⟩)
         ·exact absurd (hu_ 0 dc_ kr_) dc_
         ·exact absurd (hu_ 0 dc_ kr_) dc_
         ·exact absurd hp_ (by simp)
        ·exact absurd hiE_ dc_
        ·exact absurd hiE_ dc_
        ·exact absurd hi_ om_
       ·intro k_ c6_ vals_ w1 hk_ hPh_ hd_
        rcases k_ with _|_|k_
        ·have S143:=St.id hPh_
         refine tG_ rfl hd_ (gv_call (args:=#[.slice Ax d.length cd]) rfl Try.func41 kr_ rfl rfl kr_ (Calls.mono (se3 (l:=d) S143 (hr _) hdm) ?_))
         rintro _ w144 ⟨A146,c147,rfl,S145⟩
         refine ⟨_,rfl,⟨(A146,c147),rfl, ?_,S145⟩⟩
         intro i_ hi_ hne_ hdp_
         rcases i_ with _|_|_|_|_|_|_|_|_|i_
         ·rfl
         ·rfl
         ·rfl
         ·rfl
         ·rfl
         ·rfl
         ·rfl
         ·exact absurd rfl hne_
         ·exact dN_ hdp_
         ·exact absurd hi_ om_
        ·have S148:=St.id hPh_
         refine tG_ rfl hd_ (gv_call (args:=#[pq gd,iv no,.slice c6_.1 512 c6_.2]) rfl Try.func33 kr_ rfl rfl kr_ ?_)
         have S149:=St.pm 5 [2,0,1,3,4] S148
         refine Calls.mono (pw_write_ga (k:=4) hb133 S149 (RoT.ofVec 0 rfl) (sec3_len d).symm (sec3_len d) om_ om_ om_) ?_
         rintro _ w150 ⟨rfl,S151⟩
         refine ⟨_,rfl,⟨(c6_.1,c6_.2),rfl, ?_,S151⟩⟩
         intro i_ hi_ hne_ hdp_
         rcases i_ with _|_|_|_|_|_|_|_|_|i_
         ·rfl
         ·rfl
         ·rfl
         ·rfl
         ·rfl
         ·rfl
         ·rfl
         ·rfl
         ·exact absurd rfl hne_
         ·exact absurd hi_ om_
        ·exact absurd hk_ (by simp)
       ·intro c6_ w1 hPh_
        have S152:=St.id hPh_
        refine (pv (iv 0) (wE (nSR (pv (iv 0) (sO Try.func49 #[iv 0] (num_ro) (dE 0 0 (fun _=>pv tv (wE (then_n (wp_ret (inb_r (then_r (bA (.bool true) ?_))))))) fun hd153=>False.elim (hd153 rfl)))))))
        have S154:=St.pm 5 [2,0,3] S152
        have hokW:=St.pw_ok (L:=[]) (S154.mem 1 rfl)
        exact ⟨rfl,St.bec (p:=⟨gd,s.wrote 4 (sec3 d),su,ma,op,AS,AM,cS,cM,RX⟩) ⟨hI.beside dc_ dc_ hokW,hb.ms,hb.mm,hb.ls,hb.lm⟩ S154⟩
      ·refine pv fv (wE (nCF (wp_skip (nS ?_))))
       have S155:=St.pm 2 [1,0] S4
       obtain ⟨⟨gd,s,su,ma,op,AS,AM,cS,cM,RX⟩,hb,S0⟩:=St.beo S155
       have hI:BInv k s su ma op:=hb.inv
       have hls:su.2.2.1.length≤504:=hb.ls
       have hlm:ma.2.2.1.length≤504:=hb.lm
       have hz:=hI.left
       have h5:=hI.five
       have hpn:=hI.pn
       change St F w0 w2 (row gk #[pq gd,iv (su.1:Int),iv (su.2.1:Int),.slice AS su.2.2.1.length cS,iv (su.2.2.2:Int),iv (ma.1:Int),iv (ma.2.1:Int),.slice AM ma.2.2.1.length cM,iv (ma.2.2.2:Int),.bool op] 84::PW gd s::stars (RX.map datD)::row g1 #[iv kind,iv no,.slice Ax d.length cd,.slice A2 ps.length cq] 87::L) at S0
       refine wp_region_phu (γ:=Option Addr×Nat) 9 [7,8] (fun (c7_:Option Addr×Nat) (i_:Nat)=>(match i_ with|0=>pq gk|1=>pq gk|2=>pq gk|3=>pq gd|4=>iv 0|5=>po g1 2|6=>.slice Ax d.length cd|7=>.slice c7_.1 512 c7_.2|8=>iv 0|_=>undef:Value)) (fun (c7_:Option Addr×Nat) (p_:Nat) (w_:World)=>(match p_ with|0=>St F w0 w_ (row gk #[pq gd,iv (su.1:Int),iv (su.2.1:Int),.slice AS su.2.2.1.length cS,iv (su.2.2.2:Int),iv (ma.1:Int),iv (ma.2.1:Int),.slice AM ma.2.2.1.length cM,iv (ma.2.2.2:Int),.bool op] 84::PW gd s::stars (RX.map datD)::row g1 #[iv kind,iv no,.slice Ax d.length cd,.slice A2 ps.length cq] 87::L)|1=>St F w0 w_ (vec 5 1 (.slice c7_.1 512 c7_.2) 512 ((sec3 d).map bv)::row gk #[pq gd,iv (su.1:Int),iv (su.2.1:Int),.slice AS su.2.2.1.length cS,iv (su.2.2.2:Int),iv (ma.1:Int),iv (ma.2.1:Int),.slice AM ma.2.2.1.length cM,iv (ma.2.2.2:Int),.bool op] 84::PW gd s::stars (RX.map datD)::row g1 #[iv kind,iv no,.slice Ax d.length cd,.slice A2 ps.length cq] 87::L)|_=>St F w0 w_ (PW gd (s.wrote 0 (sec3 d))::vec 5 1 (.slice c7_.1 512 c7_.2) 512 ((sec3 d).map bv)::row gk #[pq gd,iv (su.1:Int),iv (su.2.1:Int),.slice AS su.2.2.1.length cS,iv (su.2.2.2:Int),iv (ma.1:Int),iv (ma.2.1:Int),.slice AM ma.2.2.1.length cM,iv (ma.2.2.2:Int),.bool op] 84::stars (RX.map datD)::row g1 #[iv kind,iv no,.slice Ax d.length cd,.slice A2 ps.length cq] 87::L):Prop)) (none,0) kr_ kr_ kr_ kr_ (S0.drew) ?_ ?_ ?_
       ·intro i_ c7_ p_ vals_ w1 hi_ hiE_ hp_ hk_ hu_ hPh_ hd_
        rcases i_ with _|_|_|_|_|_|_|_|_|i_
        ·exact tG_ rfl hd_ (gV (pq gk) ⟨rfl,rfl⟩)
        ·exact tG_ rfl hd_ (gV (pq gk) ⟨rfl,rfl⟩)
        ·exact tG_ rfl hd_ (gV (pq gk) ⟨rfl,rfl⟩)
        ·rcases p_ with _|_|_|p_
         ·have S159:=St.id hPh_
          exact tG_ rfl hd_ (gL (pq gd) rfl (((S159.blk 0 rfl).cell 0).trans rfl) ⟨rfl,rfl⟩)
         ·have S160:=St.id hPh_
          exact tG_ rfl hd_ (gL (pq gd) rfl (((S160.blk 1 rfl).cell 0).trans rfl) ⟨rfl,rfl⟩)
         ·exact absurd (hu_ 1 dc_ kr_) dc_
         ·exact absurd hp_ (by simp)
        ·exact tG_ rfl hd_ (gV (iv 0) ⟨rfl,rfl⟩)
        ·exact tG_ rfl hd_ (gV (po g1 2) ⟨rfl,rfl⟩)
        ·rcases p_ with _|_|_|p_
         ·have S163:=St.id hPh_
          exact tG_ rfl hd_ (gL (.slice Ax d.length cd) rfl (((S163.blk 3 rfl).cell 2).trans rfl) ⟨rfl,rfl⟩)
         ·exact absurd (hu_ 0 dc_ kr_) dc_
         ·exact absurd (hu_ 0 dc_ kr_) dc_
         ·exact absurd hp_ (by simp)
        ·exact absurd hiE_ dc_
        ·exact absurd hiE_ dc_
        ·exact absurd hi_ om_
       ·intro k_ c7_ vals_ w1 hk_ hPh_ hd_
        rcases k_ with _|_|k_
        ·have S164:=St.id hPh_
         refine tG_ rfl hd_ (gv_call (args:=#[.slice Ax d.length cd]) rfl Try.func41 kr_ rfl rfl kr_ (Calls.mono (se3 (l:=d) S164 (hr _) hdm) ?_))
         rintro _ w165 ⟨A167,c168,rfl,S166⟩
         refine ⟨_,rfl,⟨(A167,c168),rfl, ?_,S166⟩⟩
         intro i_ hi_ hne_ hdp_
         rcases i_ with _|_|_|_|_|_|_|_|_|i_
         ·rfl
         ·rfl
         ·rfl
         ·rfl
         ·rfl
         ·rfl
         ·rfl
         ·exact absurd rfl hne_
         ·exact dN_ hdp_
         ·exact absurd hi_ om_
        ·have S169:=St.id hPh_
         refine tG_ rfl hd_ (gv_call (args:=#[pq gd,iv 0,.slice c7_.1 512 c7_.2]) rfl Try.func33 kr_ rfl rfl kr_ ?_)
         have S170:=St.pm 5 [2,0,1,3,4] S169
         refine Calls.mono (pw_write_ga (k:=0) rfl S170 (RoT.ofVec 0 rfl) (sec3_len d).symm (sec3_len d) om_ om_ om_) ?_
         rintro _ w171 ⟨rfl,S172⟩
         refine ⟨_,rfl,⟨(c7_.1,c7_.2),rfl, ?_,S172⟩⟩
         intro i_ hi_ hne_ hdp_
         rcases i_ with _|_|_|_|_|_|_|_|_|i_
         ·rfl
         ·rfl
         ·rfl
         ·rfl
         ·rfl
         ·rfl
         ·rfl
         ·rfl
         ·exact absurd rfl hne_
         ·exact absurd hi_ om_
        ·exact absurd hk_ (by simp)
       ·intro c7_ w1 hPh_
        have S173:=St.id hPh_
        refine (pv (iv 0) (wE (nSR (pv (iv 0) (sO Try.func49 #[iv 0] (num_ro) (dE 0 0 (fun _=>pv tv (wE (then_n (wp_ret (inb_r (then_r (bA (.bool true) ?_))))))) fun hd174=>False.elim (hd174 rfl)))))))
        have S175:=St.pm 5 [2,0,3] S173
        have hokW:=St.pw_ok (L:=[]) (S175.mem 1 rfl)
        exact ⟨rfl,St.bec (p:=⟨gd,s.wrote 0 (sec3 d),su,ma,op,AS,AM,cS,cM,RX⟩) ⟨hI.beside dc_ dc_ hokW,hb.ms,hb.mm,hb.ls,hb.lm⟩ S175⟩
    ·refine pv fv (wE (nCF (wp_skip (inb_n (nSR (pv tv (wE (then_n (wp_ret (bA (.bool true) ?_))))))))))
     have S176:=St.pm 2 [1] S4
     exact ⟨rfl,St.ben S176⟩
structure BtE where
 kind:Int
 no:Int
 A:Option Addr
 d:List UInt8
 cd:Nat
 A2:Option Addr
 ps:List Pick
 cq:Nat
def BtE.cells (o:BtE):List Value:=[.int .i64 o.kind,.int .i64 o.no,.slice o.A o.d.length o.cd,.slice o.A2 o.ps.length o.cq]
def btV (l:List BtE):List Value:=l.flatMap BtE.cells
theorem length_btV (l:List BtE):(btV l).length=l.length*4:=by
 induction l with
 |nil=>rfl
 |cons p r ih=>simp [btV,BtE.cells] at ih ⊢;omega
theorem btV_at:∀(l:List BtE) (i:Nat) (p:BtE),l[i]?=some p→∀j u,p.cells[j]?=some u→(btV l)[i*4+j]?=some u
 |[],i,p,h,_,_,_=>by simp at h
 |q::r,0,p,h,j,u,hu=>by
  simp at h;subst h
  have:=(List.getElem?_eq_some_iff.1 hu).1
  show ((q.cells++btV r))[0*4+j]?=some u
  rw [List.getElem?_append_left om_];simpa using hu
 |q::r,i+1,p,h,j,u,hu=>by
  have ih:=btV_at r i p (by simpa using h) j u hu
  show ((q.cells++btV r))[(i+1)*4+j]?=some u
  rw [List.getElem?_append_right (by simp [BtE.cells];omega)]
  simpa [BtE.cells,show (i+1)*4+j-4=i*4+j from by omega] using ih
structure BtE.Ok (w:World)(o:BtE):Prop where
 d:RdB w o.A o.d
 p:RdV w o.A2 (picksV o.ps)
 dm:o.d.length≤140737488355328
 pm:o.ps.length*24≤140737488355328
 ha:o.no≤9223372036854775807
theorem sealDisk_all (w:World){A3:Option Addr}{c3:Nat}{ops:List BtE}(hs:RdV w A3 (btV ops))(hsm:ops.length≤2199023255552)(hok:∀o∈ops,o.Ok w):Calls Try.prog 6 #[.slice A3 ops.length c3] w fun e w'=>e=.returned (.bool true)∧Below w.heap.size w w':=by
 have S0:St none' w w []:=St.init none' w
 refine eN (fr [.slice A3 ops.length c3] 57) Try.func6 rfl (sR (pv fv (wER (sP1 Try.func13 #[iv 5] (pd_new (m:=5) dc_ dc_ S0) fun gd w1 S2=> ?_))))
 have S3:=St.pw0 S2
 refine pv (.tuple #[pq gd,iv 0]) (pv (pq gd) (pv (iv 0) (pv (pq gd) (pv (iv 0) (wE (nS (sR (pv (iv 0) (sO Try.func49 #[iv 0] (num_ro) (dN 0 0 (fun hd4=>False.elim (hd4 rfl)) fun _=>pv fv (pW (pq gd) (pW (.bool false) ?_))))))))))))
 refine pv fv (pv fv (wl_when kr_ (gv_call (args:=#[]) rfl Try.func50 kr_ rfl rfl kr_ (Calls.mono (first_all S3) ?_))))
 rintro _ w5 ⟨rfl,S6⟩
 refine ⟨_,rfl,(pW (.bool false) (pv fv (wE (nCF (wp_skip (nSR (pv (.agg #[iv 0,iv 0,nS_,iv 30]) (nW rfl (.agg #[iv 0,iv 0,nS_,iv 0]) S6 fun g7 w8 hg9 S10=>g_ (gv_stA (k:=0) (vs:=[iv 0,iv 0,nS_,iv 30]) S10 0 rfl rfl kr_ kr_ kr_ rfl (by simp [Value.oneCell']) (Nat.le_of_ble_eq_true kr_) (L':=[row g7 #[iv 0,iv 0,nS_,iv 30] 81,PW gd (Dsk.mk0 (List.replicate 5 zsec))]) rfl (fun w11 S12=>wER (pv (pq gd) (g_ (gv_ldA (k:=0) (n:=4) (vs:=[iv 0,iv 0,nS_,iv 30]) S12 0 rfl rfl kr_ kr_ rfl rfl (g_ (gv_ldA (k:=0) (n:=4) (vs:=[iv 0,iv 0,nS_,iv 30]) S12 0 rfl rfl kr_ kr_ rfl rfl ?_)))))))))))))))⟩
 refine pv (.agg #[pq gd,iv 0,iv 0,nS_,iv 30,iv 0,iv 0,nS_,iv 30,fv]) (nB rfl (.agg #[pq gd,iv 0,iv 0,nS_,iv 30,iv 0,iv 0,nS_,iv 30,.bool false]) S12 fun g13 w14 hg15 S16=>pv (pq g13) (wE (nS (sR (pv (iv 0) (wE (then_n (wp_block ?_))))))))
 have S17:=St.pm 3 [0,2,1] S16
 have hok0:=St.pw_ok (L:=[]) (S17.mem 1 rfl)
 have S18:=St.pm 3 [0,1] S17
 have S19:St none' w w14 [stars ((([((nS_:Value),([]:List UInt8))]:List RecV)).map datD),row g13 #[pq gd,iv 0,iv 0,nS_,iv 30,iv 0,iv 0,nS_,iv 30,.bool false] 84,PW gd (Dsk.mk0 (List.replicate 5 zsec))]:=St.datN S18
 have S20:=St.pm 3 [1,2,0] S19
 have S21:St none' w w14 [PBen g13 0]:=St.bec (p:=⟨gd,Dsk.mk0 (List.replicate 5 zsec),(0,0,[],30),(0,0,[],30),false,none,none,0,0,[((nS_:Value),([]:List UInt8))]⟩) ⟨BInv.new hok0,List.mem_singleton.2 rfl,List.mem_singleton.2 rfl,Nat.zero_le _,Nat.zero_le _⟩ S20
 refine wp_loop_g (G:=Nat) (fun (g_:Nat) (a_:Act) (w_:World)=>∃J:Nat→Value,a_=(fr ([.slice A3 ops.length c3,ud,J 2,pq gd,iv 0,pq g7,pq g13,nI_ g_,J 8,J 9,J 10,.tuple #[pq gd,iv 0],.tuple #[pq gd,iv 0],pq gd,iv 0,iv 0,iv 0,fv,fv,pq gd,fv,fv,fv,tv,fv,fv,.agg #[iv 0,iv 0,nS_,iv 30],pq gd,.agg #[iv 0,iv 0,nS_,iv 30],.agg #[iv 0,iv 0,nS_,iv 30],.agg #[pq gd,iv 0,iv 0,nS_,iv 30,iv 0,iv 0,nS_,iv 30,fv],pq g13]++jR J 32 26) 0)∧St none' w w_ [PBen g13 g_]∧(g_≤ops.length)) (fun g_=>ops.length-g_) 0 (jE_ ⟨S21,Nat.zero_le _⟩) ?_
 rintro i a_ w22 ⟨J,rfl,S23,hi1⟩
 skip
 have S23:St none' w w22 [PBen g13 i]:=S23
 refine wp_seq (sR (pv (nI_ i) (pv (.slice A3 ops.length c3) (pv (iv (ops.length:Nat)) (dC ((((i:Nat):Int):Int)<(ops.length:Nat)) (fun hb25=> ?_) fun hb25=> ?_)))))
 ·have hi:i<ops.length:=by omega
  obtain ⟨o,ho⟩:∃o,ops[i]?=some o:=⟨_,List.getElem?_eq_getElem hi⟩
  have hk:=hok o (List.mem_of_getElem? ho)
  have hpm5:=hk.pm
  obtain ⟨ad,hAd,hrs⟩:=(RoV.of_rd hs []).out w22 _ (show St none' w w22 ([PBen g13 i]++[]) from S23) (by rw [length_btV];omega)
  have hrq:RdV w22 (some ad) (btV ops):=fun _=>⟨ad,rfl,hrs⟩
  refine wE (nCT (wp_skip (nS (wp_block (wp_seq (sR (pv (pq g13) (pv (.slice A3 ops.length c3) (pv (nI_ i) (g_ (gv_ixB (e:=87) (sz:=4) (n:=ops.length) (c:=c3) (i:=((i:Nat):Int)) (k:=.i64) (ad:=ad) (ad':=(ad.add (i*4))) (j:=i) rfl kr_ kr_ (by rw [←hAd];kernel_rfl) kr_ rfl om_ rfl (g_ (gv_ldRA (ad:=ad.add (i*4)) (vs:=[iv o.kind,iv o.no,.slice o.A o.d.length o.cd,.slice o.A2 o.ps.length o.cq]) (n:=4) rfl kr_ kr_ rfl (RoV.cells hrq (i*4) (fun j u hu=>btV_at ops _ _ ho j u hu) (Nat.succ_pos _)) (sP Try.func51 #[pq g13,.agg #[iv o.kind,iv o.no,.slice o.A o.d.length o.cd,.slice o.A2 o.ps.length o.cq]] (w_beat S23 om_ (fun L=>(Ro.of_C hk.d (fun _ h=>h)).T) (fun L=>RoV.of_rd hk.p L) hk.dm om_ hk.ha) fun w26 S27=>pv fv ?_))))))))))))))
  refine wE (nCF (wp_skip (nSR ?_)))
  obtain ⟨⟨gd2,s,su,ma,op,AS,AM,cS,cM,RX⟩,hb,S0⟩:=St.beo S27
  have hI:BInv (i+1) s su ma op:=hb.inv
  have hls:su.2.2.1.length≤504:=hb.ls
  have hlm:ma.2.2.1.length≤504:=hb.lm
  have hz:=hI.left
  have h5:=hI.five
  have hpn:=hI.pn
  change St none' w w26 [row g13 #[pq gd2,iv (su.1:Int),iv (su.2.1:Int),.slice AS su.2.2.1.length cS,iv (su.2.2.2:Int),iv (ma.1:Int),iv (ma.2.1:Int),.slice AM ma.2.2.1.length cM,iv (ma.2.2.2:Int),.bool op] 84,PW gd2 s,stars (RX.map datD)] at S0
  refine pv (pq g13) (g_ (gv_call (args:=#[pq g13]) rfl Try.func52 kr_ rfl rfl kr_ (Calls.mono (w_look S0 hz h5) ?_)))
  rintro _ w28 ⟨Aq30,cq31,A132,A333,rfl,S29⟩
  refine ⟨_,rfl,(pv (.tuple #[.agg #[iv ((newestF (s.now 1) (s.now 3)).1:Int),iv ((newestF (s.now 1) (s.now 3)).2.1:Int),.slice Aq30 ((newestF (s.now 1) (s.now 3)).2.2.1.length) cq31,iv ((newestF (s.now 1) (s.now 3)).2.2.2:Int)],.slice A132 512 512,.slice A333 512 512]) (pv (.agg #[iv ((newestF (s.now 1) (s.now 3)).1:Int),iv ((newestF (s.now 1) (s.now 3)).2.1:Int),.slice Aq30 ((newestF (s.now 1) (s.now 3)).2.2.1.length) cq31,iv ((newestF (s.now 1) (s.now 3)).2.2.2:Int)]) (pv (.slice A132 512 512) (pv (.slice A333 512 512) (nW rfl (.agg #[iv 0,iv 0,nS_,iv 0]) S29 fun g34 w35 hg36 S37=>g_ (gv_stA (k:=0) (vs:=[iv ((newestF (s.now 1) (s.now 3)).1:Int),iv ((newestF (s.now 1) (s.now 3)).2.1:Int),.slice Aq30 ((newestF (s.now 1) (s.now 3)).2.2.1.length) cq31,iv ((newestF (s.now 1) (s.now 3)).2.2.2:Int)]) S37 0 rfl rfl kr_ kr_ kr_ rfl (by simp [Value.oneCell']) (Nat.le_of_ble_eq_true kr_) (L':=[row g34 #[iv ((newestF (s.now 1) (s.now 3)).1:Int),iv ((newestF (s.now 1) (s.now 3)).2.1:Int),.slice Aq30 ((newestF (s.now 1) (s.now 3)).2.2.1.length) cq31,iv ((newestF (s.now 1) (s.now 3)).2.2.2:Int)] 81,bytesX (.slice Aq30 (newestF (s.now 1) (s.now 3)).2.2.1.length cq31) (newestF (s.now 1) (s.now 3)).2.2.1,bytesA (.slice A132 512 512) (s.now 1),bytesA (.slice A333 512 512) (s.now 3),row g13 #[pq gd2,iv (su.1:Int),iv (su.2.1:Int),.slice AS su.2.2.1.length cS,iv (su.2.2.2:Int),iv (ma.1:Int),iv (ma.2.1:Int),.slice AM ma.2.2.1.length cM,iv (ma.2.2.2:Int),.bool op] 84,PW gd2 s,stars (RX.map datD)]) rfl (fun w38 S39=> ?_)))))))⟩
  refine pv (.slice A132 512 512) (pv (.slice A333 512 512) (wE ?_))
  refine nS ?_
  have hl4:(newestF (s.now 1) (s.now 3)).2.2.1.length≤504:=newest_len _ _ (hI.ok.now om_) (hI.ok.now om_)
  refine wp_region_phu (γ:=Unit) 7 [5] (fun (c_:Unit) (i_:Nat)=>(match i_ with|0=>.agg #[iv ((newestF (s.now 1) (s.now 3)).1:Int),iv ((newestF (s.now 1) (s.now 3)).2.1:Int),.slice Aq30 ((newestF (s.now 1) (s.now 3)).2.2.1.length) cq31,iv ((newestF (s.now 1) (s.now 3)).2.2.2:Int)]|1=>pq g13|2=>pq g13|3=>po g13 5|4=>.agg #[iv (ma.1:Int),iv (ma.2.1:Int),.slice AM ma.2.2.1.length cM,iv (ma.2.2.2:Int)]|5=>.bool true|6=>.bool false|_=>undef:Value)) (fun (c_:Unit) (p_:Nat) (w_:World)=>(match p_ with|0=>St none' w w_ [row g34 #[iv ((newestF (s.now 1) (s.now 3)).1:Int),iv ((newestF (s.now 1) (s.now 3)).2.1:Int),.slice Aq30 ((newestF (s.now 1) (s.now 3)).2.2.1.length) cq31,iv ((newestF (s.now 1) (s.now 3)).2.2.2:Int)] 81,bytesX (.slice Aq30 (newestF (s.now 1) (s.now 3)).2.2.1.length cq31) (newestF (s.now 1) (s.now 3)).2.2.1,bytesA (.slice A132 512 512) (s.now 1),bytesA (.slice A333 512 512) (s.now 3),row g13 #[pq gd2,iv (su.1:Int),iv (su.2.1:Int),.slice AS su.2.2.1.length cS,iv (su.2.2.2:Int),iv (ma.1:Int),iv (ma.2.1:Int),.slice AM ma.2.2.1.length cM,iv (ma.2.2.2:Int),.bool op] 84,PW gd2 s,stars (RX.map datD)]|_=>St none' w w_ [row g34 #[iv ((newestF (s.now 1) (s.now 3)).1:Int),iv ((newestF (s.now 1) (s.now 3)).2.1:Int),.slice Aq30 ((newestF (s.now 1) (s.now 3)).2.2.1.length) cq31,iv ((newestF (s.now 1) (s.now 3)).2.2.2:Int)] 81,bytesX (.slice Aq30 (newestF (s.now 1) (s.now 3)).2.2.1.length cq31) (newestF (s.now 1) (s.now 3)).2.2.1,bytesA (.slice A132 512 512) (s.now 1),bytesA (.slice A333 512 512) (s.now 3),row g13 #[pq gd2,iv (su.1:Int),iv (su.2.1:Int),.slice AS su.2.2.1.length cS,iv (su.2.2.2:Int),iv (ma.1:Int),iv (ma.2.1:Int),.slice AM ma.2.2.1.length cM,iv (ma.2.2.2:Int),.bool op] 84,PW gd2 s,stars (RX.map datD)]:Prop)) () kr_ kr_ kr_ kr_ (S39.drew) ?_ ?_ ?_
  ·intro i_ c_ p_ vals_ w1 hi_ hiE_ hp_ hk_ hu_ hPh_ hd_
   rcases i_ with _|_|_|_|_|_|_|i_
   ·rcases p_ with _|_|p_
    ·have S40:=St.id hPh_
     exact tG_ rfl hd_ (gv_ldA (k:=0) (n:=4) (vs:=[iv ((newestF (s.now 1) (s.now 3)).1:Int),iv ((newestF (s.now 1) (s.now 3)).2.1:Int),.slice Aq30 ((newestF (s.now 1) (s.now 3)).2.2.1.length) cq31,iv ((newestF (s.now 1) (s.now 3)).2.2.2:Int)]) S40 0 rfl rfl kr_ kr_ rfl rfl ⟨rfl,rfl⟩)
    ·exact absurd (hu_ 0 dc_ kr_) dc_
    ·exact absurd hp_ (by simp)
   ·exact tG_ rfl hd_ (gV (pq g13) ⟨rfl,rfl⟩)
   ·exact tG_ rfl hd_ (gV (pq g13) ⟨rfl,rfl⟩)
   ·exact tG_ rfl hd_ (gV (po g13 5) ⟨rfl,rfl⟩)
   ·rcases p_ with _|_|p_
    ·have S44:=St.id hPh_
     exact tG_ rfl hd_ (gv_ldA (k:=5) (n:=4) (vs:=[iv (ma.1:Int),iv (ma.2.1:Int),.slice AM ma.2.2.1.length cM,iv (ma.2.2.2:Int)]) S44 4 rfl rfl kr_ kr_ rfl rfl ⟨rfl,rfl⟩)
    ·exact absurd (hu_ 0 dc_ kr_) dc_
    ·exact absurd hp_ (by simp)
   ·exact absurd hiE_ dc_
   ·exact tG_ rfl hd_ (gV (.bool false) ⟨rfl,rfl⟩)
   ·exact absurd hi_ om_
  ·intro k_ c_ vals_ w1 hk_ hPh_ hd_
   rcases k_ with _|k_
   ·have S46:=St.id hPh_
    refine tG_ rfl hd_ (gv_call (args:=#[.agg #[iv ((newestF (s.now 1) (s.now 3)).1:Int),iv ((newestF (s.now 1) (s.now 3)).2.1:Int),.slice Aq30 ((newestF (s.now 1) (s.now 3)).2.2.1.length) cq31,iv ((newestF (s.now 1) (s.now 3)).2.2.2:Int)],.agg #[iv (ma.1:Int),iv (ma.2.1:Int),.slice AM ma.2.2.1.length cM,iv (ma.2.2.2:Int)]]) rfl Try.func53 kr_ rfl rfl kr_ (Calls.mono (alike_all (x:=(newestF (s.now 1) (s.now 3)).2.2.1) (y:=ma.2.2.1) (t:=true) S46 rfl rfl (RoT.bytesX 1 rfl rfl) (rot_dat 6 rfl hb.mm) om_ om_ (decide_eq_true (told_eq hI.tells))) ?_))
    rintro _ w47 ⟨rfl,S48⟩
    refine ⟨_,rfl,⟨(),rfl, ?_,S48⟩⟩
    intro i_ hi_ hne_ hdp_
    rcases i_ with _|_|_|_|_|_|_|i_
    ·rfl
    ·rfl
    ·rfl
    ·rfl
    ·rfl
    ·exact absurd rfl hne_
    ·exact dN_ hdp_
    ·exact absurd hi_ om_
   ·exact absurd hk_ (by simp)
  ·intro c_ w1 hPh_
   have S49:=St.id hPh_
   refine wE ?_
   refine nCF (wp_skip (inb_n (nR (pv (nI_ i) (gI .i64 (IntKind.i64.wrap (((i:Nat):Int)+1)) ((i+1:Nat):Int) wq_ (pv (nI_ (i+1)) (wE (then_n ?_))))))))
   have S50:=St.pm 7 [4,5,6] S49
   have S51:St none' w w1 [PBen g13 (i+1)]:=St.bec (p:=⟨gd2,s,su,ma,op,AS,AM,cS,cM,RX⟩) hb S50
   exact ⟨i+1,(jE_ ⟨S51,(by show i+1≤ops.length;omega)⟩),(by show ops.length-(i+1)<ops.length-i;omega)⟩
 ·exact wE (nCF (wp_exit (then_x (then_x (inb_x (nSR (pv tv (wE (then_n (wp_ret (bA (.bool true) ⟨rfl,S23.fr.below⟩)))))))))))
end
end Go.Proofs
end
section
open Go Go.RowKit Go.Deep Go.Proofs.YtgeioealgidkiaaW.PrintWords Go.Proofs.YtgeioealgidkiaaW.PrintMore
namespace Go.Vel
section
def Opens {H:Type}(enc:TypeId×Value→H)(P:Program)(W:World)(t:TypeId){α:Type}(d:Kd α)(Q:α→Prop):Prop:=
 ∀fuel cs x,DataW.trod enc P W 0 (fun _=>true) true fuel t cs=some x→(∀n∈x.1.weights P t,n≤reachBytes)→∃a,d.K W a cs∧Q a
section
variable {H:Type}{enc:TypeId×Value→H}{P:Program}{W:World}{α:Type}
theorem Opens.bool {t:TypeId}(ht:P.underlying t=some .bool):Opens enc P W t Kd.bool (fun _=>True):=by
 intro fuel cs x h _
 obtain ⟨n,e,_⟩:=DataW.trod_bool ht h
 exact ⟨n,e,trivial⟩
theorem Opens.mono {t:TypeId}{d:Kd α}{Q Q':α→Prop}(h:Opens enc P W t d Q)(hq:∀a,Q a→Q' a):Opens enc P W t d Q':=fun fuel cs x hx hw=>by
 obtain ⟨a,h1,h2⟩:=h fuel cs x hx hw
 exact ⟨a,h1,hq a h2⟩
theorem add_add (a:Addr)(i j:Nat):(a.add i).add j=a.add (i+j):=by
 unfold Addr.add
 by_cases h0:i=0
 ·subst h0;simp
 ·by_cases h1:j=0
  ·subst h1;simp
  ·have h2:¬(i+j=0):=by omega
   simp only [h0,h1,h2,if_false,Nat.add_assoc]
theorem weightsAll_mem {e:TypeId}:∀{ds:List (DataW H)} {d:DataW H},d∈ds→∀n∈d.weights P e,n∈DataW.weightsAll P e ds
 |[],_,h=>by cases h
 |x::r,d,h=>fun n hn=>by
  unfold DataW.weightsAll
  rcases List.mem_cons.1 h with rfl|h
  ·exact List.mem_append_left _ hn
  ·exact List.mem_append_right _ (weightsAll_mem h n hn)
theorem Opens.slice [Inhabited α]{t e:TypeId}{d:Kd α}{Q:α→Prop}{B:Nat}(ht:P.underlying t=some (.slice e))(hd:Opens enc P W e d Q)(hsz:d.sz=P.cellsOf e)(hB:P.bytesOf e=B):Opens enc P W t (Kd.slice e d) (fun xs=>xs.length≤maxLen∧xs.length*B≤reachBytes∧∀x∈xs,Q x):=by
 intro fuel cs x h hw
 rcases open_slice ht h with ⟨rfl,_⟩|⟨a,len,cap,m,n,D,Pl,rfl,_,hl,hm,hmm,hx,he⟩
 ·exact ⟨[],⟨none,0,rfl,Nat.le_refl _,rfl,Nat.zero_le _,fun h=>absurd h (Nat.lt_irrefl 0)⟩,Nat.zero_le _,by simp,fun x hx=>by cases hx⟩
 ·rw [if_pos rfl] at hmm
  subst hmm
  have hw1:∀n∈((((List.range len).map D).length*P.bytesOf e+((List.range (m-len)).map fun j=>D (len+j)).length*P.bytesOf e)::(DataW.weightsAll P e ((List.range len).map D)++DataW.weightsAll P e ((List.range (m-len)).map fun j=>D (len+j))):List Nat),n≤reachBytes:=by
   rw [hx] at hw
   simp only [DataW.weights,ht] at hw
   rw [Nat.add_mul] at hw
   exact hw
  have hfirst:=hw1 _ List.mem_cons_self
  have hex:∀i,i<len→∃y:α,∃cs',W.cells? 0 (a.add (i*P.cellsOf e)) (P.cellsOf e)=some cs'∧d.K W y cs'∧Q y:=by
   intro i hi
   obtain ⟨cs',h1,h2⟩:=he i om_
   obtain ⟨y,h3,h4⟩:=hd _ _ _ h2 (fun n hn=>hw1 n (List.mem_cons_of_mem _ (List.mem_append_left _ (weightsAll_mem (d:=D i) (List.mem_map.2 ⟨i,List.mem_range.2 hi,rfl⟩) n hn))))
   exact ⟨y,cs',h1,h3,h4⟩
  obtain ⟨f,hf⟩:=choose_lt hex
  have hlen:((List.range len).map f).length=len:=by simp
  have hmx:maxLen≤9223372036854775807:=by decide
  refine ⟨(List.range len).map f,⟨some a,m,by rw [hlen],by rw [hlen];exact hl,rfl,by rw [hlen];omega,fun _=>⟨a,rfl,fun j p hp=> ?_⟩⟩,by rw [hlen];omega, ?_, ?_⟩
  ·have hj:j<len:=by
    have:=(List.getElem?_eq_some_iff.1 hp).1
    rwa [hlen] at this
   rw [List.getElem?_map,List.getElem?_range hj] at hp
   simp only [Option.map_some,Option.some.injEq] at hp
   subst hp
   obtain ⟨cs',h1,h2,_⟩:=hf j hj
   obtain ⟨_,hl2,hc⟩:=World.cells?_some h1
   refine ⟨cs',by rw [hl2,hsz],h2,fun i u hu=> ?_⟩
   have hi:i<P.cellsOf e:=by
    have:=(List.getElem?_eq_some_iff.1 hu).1
    omega
   have:=hc i hi
   rw [hu,add_add] at this
   rw [hsz];exact this
  ·rw [hlen,←hB]
   simp only [List.length_map,List.length_range] at hfirst
   exact Nat.le_trans (Nat.le_add_right _ _) hfirst
  ·intro x hx
   obtain ⟨i,hi,rfl⟩:=List.mem_map.1 hx
   obtain ⟨_,_,_,hq⟩:=hf i (List.mem_range.1 hi)
   exact hq
end
end
end Go.Vel
end
section
open Go Go.RowKit Go.Deep Go.Proofs.YtgeioealgidkiaaW.PrintWords
namespace Go.Vel
/-- Whatever is read as type t has cells of which Q holds. -/
def Opn {H : Type} (enc : TypeId × Value → H) (P : Program) (W : World) (t : TypeId) (Q : List Value → Prop) : Prop :=
  ∀ fuel cs x, DataW.trod enc P W 0 (fun _ => true) true fuel t cs = some x → (∀ n ∈ x.1.weights P t, n ≤ reachBytes) → Q cs
theorem flatten_get {sz : Nat} : ∀ {els : List (List Value)} {j : Nat} {u : Value}, (∀ e ∈ els, e.length = sz) → els.flatten[j]? = some u → ∃ i r e, j = i * sz + r ∧ els[i]? = some e ∧ e[r]? = some u
  | [], j, u, _, h => by simp at h
  | e :: l, j, u, hl, h => by
    have he := hl e List.mem_cons_self
    rw [List.flatten_cons] at h
    by_cases hj : j < e.length
    · rw [List.getElem?_append_left hj] at h
      exact ⟨0, j, e, by rw [Nat.zero_mul, Nat.zero_add], rfl, h⟩
    · rw [List.getElem?_append_right (by omega)] at h
      obtain ⟨i, r, e', h1, h2, h3⟩ := flatten_get (fun y hy => hl y (List.mem_cons_of_mem _ hy)) h
      exact ⟨i + 1, r, e', by rw [Nat.add_mul, Nat.one_mul]; omega, by simpa using h2, h3⟩
theorem all_map {α : Type} {f : α → List Value} {Q : α → Prop} : ∀ {els : List (List Value)}, (∀ e ∈ els, ∃ a, e = f a ∧ Q a) → ∃ l : List α, els = l.map f ∧ ∀ a ∈ l, Q a
  | [], _ => ⟨[], rfl, fun a h => by cases h⟩
  | e :: r, h => by
    obtain ⟨a, rfl, ha⟩ := h e List.mem_cons_self
    obtain ⟨l, rfl, hl⟩ := all_map fun y hy => h y (List.mem_cons_of_mem _ hy)
    exact ⟨a :: l, rfl, fun b hb => (List.mem_cons.1 hb).elim (fun e => e ▸ ha) (hl b)⟩
section
variable {H : Type} {enc : TypeId × Value → H} {P : Program} {W : World}
theorem Opn.int {t : TypeId} {k : IntKind} (ht : P.underlying t = some (.int k)) : Opn enc P W t (fun cs => ∃ n, cs = [.int k n] ∧ (Lit.int k n).wf = true) := by
  intro fuel cs x h _
  obtain ⟨n, e, _, hw⟩ := DataW.trod_int ht h
  exact ⟨n, e, hw⟩
/-- What a list's cell says. -/
def LstQ (W : World) (B : Nat) (Q : List Value → Prop) (cs : List Value) : Prop := ∃ (A : Option Addr) (c : Nat) (els : List (List Value)), cs = [.slice A els.length c] ∧ els.length ≤ c ∧ els.length ≤ maxLen ∧ els.length * B ≤ reachBytes ∧ (∀ e ∈ els, Q e) ∧ RdV W A els.flatten
theorem Opn.slice {t e : TypeId} {Q : List Value → Prop} {B : Nat} (ht : P.underlying t = some (.slice e)) (hd : Opn enc P W e Q) (hB : P.bytesOf e = B) : Opn enc P W t (LstQ W B Q) := by
  intro fuel cs x h hw
  rcases open_slice ht h with ⟨rfl, _⟩ | ⟨a, len, cap, m, n, D, Pl, rfl, _, hl, hm, hmm, hx, he⟩
  · exact ⟨none, 0, [], rfl, Nat.le_refl _, Nat.zero_le _, by simp, fun x hx => (by cases hx), fun h => absurd h (Nat.lt_irrefl 0)⟩
  · rw [if_pos rfl] at hmm
    subst hmm
    have hw1 : ∀ n ∈ ((((List.range len).map D).length * P.bytesOf e + ((List.range (m - len)).map fun j => D (len + j)).length * P.bytesOf e) :: (DataW.weightsAll P e ((List.range len).map D) ++ DataW.weightsAll P e ((List.range (m - len)).map fun j => D (len + j))) : List Nat), n ≤ reachBytes := by
      rw [hx] at hw
      simp only [DataW.weights, ht] at hw
      rw [Nat.add_mul] at hw
      exact hw
    have hfirst := hw1 _ List.mem_cons_self
    have hex : ∀ i, i < len → ∃ cs', W.cells? 0 (a.add (i * P.cellsOf e)) (P.cellsOf e) = some cs' ∧ Q cs' := by
      intro i hi
      obtain ⟨cs', h1, h2⟩ := he i (by omega)
      exact ⟨cs', h1, hd _ _ _ h2 (fun n hn => hw1 n (List.mem_cons_of_mem _ (List.mem_append_left _ (weightsAll_mem (d := D i) (List.mem_map.2 ⟨i, List.mem_range.2 hi, rfl⟩) n hn))))⟩
    obtain ⟨f, hf⟩ := choose_lt hex
    have hlen : ((List.range len).map f).length = len := by simp
    have hmx : maxLen ≤ 9223372036854775807 := by decide
    have hget : ∀ i e', ((List.range len).map f)[i]? = some e' → i < len ∧ f i = e' := fun i e' hi => by
      have hj : i < len := by
        have := (List.getElem?_eq_some_iff.1 hi).1
        rwa [hlen] at this
      rw [List.getElem?_map, List.getElem?_range hj] at hi
      exact ⟨hj, by simpa using hi⟩
    refine ⟨some a, m, (List.range len).map f, by rw [hlen], by rw [hlen]; exact hl, by rw [hlen]; omega, ?_, ?_, fun _ => ⟨a, rfl, fun j u hu => ?_⟩⟩
    · rw [hlen, ← hB]
      simp only [List.length_map, List.length_range] at hfirst
      exact Nat.le_trans (Nat.le_add_right _ _) hfirst
    · intro x hx
      obtain ⟨i, hi, rfl⟩ := List.mem_map.1 hx
      exact (hf i (List.mem_range.1 hi)).2
    · have hall : ∀ y ∈ (List.range len).map f, y.length = P.cellsOf e := fun y hy => by
        obtain ⟨i, hi, rfl⟩ := List.mem_map.1 hy
        exact (World.cells?_some (hf i (List.mem_range.1 hi)).1).2.1
      obtain ⟨i, r, e', rfl, h2, h3⟩ := flatten_get hall hu
      obtain ⟨hi, rfl⟩ := hget i e' h2
      obtain ⟨_, hl2, hc⟩ := World.cells?_some (hf i hi).1
      have hr : r < P.cellsOf e := by have := (List.getElem?_eq_some_iff.1 h3).1; omega
      have := hc r hr
      rw [h3, add_add] at this
      exact this
/-- A field of one cell. -/
theorem Opn.field {fs : Array Field} {t : TypeId} {fuel : Nat} {cs : List Value} {x : DataW H × List MemPlace} {Q : List Value → Prop} (ht : P.underlying t = some (.struct fs)) (h : DataW.trod enc P W 0 (fun _ => true) true fuel t cs = some x) (hw : ∀ n ∈ x.1.weights P t, n ≤ reachBytes) (i : Nat) {f : Field} (hf : fs[i]? = some f) (ho : f.offset = i) (hc : P.cellsOf f.type = 1) (hd : Opn enc P W f.type Q) : Q ((cs.drop i).take 1) := by
  obtain ⟨xs, n, _, hx, _, hl, hh⟩ := DataW.trod_struct ht h
  have h1 := hh i f hf
  have hi : i < xs.length := by
    rw [hl]
    have := (Array.getElem?_eq_some_iff.1 hf).1
    exact this
  rw [ho, hc, List.getElem?_eq_getElem hi] at h1
  refine hd _ _ _ h1 (fun n hn => hw n ?_)
  rw [hx]
  simp only [DataW.weights, ht]
  refine DataW.weights_mem_each (j := i) (t := f.type) (d := xs[i].1) ?_ ?_ n hn
  · rw [List.getElem?_map, Array.getElem?_toList, hf]; rfl
  · rw [List.getElem?_map, List.getElem?_eq_getElem hi]; rfl
theorem Opn.row {t : TypeId} {Q : List Value → Prop} {v : Value} {D : DataW H} {p : List MemPlace} (ho : Opn enc P W t Q) (h : DataW.Trod enc P W 0 (fun _ => true) true t v D p) (hw : ∀ n ∈ D.weights P t, n ≤ reachBytes) : Q v.cells.toList := by
  obtain ⟨fuel, hf⟩ := h
  exact ho _ _ _ hf hw
end
theorem flat_one : ∀ l : List UInt8, (l.map (fun b : UInt8 => [bv b])).flatten = l.map bv
  | [] => rfl
  | x :: r => by rw [List.map_cons, List.flatten_cons, flat_one r]; rfl
theorem lst_bytes {W : World} {Q : List Value → Prop} {cs : List Value} (h : LstQ W 1 Q cs) (hq : ∀ e, Q e → ∃ n, e = [.int .u8 n] ∧ (Lit.int .u8 n).wf = true) : ∃ A c, ∃ b : List UInt8, cs = [.slice A b.length c] ∧ b.length ≤ c ∧ b.length ≤ 140737488351232 ∧ RdB W A b := by
  obtain ⟨A, c, els, rfl, h1, _, h3, h4, h5⟩ := h
  obtain ⟨l, rfl, _⟩ := all_map (f := fun b : UInt8 => [bv b]) (Q := fun _ => True) (els := els) (fun e he => by
    obtain ⟨n, rfl, hn⟩ := hq e (h4 e he)
    refine ⟨UInt8.ofNat n.toNat, ?_, trivial⟩
    simp [Lit.wf, IntKind.min, IntKind.max, IntKind.signed, IntKind.bits] at hn
    simp only [bv, UInt8.toNat_ofNat']
    rw [Nat.mod_eq_of_lt (by omega)]
    congr 2; omega)
  rw [List.length_map] at h1 h3 ⊢
  have hrb : reachBytes = 140737488351232 := by decide
  rw [flat_one] at h5
  exact ⟨A, c, l, rfl, h1, by omega, fun h0 => h5 (by rw [List.length_map]; exact h0)⟩
end Go.Vel
namespace Go.Proofs
open Go.Vel
set_option maxRecDepth 100000
section
variable {H : Type} {enc : TypeId × Value → H} {W : World}
theorem opnBytes : Opn enc Try.prog W 31 (LstQ W 1 fun cs => ∃ n, cs = [.int .u8 n] ∧ (Lit.int .u8 n).wf = true) := Opn.slice Try.underlying31 (Opn.int Try.underlying5) (by kernel_rfl)
end
end Go.Proofs
end
section
open Go Go.RowKit Go.Proofs.YtgeioealgidkiaaW.PrintWords Go.Proofs.YtgeioealgidkiaaW.PrintMore
namespace Go.Proofs
open Go.Vel
set_option linter.unusedVariables false
set_option maxRecDepth 100000
set_option maxHeartbeats 4000000
attribute [local irreducible] gives wpList Code.wp
section
structure RingI (i n T H:Nat)(s:Dsk):Prop where
 core:∃R low Y,Core s n 2 T Y H H R low
 left:s.left= -1
 h:H≤17*i
 life:s.life=3
theorem FrN.core {n:Nat}{s:Dsk}(h:FrN n s 8589934592)(hp:s.pend=[])(h1:18≤n)(h2:n≤256):Core s n 2 0 0 0 0 [] 0:=by
 have hpc:∀k,k<n→pcF (s.lst (2+k))=pcNo:=fun k hk=>by rw [←now_lst hp,h.ring _ om_ om_];exact pc_zero
 obtain ⟨x,hx⟩:=h.pair
 refine ⟨⟨h1,h2⟩,h.len,Sgl.nil hp,by omega,(by rw [hp];intro y hy;cases hy),⟨x,by rw [←now_lst hp,←now_lst hp];exact hx⟩,fun k hk=> ?_,.nil,Nat.le_refl _,.nil⟩
 rw [hpc k hk]
 exact ⟨Nat.zero_le _,fun e=>absurd (show (0:Nat)=2 from e) dc_⟩
theorem RingI.next {i n T H:Nat}{s:Dsk}(h:RingI i n T H s):RingI (i+1) n T H s:=⟨h.core,h.left,by have:=h.h;omega,h.life⟩
section
variable {F:Nat→Prop}{w0 w:World}{L:List Ast}{gl gd i n T H:Nat}{s:Dsk}
end
end
section
theorem RoL.take {F:Nat→Prop}{w0:World}{L:List Ast}{A:Option Addr}{R:List RecV}(h:RoL F w0 L A R)(m:Nat):RoL F w0 L A (R.take m):=
 ⟨⟨fun w' L' S h0=>by
  have h1:0<(R.map (·.1)).length:=by rw [List.length_map] at h0 ⊢;rw [List.length_take] at h0;omega
  obtain ⟨ad,e,q⟩:=h.vs.out w' L' S h1
  refine ⟨ad,e,fun j u hu=>q j u ?_⟩
  rw [List.map_take,List.getElem?_take] at hu
  split at hu
  ·exact hu
  ·cases hu⟩,fun x hx=>h.el x (List.mem_of_mem_take hx)⟩
structure PBk where
 gd:Nat
 gl:Nat
 gb:Nat
 v:Value
 RV:List RecV
 XS:List RecV
 s:Dsk
 l:Lg
 low:Nat
 nn:Bool
def PBk.parts (gp n:Nat)(p:PBk):List Ast:=[row gp #[.pointer (some ⟨p.gd,0,none⟩),.pointer (some ⟨p.gl,0,none⟩),.int .i64 (n:Nat),.pointer (some ⟨p.gb,0,none⟩)] 123,row p.gb #[p.v,.int .i64 (p.low:Nat),.bool p.nn] 121,vec 31 1 p.v (p.RV++p.XS).length ((p.RV++p.XS).map (·.1)),stars (p.RV.map recD),PLog p.gl p.gd p.l,PW p.gd p.s]
def XOk (F:Nat→Prop)(w0:World)(XS:List RecV):Prop:=∀x∈XS,∃B c,x.1=.slice B x.2.length c∧(∀L,RoT F w0 L B x.2)∧x.2.length≤140737488355328
structure PBok (F:Nat→Prop)(w0:World)(k n:Nat)(p:PBk):Prop where
 xs:XOk F w0 p.XS
 rv:∀x∈p.RV,1≤x.2.length∧x.2.length≤8364
 len:(p.RV++p.XS).length≤256+k
 lo:p.low≤256+k
 lf:p.l.life≤p.s.life
section
variable {F:Nat→Prop}{w0 w:World}{L:List Ast}{gp k n:Nat}
theorem PBok.next {p:PBk}(h:PBok F w0 k n p):PBok F w0 (k+1) n p:=⟨h.xs,h.rv,by have:=h.len;omega,by have:=h.lo;omega,h.lf⟩
end
end
section
structure OpY where
 g:Nat
 A:Option Addr
 c:Nat
 m:Nat
def OpY.zero:OpY:=⟨0,none,0,0⟩
section
variable {F:Nat→Prop}{w0 w:World}{L:List Ast}{gd gp k n:Nat}{B:List (List UInt8)}{low:Nat}{nn:Bool}
end
end
section
section
variable {k n low:Nat}{s:Dsk}{l:Lg}{nn:Bool}
end
structure OpE where
 kind:Int
 a:Int
 b:Int
 A:Option Addr
 d:List UInt8
 cd:Nat
 A2:Option Addr
 ps:List Pick
 cq:Nat
def OpE.cells (o:OpE):List Value:=[.int .i64 o.kind,.int .i64 o.a,.int .i64 o.b,.slice o.A o.d.length o.cd,.slice o.A2 o.ps.length o.cq]
end
end Go.Proofs
end
section
open Go Go.RowKit Go.Deep Go.Proofs.YtgeioealgidkiaaW.PrintWords
namespace Go.Proofs
open Go.Vel
set_option maxRecDepth 100000
section
theorem flat_picks (l:List Pick):(l.map pickCells).flatten=picksV l:=by unfold picksV;rw [List.flatMap_def]
section
variable {H:Type}{enc:TypeId×Value→H}{W:World}
theorem opnPick:Opn enc Try.prog W 145 (fun cs=>∃p:Pick,cs=pickCells p∧True):=by
 intro fuel cs x h hw
 obtain ⟨_,_,_,_,hl,_,_⟩:=DataW.trod_struct Try.underlying145 h
 have h4:Try.prog.cellsOf 145=3:=by kernel_rfl
 rw [h4] at hl
 obtain ⟨n0,k0,_⟩:=Opn.field Try.underlying145 h hw 0 rfl rfl kr_ (Opn.int Try.underlying3)
 obtain ⟨n1,k1,_⟩:=Opn.field Try.underlying145 h hw 1 rfl rfl kr_ (Opn.int Try.underlying3)
 obtain ⟨n2,k2,_⟩:=Opn.field Try.underlying145 h hw 2 rfl rfl kr_ (Opn.int Try.underlying3)
 match cs,hl with
 |[v0,v1,v2],_=>
  simp at k0 k1 k2
  subst k0 k1 k2
  exact ⟨(n0,n1,n2),rfl,trivial⟩
theorem opnPicks:Opn enc Try.prog W 48 (LstQ W 24 fun cs=>∃p:Pick,cs=pickCells p∧True):=Opn.slice Try.underlying48 opnPick kr_
end
end
section
section
variable {H:Type}{enc:TypeId×Value→H}{W:World}
theorem opnBeat:Opn enc Try.prog W 87 (fun cs=>∃o:BtE,cs=o.cells∧o.Ok W):=by
 intro fuel cs x h hw
 obtain ⟨_,_,_,_,hl,_,_⟩:=DataW.trod_struct Try.underlying87 h
 have h4:Try.prog.cellsOf 87=4:=by kernel_rfl
 rw [h4] at hl
 obtain ⟨n0,k0,w0⟩:=Opn.field Try.underlying87 h hw 0 rfl rfl kr_ (Opn.int Try.underlying3)
 obtain ⟨n1,k1,w1⟩:=Opn.field Try.underlying87 h hw 1 rfl rfl kr_ (Opn.int Try.underlying3)
 obtain ⟨A2,c2,b,k3,i2,m2,r2⟩:=lst_bytes (Opn.field Try.underlying87 h hw 2 rfl rfl kr_ opnBytes) (fun e he=>he)
 obtain ⟨A3,c3,els,k4,_,_,m3,q3,r3⟩:=Opn.field Try.underlying87 h hw 3 rfl rfl kr_ opnPicks
 obtain ⟨ps,rfl,_⟩:=all_map q3
 rw [List.length_map] at k4 m3
 have hrb:reachBytes=140737488351232:=by decide
 have hw1:n1≤9223372036854775807:=by
  simp [Lit.wf,IntKind.min,IntKind.max,IntKind.signed,IntKind.bits] at w1;omega
 match cs,hl with
 |[v0,v1,v2,v3],_=>
  simp at k0 k1 k3 k4
  subst k0 k1 k3 k4
  exact ⟨⟨n0,n1,A2,b,c2,A3,ps,c3⟩,rfl,⟨r2,by rw [flat_picks] at r3;exact r3,by show b.length≤_;omega,by show ps.length*24≤_;omega,hw1⟩⟩
theorem flat_beats (l:List BtE):(l.map BtE.cells).flatten=btV l:=by unfold btV;rw [List.flatMap_def]
theorem opnBeats:Opn enc Try.prog W 78 (LstQ W 64 fun cs=>∃o:BtE,cs=o.cells∧o.Ok W):=Opn.slice Try.underlying78 opnBeat kr_
theorem open_beats {A:Option Addr}{n c:Nat}{D:DataW H}{p:List MemPlace}(h:DataW.Trod enc Try.prog W 0 (fun _=>true) true 78 (.slice A n c) D p)(hw:∀n∈D.weights Try.prog 78,n≤reachBytes):
  ∃ops:List BtE,n=ops.length∧RdV W A (btV ops)∧ops.length≤2199023255552∧∀o∈ops,o.Ok W:=by
 obtain ⟨A',c',els,e,_,_,hm,hq,hr⟩:=Opn.row opnBeats h hw
 obtain ⟨ops,rfl,ho⟩:=all_map hq
 simp [Value.cells] at e
 obtain ⟨rfl,rfl,rfl⟩:=e
 rw [List.length_map] at hm
 have hrb:reachBytes=140737488351232:=by decide
 exact ⟨ops,rfl,by rw [flat_beats] at hr;exact hr,by omega,ho⟩
end
end
end Go.Proofs
end
