/- Part 5 of 6 of what the proof stands on: the words, the laws of the walk, the walks, the plain laws; each section is one text. -/
import Derived.Test.YtgelippmcflppaaGreatM4
section
open Go Go.RowKit Go.Proofs.YtgelippmcflppaaGreatW.PrintWords Go.Proofs.YtgelippmcflppaaGreatW.PrintMore
namespace Go.Proofs
open Go.Vel
set_option linter.unusedVariables false
set_option maxRecDepth 100000
set_option maxHeartbeats 4000000
attribute [local irreducible] gives wpList Code.wp
section
variable {F:Nat→Prop} {w0 w:World} {L:List Ast}
theorem bits_and_low (n:Nat)(hn:n≤9223372036854775807):bits .and .i64 ((n:Nat):Int) 4294967295=((n%4294967296:Nat):Int):=by
 show IntKind.i64.wrap ((BitVec.ofInt 64 ((n:Nat):Int)&&&BitVec.ofInt 64 4294967295).toNat:Int)=_
 rw [BitVec.toNat_and]
 have f1:(BitVec.ofInt 64 ((n:Nat):Int)).toNat=n:=by rw [BitVec.toNat_ofInt];omega
 have f2:(BitVec.ofInt 64 4294967295).toNat=2^32-1:=by decide
 rw [f1,f2,Nat.and_two_pow_sub_one_eq_mod,IntKind.wrap_i64]
 omega
theorem ps_newest0 (S:St F w0 w L){A B:Option Addr}{a b:List UInt8}{m n ca cb:Nat}(hm0:m=a.length)(hn0:n=b.length)(ha:RoT F w0 L A a)(hb:RoT F w0 L B b)(hma:a.length≤512)(hmb:b.length≤512):Calls Tryz.prog 91 #[.slice A m ca,.slice B n cb] w fun e w'=>∃A c,e=.returned (.tuple #[.int .i64 ((newestF a b).1:Int),.int .i64 ((newestF a b).2.1:Int),.slice A (newestF a b).2.2.1.length c,.int .i64 ((newestF a b).2.2.2:Int)])∧St F w0 w' (bytesX (.slice A (newestF a b).2.2.1.length c) (newestF a b).2.2.1::L):=by
 subst hm0 hn0
 refine (ps_newest S ha hb om_ om_).mono fun e w' h=> ?_
 obtain ⟨v,rfl,S2⟩:=h
 obtain ⟨A',c',rfl,_⟩:=St.bytesX_v S2
 exact ⟨A',c',rfl,S2⟩
theorem flush_live {s:Dsk}(hz:s.left≠0):s.flushR.2=0:=by
 rcases flushR_cases s with ⟨h,e⟩|⟨h,e⟩
 ·exact absurd h hz
 ·rw [e]
theorem pcAt_lt (s:Dsk)(f n p:Nat):(pcAt s f n p).epoch<4294967296∧(pcAt s f n p).pos<4294967296∧(pcAt s f n p).idx<4294967296∧(pcAt s f n p).cnt<4294967296:=pcF_lt _
theorem newR_some {s:Dsk}{f:Nat}(h:¬((newestF (s.now f) (s.now (f+1))).2.2.2≠0∨(newestF (s.now f) (s.now (f+1))).2.2.1≠[]∨(newestF (s.now f) (s.now (f+1))).2.1/4294967296<1∨1073741824<(newestF (s.now f) (s.now (f+1))).2.1/4294967296∨1073741824<(newestF (s.now f) (s.now (f+1))).2.1%4294967296)):newR s f=some ((newestF (s.now f) (s.now (f+1))).2.1/4294967296,(newestF (s.now f) (s.now (f+1))).2.1%4294967296):=by
 unfold newR;exact if_neg h
theorem newR_none {s:Dsk}{f:Nat}(h:(newestF (s.now f) (s.now (f+1))).2.2.2≠0∨(newestF (s.now f) (s.now (f+1))).2.2.1≠[]∨(newestF (s.now f) (s.now (f+1))).2.1/4294967296<1∨1073741824<(newestF (s.now f) (s.now (f+1))).2.1/4294967296∨1073741824<(newestF (s.now f) (s.now (f+1))).2.1%4294967296):newR s f=none:=by
 unfold newR;exact if_pos h
theorem w_open_args {gd:Nat}{s:Dsk}{first n:Int}(S:St F w0 w (PW gd s::L))(ha:argsR s first n≠0):Calls Tryz.prog 59 #[.pointer (some ⟨gd,0,none⟩),.int .i64 first,.int .i64 n] w fun e w'=>e=.returned (.tuple #[.pointer none,.slice none 0 0,.int .i64 (argsR s first n)])∧St F w0 w' (PW gd s::L):=by
 refine eN (fr [pq gd,iv first,iv n] 116) Tryz.func59 rfl (sR (pv pn (pv (nS_) (pv (iv 0) (wE (nS (sR (pv (pq gd) (pv (iv first) (pv (iv n) (sO Tryz.func50 #[pq gd,iv first,iv n] (w_place S 0 rfl) (pv (iv (argsR s first n)) (wER ?_)))))))))))))
 exact pv (iv (argsR s first n)) (dN (argsR s first n) 0 (fun _=>wE (nCT (sR (pv (iv (argsR s first n)) (pv pn (pv (nS_) (pv (iv (argsR s first n)) (wE (then_n (rR (bodyPost_ret (v:=.tuple #[pn,nS_,iv (argsR s first n)]) (Go.Vel.results_tmp3 rfl _ _ kr_ kr_ kr_) rfl ⟨rfl,S⟩))))))))))) fun hd1=>False.elim (ha hd1))
theorem w_open_go {gd:Nat}{s:Dsk}{first n:Int}(S:St F w0 w (PW gd s::L))(ha0:argsR s first n=0):Calls Tryz.prog 59 #[.pointer (some ⟨gd,0,none⟩),.int .i64 first,.int .i64 n] w fun e w'=>(newR s.take first.toNat=none∧e=.returned (.tuple #[.pointer none,.slice none 0 0,.int .i64 6])∧St F w0 w' (PW gd s.take::L))∨
  (∃(ep tl:Nat),newR s.take first.toNat=some (ep,tl)∧topTo (pcAt s.take first.toNat n.toNat) ep n.toNat=1073741824∧e=.returned (.tuple #[.pointer none,nS_,iv 41])∧St F w0 w' (PW gd s.take::L))∨
  (∃(ep tl gl:Nat) (v:Value) (RV:List RecV) (h:Nat),newR s.take first.toNat=some (ep,tl)∧topTo (pcAt s.take first.toNat n.toNat) ep n.toNat≠1073741824∧Recs (pcAt s.take first.toNat n.toNat) ep tl (RV.map (·.2)) h∧NoRec (pcAt s.take first.toNat n.toNat) ep h∧e=.returned (.tuple #[pq gl,v,iv 0])∧St F w0 w' (vec 22 1 v RV.length (RV.map (·.1))::stars (RV.map recD)::PLog gl gd ⟨first.toNat,n.toNat,inc s.life,ep,topTo (pcAt s.take first.toNat n.toNat) ep n.toNat,tl,h,false⟩::PW gd s.take.flushR.1::L)):=by
 have hok:=St.pw_ok S
 have hn2:=hok.n2
 obtain ⟨hz,hf0,hm18,hm256,hin⟩:=argsR_ok ha0
 obtain ⟨f,rfl⟩:∃f:Nat,first=(f:Int):=⟨first.toNat,by omega⟩
 obtain ⟨m,rfl⟩:∃m:Nat,n=(m:Int):=⟨n.toNat,by omega⟩
 simp only [Int.toNat_natCast]
 obtain ⟨s1,hs1⟩:∃s1,s.take=s1:=⟨_,rfl⟩
 have hz1:s1.left≠0:=by rw [←hs1];exact hz
 have hl1:s1.last=s.last:=by rw [←hs1];rfl
 have hok1:DOk s1:=by rw [←hs1];exact ⟨hok.len,hok.plen,hok.n1,hok.n2,hok.lb⟩
 rw [hs1]
 have ha5:=hok1.now (k:=f) (by rw [hl1];omega)
 have hb5:=hok1.now (k:=f+1) (by rw [hl1];omega)
 have hq63:=newest_lt (s1.now f) (s1.now (f+1))
 have hsome:=newR_some (s:=s1) (f:=f)
 have hnone:=newR_none (s:=s1) (f:=f)
 obtain ⟨q,hq⟩:∃q,newestF (s1.now f) (s1.now (f+1))=q:=⟨_,rfl⟩
 rw [hq] at hq63 hsome hnone
 refine eN (fr [pq gd,nI_ f,nI_ m] 116) Tryz.func59 rfl (sR (pv pn (pv (nS_) (pv (iv 0) (wE (nS (sR (pv (pq gd) (pv (nI_ f) (pv (nI_ m) (g_ (gv_call (args:=#[pq gd,nI_ f,nI_ m]) rfl Tryz.func50 kr_ rfl rfl kr_ ?_))))))))))))
 have hpl:=w_place (first:=((f:Nat):Int)) (n:=((m:Nat):Int)) S 0 rfl
 rw [ha0] at hpl
 refine Calls.mono hpl ?_
 rintro _ _ ⟨rfl,rfl⟩
 refine ⟨_,rfl,(pv (iv 0) (wER (pv (iv 0) (dN 0 0 (fun hd1=>False.elim om_) fun _=>wE (nCF (wp_skip (nSR (pv (pq gd) (pv (nI_ f) (pv (nI_ m) (pv (pq gd) (sP Tryz.func29 #[pq gd] (pw_take S) fun w2 S3=> ?_))))))))))))⟩
 rw [hs1] at S3
 refine pv (.agg #[pq gd,nI_ f,nI_ m,iv (inc s.life),iv 0,iv 0,iv 0,iv 0,fv]) (nB rfl (.agg #[pq gd,nI_ f,nI_ m,iv (inc s.life),iv 0,iv 0,iv 0,iv 0,.bool false]) S3 fun g4 w5 hg6 S7=>pv (pq g4) (wER (pv (pq g4) (sP2 Tryz.func87 #[pq g4] (w_pair (l:=⟨f,m,inc s.life,0,0,0,0,false⟩) S7 ⟨by show f≤2048;omega,by show 18≤m;omega,by show m≤256;omega,Nat.zero_le _,Nat.zero_lt_succ _,Nat.zero_le _⟩ hz1 (by show f+1<_;rw [hl1];omega)) fun A7 B7 w8 S9=> ?_))))
 change St F w0 w8 (bytesA (.slice A7 512 512) (s1.now f)::bytesA (.slice B7 512 512) (s1.now (f+1))::row g4 #[pq gd,nI_ f,nI_ m,iv (inc s.life),nI_ 0,nI_ 0,nI_ 0,nI_ 0,.bool false] 83::PW gd s1::L) at S9
 refine pv (.tuple #[.slice A7 512 512,.slice B7 512 512,iv 0]) (pv (.slice A7 512 512) (pv (.slice B7 512 512) (pv (iv 0) (pv (.slice A7 512 512) (pv (.slice B7 512 512) (pv (iv 0) (wE (nS (sR (pv (iv 0) (dN 0 0 (fun hd10=>False.elim om_) fun _=>wE (nCF ?_))))))))))))
 refine wp_skip (nSR (pv (.slice A7 512 512) (pv (.slice B7 512 512) (g_ (gv_call (args:=#[.slice A7 512 512,.slice B7 512 512]) rfl Tryz.func91 kr_ rfl rfl kr_ ?_)))))
 have hnw:=ps_newest0 (ca:=512) (cb:=512) S9 (a:=s1.now f) (b:=s1.now (f+1)) ha5.symm hb5.symm (RoT.bytes 0 rfl rfl) (RoT.bytes 1 rfl rfl) om_ om_
 rw [hq] at hnw
 refine Calls.mono hnw ?_
 rintro _ w11 ⟨A8,c8,rfl,S12⟩
 refine ⟨_,rfl,(pv (.tuple #[iv (q.1:Int),iv (q.2.1:Int),.slice A8 q.2.2.1.length c8,iv (q.2.2.2:Int)]) (pv (iv (q.1:Int)) (pv (iv (q.2.1:Int)) (pv (.slice A8 q.2.2.1.length c8) (pv (iv (q.2.2.2:Int)) (pv (iv (q.1:Int)) (pv (iv (q.2.1:Int)) (pv (.slice A8 q.2.2.1.length c8) (pv (iv (q.2.2.2:Int)) (wE (nS (sR (pv (iv (q.2.2.2:Int)) (dN (q.2.2.2:Int) 0 (fun hb13=> ?_) fun hb13=> ?_))))))))))))))⟩
 ·have hno:=hnone (.inl om_)
  refine pv tv (wN (wN (wN (pv tv (wE (nCT (sR (pv pn (pv (nS_) (pv (iv 6) (wE (then_n (rR ?_)))))))))))))
  refine bodyPost_ret (v:=.tuple #[pn,nS_,iv 6]) (Go.Vel.results_tmp3 rfl _ _ kr_ kr_ kr_) rfl ?_
  have S14:=St.pm 5 [4] S12
  exact .inl ⟨hno,rfl,S14⟩
 ·refine pv fv (pW (.slice A8 q.2.2.1.length c8) (pW (iv (q.2.2.1.length:Nat)) (wl_when kr_ (gv_dec (p:=((q.2.2.1.length:Nat):Int)>0) kr_ (fun hb15=> ?_) (fun hb15=> ?_)))))
  ·have hno:=hnone (.inr (.inl (List.ne_nil_of_length_pos om_)))
   refine pv tv (wE (nCT (sR (pv pn (pv (nS_) (pv (iv 6) (wE (then_n (rR (bodyPost_ret (v:=.tuple #[pn,nS_,iv 6]) (Go.Vel.results_tmp3 rfl _ _ kr_ kr_ kr_) rfl ?_))))))))))
   have S16:=St.pm 5 [4] S12
   exact .inl ⟨hno,rfl,S16⟩
  ·refine pv fv (wE (nCF (wp_skip (nSR (pv (pq g4) (pv (pq g4) (pv (iv (q.2.1:Int)) (g_ (gv_shr (k:=.i64) (yk:=.u64) (z:=(q.2.1:Int)) (i:=32) (j:=32) (z':=((q.2.1/4294967296:Nat):Int)) rfl kr_ kr_ rfl dc_ rfl (pv (iv (q.2.1:Int)) (gI .i64 (bits .and .i64 (q.2.1:Int) 4294967295) ((q.2.1%4294967296:Nat):Int) (bits_and_low _ hq63) (pv (pq g4) (pv (po g4 4) (sS S12 3 rfl 4 (nI_ (q.2.1/4294967296)) fun w17 S18=> ?_))))))))))))))
   refine pv (pq g4) (pv (po g4 6) (sS S18 3 rfl 6 (nI_ (q.2.1%4294967296)) fun w19 S20=>wE (nS (sR (pv (pq g4) (pv (pq g4) (pv (po g4 4) (lR (nI_ (q.2.1/4294967296)) S20 3 4 (dC ((((q.2.1/4294967296:Nat):Int):Int)<1) (fun hb21=> ?_) fun hb21=> ?_)))))))))
   ·have hno:=hnone (.inr (.inr (.inl om_)))
    refine pv tv (wN (wN (wN (wN (wN (pv tv (pv tv (wN (wN (wN (wN (wN (pv tv ?_)))))))))))))
    refine wE (nCT (sR (pv pn (pv (nS_) (pv (iv 6) (wE (then_n (rR (bodyPost_ret (v:=.tuple #[pn,nS_,iv 6]) (Go.Vel.results_tmp3 rfl _ _ kr_ kr_ kr_) rfl ?_)))))))))
    have S22:=St.pm 5 [4] S20
    exact .inl ⟨hno,rfl,S22⟩
   ·refine pv fv (pW (pq g4) (pW (pq g4) (pW (po g4 4) (wl_when kr_ (gv_ldR (v:=nI_ (q.2.1/4294967296)) rfl kr_ kr_ (((S20.blk 3 rfl).cell 4).trans rfl) (wl_when kr_ (gv_dec (p:=(((q.2.1/4294967296:Nat):Int):Int)>1073741824) kr_ (fun hb23=> ?_) (fun hb23=> ?_))))))))
    ·have hno:=hnone (.inr (.inr (.inr (.inl om_))))
     refine pv tv (pv tv (wN (wN (wN (wN (wN (pv tv (wE (nCT (sR (pv pn (pv (nS_) (pv (iv 6) ?_)))))))))))))
     refine wE (then_n (rR (bodyPost_ret (v:=.tuple #[pn,nS_,iv 6]) (Go.Vel.results_tmp3 rfl _ _ kr_ kr_ kr_) rfl ?_)))
     have S24:=St.pm 5 [4] S20
     exact .inl ⟨hno,rfl,S24⟩
    ·refine pv fv (pv fv (pW (pq g4) (pW (pq g4) (pW (po g4 6) (wl_when kr_ (gv_ldR (v:=nI_ (q.2.1%4294967296)) rfl kr_ kr_ (((S20.blk 3 rfl).cell 6).trans rfl) (wl_when kr_ (gv_dec (p:=(((q.2.1%4294967296:Nat):Int):Int)>1073741824) kr_ (fun hb25=> ?_) (fun hb25=> ?_)))))))))
     ·have hno:=hnone (.inr (.inr (.inr (.inr om_))))
      refine pv tv (wE (nCT (sR (pv pn (pv (nS_) (pv (iv 6) (wE ?_)))))))
      refine then_n (rR (bodyPost_ret (v:=.tuple #[pn,nS_,iv 6]) (Go.Vel.results_tmp3 rfl _ _ kr_ kr_ kr_) rfl ?_))
      have S26:=St.pm 5 [4] S20
      exact .inl ⟨hno,rfl,S26⟩
     ·refine pv fv (wE (nCF (wp_skip (nSR (pv (pq g4) (g_ (gv_call (args:=#[pq g4]) rfl Tryz.func92 kr_ rfl rfl kr_ ?_)))))))
      have S27:=St.pm 5 [3,4,0,1,2] S20
      have hgood:=hsome (fun hh=>by rcases hh with h|h|h|h|h<;>first|omega|exact h (List.length_eq_zero_iff.1 om_))
      have hlk:LOk ⟨f,m,inc s.life,q.2.1/4294967296,0,q.2.1%4294967296,0,false⟩:=⟨by show f≤2048;omega,by show 18≤m;omega,by show m≤256;omega,by show q.2.1/4294967296≤_;omega,Nat.zero_lt_succ _,by show q.2.1%4294967296≤_;omega⟩
      refine Calls.mono (w_ring (l:=⟨f,m,inc s.life,q.2.1/4294967296,0,q.2.1%4294967296,0,false⟩) S27 hlk hz1 (by show f+2+m≤_;rw [hl1];omega)) ?_
      rintro _ w28 ⟨gr,M,rfl,hM,S29⟩
      refine ⟨_,rfl, ?_⟩
      change St F w0 w28 (row gr (pcRow M) 112::stars (M.map pcD)::row g4 #[pq gd,nI_ f,nI_ m,iv (inc s.life),nI_ (q.2.1/4294967296),nI_ 0,nI_ (q.2.1%4294967296),nI_ 0,.bool false] 83::PW gd s1::bytesX (.slice A8 q.2.2.1.length c8) q.2.2.1::bytesA (.slice A7 512 512) (s1.now f)::bytesA (.slice B7 512 512) (s1.now (f+1))::L) at S29
      refine pv (.tuple #[sl gr 0 m m,iv 0]) (pv (sl gr 0 m m) (pv (iv 0) (pv (sl gr 0 m m) (pv (iv 0) (wE ?_)))))
      refine nS (sR (pv (iv 0) (dN 0 0 (fun hd30=>False.elim om_) fun _=>wE (nCF (wp_skip (nS (sR (pv (pq g4) (pv (pq g4) (pv (pq g4) (pv (po g4 4) (lR (nI_ (q.2.1/4294967296)) S29 2 4 ?_))))))))))))
      refine pv (sl gr 0 m m) (sP Tryz.func93 #[nI_ (q.2.1/4294967296),sl gr 0 m m] (w_top (n:=m) (ep:=q.2.1/4294967296) (pc:=pcAt s1 f m) S29 hM.len (fun j x hx=>hM.pc j x hx) (fun j=>(pcAt_lt s1 f m j).1) om_ om_) fun w31 S32=> ?_)
      obtain ⟨tp,htp⟩:∃tp,topTo (pcAt s1 f m) (q.2.1/4294967296) m=tp:=⟨_,rfl⟩
      have htl:=topTo_le (pcAt s1 f m) (q.2.1/4294967296) om_ m
      rw [htp] at htl
      rw [htp]
      refine pv (pq g4) (pv (po g4 5) (sS S32 2 rfl 5 (nI_ tp) fun w33 S34=>wER (pv (pq g4) (pv (pq g4) (pv (po g4 5) (lR (nI_ tp) S34 2 5 (dE ((tp:Nat):Int) 1073741824 (fun hb35=> ?_) fun hb35=> ?_)))))))
      ·refine wE (nCT (sR (pv pn (pv (nS_) (pv (iv 41) (wE (then_n (rR (bodyPost_ret (v:=.tuple #[pn,nS_,iv 41]) (Go.Vel.results_tmp3 rfl _ _ kr_ kr_ kr_) rfl ?_)))))))))
       have S36:=St.pm 7 [3] S34
       exact .inr (.inl ⟨_,_,hgood,by rw [htp];omega,rfl,S36⟩)
      ·refine wE (nCF (wp_skip (nSR (pv (pq g4) (pv (sl gr 0 m m) (g_ (gv_call (args:=#[pq g4,sl gr 0 m m]) rfl Tryz.func94 kr_ rfl rfl kr_ ?_)))))))
       have S37:=St.pm 7 [2,0,1,3,4,5,6] S34
       refine Calls.mono (w_scan (l:=⟨f,m,inc s.life,q.2.1/4294967296,tp,q.2.1%4294967296,0,false⟩) (pc:=pcAt s1 f m) S37 ⟨by show f≤2048;omega,by show 18≤m;omega,by show m≤256;omega,by show q.2.1/4294967296≤_;omega,by show tp<_;omega,by show q.2.1%4294967296≤_;omega⟩ hM.len (fun j x hx=>hM.pc j x hx) (pcAt_round s1 f m) (pcAt_lt s1 f m) (fun p=>pcF_data _)) ?_
       rintro _ w38 ⟨v40,RV,hd9,rfl,hR1,hR2,S39⟩
       refine ⟨_,rfl,(pv v40 (wE (nS (sR (pv (pq gd) (g_ (gv_call (args:=#[pq gd]) rfl Tryz.func52 kr_ rfl rfl kr_ ?_)))))))⟩
       have S41:=St.pm 9 [5,0,1,2,3,4,6,7,8] S39
       have hfl:=pw_flush S41
       rw [flush_live hz1] at hfl
       refine Calls.mono hfl ?_
       rintro _ w42 ⟨rfl,S43⟩
       refine ⟨_,rfl,(pv (iv 0) (wER (pv (iv 0) (dN 0 0 (fun hd44=>False.elim om_) fun _=>wE (nCF (wp_skip (nSR (pv (pq g4) (pv v40 (pv (pq g4) (pv v40 (pv (iv 0) ?_))))))))))))⟩
       refine wE (then_n (wp_ret (bodyPost_ret (v:=.tuple #[pq g4,v40,iv 0]) (Go.Vel.results_tmp3 rfl _ _ kr_ kr_ kr_) rfl ?_)))
       have S45:=St.pm 9 [1,2,3,0] S43
       exact .inr (.inr ⟨_,_,_,_,RV,hd9,hgood,by rw [htp];omega,hR1,hR2,rfl,by rw [htp];exact S45⟩)
end
end Go.Proofs
end
section
namespace Go.Proofs
open Go Go.Vel
theorem open_or (s:List UInt8)(hs:s.length=512):openF s=([],30)∨∃b,b.length≤504∧s=form (s.getD 0 0) b:=by
 rw [openF_at hs rfl rfl]
 split
 ·exact .inl rfl
 ·rename_i h
  split
  ·rename_i h2
   exact .inr ⟨_,by rw [List.length_take];omega,h2⟩
  ·exact .inl rfl
theorem form_end (t:UInt8)(b:List UInt8)(hb:b.length≤504):(form t b).getD 511 0=t:=by
 have hl:=length_text hb
 have e:form t b=(t::((text b).take 2++(le4 (crc (text b))++(text b).drop 2)))++[t]:=by unfold form;simp
 have h511:(t::((text b).take 2++(le4 (crc (text b))++(text b).drop 2))).length=511:=by simp [length_le4];omega
 rw [e,List.getD_eq_getElem?_getD,List.getElem?_append_right om_,h511]
 rfl
theorem open_ends (s:List UInt8)(hs:s.length=512)(h:s.getD 0 0≠s.getD 511 0):openF s=([],30):=by
 rcases open_or s hs with h1|⟨b,hb,h1⟩
 ·exact h1
 ·exfalso
  apply h
  have:=form_end (s.getD 0 0) b hb
  rw [←h1] at this
  exact this.symm
def step (s:List UInt8)(p:Nat)(x:UInt8):List UInt8:=s.set p (s.getD p 0^^^x)
end Go.Proofs
end
section
open Go Go.RowKit Go.Proofs.YtgelippmcflppaaGreatW.PrintWords Go.Proofs.YtgelippmcflppaaGreatW.PrintMore
namespace Go.Proofs
open Go.Vel
set_option linter.unusedVariables false
theorem openF_form (t:UInt8)(b:List UInt8)(ht:t.toNat≤2)(hb:b.length≤504):openF (form t b)=(b,0):=by
 obtain ⟨s0,s1,s2,s3,hs⟩:∃s0 s1 s2 s3,le4 (crc (text b))=[s0,s1,s2,s3]:=⟨_,_,_,_,rfl⟩
 have hf:=form_eq t b s0 s1 s2 s3 hs
 have h1:(form t b).getD 1 0=UInt8.ofNat (b.length%256):=by rw [hf];rfl
 have h2:(form t b).getD 2 0=UInt8.ofNat (b.length/256):=by rw [hf];rfl
 have hn:b.length=((form t b).getD 1 0).toNat+256*((form t b).getD 2 0).toNat:=by
  rw [h1,h2,UInt8.toNat_ofNat',UInt8.toNat_ofNat',Nat.mod_eq_of_lt (show b.length%256<2^8 by omega),Nat.mod_eq_of_lt (show b.length/256<2^8 by omega)];omega
 have h0:t=(form t b).getD 0 0:=rfl
 rw [openF_at (length_form t hb) h0 hn,if_neg om_]
 have hd:((form t b).drop 7).take b.length=b:=by
  rw [hf];simp
 rw [hd,if_pos rfl]
theorem turn_ne (x y:UInt8):turnOf x y≠x∧turnOf x y≠y∧(turnOf x y).toNat≤2:=by
 have e0:∀z:UInt8,(0:UInt8)≠z↔z.toNat≠0:=fun z=>by rw [ne_eq,←UInt8.toNat_inj];simp;omega
 have e1:∀z:UInt8,(1:UInt8)≠z↔z.toNat≠1:=fun z=>by rw [ne_eq,←UInt8.toNat_inj];simp;omega
 have e2:∀z:UInt8,(2:UInt8)≠z↔z.toNat≠2:=fun z=>by rw [ne_eq,←UInt8.toNat_inj];simp;omega
 unfold turnOf
 split
 ·rename_i h;exact ⟨h.1,h.2,by decide⟩
 ·split
  ·rename_i h;exact ⟨h.1,h.2,by decide⟩
  ·rename_i h h'
   rw [e0,e0] at h
   rw [e1,e1] at h'
   exact ⟨(e2 x).2 om_,(e2 y).2 om_,by decide⟩
theorem mix_is (a b:List UInt8)(c:Nat)(hc:c≤512)(ha:a.length=512)(hb:b.length=512)(h:a.getD 0 0≠b.getD 511 0):(a.take c++b.drop c)=b∨(a.take c++b.drop c)=a∨openF (a.take c++b.drop c)=([],30):=by
 rcases Nat.eq_zero_or_pos c with h0|h0
 ·left;rw [h0];simp
 ·rcases Nat.lt_or_ge c 512 with h5|h5
  ·right;right
   refine open_ends _ (by simp;omega) ?_
   have e0:(a.take c++b.drop c).getD 0 0=a.getD 0 0:=by
    rw [List.getD_eq_getElem?_getD,List.getD_eq_getElem?_getD,List.getElem?_append_left (by simp;omega),List.getElem?_take_of_lt h0]
   have e1:(a.take c++b.drop c).getD 511 0=b.getD 511 0:=by
    rw [List.getD_eq_getElem?_getD,List.getD_eq_getElem?_getD,List.getElem?_append_right (by simp;omega),List.getElem?_drop]
    have:c+(511-(a.take c).length)=511:=by rw [List.length_take];omega
    rw [this]
   rw [e0,e1];exact h
  ·right;left
   rw [List.take_of_length_le om_,List.drop_of_length_le om_,List.append_nil]
theorem over_mixes (o b:List UInt8)(c:Nat)(hc:c≤512)(ho:o.length=512)(hb:b.length≤504)(s:List UInt8)(hs:s=form (turnOf (o.getD 0 0) (o.getD 511 0)) b):
  s.length=512∧(let m:=o.take c++s.drop c;m=o∨m=s∨openF m=([],30))∧(let m:=s.take c++o.drop c;m=o∨m=s∨openF m=([],30)):=by
 obtain ⟨n0,n1,n2⟩:=turn_ne (o.getD 0 0) (o.getD 511 0)
 have hl:s.length=512:=by rw [hs];exact length_form _ hb
 have e0:s.getD 0 0=turnOf (o.getD 0 0) (o.getD 511 0):=by rw [hs];rfl
 have e1:s.getD 511 0=turnOf (o.getD 0 0) (o.getD 511 0):=by rw [hs];exact form_end _ b hb
 refine ⟨hl, ?_, ?_⟩
 ·rcases mix_is o s c hc ho hl (by rw [e1];exact n0.symm) with h|h|h
  ·exact .inr (.inl h)
  ·exact .inl h
  ·exact .inr (.inr h)
 ·rcases mix_is s o c hc hl ho (by rw [e0];exact n1) with h|h|h
  ·exact .inl h
  ·exact .inr (.inl h)
  ·exact .inr (.inr h)
theorem leN_le8 {no:Int}(h0:0≤no)(h1:no≤9223372036854775807):leN (le8 no)=no.toNat:=by
 have e:le8 no=(List.range 8).map fun i=>UInt8.ofNat (no.toNat/256^i%256):=by
  apply List.ext_getElem?
  intro k
  rw [List.getElem?_map]
  by_cases hk:k<8
  ·have h2:=le8_nat h0 hk
   rw [List.getElem?_range hk,Option.map_some,←h2,List.getD_eq_getElem?_getD,List.getElem?_eq_getElem (by rw [length_le8];exact hk)];rfl
  ·rw [List.getElem?_eq_none (by rw [length_le8];omega),List.getElem?_eq_none (by simpa using hk)];rfl
 rw [e]
 have hn:no.toNat≤9223372036854775807:=by omega
 generalize no.toNat=n at*
 simp only [List.range,List.range.loop,List.map_cons,List.map_nil,leN,UInt8.toNat_ofNat',Nat.reducePow,Nat.div_one]
 omega
theorem readF_new {t:UInt8}{no:Int}{d:List UInt8}(ht:t.toNat≤2)(h0:1≤no)(h1:no≤9223372036854775807)(hd:d.length≤496):readF (form t (le8 no++d))=(no.toNat,d):=by
 have h8:=length_le8 no
 have ho:=openF_form t (le8 no++d) ht (by rw [List.length_append];omega)
 have hk:(le8 no++d).take 8=le8 no:=by rw [List.take_append_of_le_length om_,List.take_of_length_le om_]
 have hdr:(le8 no++d).drop 8=d:=by rw [List.drop_append,List.drop_of_length_le om_,h8];rfl
 have hn:=leN_le8 (no:=no) om_ h1
 unfold readF
 rw [ho]
 simp only []
 rw [if_neg (by rw [List.length_append];omega),hk,hdr,hn,if_neg om_]
theorem readF_torn {m:List UInt8}(h:openF m=([],30)):readF m=(0,[]):=by
 unfold readF;rw [h];rfl
def putIn (a b:List UInt8)(slot:Nat)(x:List UInt8):List UInt8×List UInt8:=if slot=0 then (x,b) else (a,x)
theorem newest_of {l r:List UInt8}(h:l.length=512∧r.length=512):newestF l r=if (readF l).1=0∧(readF r).1=0 then (0,0,[],30) else if (readF l).1<(readF r).1 then (1,(readF r).1,(readF r).2,0) else (0,(readF l).1,(readF l).2,0):=by
 unfold newestF;rw [if_pos h]
structure Renewed (a b:List UInt8)(no:Int)(d:List UInt8):Prop where
 len:(renewF a b no d).2.1.length=512
 slot:(renewF a b no d).1=0∨(renewF a b no d).1=1
 other:(newestF a b).2.2.2=0→(renewF a b no d).1≠(newestF a b).1
 first:(newestF a b).2.2.2≠0→(renewF a b no d).1=0
 new:newestF (putIn a b (renewF a b no d).1 (renewF a b no d).2.1).1 (putIn a b (renewF a b no d).1 (renewF a b no d).2.1).2=((renewF a b no d).1,no.toNat,d,0)
 torn:∀m,m=(if (renewF a b no d).1=1 then b else a)∨m=(renewF a b no d).2.1∨openF m=([],30)→m.length=512→newestF (putIn a b (renewF a b no d).1 m).1 (putIn a b (renewF a b no d).1 m).2=((renewF a b no d).1,no.toNat,d,0)∨newestF (putIn a b (renewF a b no d).1 m).1 (putIn a b (renewF a b no d).1 m).2=newestF a b
 mix:∀c,c≤512→let o:=(if (renewF a b no d).1=1 then b else a);let s:=(renewF a b no d).2.1;(o.take c++s.drop c=o∨o.take c++s.drop c=s∨openF (o.take c++s.drop c)=([],30))∧(s.take c++o.drop c=o∨s.take c++o.drop c=s∨openF (s.take c++o.drop c)=([],30))
theorem renew_told {a b:List UInt8}{no:Int}{d:List UInt8}(hl:a.length=512∧b.length=512)(hd:d.length≤496)(hno:no≤9223372036854775807):
  ((renewF a b no d).2.2≠0∧¬(1≤no∧((newestF a b).2.2.2≠0∨((newestF a b).2.1:Int)<no)))∨((renewF a b no d).2.2=0∧(1≤no∧((newestF a b).2.2.2≠0∨((newestF a b).2.1:Int)<no))∧Renewed a b no d):=by
 by_cases h1:no<1
 ·left
  have e:renewF a b no d=(0,[],1):=by unfold renewF;rw [if_neg (fun h=>h hl),if_pos h1]
  rw [e];exact ⟨by decide,fun h=>by omega⟩
 by_cases h3:(newestF a b).2.2.2=0∧no≤((newestF a b).2.1:Int)
 ·left
  have e:renewF a b no d=(0,[],31):=by rw [renew_mid hl h1 om_,if_pos h3]
  rw [e];exact ⟨by decide,fun h=>by omega⟩
 right
 have h8:=length_le8 no
 have hbl:(le8 no++d).length≤504:=by rw [List.length_append];omega
 have e:=renew_end hl h1 (show¬496<d.length by omega) h3
 have sealed:∀o:List UInt8,o.length=512→sealF o (le8 no++d)=(form (turnOf (o.getD 0 0) (o.getD 511 0)) (le8 no++d),0):=fun o ho=>by unfold sealF;rw [if_neg om_,if_neg om_]
 have hnn:=newest_of hl
 have key:∀(slot:Nat) (o other:List UInt8),(slot=0∧o=a∧other=b)∨(slot=1∧o=b∧other=a)→(readF other).1<no.toNat→((newestF a b).2.2.2=0→newestF a b=(1-slot,(readF other).1,(readF other).2,0))→((newestF a b).2.2.2≠0→(readF other).1=0∧newestF a b=(0,0,[],30)∧slot=0)→renewF a b no d=(slot,form (turnOf (o.getD 0 0) (o.getD 511 0)) (le8 no++d),0)→(renewF a b no d).2.2=0∧Renewed a b no d:=by
  intro slot o other hs hlt hq0 hq1 er
  have ho:o.length=512:=by rcases hs with ⟨_,rfl,_⟩|⟨_,rfl,_⟩<;>omega
  obtain ⟨n0,n1,n2⟩:=turn_ne (o.getD 0 0) (o.getD 511 0)
  obtain ⟨s,hsd⟩:∃s,s=form (turnOf (o.getD 0 0) (o.getD 511 0)) (le8 no++d):=⟨_,rfl⟩
  have hsl:s.length=512:=by rw [hsd];exact length_form _ hbl
  have hrs:readF s=(no.toNat,d):=by rw [hsd];exact readF_new n2 om_ hno hd
  have hsl01:slot=0∨slot=1:=hs.elim (fun h=>.inl h.1) (fun h=>.inr h.1)
  have hold:(if slot=1 then b else a)=o:=by
   rcases hs with ⟨rfl,rfl,_⟩|⟨rfl,rfl,_⟩
   ·exact if_neg dc_
   ·exact if_pos rfl
  rw [←hsd] at er
  have hnew:newestF (putIn a b slot s).1 (putIn a b slot s).2=(slot,no.toNat,d,0):=by
   rcases hs with ⟨rfl,rfl,rfl⟩|⟨rfl,rfl,rfl⟩
   ·show newestF s other=_
    rw [newest_of ⟨hsl,hl.2⟩,hrs,if_neg (by simp only [];omega),if_neg (by simp only [];omega)]
   ·show newestF other s=_
    rw [newest_of ⟨hl.1,hsl⟩,hrs,if_neg (by simp only [];omega),if_pos (by simp only [];omega)]
  have hback:newestF (putIn a b slot o).1 (putIn a b slot o).2=newestF a b:=by
   rcases hs with ⟨rfl,rfl,rfl⟩|⟨rfl,rfl,rfl⟩<;>rfl
  have htorn:∀m:List UInt8,m.length=512→openF m=([],30)→newestF (putIn a b slot m).1 (putIn a b slot m).2=newestF a b:=fun m hm ht=>by
   have hr:=readF_torn ht
   by_cases hq:(newestF a b).2.2.2=0
   ·rw [hq0 hq]
    have hne:(readF other).1≠0:=fun h0=>by
     have h9:=hq0 hq
     rw [hnn] at h9
     split at h9
     ·exact absurd (show (30:Nat)=0 from congrArg (fun x=>x.2.2.2) h9) dc_
     ·rename_i hz
      split at h9
      ·rename_i hz2
       simp only [Prod.mk.injEq] at h9
       omega
      ·rename_i hz2
       simp only [Prod.mk.injEq] at h9
       omega
    rcases hs with ⟨rfl,rfl,rfl⟩|⟨rfl,rfl,rfl⟩
    ·show newestF m other=_
     rw [newest_of ⟨hm,hl.2⟩,hr,if_neg (by simp only [];omega),if_pos (by simp only [];omega)]
    ·show newestF other m=_
     rw [newest_of ⟨hl.1,hm⟩,hr,if_neg (by simp only [];omega),if_neg (by simp only [];omega)]
   ·obtain ⟨g1,g2,rfl⟩:=hq1 hq
    rw [g2]
    rcases hs with ⟨_,rfl,rfl⟩|⟨h,_⟩
    ·show newestF m other=_
     rw [newest_of ⟨hm,hl.2⟩,hr,if_pos ⟨rfl,g1⟩]
    ·cases h
  refine ⟨by rw [er],by rw [er];exact hsl,by rw [er];exact hsl01,fun hq=> ?_,fun hq=> ?_,by rw [er];exact hnew,fun m hm hm5=> ?_,fun c hc=> ?_⟩
  ·rw [er,hq0 hq];show slot≠1-slot;omega
  ·rw [er];exact (hq1 hq).2.2
  ·rw [er] at hm ⊢
   simp only [] at hm ⊢
   rw [hold] at hm
   rcases hm with rfl|rfl|hm
   ·exact .inr hback
   ·exact .inl hnew
   ·exact .inr (htorn m hm5 hm)
  ·rw [er]
   simp only []
   rw [hold]
   exact (over_mixes o (le8 no++d) c hc ho hbl s hsd).2
 have h13:1≤no∧((newestF a b).2.2.2≠0∨((newestF a b).2.1:Int)<no):=⟨by omega,by omega⟩
 by_cases hz:(readF a).1=0∧(readF b).1=0
 ·rw [if_pos hz] at hnn
  rw [hnn] at e h3
  rw [if_neg (by simp),sealed a hl.1] at e
  obtain ⟨r1,r2⟩:=key 0 a b (.inl ⟨rfl,rfl,rfl⟩) om_ (fun h=>by rw [hnn] at h;exact absurd (show (30:Nat)=0 from h) dc_) (fun _=>⟨hz.2,hnn,rfl⟩) e
  exact ⟨r1,h13,r2⟩
 ·rw [if_neg hz] at hnn
  by_cases hlt:(readF a).1<(readF b).1
  ·rw [if_pos hlt] at hnn
   rw [hnn] at e h3
   rw [if_neg (by simp),sealed a hl.1] at e
   obtain ⟨r1,r2⟩:=key 0 a b (.inl ⟨rfl,rfl,rfl⟩) (by have h4:¬no≤((readF b).1:Int):=fun h=>h3 ⟨rfl,h⟩;omega) (fun _=>hnn) (fun h=>by rw [hnn] at h;exact absurd rfl h) e
   exact ⟨r1,h13,r2⟩
  ·rw [if_neg hlt] at hnn
   rw [hnn] at e h3
   rw [if_pos ⟨rfl,rfl⟩,sealed b hl.2] at e
   obtain ⟨r1,r2⟩:=key 1 b a (.inr ⟨rfl,rfl,rfl⟩) (by have h4:¬no≤((readF a).1:Int):=fun h=>h3 ⟨rfl,h⟩;omega) (fun _=>hnn) (fun h=>by rw [hnn] at h;exact absurd rfl h) e
   exact ⟨r1,h13,r2⟩
structure Did (s s':Dsk)(m:Nat):Prop where
 len:s'.last.length=s.last.length
 life:s'.life=s.life
 pend:s'.pend.length≤s.pend.length+m
 left:s'.left≠0→s.left≠0
theorem Did.trans {s s1 s2:Dsk}{m n:Nat}(h:Did s s1 m)(g:Did s1 s2 n):Did s s2 (m+n):=
 ⟨g.len.trans h.len,g.life.trans h.life,by have:=h.pend;have:=g.pend;omega,fun q=>h.left (g.left q)⟩
theorem Did.le {s s1:Dsk}{m n:Nat}(h:Did s s1 m)(hmn:m≤n):Did s s1 n:=⟨h.len,h.life,by have:=h.pend;omega,h.left⟩
theorem Did.write (s:Dsk)(a:Int)(d:List UInt8):Did s (s.writeR a d).1 1:=by
 unfold Dsk.writeR
 split
 ·exact ⟨rfl,rfl,Nat.le_succ _,id⟩
 ·rename_i h
  split
  ·exact ⟨rfl,rfl,Nat.le_succ _,id⟩
  ·split
   ·exact ⟨rfl,rfl,Nat.le_succ _,id⟩
   ·exact ⟨rfl,rfl,by simp,fun _=>h⟩
theorem Did.flush (s:Dsk):Did s s.flushR.1 0:=by
 unfold Dsk.flushR
 split
 ·exact ⟨rfl,rfl,Nat.le_refl _,id⟩
 ·rename_i h;exact ⟨length_applyP _ _,rfl,Nat.zero_le _,fun _=>h⟩
theorem flushR_err (s:Dsk):(s.flushR.2=0∧s.flushR.1.pend=[]∧s.left≠0)∨(s.flushR.2=3∧s.flushR.1=s∧s.left=0):=by
 rcases flushR_cases s with ⟨h,e⟩|⟨h,e⟩
 ·rw [e];exact .inr ⟨rfl,rfl,h⟩
 ·rw [e];exact .inl ⟨rfl,rfl,h⟩
theorem DOk.write {s:Dsk}(h:DOk s)(a:Int)(d:List UInt8):DOk (s.writeR a d).1:=by
 by_cases hw:(s.writeR a d).2=0
 ·obtain ⟨h1,h2,h3,h4,e⟩:=writeR_ok hw
  rw [e]
  refine ⟨h.len,fun x hx=> ?_,h.n1,h.n2, ?_⟩
  ·rcases List.mem_append.1 hx with hx|hx
   ·exact h.plen x hx
   ·rw [List.mem_singleton] at hx;subst hx;exact ⟨h3,by show a.toNat<s.last.length;omega⟩
  ·have:=h.lb
   show-1≤spent s.left∧spent s.left≤_
   unfold spent;split<;>omega
 ·obtain ⟨e1,e2,e3,_⟩:=writeR_no hw
  exact ⟨by rw [e1];exact h.len,by rw [e1,e2];exact h.plen,by rw [e1];exact h.n1,by rw [e1];exact h.n2,by rw [e3];exact h.lb⟩
theorem renewR_did (s:Dsk)(f no:Nat):Did s (renewR s f no).1 1∧((renewR s f no).2=0∨(renewR s f no).2=3):=by
 unfold renewR
 obtain ⟨r,hr⟩:∃r,renewF (s.now f) (s.now (f+1)) (no:Int) []=r:=⟨_,rfl⟩
 rw [hr]
 simp only []
 have h1:=Did.write s ((f+r.1:Nat):Int) r.2.1
 split
 ·exact ⟨h1,.inr rfl⟩
 ·refine ⟨h1.trans (Did.flush _), ?_⟩
  rcases flushR_err (s.writeR ((f+r.1:Nat):Int) r.2.1).1 with h|h
  ·exact .inl h.1
  ·exact .inr h.1
def Low (s:Dsk)(f no:Nat):Prop:=(newestF (s.now f) (s.now (f+1))).2.2.2≠0∨(newestF (s.now f) (s.now (f+1))).2.1≤no
theorem Low.congr {s s':Dsk}{f no:Nat}(h:Low s f no)(h0:s'.now f=s.now f)(h1:s'.now (f+1)=s.now (f+1)):Low s' f no:=by
 unfold Low at*;rw [h0,h1];exact h
theorem Low.flush {s:Dsk}{f no:Nat}(h:Low s f no)(hf:f+1<s.last.length):Low s.flushR.1 f no:=h.congr (now_flushR om_) (now_flushR hf)
theorem Low.ren {s:Dsk}{f no no':Nat}(h:Low s f no)(hok:DOk s)(hf:f+1<s.last.length)(h1:no<no')(h2:no'≤9223372036854775807):(renewF (s.now f) (s.now (f+1)) (no':Int) []).2.2=0:=by
 rcases renew_told (a:=s.now f) (b:=s.now (f+1)) (no:=(no':Int)) (d:=[]) ⟨hok.now om_,hok.now hf⟩ (Nat.zero_le _) om_ with ⟨_,g⟩|⟨g,_⟩
 ·exact absurd ⟨by omega,h.elim .inl (fun q=>.inr om_)⟩ g
 ·exact g
theorem renewR_good {s:Dsk}(hok:DOk s){f no:Nat}(hf:f+1<s.last.length)(hno:no≤9223372036854775807)(hren:(renewF (s.now f) (s.now (f+1)) (no:Int) []).2.2=0):
  ((renewR s f no).2=0→∃x,newestF ((renewR s f no).1.now f) ((renewR s f no).1.now (f+1))=(x,no,[],0))∧((renewR s f no).2≠0→(renewR s f no).1.left=0)∧((renewR s f no).1.left≠0→(renewR s f no).1.pend=[])∧(∀k,k≠f→k≠f+1→k<s.last.length→(renewR s f no).1.now k=s.now k):=by
 by_cases hz:s.left=0
 ·rw [renewR_dead hz];exact ⟨fun h=>absurd (show (3:Int)=0 from h) dc_,fun _=>hz,fun h=>absurd hz h,fun _ _ _ _=>rfl⟩
 ·obtain ⟨hq1,hq5⟩:=renew_ok (hok.now om_) (hok.now hf) hren
  rw [renewR_go hz hf hq1 hq5]
  rcases renew_told (a:=s.now f) (b:=s.now (f+1)) (no:=(no:Int)) (d:=[]) ⟨hok.now om_,hok.now hf⟩ (Nat.zero_le _) om_ with ⟨g,_⟩|⟨_,_,g⟩
  ·exact absurd hren g
  ·have hnew:=g.new
   have hslot:=g.slot
   have hnw:∀k,(s.anch f no).now k=if f+(renewF (s.now f) (s.now (f+1)) (no:Int) []).1=k then (renewF (s.now f) (s.now (f+1)) (no:Int) []).2.1 else s.now k:=fun k=>now_write (s:=s) (s':=s.anch f no) rfl rfl k
   obtain ⟨r,hr⟩:∃r,renewF (s.now f) (s.now (f+1)) (no:Int) []=r:=⟨_,rfl⟩
   rw [hr] at hnew hslot hnw hq1
   have hn:∀k,k<s.last.length→(s.anch f no).flushR.1.now k=if f+r.1=k then r.2.1 else s.now k:=fun k hk=>(now_flushR (s:=s.anch f no) hk).trans (hnw k)
   refine ⟨fun _=>⟨r.1, ?_⟩,fun h=> ?_,fun h=> ?_,fun k h1 h2 h3=> ?_⟩
   ·rw [hn f om_,hn (f+1) hf]
    rcases hslot with h0|h0
    ·rw [h0,if_pos (show f+0=f from rfl),if_neg (show¬f+0=f+1 by omega)];rw [h0] at hnew;exact hnew
    ·rw [h0,if_neg (show¬f+1=f by omega),if_pos (show f+1=f+1 from rfl)];rw [h0] at hnew;exact hnew
   ·rcases flushR_err (s.anch f no) with q|q
    ·exact absurd q.1 h
    ·rw [q.2.1];exact q.2.2
   ·rcases flushR_err (s.anch f no) with q|q
    ·exact q.2.1
    ·rw [q.2.1] at h;exact absurd q.2.2 h
   ·rw [hn k h3,if_neg om_]
theorem zerosR_did:∀(k a:Nat) (s:Dsk),a+k≤s.last.length→Did s (zerosR s a k).1 k∧((zerosR s a k).2=0∨((zerosR s a k).2=3∧(zerosR s a k).1.left=0))
 |0,a,s,_=>⟨⟨rfl,rfl,Nat.le_refl _,id⟩,.inl rfl⟩
 |k+1,a,s,h=>by
  have hw:=Did.write s (a:Int) zsec
  unfold zerosR
  by_cases h0:(s.writeR (a:Int) zsec).2≠0
  ·rw [if_pos h0]
   obtain ⟨_,_,e3,e4,_⟩:=writeR_no h0
   obtain ⟨g1,g2⟩:=e4 om_ om_ zsec_len
   exact ⟨hw.le om_,.inr ⟨g1,by rw [e3];exact g2⟩⟩
  ·rw [if_neg h0]
   obtain ⟨g1,g2⟩:=zerosR_did k (a+1) (s.writeR (a:Int) zsec).1 (by rw [hw.len];omega)
   exact ⟨(hw.trans g1).le om_,g2⟩
theorem formatR_no {s:Dsk}{first n:Int}(h:argsR s first n≠0):formatR s first n=(s,argsR s first n):=by unfold formatR;rw [if_pos h]
structure Fmt (s s':Dsk)(e:Int):Prop where
 len:s'.last.length=s.last.length
 life:s'.life=inc s.life
 pend:s'.pend.length≤s.pend.length+259
 room:s'.left≠0→s'.pend.length≤1
 err:e=0∨e=3
theorem formatR_did {s:Dsk}{first n:Int}(ha:argsR s first n=0):Fmt s (formatR s first n).1 (formatR s first n).2:=by
 obtain ⟨hz,hf0,hm18,hm256,hin⟩:=argsR_ok ha
 obtain ⟨g1,g2⟩:=zerosR_did (n.toNat+2) first.toNat s.take (by show first.toNat+(n.toNat+2)≤s.last.length;omega)
 unfold formatR
 rw [if_neg om_]
 obtain ⟨z,hzr⟩:∃z,zerosR s.take first.toNat (n.toNat+2)=z:=⟨_,rfl⟩
 rw [hzr] at g1 g2 ⊢
 simp only []
 have ht:s.take.life=inc s.life:=rfl
 have htl:s.take.last.length=s.last.length:=rfl
 have htp:s.take.pend.length=s.pend.length:=rfl
 have hp:=g1.pend
 by_cases h0:z.2≠0
 ·rw [if_pos h0]
  rcases g2 with g2|⟨g2,g3⟩
  ·exact absurd g2 h0
  ·exact ⟨g1.len,g1.life,by omega,fun h=>absurd g3 h,.inr g2⟩
 ·rw [if_neg h0]
  have hfl:=Did.flush z.1
  have hfp:=hfl.pend
  rcases flushR_err z.1 with ⟨q1,q2,q3⟩|⟨q1,q2,q3⟩
  ·rw [if_neg om_]
   obtain ⟨r1,r2⟩:=renewR_did z.1.flushR.1 first.toNat (1*4294967296+0)
   have hrp:=r1.pend
   rw [q2] at hrp
   have hrp:=Nat.le_trans hrp (Nat.le_refl 1)
   exact ⟨r1.len.trans (hfl.len.trans g1.len),r1.life.trans (hfl.life.trans g1.life),Nat.le_trans hrp om_,fun _=>hrp,r2⟩
  ·rw [if_pos om_]
   exact ⟨hfl.len.trans g1.len,hfl.life.trans g1.life,by omega,fun h=>by rw [q2] at h;exact absurd q3 h,.inr q1⟩
theorem laysR_did {l:Lg}{d:List UInt8}{c:Nat}(hc:c=countR d.length)(hn:1≤l.n):∀(k i:Nat) (s:Dsk),i+k=c→DOk s→l.first+2+l.n≤s.last.length→
  Did s (laysR l d c s i k).1 k∧((laysR l d c s i k).2=0∨(laysR l d c s i k).1.left=0)∧∀j,j<l.first+2→(laysR l d c s i k).1.now j=s.now j
 |0,i,s,_,_,_=>⟨⟨rfl,rfl,Nat.le_refl _,id⟩,.inl rfl,fun _ _=>rfl⟩
 |k+1,i,s,hk,hok,hin=>by
  have hp:=partR_len (d:=d) (i:=i) hc om_
  have hmod:(l.head+i)%l.n<l.n:=Nat.mod_lt _ om_
  have h5:(sealF (s.now (l.first+2+(l.head+i)%l.n)) (bodyR l.epoch (l.head+i) i c (partR d i))).1.length=512:=(sealF_len (hok.now om_) (by rw [length_bodyR];omega)).1
  have hlay:layR s l d i c=s.writeR ((l.first+2+(l.head+i)%l.n:Nat):Int) (sealF (s.now (l.first+2+(l.head+i)%l.n)) (bodyR l.epoch (l.head+i) i c (partR d i))).1:=rfl
  unfold laysR
  rw [hlay]
  obtain ⟨x,hx⟩:∃x,(sealF (s.now (l.first+2+(l.head+i)%l.n)) (bodyR l.epoch (l.head+i) i c (partR d i))).1=x:=⟨_,rfl⟩
  rw [hx] at h5 ⊢
  have hw:=Did.write s ((l.first+2+(l.head+i)%l.n:Nat):Int) x
  by_cases h0:(s.writeR ((l.first+2+(l.head+i)%l.n:Nat):Int) x).2≠0
  ·rw [if_pos h0]
   obtain ⟨e1,e2,e3,e4,_⟩:=writeR_no h0
   obtain ⟨_,g2⟩:=e4 om_ om_ h5
   exact ⟨hw.le om_,.inr (by rw [e3];exact g2),fun j _=>now_congr e1 e2 j⟩
  ·rw [if_neg h0]
   obtain ⟨_,_,_,_,e⟩:=writeR_ok (Classical.not_not.1 h0)
   obtain ⟨g1,g2,g3⟩:=laysR_did hc hn k (i+1) _ om_ (hok.write ((l.first+2+(l.head+i)%l.n:Nat):Int) x) (by rw [hw.len];exact hin)
   refine ⟨(hw.trans g1).le om_,g2,fun j hj=>(g3 j hj).trans ?_⟩
   rw [e,Int.toNat_natCast];exact (now_write (s:=s) (s':=s.wrote (l.first+2+(l.head+i)%l.n) x) rfl rfl j).trans (if_neg om_)
structure LgOk (m:Nat)(l:Lg):Prop where
 ok:LOk l
 hd:LHd l
 fit:l.first+2+l.n≤m
 end_:l.begun=true→l.head≤1073741824
structure Live (s:Dsk)(l:Lg):Prop where
 low:Low s l.first (l.epoch*4294967296+l.tail)
 pend:l.begun=true→s.pend.length≤l.head-l.tail
 top:l.begun=false→l.epoch≤l.top
structure WInv (k:Nat)(s:Dsk)(ls:List Lg):Prop where
 pend:s.pend.length≤1000
 room:s.left≠0→s.pend.length≤256
 life:0≤s.life∧s.life≤(k:Int)+1
 inj:∀(i j:Nat) (a b:Lg),ls[i]?=some a→ls[j]?=some b→a.life=b.life→i=j
 le:∀a∈ls,a.life≤s.life
 ok:∀a∈ls,LgOk s.last.length a
 live:∀a∈ls,aliveR s a=true→Live s a
theorem alive_iff {s:Dsk}{l:Lg}:aliveR s l=true↔s.left≠0∧s.life=l.life:=by unfold aliveR;simp
theorem inc_ok {x:Int}(h0:0≤x)(h1:x<9223372036854775807):inc x=x+1:=by unfold inc;rw [IntKind.wrap_i64];omega
theorem WInv.next {k:Nat}{s:Dsk}{ls:List Lg}(h:WInv k s ls):WInv (k+1) s ls:=⟨h.pend,h.room,⟨h.life.1,by have:=h.life.2;omega⟩,h.inj,h.le,h.ok,h.live⟩
theorem WInv.start {s:Dsk}(hp:s.pend=[])(hl:s.life=1):WInv 0 s []:=
 ⟨by rw [hp];exact Nat.zero_le _,fun _=>by rw [hp];exact Nat.zero_le _,by omega,fun i j a b h=>by simp at h,fun a h=>by simp at h,fun a h=>by simp at h,fun a h=>by simp at h⟩
theorem WInv.die {k:Nat}{s s':Dsk}{ls:List Lg}(h:WInv k s ls)(hk:k≤4398046511104)(hl:s'.life=inc s.life)(hlen:s'.last.length=s.last.length)(hp:s'.pend.length≤1000)(hr:s'.left≠0→s'.pend.length≤256):WInv (k+1) s' ls∧∀a∈ls,a.life<s'.life:=by
 obtain ⟨h1,h2⟩:=h.life
 have e:s'.life=s.life+1:=by rw [hl];exact inc_ok h1 om_
 have hlt:∀a∈ls,a.life<s'.life:=fun a ha=>by have:=h.le a ha;omega
 exact ⟨⟨hp,hr,by omega,h.inj,fun a ha=>by have:=hlt a ha;omega,fun a ha=>by rw [hlen];exact h.ok a ha,fun a ha q=>by have:=hlt a ha;have:=(alive_iff.1 q).2;omega⟩,hlt⟩
theorem WInv.push {k:Nat}{s:Dsk}{ls:List Lg}(h:WInv k s ls)(hlt:∀a∈ls,a.life<s.life){l:Lg}(hl:l.life=s.life)(ok:LgOk s.last.length l)(hv:Live s l):WInv k s (ls++[l]):=by
 have hg:∀i a,(ls++[l])[i]?=some a→(ls[i]?=some a∧a.life<s.life)∨(i=ls.length∧a=l):=fun i a q=>by
  by_cases hi:i<ls.length
  ·rw [List.getElem?_append_left hi] at q;exact .inl ⟨q,hlt a (List.mem_of_getElem? q)⟩
  ·rw [List.getElem?_append_right om_] at q
   have hi2:=(List.getElem?_eq_some_iff.1 q).1
   have:i-ls.length=0:=by simp at hi2;omega
   rw [this] at q
   simp at q
   exact .inr ⟨by omega,q.symm⟩
 have hm:∀a,a∈ls++[l]→a∈ls∨a=l:=fun a q=>by simpa using q
 refine ⟨h.pend,h.room,h.life,fun i j a b qi qj hab=> ?_,fun a q=> ?_,fun a q=> ?_,fun a q hq=> ?_⟩
 ·rcases hg i a qi with ⟨p1,p2⟩|⟨p1,p2⟩<;>rcases hg j b qj with ⟨q1,q2⟩|⟨q1,q2⟩
  ·exact h.inj i j a b p1 q1 hab
  ·subst q2;omega
  ·subst p2;omega
  ·omega
 ·rcases hm a q with q|rfl
  ·exact h.le a q
  ·omega
 ·rcases hm a q with q|rfl
  ·exact h.ok a q
  ·exact ok
 ·rcases hm a q with q|rfl
  ·exact h.live a q hq
  ·exact hv
structure Log1 (s:Dsk)(l:Lg)(s':Dsk)(l':Lg):Prop where
 len:s'.last.length=s.last.length
 slife:s'.life=s.life
 life:l'.life=l.life
 left:s'.left≠0→s.left≠0
 same:aliveR s l=false→s'=s∧l'=l
 ok:LgOk s.last.length l'
 pend:s'.pend.length≤1000
 room:s'.left≠0→s'.pend.length≤256
 live:aliveR s' l'=true→Live s' l'
theorem WInv.log1 {k:Nat}{s:Dsk}{ls:List Lg}{l:Lg}{i:Nat}(h:WInv k s ls)(hi:ls[i]?=some l):Log1 s l s l:=
 ⟨rfl,rfl,rfl,id,fun _=>⟨rfl,rfl⟩,h.ok l (List.mem_of_getElem? hi),h.pend,h.room,h.live l (List.mem_of_getElem? hi)⟩
theorem WInv.log {k:Nat}{s s':Dsk}{ls:List Lg}{l l':Lg}{i:Nat}(h:WInv k s ls)(hi:ls[i]?=some l)(g:Log1 s l s' l'):WInv (k+1) s' (ls.set i l'):=by
 by_cases hal:aliveR s l=false
 ·obtain ⟨rfl,rfl⟩:=g.same hal
  rw [show ls.set i l'=ls from by
   apply List.ext_getElem?
   intro j
   rw [List.getElem?_set]
   split
   ·rename_i e;subst e;rw [hi];split
    ·rfl
    ·rename_i hn;exact absurd (List.getElem?_eq_some_iff.1 hi).1 hn
   ·rfl]
  exact h.next
 ·have hal:aliveR s l=true:=by simpa using hal
  have hilt:=(List.getElem?_eq_some_iff.1 hi).1
  have hg:∀j a,(ls.set i l')[j]?=some a→(j=i∧a=l')∨(j≠i∧ls[j]?=some a):=fun j a q=>by
   rw [List.getElem?_set] at q
   by_cases e:i=j
   ·subst e;rw [if_pos rfl,if_pos hilt] at q;exact .inl ⟨rfl,(Option.some.inj q).symm⟩
   ·rw [if_neg e] at q;exact .inr ⟨fun x=>e x.symm,q⟩
  have hm:∀a,a∈ls.set i l'→a=l'∨∃j,j≠i∧ls[j]?=some a:=fun a q=>by
   obtain ⟨j,hj⟩:=List.getElem?_of_mem q
   rcases hg j a hj with ⟨_,e⟩|⟨e1,e2⟩
   ·exact .inl e
   ·exact .inr ⟨j,e1,e2⟩
  have hls:=(alive_iff.1 hal).2
  refine ⟨g.pend,g.room,by rw [g.slife];have:=h.life;omega,fun a b x y qa qb hxy=> ?_,fun a q=> ?_,fun a q=> ?_,fun a q hq=> ?_⟩
  ·rcases hg a x qa with ⟨p1,p2⟩|⟨p1,p2⟩<;>rcases hg b y qb with ⟨q1,q2⟩|⟨q1,q2⟩
   ·omega
   ·subst p2;have:=h.inj i b l y hi q2 (by rw [←g.life];exact hxy);omega
   ·subst q2;have:=h.inj a i x l p2 hi (by rw [←g.life];exact hxy);omega
   ·exact h.inj a b x y p2 q2 hxy
  ·rw [g.slife]
   rcases hm a q with rfl|⟨j,_,q⟩
   ·rw [g.life];omega
   ·exact h.le a (List.mem_of_getElem? q)
  ·rw [g.len]
   rcases hm a q with rfl|⟨j,_,q⟩
   ·exact g.ok
   ·exact h.ok a (List.mem_of_getElem? q)
  ·rcases hm a q with rfl|⟨j,hj,q⟩
   ·exact g.live hq
   ·have h9:=(alive_iff.1 hq).2
    rw [g.slife] at h9
    exact absurd (h.inj j i a l q hi om_) hj
theorem WInv.fuse {k:Nat}{s:Dsk}{ls:List Lg}(h:WInv k s ls)(n:Int):WInv (k+1) (s.fuseR n) ls:=by
 obtain ⟨e1,e2⟩:=fuseR_same s n
 have e3:(s.fuseR n).life=s.life:=by unfold Dsk.fuseR;split<;>rfl
 have e4:(s.fuseR n).left≠0→s.left≠0:=fun q hz=>q (by unfold Dsk.fuseR;rw [if_pos hz];exact hz)
 refine ⟨by rw [e2];exact h.pend,fun q=>by rw [e2];exact h.room (e4 q),by rw [e3];have:=h.life;omega,h.inj,fun a q=>by rw [e3];exact h.le a q,fun a q=>by rw [e1];exact h.ok a q,fun a q hq=> ?_⟩
 obtain ⟨g1,g2⟩:=alive_iff.1 hq
 have hv:=h.live a q (alive_iff.2 ⟨e4 g1,by rw [←e3];exact g2⟩)
 exact ⟨hv.low.congr (now_congr e1 e2 _) (now_congr e1 e2 _),fun b=>by rw [e2];exact hv.pend b,hv.top⟩
theorem ready_iff {s:Dsk}{l:Lg}:readyR s l=0↔aliveR s l=true∧l.begun=true:=by
 unfold readyR
 split
 ·rename_i h;rw [h];simp
 ·rename_i h
  split
  ·rename_i h2;rw [h2];simp
  ·rename_i h2;simp at h h2;simp [h,h2]
theorem WInv.sync1 {k:Nat}{s:Dsk}{ls:List Lg}{l:Lg}{i:Nat}(h:WInv k s ls)(hi:ls[i]?=some l):Log1 s l (syncR s l).1 l:=by
 unfold syncR
 split
 ·exact h.log1 hi
 ·rename_i hr
  obtain ⟨ha,hb⟩:=ready_iff.1 (Classical.not_not.1 hr)
  have hm:=List.mem_of_getElem? hi
  have hok:=h.ok l hm
  have hv:=h.live l hm ha
  have hf:=Did.flush s
  have hn:=hok.ok.n0
  have hfit:=hok.fit
  have hrm:=h.room (alive_iff.1 ha).1
  have hfp:=hf.pend
  refine ⟨hf.len,hf.life,rfl,hf.left,fun q=>absurd (ha.symm.trans q) dc_,hok,by omega,fun _=>by omega,fun _=>⟨hv.low.flush om_,fun b=>by have:=hv.pend b;omega,hv.top⟩⟩
theorem WInv.hstart {k:Nat}{s:Dsk}{ls:List Lg}{l:Lg}{i:Nat}(h:WInv k s ls)(hok:DOk s)(hi:ls[i]?=some l):aliveR s l=true→l.begun=false→(renewF (s.now l.first) (s.now (l.first+1)) (((l.top+1)*4294967296+0:Nat):Int) []).2.2=0:=fun ha hb=>by
 have hm:=List.mem_of_getElem? hi
 have hl:=h.ok l hm
 have hv:=h.live l hm ha
 have:=hl.ok.n0;have:=hl.fit;have:=hv.top hb;have:=hl.ok.tail;have:=hl.ok.top
 exact hv.low.ren hok om_ om_ om_
theorem WInv.htrim {k:Nat}{s:Dsk}{ls:List Lg}{l:Lg}{i:Nat}(h:WInv k s ls)(hok:DOk s)(hi:ls[i]?=some l):readyR s l=0→s.flushR.1.left≠0→l.tail≠l.head→(renewF (s.flushR.1.now l.first) (s.flushR.1.now (l.first+1)) ((l.epoch*4294967296+l.head:Nat):Int) []).2.2=0:=fun hr _ hne=>by
 obtain ⟨ha,hb⟩:=ready_iff.1 hr
 have hm:=List.mem_of_getElem? hi
 have hl:=h.ok l hm
 have hv:=h.live l hm ha
 have:=hl.ok.n0;have:=hl.fit;have:=hl.ok.epoch;have:=hl.end_ hb;have:=hl.hd.th
 rw [now_flushR om_,now_flushR om_]
 exact hv.low.ren hok om_ om_ om_
theorem DOk.flush {s:Dsk}(h:DOk s):DOk s.flushR.1:=by
 rcases flushR_cases s with ⟨_,e⟩|⟨_,e⟩
 ·rw [e];exact h
 ·rw [e]
  have h5:∀(ps:List (Nat×List UInt8)) (l:List (List UInt8)),(∀x∈l,x.length=512)→(∀x∈ps,x.2.length=512)→∀x∈applyP l ps,x.length=512:=by
   intro ps
   induction ps with
   |nil=>intro l hl _ x hx;exact hl x hx
   |cons p r ih=>
    intro l hl hp x hx
    refine ih (l.set p.1 p.2) (fun y hy=> ?_) (fun y hy=>hp y (List.mem_cons_of_mem _ hy)) x hx
    rcases List.mem_or_eq_of_mem_set hy with q|q
    ·exact hl y q
    ·rw [q];exact hp p (List.mem_cons_self)
  refine ⟨h5 s.pend s.last h.len (fun x hx=>(h.plen x hx).1),fun x hx=>by simp at hx,by show 1≤(applyP _ _).length;rw [length_applyP];exact h.n1,by show (applyP _ _).length≤_;rw [length_applyP];exact h.n2, ?_⟩
  have:=h.lb
  show-1≤spent s.left∧spent s.left≤_
  unfold spent;split<;>omega
theorem Low.of {s:Dsk}{f no:Nat}(h:∃x,newestF (s.now f) (s.now (f+1))=(x,no,[],0)):Low s f no:=by
 obtain ⟨x,h⟩:=h;unfold Low;rw [h];exact .inr (Nat.le_refl _)
theorem WInv.start1 {k:Nat}{s:Dsk}{ls:List Lg}{l:Lg}{i:Nat}(h:WInv k s ls)(hok:DOk s)(hi:ls[i]?=some l):Log1 s l (startR s l).1 (startR s l).2.1:=by
 have hren:=h.hstart hok hi
 unfold startR
 split
 ·exact h.log1 hi
 ·rename_i ha
  have ha:aliveR s l=true:=by simpa using ha
  split
  ·exact h.log1 hi
  ·rename_i hb
   have hb:l.begun=false:=by simpa using hb
   have hm:=List.mem_of_getElem? hi
   have hl:=h.ok l hm
   obtain ⟨q1,q2,q3,q4,q5,q6⟩:=id hl.ok
   have hfit:=hl.fit
   have hrm:=h.room (alive_iff.1 ha).1
   obtain ⟨g1,g2,g3,_⟩:=renewR_good hok (f:=l.first) (no:=(l.top+1)*4294967296+0) om_ om_ (hren ha hb)
   have hd:=(renewR_did s l.first ((l.top+1)*4294967296+0)).1
   obtain ⟨r,hr⟩:∃r,renewR s l.first ((l.top+1)*4294967296+0)=r:=⟨_,rfl⟩
   rw [hr] at g1 g2 g3 hd ⊢
   have hdp:=hd.pend
   have hrr:r.1.left≠0→r.1.pend.length≤0:=fun q=>by rw [g3 q];exact Nat.le_refl _
   simp only []
   split
   ·rename_i he
    exact ⟨hd.len,hd.life,rfl,hd.left,fun q=>absurd (ha.symm.trans q) dc_,hl,by show r.1.pend.length≤_;omega,fun q=>absurd (g2 he) q,fun q=>absurd (g2 he) (alive_iff.1 q).1⟩
   ·rename_i he
    have he:=Classical.not_not.1 he
    refine ⟨hd.len,hd.life,rfl,hd.left,fun q=>absurd (ha.symm.trans q) dc_,⟨⟨q1,q2,q3,by show l.top+1≤_;omega,q5,Nat.zero_le _⟩,⟨Nat.le_refl _,Nat.zero_le _⟩,hfit,fun _=>Nat.zero_le _⟩,by show r.1.pend.length≤_;omega,fun q=>by have:=hrr q;show r.1.pend.length≤_;omega,fun q=>⟨Low.of (g1 he),fun _=>hrr (alive_iff.1 q).1,fun b=>by cases b⟩⟩
theorem WInv.trim1 {k:Nat}{s:Dsk}{ls:List Lg}{l:Lg}{i:Nat}(h:WInv k s ls)(hok:DOk s)(hi:ls[i]?=some l):Log1 s l (trimR s l).1 (trimR s l).2.1:=by
 have hsy:=h.sync1 hi
 have hren:=h.htrim hok hi
 unfold trimR
 split
 ·exact h.log1 hi
 ·rename_i hr
  have hr:=Classical.not_not.1 hr
  obtain ⟨ha,hb⟩:=ready_iff.1 hr
  have es:(syncR s l).1=s.flushR.1:=by unfold syncR;rw [if_neg om_]
  rw [es] at hsy
  split
  ·exact hsy
  ·rename_i hne
   have hm:=List.mem_of_getElem? hi
   have hl:=h.ok l hm
   obtain ⟨q1,q2,q3,q4,q5,q6⟩:=id hl.ok
   have hfit:=hl.fit
   have hend:=hl.end_ hb
   have hlen:=hsy.len
   by_cases hz:s.flushR.1.left=0
   ·have e:=renewR_dead (first:=l.first) (no:=l.epoch*4294967296+l.head) hz
    rw [e]
    simp only []
    rw [if_pos dc_]
    exact hsy
   ·obtain ⟨g1,g2,g3,_⟩:=renewR_good hok.flush (f:=l.first) (no:=l.epoch*4294967296+l.head) om_ om_ (hren hr hz (fun e=>hne (.inr e)))
    have hd:=(renewR_did s.flushR.1 l.first (l.epoch*4294967296+l.head)).1
    obtain ⟨r,hrr⟩:∃r,renewR s.flushR.1 l.first (l.epoch*4294967296+l.head)=r:=⟨_,rfl⟩
    rw [hrr] at g1 g2 g3 hd ⊢
    have hdp:=hd.pend
    have hsr:=hsy.room hz
    have hr0:r.1.left≠0→r.1.pend.length≤0:=fun q=>by rw [g3 q];exact Nat.le_refl _
    simp only []
    split
    ·rename_i he
     exact ⟨hd.len.trans hlen,hd.life.trans hsy.slife,rfl,fun q=>hsy.left (hd.left q),fun q=>absurd (ha.symm.trans q) dc_,hl,by show r.1.pend.length≤_;omega,fun q=>absurd (g2 he) q,fun q=>absurd (g2 he) (alive_iff.1 q).1⟩
    ·rename_i he
     have he:=Classical.not_not.1 he
     refine ⟨hd.len.trans hlen,hd.life.trans hsy.slife,rfl,fun q=>hsy.left (hd.left q),fun q=>absurd (ha.symm.trans q) dc_,⟨⟨q1,q2,q3,q4,q5,hend⟩,⟨Nat.le_refl _,Nat.le_add_right _ _⟩,hfit,fun _=>hend⟩,by show r.1.pend.length≤_;omega,fun q=>by have:=hr0 q;show r.1.pend.length≤_;omega,fun q=>⟨Low.of (g1 he),fun _=>Nat.le_trans (hr0 (alive_iff.1 q).1) (Nat.zero_le _),fun b=>absurd (hb.symm.trans b) dc_⟩⟩
theorem WInv.append1 {k:Nat}{s:Dsk}{ls:List Lg}{l:Lg}{i:Nat}(h:WInv k s ls)(hok:DOk s)(hi:ls[i]?=some l)(d:List UInt8):Log1 s l (appendR s l d).1 (appendR s l d).2.1:=by
 unfold appendR
 split
 ·exact h.log1 hi
 ·rename_i hr
  split
  ·exact h.log1 hi
  ·rename_i h0
   split
   ·exact h.log1 hi
   ·rename_i h1
    split
    ·exact h.log1 hi
    ·rename_i h2
     split
     ·exact h.log1 hi
     ·rename_i h3
      obtain ⟨ha,hb⟩:=ready_iff.1 (Classical.not_not.1 hr)
      have hm:=List.mem_of_getElem? hi
      have hl:=h.ok l hm
      have hv:=h.live l hm ha
      have hvp:=hv.pend hb
      obtain ⟨q1,q2,q3,q4,q5,q6⟩:=id hl.ok
      obtain ⟨q7,q8⟩:=hl.hd
      have hc:countR d.length≤17:=by unfold countR;omega
      obtain ⟨g1,g2,g3⟩:=laysR_did (l:=l) (d:=d) rfl om_ (countR d.length) 0 s (Nat.zero_add _) hok hl.fit
      obtain ⟨r,hrr⟩:∃r,laysR l d (countR d.length) s 0 (countR d.length)=r:=⟨_,rfl⟩
      rw [hrr] at g1 g2 g3 ⊢
      have hp:=g1.pend
      have hrm:=h.room (alive_iff.1 ha).1
      simp only []
      split
      ·rename_i he
       have hz:=g2.resolve_left he
       exact ⟨g1.len,g1.life,rfl,g1.left,fun q=>absurd (ha.symm.trans q) dc_,hl,by show r.1.pend.length≤_;omega,fun q=>absurd hz q,fun q=>absurd hz (alive_iff.1 q).1⟩
      ·refine ⟨g1.len,g1.life,rfl,g1.left,fun q=>absurd (ha.symm.trans q) dc_,⟨⟨q1,q2,q3,q4,q5,q6⟩,⟨by show l.tail≤l.head+_;omega,by show l.head+countR d.length≤l.tail+l.n;omega⟩,hl.fit,fun _=>by show l.head+countR d.length≤_;omega⟩,by show r.1.pend.length≤_;omega,fun _=>by show r.1.pend.length≤_;omega,fun _=>⟨hv.low.congr (g3 _ om_) (g3 _ om_),fun _=>by show r.1.pend.length≤l.head+countR d.length-l.tail;omega,fun b=>absurd (hb.symm.trans b) dc_⟩⟩
theorem WInv.open_ {k:Nat}{s:Dsk}{ls:List Lg}(h:WInv k s ls)(hok:DOk s)(hk:k≤4398046511104){first n:Int}(ha:argsR s first n=0){ep tl hd:Nat}{R:List (List UInt8)}(hn:newR s.take first.toNat=some (ep,tl))(ht:topTo (pcAt s.take first.toNat n.toNat) ep n.toNat≠1073741824)(hr:Recs (pcAt s.take first.toNat n.toNat) ep tl R hd):
  WInv (k+1) s.take.flushR.1 (ls++[⟨first.toNat,n.toNat,inc s.life,ep,topTo (pcAt s.take first.toNat n.toNat) ep n.toNat,tl,hd,false⟩]):=by
 obtain ⟨hz,hf0,hm18,hm256,hin⟩:=argsR_ok ha
 have hf:=Did.flush s.take
 have hfp:=hf.pend
 have hsp:s.take.pend.length=s.pend.length:=rfl
 have hp:=h.pend
 have hrm:=h.room hz
 have hlen:s.take.last.length=s.last.length:=rfl
 have hlen2:=hf.len
 obtain ⟨g1,g2⟩:=h.die hk (s':=s.take.flushR.1) hf.life hf.len om_ (fun _=>by omega)
 have hnw:newestF (s.take.now first.toNat) (s.take.now (first.toNat+1))=newestF (s.take.flushR.1.now first.toNat) (s.take.flushR.1.now (first.toNat+1)):=by rw [now_flushR (by rw [hlen];omega),now_flushR (by rw [hlen];omega)]
 unfold newR at hn
 simp only [] at hn
 split at hn
 ·cases hn
 ·rename_i hb
  have e:=Option.some.inj hn
  have e1:(newestF (s.take.now first.toNat) (s.take.now (first.toNat+1))).2.1/4294967296=ep:=congrArg (·.1) e
  have e2:(newestF (s.take.now first.toNat) (s.take.now (first.toNat+1))).2.1%4294967296=tl:=congrArg (·.2) e
  have hep:ep≤1073741824:=by rw [←e1];exact Nat.not_lt.1 fun q=>hb (.inr (.inr (.inr (.inl q))))
  have htl:tl≤1073741824:=by rw [←e2];exact Nat.not_lt.1 fun q=>hb (.inr (.inr (.inr (.inr q))))
  have htop:=topTo_le (pcAt s.take first.toNat n.toNat) ep hep n.toNat
  have htge:=topTo_ge (pcAt s.take first.toNat n.toNat) ep n.toNat
  have hn2:first.toNat+2+n.toNat≤s.take.flushR.1.last.length:=by rw [hlen2,hlen];omega
  refine g1.push g2 hf.life.symm ⟨⟨?_,by show 18≤n.toNat;omega,by show n.toNat≤256;omega,hep,by show topTo _ _ _<_;omega,htl⟩,⟨hr.le,hr.room (n:=n.toNat) (fun p=>pcAt_round _ _ _ p) om_⟩,hn2,fun b=>by cases b⟩ ⟨.inr ?_,fun b=>absurd (show false=true from b) dc_,fun _=>htge⟩
  ·have:=hok.n2;show first.toNat≤2048;omega
  ·show (newestF (s.take.flushR.1.now first.toNat) (s.take.flushR.1.now (first.toNat+1))).2.1≤ep*4294967296+tl
   rw [←hnw,←e1,←e2];omega
theorem write_m {s:Dsk}{k:Nat}{d:List UInt8}(h:s.left= -1)(hk:k<s.last.length)(hd:d.length=512):(s.writeR (k:Int) d).2=0∧(s.writeR (k:Int) d).1=s.wrote k d∧(s.wrote k d).left= -1:=by
 rw [writeR_go om_ hk hd]
 exact ⟨rfl,rfl,by show spent s.left= -1;rw [h];rfl⟩
theorem flush_m {s:Dsk}(h:s.left= -1):s.flushR.2=0∧s.flushR.1.left= -1:=by
 rcases flushR_cases s with ⟨q,e⟩|⟨q,e⟩
 ·omega
 ·rw [e];exact ⟨rfl,by show spent s.left= -1;rw [h];rfl⟩
structure Zero (s:Dsk):Prop where
 left:s.left= -1
 len:s.last.length=20
 now:∀j,j<20→s.now j=zsec
theorem zeros_z:∀(k a:Nat) (s:Dsk),a+k≤20→Zero s→(zerosR s a k).2=0∧Zero (zerosR s a k).1
 |0,_,_,_,h=>⟨rfl,h⟩
 |k+1,a,s,ha,h=>by
  obtain ⟨h1,h2,h3⟩:=write_m (k:=a) (d:=zsec) h.left (by rw [h.len];omega) zsec_len
  unfold zerosR
  rw [if_neg om_,h2]
  refine zeros_z k (a+1) _ om_ ⟨h3,h.len,fun j hj=> ?_⟩
  rw [now_write (s:=s) (s':=s.wrote a zsec) rfl rfl j]
  split
  ·rfl
  ·exact h.now j hj
structure FrD (s:Dsk)(no:Nat):Prop where
 left:s.left= -1
 len:s.last.length=20
 pair:∃x,newestF (s.now 0) (s.now 1)=(x,no,[],0)
 ring:∀j,2≤j→j<20→s.now j=zsec
theorem renew_m {s:Dsk}(hok:DOk s){no:Nat}(h:s.left= -1)(hlen:s.last.length=20)(hr:∀j,2≤j→j<20→s.now j=zsec)(hno:no≤9223372036854775807)(hren:(renewF (s.now 0) (s.now (0+1)) (no:Int) []).2.2=0):(renewR s 0 no).2=0∧FrD (renewR s 0 no).1 no:=by
 obtain ⟨g1,g2,g3,g4⟩:=renewR_good hok (f:=0) (no:=no) om_ hno hren
 obtain ⟨q1,q5⟩:=renew_ok (hok.now om_) (hok.now om_) hren
 have hl:(renewR s 0 no).1.left= -1:=by
  rw [renewR_go om_ om_ q1 q5]
  exact (flush_m (s:=s.anch 0 no) (by show spent s.left= -1;rw [h];rfl)).2
 have he:(renewR s 0 no).2=0:=Classical.not_not.1 fun q=>by have:=g2 q;omega
 exact ⟨he,hl,(renewR_did s 0 no).1.len.trans hlen,g1 he,fun j h2 h3=>(g4 j om_ om_ om_).trans (hr j h2 h3)⟩
theorem Zero.flush {s:Dsk}(h:Zero s):Zero s.flushR.1:=⟨(flush_m h.left).2,(Did.flush s).len.trans h.len,fun j hj=>(now_flushR (by rw [h.len];exact hj)).trans (h.now j hj)⟩
theorem args_m {s:Dsk}(h:s.left= -1)(hl:s.last.length=20):argsR s 0 18=0:=by
 unfold argsR
 rw [if_neg om_,if_neg om_,if_neg om_,if_neg om_]
theorem DOk.take {s:Dsk}(h:DOk s):DOk s.take:=⟨h.len,h.plen,h.n1,h.n2,h.lb⟩
theorem DOk.zeros:∀(k a:Nat) (s:Dsk),DOk s→DOk (zerosR s a k).1
 |0,_,_,h=>h
 |k+1,a,s,h=>by
  unfold zerosR
  split
  ·exact h.write _ _
  ·exact DOk.zeros k (a+1) _ (h.write _ _)
theorem format_m {s:Dsk}(hok:DOk s)(h:Zero s):(formatR s 0 18).2=0∧FrD (formatR s 0 18).1 4294967296:=by
 have ht:Zero s.take:=⟨h.left,h.len,h.now⟩
 obtain ⟨g1,g2⟩:=zeros_z 20 0 s.take om_ ht
 have hk:DOk (zerosR s.take 0 20).1.flushR.1:=(DOk.zeros 20 0 s.take hok.take).flush
 have hf:=flush_m g2.left
 have hz:=g2.flush
 have e:formatR s 0 18=renewR (zerosR s.take 0 20).1.flushR.1 0 4294967296:=by
  unfold formatR
  rw [if_neg (by rw [args_m h.left h.len];decide)]
  show (if (zerosR s.take 0 20).2≠0 then zerosR s.take 0 20 else if (zerosR s.take 0 20).1.flushR.2≠0 then (zerosR s.take 0 20).1.flushR else renewR (zerosR s.take 0 20).1.flushR.1 0 4294967296)=_
  rw [if_neg om_,if_neg om_]
 rw [e]
 exact renew_m hk hz.left hz.len (fun j _ h3=>hz.now j h3) dc_ (by rw [hz.now 0 om_,hz.now (0+1) om_];exact renew_zeros dc_)
theorem pc_zero:pcF zsec=pcNo:=by
 have h:(openF zsec).1.length<12:=by
  unfold openF
  split
  ·decide
  ·split
   ·decide
   ·split
    ·rw [List.length_take,show (zsec.getD 1 0).toNat+256*(zsec.getD 2 0).toNat=0 from by decide];omega
    ·decide
 unfold pcF;rw [if_neg om_]
theorem FrD.pc {s:Dsk}{no:Nat}(h:FrD s no)(p:Nat):pcAt s 0 18 p=pcNo:=by
 have:=Nat.mod_lt p (show 0<18 by decide)
 unfold pcAt
 rw [h.ring _ om_ om_];exact pc_zero
theorem FrD.take {s:Dsk}{no:Nat}(h:FrD s no):FrD s.take no:=⟨h.left,h.len,h.pair,h.ring⟩
theorem FrD.flush {s:Dsk}{no:Nat}(h:FrD s no):FrD s.flushR.1 no:=by
 have hl:=h.len
 refine ⟨(flush_m h.left).2,(Did.flush s).len.trans hl, ?_,fun j h2 h3=>(now_flushR om_).trans (h.ring j h2 h3)⟩
 rw [now_flushR om_,now_flushR om_];exact h.pair
theorem FrD.newR {s:Dsk}(h:FrD s 4294967296):newR s 0=some (1,0):=by
 obtain ⟨x,hx⟩:=h.pair
 have hx':newestF (s.now 0) (s.now (0+1))=(x,4294967296,[],0):=hx
 rw [newR_some (f:=0) (by rw [hx'];simp),hx']
 exact congrArg some (Prod.ext (show 4294967296/4294967296=1 by decide) (show 4294967296%4294967296=0 by decide))
theorem topTo_no {pc:Nat→Pc}(h:∀p,pc p=pcNo)(e:Nat):∀k,topTo pc e k=e
 |0=>rfl
 |k+1=>by
  unfold topTo
  rw [h,topTo_no h e k]
  exact (if_pos (show pcNo.epoch≤1073741824 from Nat.zero_le _)).trans (Nat.max_eq_left (Nat.zero_le _))
theorem recs_no {pc:Nat→Pc}(h:∀p,pc p=pcNo){e a:Nat}{R:List (List UInt8)}{hd:Nat}(r:Recs pc e a R hd):R=[]∧hd=a:=by
 cases r with
 |nil=>exact ⟨rfl,rfl⟩
 |step _ hr=>exact absurd (show (pc _).data=[] from by rw [h];rfl) (hr.part 0 hr.c1).data
theorem start_m {s:Dsk}(hok:DOk s)(h:FrD s 4294967296){l:Lg}(hl:l=⟨0,18,s.life,1,1,0,0,false⟩):(startR s l).2.2=0∧(startR s l).2.1=⟨0,18,s.life,2,1,0,0,true⟩∧FrD (startR s l).1 8589934592∧(startR s l).1.life=s.life∧(startR s l).1.pend.length≤s.pend.length+1:=by
 have hlen:=h.len
 have hleft:=h.left
 obtain ⟨g1,g2⟩:=renew_m hok (no:=8589934592) h.left h.len h.ring dc_ ((Low.of (no:=4294967296) h.pair).ren hok om_ dc_ dc_)
 have gl:=(renewR_did s 0 8589934592).1.life
 have ha:aliveR s l=true:=alive_iff.2 ⟨by omega,by rw [hl]⟩
 have e8:(l.top+1)*4294967296+0=8589934592:=by rw [hl];show (1+1)*4294967296+0=8589934592;decide
 have ef:l.first=0:=by rw [hl]
 have hb:l.begun=false:=by rw [hl]
 have e:startR s l=((renewR s 0 8589934592).1,{l with epoch:=l.top+1,tail:=0,head:=0,begun:=true},0):=by
  unfold startR
  rw [if_neg (by rw [ha];decide),if_neg (by rw [hb];decide),e8,ef]
  simp only []
  rw [if_neg om_]
 rw [e];exact ⟨rfl,by rw [hl],g2,gl,(renewR_did s 0 8589934592).1.pend⟩
theorem append_m {s:Dsk}(hok:DOk s)(h:FrD s 8589934592){l:Lg}(hl:l=⟨0,18,s.life,2,1,0,0,true⟩):(appendR s l [1]).2.2=0∧(appendR s l [1]).2.1=⟨0,18,s.life,2,1,0,1,true⟩∧(appendR s l [1]).1.left= -1∧(appendR s l [1]).1.life=s.life:=by
 have hlen:=h.len
 have hleft:=h.left
 have ha:aliveR s l=true:=alive_iff.2 ⟨by omega,by rw [hl]⟩
 have hr:readyR s l=0:=ready_iff.2 ⟨ha,by rw [hl]⟩
 have hs:(sealF (s.now 2) (bodyR 2 0 0 1 (partR [1] 0))).1.length=512:=(sealF_len (hok.now om_) dc_).1
 obtain ⟨w1,w2,w3⟩:=write_m (k:=2) (d:=(sealF (s.now 2) (bodyR 2 0 0 1 (partR [1] 0))).1) h.left om_ hs
 have e1:layR s l [1] 0 1=s.writeR ((2:Nat):Int) (sealF (s.now 2) (bodyR 2 0 0 1 (partR [1] 0))).1:=by rw [hl];rfl
 have e2:laysR l [1] 1 s 0 1=(s.wrote 2 (sealF (s.now 2) (bodyR 2 0 0 1 (partR [1] 0))).1,0):=by
  show (if (layR s l [1] 0 1).2≠0 then layR s l [1] 0 1 else laysR l [1] 1 (layR s l [1] 0 1).1 (0+1) 0)=_
  rw [e1,if_neg om_,w2];rfl
 have eh:l.head=0:=by rw [hl]
 have en:l.n=18:=by rw [hl]
 have et:l.tail=0:=by rw [hl]
 have ec:countR ([1]:List UInt8).length=1:=rfl
 have e:appendR s l [1]=(s.wrote 2 (sealF (s.now 2) (bodyR 2 0 0 1 (partR [1] 0))).1,{l with head:=l.head+1},0):=by
  unfold appendR
  rw [if_neg om_,if_neg dc_,if_neg dc_,if_neg (by rw [eh,ec];decide),if_neg (by rw [eh,ec,en,et];decide)]
  show (if (laysR l [1] 1 s 0 1).2≠0 then ((laysR l [1] 1 s 0 1).1,l,(laysR l [1] 1 s 0 1).2) else ((laysR l [1] 1 s 0 1).1,{l with head:=l.head+1},0))=_
  rw [e2];rfl
 rw [e];exact ⟨rfl,by rw [hl],w3,rfl⟩
theorem zero_mk:Zero (Dsk.mk0 (List.replicate 20 zsec)):=⟨rfl,by show (List.replicate 20 zsec).length=20;rw [List.length_replicate],fun j hj=>by
 rw [now_nil rfl]
 show (List.replicate 20 zsec).getD j []=zsec
 rw [List.getD_eq_getElem?_getD,List.getElem?_replicate,if_pos hj];rfl⟩
end Go.Proofs
end
section
open Go Go.RowKit Go.Proofs.YtgelippmcflppaaGreatW.PrintWords Go.Proofs.YtgelippmcflppaaGreatW.PrintMore
namespace Go.Proofs
open Go.Vel
set_option linter.unusedVariables false
set_option maxRecDepth 100000
set_option maxHeartbeats 4000000
attribute [local irreducible] gives wpList Code.wp
section
variable {F:Nat→Prop} {w0 w:World} {L:List Ast}
def lgk (gd:Nat)(l:Lg):Array Value:=#[.pointer (some ⟨gd,0,none⟩),.int .i64 l.life,.int .i64 (l.first:Nat),.int .i64 (l.n:Nat),.int .i64 (l.epoch:Nat),.int .i64 (l.tail:Nat),.int .i64 (l.head:Nat),.int .i64 (l.top:Nat),.bool l.begun]
def KLog (g gd:Nat)(l:Lg):Ast:=row g (lgk gd l) 130
theorem rw_burntT {g:Nat}{s:Dsk}(hz:s.left=0)(S:St F w0 w (RW g s::L)):Calls Tryz.prog 19 #[.pointer (some ⟨g,0,none⟩)] w fun e w'=>e=.returned (.bool true)∧St F w0 w' (RW g s::L):=by
 have h:=rw_burnt S
 rwa [decide_eq_true hz] at h
theorem rw_burntF {g:Nat}{s:Dsk}(hz:¬s.left=0)(S:St F w0 w (RW g s::L)):Calls Tryz.prog 19 #[.pointer (some ⟨g,0,none⟩)] w fun e w'=>e=.returned (.bool false)∧St F w0 w' (RW g s::L):=by
 have h:=rw_burnt S
 rwa [decide_eq_false hz] at h
theorem renew_short {a b:List UInt8}{no:Int}:(renewF a b no []).2.1.length≤512:=by
 have h8:(le8 no++[]).length≤504:=by simp [le8]
 have hs:∀x:List UInt8,(sealF x (le8 no++[])).1.length≤512:=fun x=>by
  unfold sealF
  split
  ·exact Nat.zero_le _
  ·rw [if_neg om_];exact Nat.le_of_eq (length_form _ h8)
 unfold renewF
 (repeat' split)<;>first|exact hs _|exact Nat.zero_le _
theorem rrenew1 (S:St F w0 w L){A B:Option Addr}{a b:List UInt8}{m n ca cb:Nat}{no:Int}(hm0:m=a.length)(hn0:n=b.length)(ha:RoT F w0 L A a)(hb:RoT F w0 L B b)(hma:a.length≤512)(hmb:b.length≤512)(hno:no≤9223372036854775807):
  Calls Tryz.prog 90 #[.slice A m ca,.slice B n cb,iv no,nS_] w fun e w'=>∃A c,e=.returned (.tuple #[iv ((renewF a b no []).1:Int),.slice A (renewF a b no []).2.1.length c,iv ((renewF a b no []).2.2:Int)])∧St F w0 w' (vec 5 1 (.slice A (renewF a b no []).2.1.length c) (renewF a b no []).2.1.length ((renewF a b no []).2.1.map bv)::L):=by
 subst hm0 hn0
 exact rrenew (d:=[]) (cd:=0) (D:=none) S ha hb RoT.nil om_ om_ (Nat.zero_le _) hno
theorem k_args {gd:Nat}{s:Dsk}(S:St F w0 w (RW gd s::L)){first n:Int}:Calls Tryz.prog 54 #[.pointer (some ⟨gd,0,none⟩),.int .i64 first,.int .i64 n] w fun e w'=>e=.returned (.int .i64 (argsR s first n))∧St F w0 w' (RW gd s::L):=by
 have hn2:=(St.rw_ok S).n2
 by_cases hz:s.left=0
 ·refine eN (fr [pq gd,iv first,iv n] 27) Tryz.func54 rfl (sR (pv (iv 0) (wE (nS (sR (pv (pq gd) (sP Tryz.func19 #[pq gd] (rw_burntT hz S) fun w1 S2=>wE (nCT (sR (pv (iv 3) (wE (then_n ?_))))))))))))
  refine rR (bA (iv 3) ?_)
  have e:argsR s first n=3:=by unfold argsR;(repeat' split)<;>first|rfl|omega
  rw [e];exact ⟨rfl,S2⟩
 refine eN (fr [pq gd,iv first,iv n] 27) Tryz.func54 rfl (sR (pv (iv 0) (wE (nS (sR (pv (pq gd) (sP Tryz.func19 #[pq gd] (rw_burntF hz S) fun w1 S2=>wE (nCF (wp_skip (nS (sR (pv (iv first) (dC ((first:Int)<0) (fun hb3=> ?_) fun hb3=> ?_)))))))))))))
 ·refine pv tv (wN (wN (wN (wN (pv tv (wE (nCT (sR (pv (iv 11) (wE (then_n (rR (bA (iv 11) ?_)))))))))))))
  have e:argsR s first n=11:=by unfold argsR;(repeat' split)<;>first|rfl|omega
  rw [e];exact ⟨rfl,S2⟩
 ·refine pv fv (pW (iv first) (pW (pq gd) (wl_when kr_ (gv_call (args:=#[pq gd]) rfl Tryz.func38 kr_ rfl rfl kr_ (Calls.mono (rw_sectors S2) ?_)))))
  rintro _ w4 ⟨rfl,S5⟩
  refine ⟨_,rfl,(wl_when kr_ (gv_dec (p:=(first:Int)≥(s.last.length:Int)) kr_ (fun hb6=> ?_) (fun hb6=> ?_)))⟩
  ·refine pv tv (wE (nCT (sR (pv (iv 11) (wE (then_n (rR (bA (iv 11) ?_))))))))
   have e:argsR s first n=11:=by unfold argsR;(repeat' split)<;>first|rfl|omega
   rw [e];exact ⟨rfl,S5⟩
  ·refine pv fv (wE (nCF (wp_skip (nS (sR (pv (iv n) (dC ((n:Int)<18) (fun hb7=> ?_) fun hb7=> ?_)))))))
   ·refine pv tv (wN (wN (pv tv (wE (nCT (sR (pv (iv 1) (wE (then_n (rR (bA (iv 1) ?_)))))))))))
    have e:argsR s first n=1:=by unfold argsR;(repeat' split)<;>first|rfl|omega
    rw [e];exact ⟨rfl,S5⟩
   ·refine pv fv (pW (iv n) (wl_when kr_ (gv_dec (p:=(n:Int)>256) kr_ (fun hb8=> ?_) (fun hb8=> ?_))))
    ·refine pv tv (wE (nCT (sR (pv (iv 1) (wE (then_n (rR (bA (iv 1) ?_))))))))
     have e:argsR s first n=1:=by unfold argsR;(repeat' split)<;>first|rfl|omega
     rw [e];exact ⟨rfl,S5⟩
    ·refine pv fv (wE (nCF (wp_skip (nS (sR (pv (iv first) (gI .i64 (IntKind.i64.wrap (first+2)) (first+2) (wr_ok om_ om_) (pv (iv n) (gI .i64 (IntKind.i64.wrap ((first+2)+n)) ((first+2)+n) (wr_ok om_ om_) (pv (pq gd) (sP Tryz.func38 #[pq gd] (rw_sectors S5) fun w9 S10=>dC (((first+2)+n:Int)>(s.last.length:Int)) (fun hb11=> ?_) fun hb11=> ?_)))))))))))
     ·refine wE (nCT (sR (pv (iv 11) (wE (then_n (rR (bA (iv 11) ?_)))))))
      have e:argsR s first n=11:=by unfold argsR;(repeat' split)<;>first|rfl|omega
      rw [e];exact ⟨rfl,S10⟩
     ·refine wE (nCF (wp_skip (nSR (pv (iv 0) (wE (then_n (wp_ret (bA (iv 0) ?_))))))))
      have e:argsR s first n=0:=by unfold argsR;(repeat' split)<;>first|rfl|omega
      rw [e];exact ⟨rfl,S10⟩
theorem k_dead {g gd:Nat}{l:Lg}{s:Dsk}(S:St F w0 w (KLog g gd l::RW gd s::L)):Calls Tryz.prog 102 #[.pointer (some ⟨g,0,none⟩)] w fun e w'=>e=.returned (.bool (!aliveR s l))∧St F w0 w' (KLog g gd l::RW gd s::L):=by
 by_cases hz:s.left=0
 ·change St F w0 w (row g (kC_ gd l l.head) 130::RW gd s::L) at S
  refine eN (fr [pq g] 19) Tryz.func102 rfl (sR (pv fv (wE (nS (wp_region_phu (γ:=Unit) 17 [4] (fun (c_:Unit) (i_:Nat)=>(match i_ with|0=>pq g|1=>pq g|2=>pq g|3=>pq gd|4=>.bool true|5=>.bool true|6=>undef|7=>undef|8=>undef|9=>undef|10=>undef|11=>undef|12=>undef|13=>undef|14=>undef|15=>undef|16=>.bool true|_=>undef:Value)) (fun (c_:Unit) (p_:Nat) (w_:World)=>(match p_ with|0=>St F w0 w_ (row g (kC_ gd l l.head) 130::RW gd s::L)|_=>St F w0 w_ (RW gd s::row g (kC_ gd l l.head) 130::L):Prop)) () kr_ kr_ kr_ kr_ (S.drew) ?_ ?_ ?_)))))
  ·intro i_ c_ p_ vals_ w1 hi_ hiE_ hp_ hk_ hu_ hPh_ hd_
   rcases i_ with _|_|_|_|_|_|_|_|_|_|_|_|_|_|_|_|_|i_
   ·exact tG_ rfl hd_ (gV (pq g) ⟨rfl,rfl⟩)
   ·exact tG_ rfl hd_ (gV (pq g) ⟨rfl,rfl⟩)
   ·exact tG_ rfl hd_ (gV (pq g) ⟨rfl,rfl⟩)
   ·rcases p_ with _|_|p_
    ·have S4:=St.id hPh_
     exact tG_ rfl hd_ (gL (pq gd) rfl (((S4.blk 0 rfl).cell 0).trans rfl) ⟨rfl,rfl⟩)
    ·exact absurd (hu_ 0 dc_ kr_) dc_
    ·exact absurd hp_ (by simp)
   ·exact absurd hiE_ dc_
   ·exact tG_ rfl hd_ (gV (.bool true) ⟨rfl,rfl⟩)
   ·exact tO_ 5 8 5 false true rfl hd_ ⟨rfl,rfl⟩
   ·exact tO_ 5 8 5 false true rfl hd_ ⟨rfl,rfl⟩
   ·exact tO_ 5 8 5 false true rfl hd_ ⟨rfl,rfl⟩
   ·exact tO_ 5 8 5 false true rfl hd_ ⟨rfl,rfl⟩
   ·exact tO_ 5 8 5 false true rfl hd_ ⟨rfl,rfl⟩
   ·exact tO_ 5 8 5 false true rfl hd_ ⟨rfl,rfl⟩
   ·exact tO_ 5 8 5 false true rfl hd_ ⟨rfl,rfl⟩
   ·exact tO_ 5 8 5 false true rfl hd_ ⟨rfl,rfl⟩
   ·exact tO_ 5 8 5 false true rfl hd_ ⟨rfl,rfl⟩
   ·exact tO_ 5 8 5 false true rfl hd_ ⟨rfl,rfl⟩
   ·exact tG_ rfl hd_ (gV (.bool true) ⟨rfl,rfl⟩)
   ·exact absurd hi_ om_
  ·intro k_ c_ vals_ w1 hk_ hPh_ hd_
   rcases k_ with _|k_
   ·have S17:=St.id hPh_
    refine tG_ rfl hd_ (gv_call (args:=#[pq gd]) rfl Tryz.func19 kr_ rfl rfl kr_ ?_)
    have S18:=St.pm 2 [1,0] S17
    refine Calls.mono (rw_burntT hz S18) ?_
    rintro _ w19 ⟨rfl,S20⟩
    refine ⟨_,rfl,⟨(),rfl, ?_,S20⟩⟩
    intro i_ hi_ hne_ hdp_
    rcases i_ with _|_|_|_|_|_|_|_|_|_|_|_|_|_|_|_|_|i_
    ·rfl
    ·rfl
    ·rfl
    ·rfl
    ·exact absurd rfl hne_
    ·exact dN_ hdp_
    ·exact dN_ hdp_
    ·exact dN_ hdp_
    ·exact dN_ hdp_
    ·exact dN_ hdp_
    ·exact dN_ hdp_
    ·exact dN_ hdp_
    ·exact dN_ hdp_
    ·exact dN_ hdp_
    ·exact dN_ hdp_
    ·exact dN_ hdp_
    ·exact dN_ hdp_
    ·exact absurd hi_ om_
   ·exact absurd hk_ (by simp)
  ·intro c_ w1 hPh_
   have S21:=St.id hPh_
   refine (pv tv (wE (then_n (wp_ret (bA (.bool true) ?_)))))
   have e:(!aliveR s l)=(true):=by rw [alive_burnt hz];rfl
   rw [e]
   have S22:=St.pm 2 [1,0] S21
   exact ⟨rfl,S22⟩
 change St F w0 w (row g (kC_ gd l l.head) 130::RW gd s::L) at S
 refine eN (fr [pq g] 19) Tryz.func102 rfl (sR (pv fv (wE (nS (wp_region_phu (γ:=Unit) 17 [4,10] (fun (c_:Unit) (i_:Nat)=>(match i_ with|0=>pq g|1=>pq g|2=>pq g|3=>pq gd|4=>.bool false|5=>.bool false|6=>pq g|7=>pq g|8=>pq g|9=>pq gd|10=>iv s.life|11=>pq g|12=>pq g|13=>po g 1|14=>iv l.life|15=>.bool (s.life !=l.life)|16=>.bool (s.life !=l.life)|_=>undef:Value)) (fun (c_:Unit) (p_:Nat) (w_:World)=>(match p_ with|0=>St F w0 w_ (row g (kC_ gd l l.head) 130::RW gd s::L)|1=>St F w0 w_ (RW gd s::row g (kC_ gd l l.head) 130::L)|_=>St F w0 w_ (RW gd s::row g (kC_ gd l l.head) 130::L):Prop)) () kr_ kr_ kr_ kr_ (S.drew) ?_ ?_ ?_)))))
 ·intro i_ c_ p_ vals_ w1 hi_ hiE_ hp_ hk_ hu_ hPh_ hd_
  rcases i_ with _|_|_|_|_|_|_|_|_|_|_|_|_|_|_|_|_|i_
  ·exact tG_ rfl hd_ (gV (pq g) ⟨rfl,rfl⟩)
  ·exact tG_ rfl hd_ (gV (pq g) ⟨rfl,rfl⟩)
  ·exact tG_ rfl hd_ (gV (pq g) ⟨rfl,rfl⟩)
  ·rcases p_ with _|_|_|p_
   ·have S4:=St.id hPh_
    exact tG_ rfl hd_ (gL (pq gd) rfl (((S4.blk 0 rfl).cell 0).trans rfl) ⟨rfl,rfl⟩)
   ·exact absurd (hu_ 0 dc_ kr_) dc_
   ·exact absurd (hu_ 0 dc_ kr_) dc_
   ·exact absurd hp_ (by simp)
  ·exact absurd hiE_ dc_
  ·exact tG_ rfl hd_ (gV (.bool false) ⟨rfl,rfl⟩)
  ·exact tW_ 5 8 5 false rfl hd_ (gv_val (v:=pq g) (w':=w1) kr_ ⟨rfl,rfl⟩)
  ·exact tW_ 5 8 5 false rfl hd_ (gv_val (v:=pq g) (w':=w1) kr_ ⟨rfl,rfl⟩)
  ·exact tW_ 5 8 5 false rfl hd_ (gv_val (v:=pq g) (w':=w1) kr_ ⟨rfl,rfl⟩)
  ·rcases p_ with _|_|_|p_
   ·exact absurd (hk_ 0 dc_ kr_) dc_
   ·have S9:=St.id hPh_
    exact tW_ 5 8 5 false rfl hd_ (gv_ldR (v:=pq gd) rfl kr_ kr_ (((S9.blk 1 rfl).cell 0).trans rfl) ⟨rfl,rfl⟩)
   ·exact absurd (hu_ 1 dc_ kr_) dc_
   ·exact absurd hp_ (by simp)
  ·exact absurd hiE_ dc_
  ·exact tW_ 5 8 5 false rfl hd_ (gv_val (v:=pq g) (w':=w1) kr_ ⟨rfl,rfl⟩)
  ·exact tW_ 5 8 5 false rfl hd_ (gv_val (v:=pq g) (w':=w1) kr_ ⟨rfl,rfl⟩)
  ·exact tW_ 5 8 5 false rfl hd_ (gv_val (v:=po g 1) (w':=w1) kr_ ⟨rfl,rfl⟩)
  ·rcases p_ with _|_|_|p_
   ·exact absurd (hk_ 0 dc_ kr_) dc_
   ·have S13:=St.id hPh_
    exact tW_ 5 8 5 false rfl hd_ (gv_ldR (v:=iv l.life) rfl kr_ kr_ (((S13.blk 1 rfl).cell 1).trans rfl) ⟨rfl,rfl⟩)
   ·have S14:=St.id hPh_
    exact tW_ 5 8 5 false rfl hd_ (gv_ldR (v:=iv l.life) rfl kr_ kr_ (((S14.blk 1 rfl).cell 1).trans rfl) ⟨rfl,rfl⟩)
   ·exact absurd hp_ (by simp)
  ·exact tW_ 5 8 5 false rfl hd_ (gv_val (v:=.bool (s.life !=l.life)) (w':=w1) kr_ ⟨rfl,rfl⟩)
  ·exact tG_ rfl hd_ (gV (.bool (s.life !=l.life)) ⟨rfl,rfl⟩)
  ·exact absurd hi_ om_
 ·intro k_ c_ vals_ w1 hk_ hPh_ hd_
  rcases k_ with _|_|k_
  ·have S17:=St.id hPh_
   refine tG_ rfl hd_ (gv_call (args:=#[pq gd]) rfl Tryz.func19 kr_ rfl rfl kr_ ?_)
   have S18:=St.pm 2 [1,0] S17
   refine Calls.mono (rw_burntF hz S18) ?_
   rintro _ w19 ⟨rfl,S20⟩
   refine ⟨_,rfl,⟨(),rfl, ?_,S20⟩⟩
   intro i_ hi_ hne_ hdp_
   rcases i_ with _|_|_|_|_|_|_|_|_|_|_|_|_|_|_|_|_|i_
   ·rfl
   ·rfl
   ·rfl
   ·rfl
   ·exact absurd rfl hne_
   ·exact dN_ hdp_
   ·exact dN_ hdp_
   ·exact dN_ hdp_
   ·exact dN_ hdp_
   ·exact dN_ hdp_
   ·exact dN_ hdp_
   ·exact dN_ hdp_
   ·exact dN_ hdp_
   ·exact dN_ hdp_
   ·exact dN_ hdp_
   ·exact dN_ hdp_
   ·exact dN_ hdp_
   ·exact absurd hi_ om_
  ·have S21:=St.id hPh_
   refine tW_ 5 8 5 false rfl hd_ (gv_call (args:=#[pq gd]) rfl Tryz.func129 kr_ rfl rfl kr_ (Calls.mono (rw_life S21) ?_))
   rintro _ w22 ⟨rfl,S23⟩
   refine ⟨_,rfl,⟨(),rfl, ?_,S23⟩⟩
   intro i_ hi_ hne_ hdp_
   rcases i_ with _|_|_|_|_|_|_|_|_|_|_|_|_|_|_|_|_|i_
   ·rfl
   ·rfl
   ·rfl
   ·rfl
   ·rfl
   ·rfl
   ·rfl
   ·rfl
   ·rfl
   ·rfl
   ·exact absurd rfl hne_
   ·rfl
   ·rfl
   ·rfl
   ·rfl
   ·exact dN_ hdp_
   ·exact dN_ hdp_
   ·exact absurd hi_ om_
  ·exact absurd hk_ (by simp)
 ·intro c_ w1 hPh_
  have S24:=St.id hPh_
  refine (pv (.bool (s.life !=l.life)) (wE (then_n (wp_ret (bA (.bool (s.life !=l.life)) ?_)))))
  have e:(!aliveR s l)=(s.life !=l.life):=by by_cases h:s.life=l.life<;>simp [aliveR,hz,h]
  rw [e]
  have S25:=St.pm 2 [1,0] S24
  exact ⟨rfl,S25⟩
theorem k_ready {g gd:Nat}{l:Lg}{s:Dsk}(S:St F w0 w (KLog g gd l::RW gd s::L)):Calls Tryz.prog 103 #[.pointer (some ⟨g,0,none⟩)] w fun e w'=>e=.returned (.int .i64 (readyR s l))∧St F w0 w' (KLog g gd l::RW gd s::L):=by
 obtain ⟨b,hb⟩:∃b,l.begun=b:=⟨_,rfl⟩
 change St F w0 w (row g (kC_ gd l l.head) 130::RW gd s::L) at S
 refine eN (fr [pq g] 9) Tryz.func103 rfl (sR (pv (iv 0) (wE (nS (sR (pv (pq g) (sP Tryz.func102 #[pq g] (k_dead S) fun w1 S2=>wE (then_n (wp_cond_split (t:= !aliveR s l) kr_ (fun hc3=> ?_) (fun hc3=> ?_))))))))))
 ·have ha:aliveR s l=false:=by simpa using hc3
  refine sR (pv (iv 3) (wE (then_n (rR (bA (iv 3) ?_)))))
  have e:readyR s l=3:=by unfold readyR;simp_all
  rw [e]
  exact ⟨rfl,S2⟩
 ·have ha:aliveR s l=true:=by simpa using hc3
  refine wp_skip (nS (sR (pv (pq g) (pv (pq g) (pv (po g 8) (lR (.bool l.begun) S2 0 8 (pv (.bool (!l.begun)) (wE (then_n (wp_cond_split (t:= !l.begun) kr_ (fun hc4=> ?_) (fun hc4=> ?_)))))))))))
  ·have hbg:l.begun=false:=by simpa using hc4
   refine sR (pv (iv 4) (wE (then_n (rR (bA (iv 4) ?_)))))
   have e:readyR s l=4:=by unfold readyR;simp_all
   rw [e]
   exact ⟨rfl,S2⟩
  ·have hbg:l.begun=true:=by simpa using hc4
   refine wp_skip (nSR (pv (iv 0) (wE (then_n (wp_ret (bA (iv 0) ?_))))))
   have e:readyR s l=0:=by unfold readyR;simp_all
   rw [e]
   exact ⟨rfl,S2⟩
theorem k_renewed_dead {gd:Nat}{s:Dsk}(S:St F w0 w (RW gd s::L)){first ep tl:Nat}(hin:first+1<s.last.length)(hep:ep≤1073741824)(htl:tl<4294967296)(hpn:s.pend.length<4398046511104)(hz:s.left=0):Calls Tryz.prog 58 #[.pointer (some ⟨gd,0,none⟩),.int .i64 (first:Nat),.int .i64 (ep:Nat),.int .i64 (tl:Nat)] w fun e w'=>e=.returned (.int .i64 (renewR s first (ep*4294967296+tl)).2)∧St F w0 w' (RW gd ((renewR s first (ep*4294967296+tl)).1)::L):=by
 rw [renewR_dead hz]
 have hok:=St.rw_ok S
 have hn2:=hok.n2
 have ha5:=hok.now (k:=first) om_
 have hb5:=hok.now (k:=first+1) hin
 have hq5:=renew_short (a:=s.now first) (b:=s.now (first+1)) (no:=((ep*4294967296+tl:Nat):Int))
 have hq1:(renewF (s.now first) (s.now (first+1)) ((ep*4294967296+tl:Nat):Int) []).1≤1:=by unfold renewF;(repeat' split)<;>first|exact Nat.zero_le _|exact Nat.le_refl _
 obtain ⟨q,hq⟩:∃q,renewF (s.now first) (s.now (first+1)) ((ep*4294967296+tl:Nat):Int) []=q:=⟨_,rfl⟩
 rw [hq] at hq5 hq1
 obtain ⟨r9,S⟩:=St.rw S
 obtain ⟨gl,cl,c2,A2,junk,LL,PP,pool,hf,hcl,hju,S⟩:=St.ropen S
 change St F w0 w (rR2 gd gl LL.length cl (.slice A2 PP.length c2) s.left s.life r9 s.wr s.fl s.rf 0::row gl ((LL.map PEnt.val++junk).toArray) 22::vec 102 2 (.slice A2 PP.length c2) PP.length (putsV PP)::stars (pool.map PEnt.row)::L) at S
 refine eN (fr [pq gd,nI_ first,nI_ ep,nI_ tl] 39) Tryz.func58 rfl (sR (pv (iv 0) (wER (pv (pq gd) (pv (nI_ first) (g_ (gv_call (args:=#[pq gd,nI_ first]) rfl Tryz.func40 kr_ rfl rfl kr_ (Calls.mono (rnow_own (s:=s.rdd r9) (k:=first) S hf (by show _<s.last.length;omega)) ?_))))))))
 rintro _ w1 ⟨bl,rfl,hbl,S2⟩
 refine ⟨_,rfl, ?_⟩
 have hbl:(bl,s.now (first))∈pool:=hbl
 change St F w0 w1 (rR2 gd gl LL.length cl (.slice A2 PP.length c2) s.left s.life r9 s.wr s.fl s.rf 0::row gl ((LL.map PEnt.val++junk).toArray) 22::vec 102 2 (.slice A2 PP.length c2) PP.length (putsV PP)::stars (pool.map PEnt.row)::L) at S2
 refine pv (sl bl 0 512 512) (wER (pv (pq gd) (pv (nI_ first) (gI .i64 (IntKind.i64.wrap (((first:Nat):Int)+1)) ((first+1:Nat):Int) wq_ (g_ (gv_call (args:=#[pq gd,nI_ (first+1)]) rfl Tryz.func40 kr_ rfl rfl kr_ (Calls.mono (rnow_own (s:=s.rdd r9) (k:=first+1) S2 hf (by show _<s.last.length;omega)) ?_)))))))
 rintro _ w3 ⟨br,rfl,hbr,S4⟩
 refine ⟨_,rfl, ?_⟩
 have hbr:(br,s.now (first+1))∈pool:=hbr
 change St F w0 w3 (rR2 gd gl LL.length cl (.slice A2 PP.length c2) s.left s.life r9 s.wr s.fl s.rf 0::row gl ((LL.map PEnt.val++junk).toArray) 22::vec 102 2 (.slice A2 PP.length c2) PP.length (putsV PP)::stars (pool.map PEnt.row)::L) at S4
 refine pv (sl br 0 512 512) (wER (pv (sl bl 0 512 512) (pv (sl br 0 512 512) (pv (nI_ ep) (gI .i64 (IntKind.i64.wrap (((ep:Nat):Int)*4294967296)) ((ep*4294967296:Nat):Int) wq_ (pv (nI_ tl) (gI .i64 (IntKind.i64.wrap (((ep*4294967296:Nat):Int)+((tl:Nat):Int))) ((ep*4294967296+tl:Nat):Int) wq_ (g_ (gv_call (args:=#[sl bl 0 512 512,sl br 0 512 512,nI_ (ep*4294967296+tl),nS_]) rfl Tryz.func90 kr_ rfl rfl kr_ ?_)))))))))
 have hrn:=rrenew1 (ca:=512) (cb:=512) S4 (a:=s.now first) (b:=s.now (first+1)) (no:=((ep*4294967296+tl:Nat):Int)) ha5.symm hb5.symm (rot_pool 3 rfl hbl ha5) (rot_pool 3 rfl hbr hb5) om_ om_ om_
 rw [hq] at hrn
 refine Calls.mono hrn ?_
 rintro _ w5 ⟨A9,c9,rfl,S6⟩
 refine ⟨_,rfl, ?_⟩
 have S7:=St.pm 5 [1,2,3,4,0] S6
 have S8:St F w0 w5 (RW gd s::vec 5 1 (.slice A9 q.2.1.length c9) q.2.1.length (q.2.1.map bv)::L):=St.wr (r:=r9) (St.rclose (gl:=gl) (cl:=cl) (c2:=c2) (A2:=A2) (junk:=junk) (LL:=LL) (PP:=PP) (pool:=pool) (s:=s.rdd r9) S7 hf hcl hju)
 refine pv (.tuple #[iv (q.1:Int),.slice A9 q.2.1.length c9,iv (q.2.2:Int)]) (pv (iv (q.1:Int)) (pv (.slice A9 q.2.1.length c9) (pv (iv (q.2.2:Int)) (pv (iv (q.1:Int)) (pv (.slice A9 q.2.1.length c9) (pv (iv (q.2.2:Int)) (wER (pv (pq gd) (pv (nI_ first) (pv (iv (q.1:Int)) (gI .i64 (IntKind.i64.wrap (((first:Nat):Int)+(q.1:Int))) ((first+q.1:Nat):Int) wq_ (pv (.slice A9 q.2.1.length c9) (sP Tryz.func55 #[pq gd,nI_ (first+q.1),.slice A9 q.2.1.length c9] (rw_write_dead (at_:=((first+q.1:Nat):Int)) S8 (RoT.ofVec 0 rfl) rfl hq5 hz hpn) fun w9 S10=> ?_)))))))))))))
 refine pv (iv 3) (wE (nS (sR (pv (iv 3) (dN 3 0 (fun _=>wE (nCT (sR (pv (iv 3) (wE (then_n (rR (bA (iv 3) ?_)))))))) fun hd11=>False.elim om_)))))
 have S12:=St.pm 2 [0] S10
 exact ⟨rfl,S12⟩
theorem k_renewed_go {gd:Nat}{s:Dsk}(S:St F w0 w (RW gd s::L)){first ep tl:Nat}(hin:first+1<s.last.length)(hep:ep≤1073741824)(htl:tl<4294967296)(hpn:s.pend.length<4398046511104)(hz:s.left≠0)(hren:(renewF (s.now first) (s.now (first+1)) ((ep*4294967296+tl:Nat):Int) []).2.2=0):Calls Tryz.prog 58 #[.pointer (some ⟨gd,0,none⟩),.int .i64 (first:Nat),.int .i64 (ep:Nat),.int .i64 (tl:Nat)] w fun e w'=>e=.returned (.int .i64 (renewR s first (ep*4294967296+tl)).2)∧St F w0 w' (RW gd ((renewR s first (ep*4294967296+tl)).1)::L):=by
 have hok:=St.rw_ok S
 have hn2:=hok.n2
 have ha5:=hok.now (k:=first) om_
 have hb5:=hok.now (k:=first+1) hin
 obtain ⟨hq1,hq5⟩:=renew_ok ha5 hb5 hren
 rw [renewR_go hz hin hq1 hq5]
 unfold Dsk.anch
 obtain ⟨q,hq⟩:∃q,renewF (s.now first) (s.now (first+1)) ((ep*4294967296+tl:Nat):Int) []=q:=⟨_,rfl⟩
 rw [hq] at hq5 hq1 hren ⊢
 obtain ⟨s1,hs1⟩:∃s1,s.wrote (first+q.1) q.2.1=s1:=⟨_,rfl⟩
 rw [hs1]
 obtain ⟨r9,S⟩:=St.rw S
 obtain ⟨gl,cl,c2,A2,junk,LL,PP,pool,hf,hcl,hju,S⟩:=St.ropen S
 change St F w0 w (rR2 gd gl LL.length cl (.slice A2 PP.length c2) s.left s.life r9 s.wr s.fl s.rf 0::row gl ((LL.map PEnt.val++junk).toArray) 22::vec 102 2 (.slice A2 PP.length c2) PP.length (putsV PP)::stars (pool.map PEnt.row)::L) at S
 refine eN (fr [pq gd,nI_ first,nI_ ep,nI_ tl] 39) Tryz.func58 rfl (sR (pv (iv 0) (wER (pv (pq gd) (pv (nI_ first) (g_ (gv_call (args:=#[pq gd,nI_ first]) rfl Tryz.func40 kr_ rfl rfl kr_ (Calls.mono (rnow_own (s:=s.rdd r9) (k:=first) S hf (by show _<s.last.length;omega)) ?_))))))))
 rintro _ w1 ⟨bl,rfl,hbl,S2⟩
 refine ⟨_,rfl, ?_⟩
 have hbl:(bl,s.now (first))∈pool:=hbl
 change St F w0 w1 (rR2 gd gl LL.length cl (.slice A2 PP.length c2) s.left s.life r9 s.wr s.fl s.rf 0::row gl ((LL.map PEnt.val++junk).toArray) 22::vec 102 2 (.slice A2 PP.length c2) PP.length (putsV PP)::stars (pool.map PEnt.row)::L) at S2
 refine pv (sl bl 0 512 512) (wER (pv (pq gd) (pv (nI_ first) (gI .i64 (IntKind.i64.wrap (((first:Nat):Int)+1)) ((first+1:Nat):Int) wq_ (g_ (gv_call (args:=#[pq gd,nI_ (first+1)]) rfl Tryz.func40 kr_ rfl rfl kr_ (Calls.mono (rnow_own (s:=s.rdd r9) (k:=first+1) S2 hf (by show _<s.last.length;omega)) ?_)))))))
 rintro _ w3 ⟨br,rfl,hbr,S4⟩
 refine ⟨_,rfl, ?_⟩
 have hbr:(br,s.now (first+1))∈pool:=hbr
 change St F w0 w3 (rR2 gd gl LL.length cl (.slice A2 PP.length c2) s.left s.life r9 s.wr s.fl s.rf 0::row gl ((LL.map PEnt.val++junk).toArray) 22::vec 102 2 (.slice A2 PP.length c2) PP.length (putsV PP)::stars (pool.map PEnt.row)::L) at S4
 refine pv (sl br 0 512 512) (wER (pv (sl bl 0 512 512) (pv (sl br 0 512 512) (pv (nI_ ep) (gI .i64 (IntKind.i64.wrap (((ep:Nat):Int)*4294967296)) ((ep*4294967296:Nat):Int) wq_ (pv (nI_ tl) (gI .i64 (IntKind.i64.wrap (((ep*4294967296:Nat):Int)+((tl:Nat):Int))) ((ep*4294967296+tl:Nat):Int) wq_ (g_ (gv_call (args:=#[sl bl 0 512 512,sl br 0 512 512,nI_ (ep*4294967296+tl),nS_]) rfl Tryz.func90 kr_ rfl rfl kr_ ?_)))))))))
 have hrn:=rrenew0 (ca:=512) (cb:=512) S4 (a:=s.now first) (b:=s.now (first+1)) (no:=((ep*4294967296+tl:Nat):Int)) ha5.symm hb5.symm (rot_pool 3 rfl hbl ha5) (rot_pool 3 rfl hbr hb5) om_ om_ om_ (by rw [hq];exact hren) (by rw [hq];exact hq5)
 rw [hq] at hrn
 refine Calls.mono hrn ?_
 rintro _ w5 ⟨A9,c9,rfl,S6⟩
 refine ⟨_,rfl, ?_⟩
 have S7:St F w0 w5 (rR2 gd gl LL.length cl (.slice A2 PP.length c2) s.left s.life r9 s.wr s.fl s.rf 0::row gl ((LL.map PEnt.val++junk).toArray) 22::vec 102 2 (.slice A2 PP.length c2) PP.length (putsV PP)::stars (pool.map PEnt.row)::vec 5 1 (.slice A9 512 c9) 512 (q.2.1.map bv)::L):=St.pm 5 [1,2,3,4,0] S6
 have S8:St F w0 w5 (RW gd s::vec 5 1 (.slice A9 512 c9) 512 (q.2.1.map bv)::L):=St.wr (r:=r9) (St.rclose (gl:=gl) (cl:=cl) (c2:=c2) (A2:=A2) (junk:=junk) (LL:=LL) (PP:=PP) (pool:=pool) (s:=s.rdd r9) S7 hf hcl hju)
 refine pv (.tuple #[iv (q.1:Int),.slice A9 512 c9,iv 0]) (pv (iv (q.1:Int)) (pv (.slice A9 512 c9) (pv (iv 0) (pv (iv (q.1:Int)) (pv (.slice A9 512 c9) (pv (iv 0) (wER (pv (pq gd) (pv (nI_ first) (pv (iv (q.1:Int)) (gI .i64 (IntKind.i64.wrap (((first:Nat):Int)+(q.1:Int))) ((first+q.1:Nat):Int) wq_ (pv (.slice A9 512 c9) (sP Tryz.func55 #[pq gd,nI_ (first+q.1),.slice A9 512 c9] (rw_write_go (k:=first+q.1) S8 (RoT.ofVec 0 rfl) hq5.symm hq5 hz om_ hpn) fun w9 S10=> ?_)))))))))))))
 rw [hs1] at S10
 refine pv (iv 0) (wE (nS (sR (pv (iv 0) (dN 0 0 (fun hd11=>False.elim om_) fun _=>wE (nCF (wp_skip (nSR (pv (pq gd) (sP Tryz.func57 #[pq gd] (rw_flush S10) fun w12 S13=>pv (iv s1.flushR.2) (wE ?_)))))))))))
 refine then_n (wp_ret (bA (iv s1.flushR.2) ?_))
 have S14:=St.pm 2 [0] S13
 exact ⟨rfl,S14⟩
theorem k_renewed {gd:Nat}{s:Dsk}(S:St F w0 w (RW gd s::L)){first ep tl:Nat}(hin:first+1<s.last.length)(hep:ep≤1073741824)(htl:tl<4294967296)(hpn:s.pend.length<4398046511104)(hren:s.left≠0→(renewF (s.now first) (s.now (first+1)) ((ep*4294967296+tl:Nat):Int) []).2.2=0):Calls Tryz.prog 58 #[.pointer (some ⟨gd,0,none⟩),.int .i64 (first:Nat),.int .i64 (ep:Nat),.int .i64 (tl:Nat)] w fun e w'=>e=.returned (.int .i64 (renewR s first (ep*4294967296+tl)).2)∧St F w0 w' (RW gd ((renewR s first (ep*4294967296+tl)).1)::L):=by
 by_cases hz:s.left=0
 ·exact k_renewed_dead S hin hep htl hpn hz
 ·exact k_renewed_go S hin hep htl hpn hz (hren hz)
end
section
variable {F:Nat→Prop} {w0 w:World} {L:List Ast}
theorem k_sync {g gd:Nat}{l:Lg}{s:Dsk}(S:St F w0 w (KLog g gd l::RW gd s::L)):Calls Tryz.prog 73 #[.pointer (some ⟨g,0,none⟩)] w fun e w'=>e=.returned (.int .i64 (syncR s l).2)∧St F w0 w' (KLog g gd l::RW gd ((syncR s l).1)::L):=by
 change St F w0 w (row g (kC_ gd l l.head) 130::RW gd s::L) at S
 refine eN (fr [pq g] 13) Tryz.func73 rfl (sR (pv (iv 0) (wER (pv (pq g) (sP Tryz.func103 #[pq g] (k_ready S) fun w1 S2=>pv (iv (readyR s l)) (wE (nS (sR (pv (iv (readyR s l)) (dN (readyR s l) 0 (fun hr=> ?_) fun hr=> ?_))))))))))
 ·refine wE (nCT (sR (pv (iv (readyR s l)) (pv (iv (readyR s l)) (wE (then_n (rR (bA (iv (readyR s l)) ?_))))))))
  have e:syncR s l=(s,readyR s l):=by unfold syncR;rw [if_pos hr]
  rw [e]
  exact ⟨rfl,S2⟩
 ·refine wE (nCF (wp_skip (nSR (pv (pq g) (pv (pq g) (pv (pq g) (lR (pq gd) S2 0 0 (g_ (gv_call (args:=#[pq gd]) rfl Tryz.func57 kr_ rfl rfl kr_ ?_)))))))))
  have S3:=St.pm 2 [1,0] S2
  refine Calls.mono (rw_flush S3) ?_
  rintro _ w4 ⟨rfl,S5⟩
  refine ⟨_,rfl,(pv (iv s.flushR.2) (wE (then_n (wp_ret (bA (iv s.flushR.2) ?_)))))⟩
  have e:syncR s l=s.flushR:=by unfold syncR;rw [if_neg (fun h=>h hr)]
  rw [e]
  have S6:=St.pm 2 [1,0] S5
  exact ⟨rfl,S6⟩
theorem k_trim {g gd:Nat}{l:Lg}{s:Dsk}(S:St F w0 w (KLog g gd l::RW gd s::L))(hl:LOk l)(hh:LHd l)(hpn:s.pend.length<4398046511104)(hin:l.first+1<s.last.length)(hren:readyR s l=0→s.flushR.1.left≠0→l.tail≠l.head→(renewF (s.flushR.1.now l.first) (s.flushR.1.now (l.first+1)) ((l.epoch*4294967296+l.head:Nat):Int) []).2.2=0):Calls Tryz.prog 75 #[.pointer (some ⟨g,0,none⟩)] w fun e w'=>e=.returned (.int .i64 (trimR s l).2.2)∧St F w0 w' (KLog g gd ((trimR s l).2.1)::RW gd ((trimR s l).1)::L):=by
 obtain ⟨hf1,hf2⟩:=flush_facts s
 obtain ⟨h1,h2,h3,h4,h5,h6⟩:=id hl
 obtain ⟨h7,h8⟩:=id hh
 by_cases hr:readyR s l≠0
 ·have e:trimR s l=(s,l,readyR s l):=by unfold trimR;rw [if_pos hr]
  rw [e]
  change St F w0 w (row g (kC_ gd l l.head) 130::RW gd s::L) at S
  refine eN (fr [pq g] 54) Tryz.func75 rfl (sR (pv (iv 0) (wER (pv (pq g) (sP Tryz.func103 #[pq g] (k_ready S) fun w1 S2=>pv (iv (readyR s l)) (wE (nS (sR (pv (iv (readyR s l)) (dN (readyR s l) 0 (fun _=>wE (nCT ?_)) fun hd3=>False.elim (hr hd3)))))))))))
  exact sR (pv (iv (readyR s l)) (pv (iv (readyR s l)) (wE (then_n (rR (bA (iv (readyR s l)) ⟨rfl,S2⟩))))))
 have hr:readyR s l=0:=by omega
 by_cases hfl:s.flushR.2≠0
 ·have e:trimR s l=(s.flushR.1,l,s.flushR.2):=by unfold trimR;rw [if_neg (fun h=>h hr),if_pos (.inl hfl)]
  rw [e]
  change St F w0 w (row g (kC_ gd l l.head) 130::RW gd s::L) at S
  refine eN (fr [pq g] 54) Tryz.func75 rfl (sR (pv (iv 0) (wER (pv (pq g) (g_ (gv_call (args:=#[pq g]) rfl Tryz.func103 kr_ rfl rfl kr_ ?_))))))
  have hrd:=k_ready S
  rw [hr] at hrd
  refine Calls.mono hrd ?_
  rintro _ w1 ⟨rfl,S2⟩
  refine ⟨_,rfl,(pv (iv 0) (wE (nS (sR (pv (iv 0) (dN 0 0 (fun hd3=>False.elim om_) fun _=>wE (nCF (wp_skip (nSR (pv (pq g) (pv (pq g) (pv (pq g) ?_))))))))))))⟩
  refine lR (pq gd) S2 0 0 (g_ (gv_call (args:=#[pq gd]) rfl Tryz.func57 kr_ rfl rfl kr_ ?_))
  have S4:=St.pm 2 [1,0] S2
  refine Calls.mono (rw_flush S4) ?_
  rintro _ w5 ⟨rfl,S6⟩
  refine ⟨_,rfl,(pv (iv s.flushR.2) (wE (nS (wp_seq (wp_region_phu (γ:=Unit) 13 [] (fun (c_:Unit) (i_:Nat)=>(match i_ with|0=>iv s.flushR.2|1=>.bool true|2=>.bool true|3=>undef|4=>undef|5=>undef|6=>undef|7=>undef|8=>undef|9=>undef|10=>undef|11=>undef|12=>.bool true|_=>undef:Value)) (fun (c_:Unit) (p_:Nat) (w_:World)=>(match p_ with|_=>St F w0 w_ (RW gd s.flushR.1::row g (kC_ gd l l.head) 130::L):Prop)) () kr_ kr_ kr_ kr_ (S6.drew) ?_ ?_ ?_)))))⟩
  ·intro i_ c_ p_ vals_ w1 hi_ hiE_ hp_ hk_ hu_ hPh_ hd_
   rcases i_ with _|_|_|_|_|_|_|_|_|_|_|_|_|i_
   ·exact tG_ rfl hd_ (gV (iv s.flushR.2) ⟨rfl,rfl⟩)
   ·exact tG_ rfl hd_ (gB_ (b:=s.flushR.2 !=0) (b':=true) kr_ (by simp;exact hfl) ⟨rfl,rfl⟩)
   ·exact tG_ rfl hd_ (gV (.bool true) ⟨rfl,rfl⟩)
   ·exact tO_ 2 16 2 false true rfl hd_ ⟨rfl,rfl⟩
   ·exact tO_ 2 16 2 false true rfl hd_ ⟨rfl,rfl⟩
   ·exact tO_ 2 16 2 false true rfl hd_ ⟨rfl,rfl⟩
   ·exact tO_ 2 16 2 false true rfl hd_ ⟨rfl,rfl⟩
   ·exact tO_ 2 16 2 false true rfl hd_ ⟨rfl,rfl⟩
   ·exact tO_ 2 16 2 false true rfl hd_ ⟨rfl,rfl⟩
   ·exact tO_ 2 16 2 false true rfl hd_ ⟨rfl,rfl⟩
   ·exact tO_ 2 16 2 false true rfl hd_ ⟨rfl,rfl⟩
   ·exact tO_ 2 16 2 false true rfl hd_ ⟨rfl,rfl⟩
   ·exact tG_ rfl hd_ (gV (.bool true) ⟨rfl,rfl⟩)
   ·exact absurd hi_ om_
  ·intro k_ c_ vals_ w1 hk_ hPh_ hd_
   exact absurd hk_ (Nat.not_lt_zero _)
  ·intro c_ w1 hPh_
   have S20:=St.id hPh_
   refine (wE (nCT (sR (pv (iv s.flushR.2) (pv (iv s.flushR.2) (wE (then_n (rR (bA (iv s.flushR.2) ?_)))))))))
   have S21:=St.pm 2 [1,0] S20
   exact ⟨rfl,S21⟩
 have hfl0:s.flushR.2=0:=by omega
 by_cases hth:l.tail=l.head
 ·have e:trimR s l=(s.flushR.1,l,s.flushR.2):=by unfold trimR;rw [if_neg (fun h=>h hr),if_pos (.inr hth)]
  rw [e,hfl0]
  change St F w0 w (row g (kC_ gd l l.head) 130::RW gd s::L) at S
  refine eN (fr [pq g] 54) Tryz.func75 rfl (sR (pv (iv 0) (wER (pv (pq g) (g_ (gv_call (args:=#[pq g]) rfl Tryz.func103 kr_ rfl rfl kr_ ?_))))))
  have hrd:=k_ready S
  rw [hr] at hrd
  refine Calls.mono hrd ?_
  rintro _ w1 ⟨rfl,S2⟩
  refine ⟨_,rfl,(pv (iv 0) (wE (nS (sR (pv (iv 0) (dN 0 0 (fun hd3=>False.elim om_) fun _=>wE (nCF (wp_skip (nSR (pv (pq g) (pv (pq g) (pv (pq g) ?_))))))))))))⟩
  refine lR (pq gd) S2 0 0 (g_ (gv_call (args:=#[pq gd]) rfl Tryz.func57 kr_ rfl rfl kr_ ?_))
  have S4:=St.pm 2 [1,0] S2
  have hfs:=rw_flush S4
  rw [hfl0] at hfs
  refine Calls.mono hfs ?_
  rintro _ w5 ⟨rfl,S6⟩
  refine ⟨_,rfl,(pv (iv 0) (wE (nS (wp_seq (wp_region_phu (γ:=Unit) 13 [] (fun (c_:Unit) (i_:Nat)=>(match i_ with|0=>iv 0|1=>.bool false|2=>.bool false|3=>pq g|4=>pq g|5=>po g 5|6=>nI_ l.tail|7=>pq g|8=>pq g|9=>po g 6|10=>nI_ l.head|11=>.bool true|12=>.bool true|_=>undef:Value)) (fun (c_:Unit) (p_:Nat) (w_:World)=>(match p_ with|_=>St F w0 w_ (RW gd s.flushR.1::row g (kC_ gd l l.head) 130::L):Prop)) () kr_ kr_ kr_ kr_ (S6.drew) ?_ ?_ ?_)))))⟩
  ·intro i_ c_ p_ vals_ w1 hi_ hiE_ hp_ hk_ hu_ hPh_ hd_
   rcases i_ with _|_|_|_|_|_|_|_|_|_|_|_|_|i_
   ·exact tG_ rfl hd_ (gV (iv 0) ⟨rfl,rfl⟩)
   ·exact tG_ rfl hd_ (gB_ (b:=0 !=0) (b':=false) kr_ (by simp;skip) ⟨rfl,rfl⟩)
   ·exact tG_ rfl hd_ (gV (.bool false) ⟨rfl,rfl⟩)
   ·exact tW_ 2 16 2 false rfl hd_ (gv_val (v:=pq g) (w':=w1) kr_ ⟨rfl,rfl⟩)
   ·exact tW_ 2 16 2 false rfl hd_ (gv_val (v:=pq g) (w':=w1) kr_ ⟨rfl,rfl⟩)
   ·exact tW_ 2 16 2 false rfl hd_ (gv_val (v:=po g 5) (w':=w1) kr_ ⟨rfl,rfl⟩)
   ·have S13:=St.id hPh_
    exact tW_ 2 16 2 false rfl hd_ (gv_ldR (v:=nI_ l.tail) rfl kr_ kr_ (((S13.blk 1 rfl).cell 5).trans rfl) ⟨rfl,rfl⟩)
   ·exact tW_ 2 16 2 false rfl hd_ (gv_val (v:=pq g) (w':=w1) kr_ ⟨rfl,rfl⟩)
   ·exact tW_ 2 16 2 false rfl hd_ (gv_val (v:=pq g) (w':=w1) kr_ ⟨rfl,rfl⟩)
   ·exact tW_ 2 16 2 false rfl hd_ (gv_val (v:=po g 6) (w':=w1) kr_ ⟨rfl,rfl⟩)
   ·have S17:=St.id hPh_
    exact tW_ 2 16 2 false rfl hd_ (gv_ldR (v:=nI_ l.head) rfl kr_ kr_ (((S17.blk 1 rfl).cell 6).trans rfl) ⟨rfl,rfl⟩)
   ·exact tW_ 2 16 2 false rfl hd_ (gB_ (b:=((l.tail:Nat):Int)==((l.head:Nat):Int)) (b':=true) kr_ (by simp;omega) ⟨rfl,rfl⟩)
   ·exact tG_ rfl hd_ (gV (.bool true) ⟨rfl,rfl⟩)
   ·exact absurd hi_ om_
  ·intro k_ c_ vals_ w1 hk_ hPh_ hd_
   exact absurd hk_ (Nat.not_lt_zero _)
  ·intro c_ w1 hPh_
   have S20:=St.id hPh_
   refine (wE (nCT (sR (pv (iv 0) (pv (iv 0) (wE (then_n (rR (bA (iv 0) ?_)))))))))
   have S21:=St.pm 2 [1,0] S20
   exact ⟨rfl,S21⟩
 obtain ⟨r,hre⟩:∃r,renewR s.flushR.1 l.first (l.epoch*4294967296+l.head)=r:=⟨_,rfl⟩
 have e:trimR s l=(r.1,(if r.2=0 then {l with tail:=l.head} else l),r.2):=by
  unfold trimR;rw [if_neg (fun h=>h hr),if_neg om_]
  simp only [hre]
  by_cases h0:r.2=0
  ·simp only [h0,ne_eq,not_true,if_false,if_true]
  ·simp only [h0,ne_eq,not_false_iff,if_false,if_true]
 rw [e]
 change St F w0 w (row g (kC_ gd l l.head) 130::RW gd s::L) at S
 refine eN (fr [pq g] 54) Tryz.func75 rfl (sR (pv (iv 0) (wER (pv (pq g) (g_ (gv_call (args:=#[pq g]) rfl Tryz.func103 kr_ rfl rfl kr_ ?_))))))
 have hrd:=k_ready S
 rw [hr] at hrd
 refine Calls.mono hrd ?_
 rintro _ w1 ⟨rfl,S2⟩
 refine ⟨_,rfl,(pv (iv 0) (wE (nS (sR (pv (iv 0) (dN 0 0 (fun hd3=>False.elim om_) fun _=>wE (nCF (wp_skip (nSR (pv (pq g) (pv (pq g) (pv (pq g) ?_))))))))))))⟩
 refine lR (pq gd) S2 0 0 (g_ (gv_call (args:=#[pq gd]) rfl Tryz.func57 kr_ rfl rfl kr_ ?_))
 have S4:=St.pm 2 [1,0] S2
 have hfs:=rw_flush S4
 rw [hfl0] at hfs
 refine Calls.mono hfs ?_
 rintro _ w5 ⟨rfl,S6⟩
 refine ⟨_,rfl,(pv (iv 0) (wE (nS (wp_seq (wp_region_phu (γ:=Unit) 13 [] (fun (c_:Unit) (i_:Nat)=>(match i_ with|0=>iv 0|1=>.bool false|2=>.bool false|3=>pq g|4=>pq g|5=>po g 5|6=>nI_ l.tail|7=>pq g|8=>pq g|9=>po g 6|10=>nI_ l.head|11=>.bool false|12=>.bool false|_=>undef:Value)) (fun (c_:Unit) (p_:Nat) (w_:World)=>(match p_ with|_=>St F w0 w_ (RW gd s.flushR.1::row g (kC_ gd l l.head) 130::L):Prop)) () kr_ kr_ kr_ kr_ (S6.drew) ?_ ?_ ?_)))))⟩
 ·intro i_ c_ p_ vals_ w1 hi_ hiE_ hp_ hk_ hu_ hPh_ hd_
  rcases i_ with _|_|_|_|_|_|_|_|_|_|_|_|_|i_
  ·exact tG_ rfl hd_ (gV (iv 0) ⟨rfl,rfl⟩)
  ·exact tG_ rfl hd_ (gB_ (b:=0 !=0) (b':=false) kr_ (by simp;skip) ⟨rfl,rfl⟩)
  ·exact tG_ rfl hd_ (gV (.bool false) ⟨rfl,rfl⟩)
  ·exact tW_ 2 16 2 false rfl hd_ (gv_val (v:=pq g) (w':=w1) kr_ ⟨rfl,rfl⟩)
  ·exact tW_ 2 16 2 false rfl hd_ (gv_val (v:=pq g) (w':=w1) kr_ ⟨rfl,rfl⟩)
  ·exact tW_ 2 16 2 false rfl hd_ (gv_val (v:=po g 5) (w':=w1) kr_ ⟨rfl,rfl⟩)
  ·have S13:=St.id hPh_
   exact tW_ 2 16 2 false rfl hd_ (gv_ldR (v:=nI_ l.tail) rfl kr_ kr_ (((S13.blk 1 rfl).cell 5).trans rfl) ⟨rfl,rfl⟩)
  ·exact tW_ 2 16 2 false rfl hd_ (gv_val (v:=pq g) (w':=w1) kr_ ⟨rfl,rfl⟩)
  ·exact tW_ 2 16 2 false rfl hd_ (gv_val (v:=pq g) (w':=w1) kr_ ⟨rfl,rfl⟩)
  ·exact tW_ 2 16 2 false rfl hd_ (gv_val (v:=po g 6) (w':=w1) kr_ ⟨rfl,rfl⟩)
  ·have S17:=St.id hPh_
   exact tW_ 2 16 2 false rfl hd_ (gv_ldR (v:=nI_ l.head) rfl kr_ kr_ (((S17.blk 1 rfl).cell 6).trans rfl) ⟨rfl,rfl⟩)
  ·exact tW_ 2 16 2 false rfl hd_ (gB_ (b:=((l.tail:Nat):Int)==((l.head:Nat):Int)) (b':=false) kr_ (by simp;omega) ⟨rfl,rfl⟩)
  ·exact tG_ rfl hd_ (gV (.bool false) ⟨rfl,rfl⟩)
  ·exact absurd hi_ om_
 ·intro k_ c_ vals_ w1 hk_ hPh_ hd_
  exact absurd hk_ (Nat.not_lt_zero _)
 ·intro c_ w1 hPh_
  have S20:=St.id hPh_
  refine (wE (nCF (wp_skip (nS (wp_region_phu (γ:=Unit) 17 [16] (fun (c2_:Unit) (i_:Nat)=>(match i_ with|0=>pq g|1=>pq g|2=>pq g|3=>pq gd|4=>pq g|5=>pq g|6=>po g 2|7=>nI_ l.first|8=>pq g|9=>pq g|10=>po g 4|11=>nI_ l.epoch|12=>pq g|13=>pq g|14=>po g 6|15=>nI_ l.head|16=>iv r.2|_=>undef:Value)) (fun (c2_:Unit) (p_:Nat) (w_:World)=>(match p_ with|0=>St F w0 w_ (RW gd s.flushR.1::row g (kC_ gd l l.head) 130::L)|_=>St F w0 w_ (RW gd r.1::row g (kC_ gd l l.head) 130::L):Prop)) () kr_ kr_ kr_ kr_ (S20.drew) ?_ ?_ ?_)))))
  ·intro i_ c2_ p_ vals_ w1 hi_ hiE_ hp_ hk_ hu_ hPh_ hd_
   rcases i_ with _|_|_|_|_|_|_|_|_|_|_|_|_|_|_|_|_|i_
   ·exact tG_ rfl hd_ (gV (pq g) ⟨rfl,rfl⟩)
   ·exact tG_ rfl hd_ (gV (pq g) ⟨rfl,rfl⟩)
   ·exact tG_ rfl hd_ (gV (pq g) ⟨rfl,rfl⟩)
   ·rcases p_ with _|_|p_
    ·have S24:=St.id hPh_
     exact tG_ rfl hd_ (gL (pq gd) rfl (((S24.blk 1 rfl).cell 0).trans rfl) ⟨rfl,rfl⟩)
    ·exact absurd (hu_ 0 dc_ kr_) dc_
    ·exact absurd hp_ (by simp)
   ·exact tG_ rfl hd_ (gV (pq g) ⟨rfl,rfl⟩)
   ·exact tG_ rfl hd_ (gV (pq g) ⟨rfl,rfl⟩)
   ·exact tG_ rfl hd_ (gV (po g 2) ⟨rfl,rfl⟩)
   ·rcases p_ with _|_|p_
    ·have S28:=St.id hPh_
     exact tG_ rfl hd_ (gL (nI_ l.first) rfl (((S28.blk 1 rfl).cell 2).trans rfl) ⟨rfl,rfl⟩)
    ·exact absurd (hu_ 0 dc_ kr_) dc_
    ·exact absurd hp_ (by simp)
   ·exact tG_ rfl hd_ (gV (pq g) ⟨rfl,rfl⟩)
   ·exact tG_ rfl hd_ (gV (pq g) ⟨rfl,rfl⟩)
   ·exact tG_ rfl hd_ (gV (po g 4) ⟨rfl,rfl⟩)
   ·rcases p_ with _|_|p_
    ·have S32:=St.id hPh_
     exact tG_ rfl hd_ (gL (nI_ l.epoch) rfl (((S32.blk 1 rfl).cell 4).trans rfl) ⟨rfl,rfl⟩)
    ·exact absurd (hu_ 0 dc_ kr_) dc_
    ·exact absurd hp_ (by simp)
   ·exact tG_ rfl hd_ (gV (pq g) ⟨rfl,rfl⟩)
   ·exact tG_ rfl hd_ (gV (pq g) ⟨rfl,rfl⟩)
   ·exact tG_ rfl hd_ (gV (po g 6) ⟨rfl,rfl⟩)
   ·rcases p_ with _|_|p_
    ·have S36:=St.id hPh_
     exact tG_ rfl hd_ (gL (nI_ l.head) rfl (((S36.blk 1 rfl).cell 6).trans rfl) ⟨rfl,rfl⟩)
    ·exact absurd (hu_ 0 dc_ kr_) dc_
    ·exact absurd hp_ (by simp)
   ·exact absurd hiE_ dc_
   ·exact absurd hi_ om_
  ·intro k_ c2_ vals_ w1 hk_ hPh_ hd_
   rcases k_ with _|k_
   ·have S37:=St.id hPh_
    refine tG_ rfl hd_ (gv_call (args:=#[pq gd,nI_ l.first,nI_ l.epoch,nI_ l.head]) rfl Tryz.func58 kr_ rfl rfl kr_ ?_)
    have hrc:=k_renewed (first:=l.first) (ep:=l.epoch) (tl:=l.head) S37 om_ om_ om_ om_ (fun h=>hren hr h hth)
    rw [hre] at hrc
    refine Calls.mono hrc ?_
    rintro _ w38 ⟨rfl,S39⟩
    refine ⟨_,rfl,⟨(),rfl, ?_,S39⟩⟩
    intro i_ hi_ hne_ hdp_
    rcases i_ with _|_|_|_|_|_|_|_|_|_|_|_|_|_|_|_|_|i_
    ·rfl
    ·rfl
    ·rfl
    ·rfl
    ·rfl
    ·rfl
    ·rfl
    ·rfl
    ·rfl
    ·rfl
    ·rfl
    ·rfl
    ·rfl
    ·rfl
    ·rfl
    ·rfl
    ·exact absurd rfl hne_
    ·exact absurd hi_ om_
   ·exact absurd hk_ (by simp)
  ·intro c2_ w1 hPh_
   have S40:=St.id hPh_
   refine (pv (iv r.2) (wE (nS (sR (pv (iv r.2) (dE r.2 0 (fun hr0=> ?_) fun hr0=> ?_))))))
   ·refine wE (nCT (wp_region_lit (pv (pq g) (pv (pq g) (pv (pq g) (pv (po g 6) (lR (nI_ l.head) S40 1 6 (pv (pq g) (pv (po g 5) (sS S40 1 rfl 5 (nI_ l.head) fun w41 S42=>wER (pv (iv r.2) (pv (iv r.2) ?_))))))))))))
    refine wE (then_n (wp_ret (bA (iv r.2) ?_)))
    rw [if_pos hr0]
    have S43:=St.pm 2 [1,0] S42
    exact ⟨rfl,S43⟩
   ·refine wE (nCF (wp_skip (nSR (pv (iv r.2) (pv (iv r.2) (wE (then_n (wp_ret (bA (iv r.2) ?_)))))))))
    rw [if_neg hr0]
    have S44:=St.pm 2 [1,0] S40
    exact ⟨rfl,S44⟩
theorem k_start {g gd:Nat}{l:Lg}{s:Dsk}(S:St F w0 w (KLog g gd l::RW gd s::L))(hl:LOk l)(hpn:s.pend.length<4398046511104)(hin:l.first+1<s.last.length)(hren:aliveR s l=true→l.begun=false→(renewF (s.now l.first) (s.now (l.first+1)) (((l.top+1)*4294967296+0:Nat):Int) []).2.2=0):Calls Tryz.prog 70 #[.pointer (some ⟨g,0,none⟩)] w fun e w'=>e=.returned (.int .i64 (startR s l).2.2)∧St F w0 w' (KLog g gd ((startR s l).2.1)::RW gd ((startR s l).1)::L):=by
 have hl5:=hl.top
 obtain ⟨b,hb⟩:∃b,l.begun=b:=⟨_,rfl⟩
 obtain ⟨r,hr⟩:∃r,renewR s l.first ((l.top+1)*4294967296+0)=r:=⟨_,rfl⟩
 change St F w0 w (row g (kC_ gd l l.head) 130::RW gd s::L) at S
 refine eN (fr [pq g] 43) Tryz.func70 rfl (sR (pv (iv 0) (wE (nS (sR (pv (pq g) (sP Tryz.func102 #[pq g] (k_dead S) fun w1 S2=>wE (then_n (wp_cond_split (t:= !aliveR s l) kr_ (fun hc3=> ?_) (fun hc3=> ?_))))))))))
 ·have ha:aliveR s l=false:=by simpa using hc3
  refine sR (pv (iv 3) (wE (then_n (rR (bA (iv 3) ?_)))))
  have e:startR s l=(s,l,3):=by unfold startR;rw [if_pos ha]
  rw [e]
  exact ⟨rfl,S2⟩
 ·have ha:aliveR s l=true:=by simpa using hc3
  refine wp_skip (nS (sR (pv (pq g) (pv (pq g) (pv (po g 8) (lR (.bool l.begun) S2 0 8 (wE (then_n (wp_cond_split (t:=l.begun) kr_ (fun hc4=> ?_) (fun hc4=> ?_))))))))))
  ·have hbg:l.begun=true:=hc4
   refine sR (pv (iv 5) (wE (then_n (rR (bA (iv 5) ?_)))))
   have e:startR s l=(s,l,5):=by unfold startR;rw [if_neg (by rw [ha];decide),if_pos hbg]
   rw [e]
   exact ⟨rfl,S2⟩
  ·have hbg:l.begun=false:=hc4
   refine wp_skip (nS (wp_region_phu (γ:=Unit) 14 [13] (fun (c_:Unit) (i_:Nat)=>(match i_ with|0=>pq g|1=>pq g|2=>pq g|3=>pq gd|4=>pq g|5=>pq g|6=>po g 2|7=>nI_ l.first|8=>pq g|9=>pq g|10=>po g 7|11=>nI_ l.top|12=>nI_ (l.top+1)|13=>iv r.2|_=>undef:Value)) (fun (c_:Unit) (p_:Nat) (w_:World)=>(match p_ with|0=>St F w0 w_ (row g (kC_ gd l l.head) 130::RW gd s::L)|_=>St F w0 w_ (RW gd r.1::row g (kC_ gd l l.head) 130::L):Prop)) () kr_ kr_ kr_ kr_ (S2.drew) ?_ ?_ ?_))
   ·intro i_ c_ p_ vals_ w1 hi_ hiE_ hp_ hk_ hu_ hPh_ hd_
    rcases i_ with _|_|_|_|_|_|_|_|_|_|_|_|_|_|i_
    ·exact tG_ rfl hd_ (gV (pq g) ⟨rfl,rfl⟩)
    ·exact tG_ rfl hd_ (gV (pq g) ⟨rfl,rfl⟩)
    ·exact tG_ rfl hd_ (gV (pq g) ⟨rfl,rfl⟩)
    ·rcases p_ with _|_|p_
     ·have S8:=St.id hPh_
      exact tG_ rfl hd_ (gL (pq gd) rfl (((S8.blk 0 rfl).cell 0).trans rfl) ⟨rfl,rfl⟩)
     ·exact absurd (hu_ 0 dc_ kr_) dc_
     ·exact absurd hp_ (by simp)
    ·exact tG_ rfl hd_ (gV (pq g) ⟨rfl,rfl⟩)
    ·exact tG_ rfl hd_ (gV (pq g) ⟨rfl,rfl⟩)
    ·exact tG_ rfl hd_ (gV (po g 2) ⟨rfl,rfl⟩)
    ·rcases p_ with _|_|p_
     ·have S12:=St.id hPh_
      exact tG_ rfl hd_ (gL (nI_ l.first) rfl (((S12.blk 0 rfl).cell 2).trans rfl) ⟨rfl,rfl⟩)
     ·exact absurd (hu_ 0 dc_ kr_) dc_
     ·exact absurd hp_ (by simp)
    ·exact tG_ rfl hd_ (gV (pq g) ⟨rfl,rfl⟩)
    ·exact tG_ rfl hd_ (gV (pq g) ⟨rfl,rfl⟩)
    ·exact tG_ rfl hd_ (gV (po g 7) ⟨rfl,rfl⟩)
    ·rcases p_ with _|_|p_
     ·have S16:=St.id hPh_
      exact tG_ rfl hd_ (gL (nI_ l.top) rfl (((S16.blk 0 rfl).cell 7).trans rfl) ⟨rfl,rfl⟩)
     ·exact absurd (hu_ 0 dc_ kr_) dc_
     ·exact absurd hp_ (by simp)
    ·exact tG_ rfl hd_ (gv_int (k:=.i64) (z:=IntKind.i64.wrap (((l.top:Nat):Int)+1)) (z':=((l.top+1:Nat):Int)) kr_ wq_ ⟨rfl,rfl⟩)
    ·exact absurd hiE_ dc_
    ·exact absurd hi_ om_
   ·intro k_ c_ vals_ w1 hk_ hPh_ hd_
    rcases k_ with _|k_
    ·have S18:=St.id hPh_
     refine tG_ rfl hd_ (gv_call (args:=#[pq gd,nI_ l.first,nI_ (l.top+1),iv 0]) rfl Tryz.func58 kr_ rfl rfl kr_ ?_)
     have S19:=St.pm 2 [1,0] S18
     have hrc:=k_renewed (first:=l.first) (ep:=l.top+1) (tl:=0) S19 om_ om_ om_ om_ (fun h=>hren ha hbg)
     rw [hr] at hrc
     refine Calls.mono hrc ?_
     rintro _ w20 ⟨rfl,S21⟩
     refine ⟨_,rfl,⟨(),rfl, ?_,S21⟩⟩
     intro i_ hi_ hne_ hdp_
     rcases i_ with _|_|_|_|_|_|_|_|_|_|_|_|_|_|i_
     ·rfl
     ·rfl
     ·rfl
     ·rfl
     ·rfl
     ·rfl
     ·rfl
     ·rfl
     ·rfl
     ·rfl
     ·rfl
     ·rfl
     ·rfl
     ·exact absurd rfl hne_
     ·exact absurd hi_ om_
    ·exact absurd hk_ (by simp)
   ·intro c_ w1 hPh_
    have S22:=St.id hPh_
    refine (pv (iv r.2) (wE (nS (sR (pv (iv r.2) (dN r.2 0 (fun hr0=> ?_) fun hr0=> ?_))))))
    ·refine wE (nCT (sR (pv (iv r.2) (pv (iv r.2) (wE (then_n (rR (bA (iv r.2) ?_))))))))
     have e:startR s l=(r.1,l,r.2):=by unfold startR;rw [if_neg (by rw [ha];decide),if_neg (by rw [hbg];decide)];simp only [hr];rw [if_pos hr0]
     rw [e]
     have S23:=St.pm 2 [1,0] S22
     exact ⟨rfl,S23⟩
    ·refine wE (nCF (wp_skip (nSR (pv (pq g) (pv (pq g) (pv (po g 8) (sS S22 1 rfl 8 (.bool true) fun w24 S25=>wER (pv (pq g) (pv (pq g) (pv (pq g) (pv (po g 7) (lR (nI_ l.top) S25 1 7 ?_))))))))))))
     refine gI .i64 (IntKind.i64.wrap (((l.top:Nat):Int)+1)) ((l.top+1:Nat):Int) wq_ (pv (pq g) (pv (po g 4) (sS S25 1 rfl 4 (nI_ (l.top+1)) fun w26 S27=>wER (pv (pq g) (pv (pq g) (pv (po g 5) (sS S27 1 rfl 5 (iv 0) fun w28 S29=>wER (pv (pq g) (pv (pq g) (pv (po g 6) (sS S29 1 rfl 6 (iv 0) fun w30 S31=> ?_)))))))))))
     refine wER (pv (iv 0) (wE (then_n (wp_ret (bA (iv 0) ?_)))))
     have e:startR s l=(r.1,{l with epoch:=l.top+1,tail:=0,head:=0,begun:=true},0):=by unfold startR;rw [if_neg (by rw [ha];decide),if_neg (by rw [hbg];decide)];simp only [hr];rw [if_neg (fun h=>hr0|>fun h0=>h h0)]
     rw [e]
     have S32:=St.pm 2 [1,0] S31
     exact ⟨rfl,S32⟩
theorem k_room_no {g gd:Nat}{l:Lg}{s:Dsk}(S:St F w0 w (KLog g gd l::RW gd s::L))(hr:readyR s l≠0):Calls Tryz.prog 76 #[.pointer (some ⟨g,0,none⟩)] w fun e w'=>e=.returned (.tuple #[.int .i64 0,.int .i64 (readyR s l)])∧St F w0 w' (KLog g gd l::RW gd s::L):=by
 change St F w0 w (row g (kC_ gd l l.head) 130::RW gd s::L) at S
 refine eN (fr [pq g] 23) Tryz.func76 rfl (sR (pv (iv 0) (pv (iv 0) (wER (pv (pq g) (sP Tryz.func103 #[pq g] (k_ready S) fun w1 S2=>pv (iv (readyR s l)) (wE (nS (sR (pv (iv (readyR s l)) (dN (readyR s l) 0 (fun _=>wE ?_) fun hd3=>False.elim (hr hd3))))))))))))
 exact nCT (sR (pv (iv (readyR s l)) (pv (iv 0) (pv (iv (readyR s l)) (wE (then_n (rR (bB (iv 0) (iv (readyR s l)) ⟨rfl,S2⟩))))))))
theorem k_room {g gd:Nat}{l:Lg}{s:Dsk}(S:St F w0 w (KLog g gd l::RW gd s::L))(hl:LOk l)(hh:LHd l)(hr:readyR s l=0):Calls Tryz.prog 76 #[.pointer (some ⟨g,0,none⟩)] w fun e w'=>e=.returned (.tuple #[.int .i64 ((l.n:Int)-((l.head:Int)-(l.tail:Int))),.int .i64 0])∧St F w0 w' (KLog g gd l::RW gd s::L):=by
 obtain ⟨h1,h2,h3,h4,h5,h6⟩:=id hl
 obtain ⟨h7,h8⟩:=id hh
 change St F w0 w (row g (kC_ gd l l.head) 130::RW gd s::L) at S
 refine eN (fr [pq g] 23) Tryz.func76 rfl (sR (pv (iv 0) (pv (iv 0) (wER (pv (pq g) (g_ (gv_call (args:=#[pq g]) rfl Tryz.func103 kr_ rfl rfl kr_ ?_)))))))
 have hrd:=k_ready S
 rw [hr] at hrd
 refine Calls.mono hrd ?_
 rintro _ w1 ⟨rfl,S2⟩
 refine ⟨_,rfl,(pv (iv 0) (wE (nS (sR (pv (iv 0) (dN 0 0 (fun hd3=>False.elim om_) fun _=>wE (nCF (wp_skip (nS (wp_region_phu (γ:=Unit) 14 [] (fun (c_:Unit) (i_:Nat)=>(match i_ with|0=>pq g|1=>pq g|2=>po g 3|3=>nI_ l.n|4=>pq g|5=>pq g|6=>po g 6|7=>nI_ l.head|8=>pq g|9=>pq g|10=>po g 5|11=>nI_ l.tail|12=>iv (((l.head:Nat):Int)-((l.tail:Nat):Int))|13=>iv (((l.n:Nat):Int)-(((l.head:Nat):Int)-((l.tail:Nat):Int)))|_=>undef:Value)) (fun (c_:Unit) (p_:Nat) (w_:World)=>(match p_ with|_=>St F w0 w_ (row g (kC_ gd l l.head) 130::RW gd s::L):Prop)) () kr_ kr_ kr_ kr_ (S2.drew) ?_ ?_ ?_))))))))))⟩
 ·intro i_ c_ p_ vals_ w1 hi_ hiE_ hp_ hk_ hu_ hPh_ hd_
  rcases i_ with _|_|_|_|_|_|_|_|_|_|_|_|_|_|i_
  ·exact tG_ rfl hd_ (gV (pq g) ⟨rfl,rfl⟩)
  ·exact tG_ rfl hd_ (gV (pq g) ⟨rfl,rfl⟩)
  ·exact tG_ rfl hd_ (gV (po g 3) ⟨rfl,rfl⟩)
  ·have S7:=St.id hPh_
   exact tG_ rfl hd_ (gL (nI_ l.n) rfl (((S7.blk 0 rfl).cell 3).trans rfl) ⟨rfl,rfl⟩)
  ·exact tG_ rfl hd_ (gV (pq g) ⟨rfl,rfl⟩)
  ·exact tG_ rfl hd_ (gV (pq g) ⟨rfl,rfl⟩)
  ·exact tG_ rfl hd_ (gV (po g 6) ⟨rfl,rfl⟩)
  ·have S11:=St.id hPh_
   exact tG_ rfl hd_ (gL (nI_ l.head) rfl (((S11.blk 0 rfl).cell 6).trans rfl) ⟨rfl,rfl⟩)
  ·exact tG_ rfl hd_ (gV (pq g) ⟨rfl,rfl⟩)
  ·exact tG_ rfl hd_ (gV (pq g) ⟨rfl,rfl⟩)
  ·exact tG_ rfl hd_ (gV (po g 5) ⟨rfl,rfl⟩)
  ·have S15:=St.id hPh_
   exact tG_ rfl hd_ (gL (nI_ l.tail) rfl (((S15.blk 0 rfl).cell 5).trans rfl) ⟨rfl,rfl⟩)
  ·exact tG_ rfl hd_ (gv_int (k:=.i64) (z:=IntKind.i64.wrap (((l.head:Nat):Int)-((l.tail:Nat):Int))) (z':=((l.head:Nat):Int)-((l.tail:Nat):Int)) kr_ (wr_ok om_ om_) ⟨rfl,rfl⟩)
  ·exact tG_ rfl hd_ (gv_int (k:=.i64) (z:=IntKind.i64.wrap (((l.n:Nat):Int)-(((l.head:Nat):Int)-((l.tail:Nat):Int)))) (z':=((l.n:Nat):Int)-(((l.head:Nat):Int)-((l.tail:Nat):Int))) kr_ (wr_ok om_ om_) ⟨rfl,rfl⟩)
  ·exact absurd hi_ om_
 ·intro k_ c_ vals_ w1 hk_ hPh_ hd_
  exact absurd hk_ (Nat.not_lt_zero _)
 ·intro c_ w1 hPh_
  have S18:=St.id hPh_
  exact (pv (iv (((l.n:Nat):Int)-(((l.head:Nat):Int)-((l.tail:Nat):Int)))) (pv (iv 0) (wE (then_n (wp_ret (bB (iv (((l.n:Nat):Int)-(((l.head:Nat):Int)-((l.tail:Nat):Int)))) (iv 0) ⟨rfl,S18⟩))))))
theorem k_marks_no {g gd:Nat}{l:Lg}{s:Dsk}(S:St F w0 w (KLog g gd l::RW gd s::L))(hal:aliveR s l=false):Calls Tryz.prog 77 #[.pointer (some ⟨g,0,none⟩)] w fun e w'=>e=.returned (.tuple #[.int .i64 0,.int .i64 0,.int .i64 0,.int .i64 3])∧St F w0 w' (KLog g gd l::RW gd s::L):=by
 change St F w0 w (row g (kC_ gd l l.head) 130::RW gd s::L) at S
 refine eN (fr [pq g] 19) Tryz.func77 rfl (sR (pv (iv 0) (pv (iv 0) (pv (iv 0) (pv (iv 0) (wE (nS (sR (pv (pq g) (g_ (gv_call (args:=#[pq g]) rfl Tryz.func102 kr_ rfl rfl kr_ ?_)))))))))))
 have hdd:=k_dead S
 rw [hal] at hdd
 refine Calls.mono hdd ?_
 rintro _ w1 ⟨rfl,S2⟩
 exact ⟨_,rfl,(wE (nCT (sR (pv (iv 0) (pv (iv 0) (pv (iv 0) (pv (iv 3) (wE (then_n (rR (bodyPost_ret (v:=.tuple #[iv 0,iv 0,iv 0,iv 3]) (Go.Proofs.results_tmp4 rfl _ _ kr_ kr_ kr_ kr_) rfl ⟨rfl,S2⟩)))))))))))⟩
theorem k_marks {g gd:Nat}{l:Lg}{s:Dsk}(S:St F w0 w (KLog g gd l::RW gd s::L))(hal:aliveR s l=true):Calls Tryz.prog 77 #[.pointer (some ⟨g,0,none⟩)] w fun e w'=>e=.returned (.tuple #[.int .i64 (l.epoch:Nat),.int .i64 (l.tail:Nat),.int .i64 (l.head:Nat),.int .i64 0])∧St F w0 w' (KLog g gd l::RW gd s::L):=by
 change St F w0 w (row g (kC_ gd l l.head) 130::RW gd s::L) at S
 refine eN (fr [pq g] 19) Tryz.func77 rfl (sR (pv (iv 0) (pv (iv 0) (pv (iv 0) (pv (iv 0) (wE (nS (sR (pv (pq g) (g_ (gv_call (args:=#[pq g]) rfl Tryz.func102 kr_ rfl rfl kr_ ?_)))))))))))
 have hdd:=k_dead S
 rw [hal] at hdd
 refine Calls.mono hdd ?_
 rintro _ w1 ⟨rfl,S2⟩
 refine ⟨_,rfl,(wE (nCF (wp_skip (nS (wp_region_phu (γ:=Unit) 14 [] (fun (c_:Unit) (i_:Nat)=>(match i_ with|0=>pq g|1=>pq g|2=>po g 4|3=>nI_ l.epoch|4=>pq g|5=>pq g|6=>po g 5|7=>nI_ l.tail|8=>pq g|9=>pq g|10=>po g 6|11=>nI_ l.head|12=>nI_ l.epoch|13=>nI_ l.tail|_=>undef:Value)) (fun (c_:Unit) (p_:Nat) (w_:World)=>(match p_ with|_=>St F w0 w_ (row g (kC_ gd l l.head) 130::RW gd s::L):Prop)) () kr_ kr_ kr_ kr_ (S2.drew) ?_ ?_ ?_)))))⟩
 ·intro i_ c_ p_ vals_ w1 hi_ hiE_ hp_ hk_ hu_ hPh_ hd_
  rcases i_ with _|_|_|_|_|_|_|_|_|_|_|_|_|_|i_
  ·exact tG_ rfl hd_ (gV (pq g) ⟨rfl,rfl⟩)
  ·exact tG_ rfl hd_ (gV (pq g) ⟨rfl,rfl⟩)
  ·exact tG_ rfl hd_ (gV (po g 4) ⟨rfl,rfl⟩)
  ·have S6:=St.id hPh_
   exact tG_ rfl hd_ (gL (nI_ l.epoch) rfl (((S6.blk 0 rfl).cell 4).trans rfl) ⟨rfl,rfl⟩)
  ·exact tG_ rfl hd_ (gV (pq g) ⟨rfl,rfl⟩)
  ·exact tG_ rfl hd_ (gV (pq g) ⟨rfl,rfl⟩)
  ·exact tG_ rfl hd_ (gV (po g 5) ⟨rfl,rfl⟩)
  ·have S10:=St.id hPh_
   exact tG_ rfl hd_ (gL (nI_ l.tail) rfl (((S10.blk 0 rfl).cell 5).trans rfl) ⟨rfl,rfl⟩)
  ·exact tG_ rfl hd_ (gV (pq g) ⟨rfl,rfl⟩)
  ·exact tG_ rfl hd_ (gV (pq g) ⟨rfl,rfl⟩)
  ·exact tG_ rfl hd_ (gV (po g 6) ⟨rfl,rfl⟩)
  ·have S14:=St.id hPh_
   exact tG_ rfl hd_ (gL (nI_ l.head) rfl (((S14.blk 0 rfl).cell 6).trans rfl) ⟨rfl,rfl⟩)
  ·exact tG_ rfl hd_ (gV (nI_ l.epoch) ⟨rfl,rfl⟩)
  ·exact tG_ rfl hd_ (gV (nI_ l.tail) ⟨rfl,rfl⟩)
  ·exact absurd hi_ om_
 ·intro k_ c_ vals_ w1 hk_ hPh_ hd_
  exact absurd hk_ (Nat.not_lt_zero _)
 ·intro c_ w1 hPh_
  have S17:=St.id hPh_
  exact (pv (nI_ l.head) (pv (iv 0) (wE (then_n (wp_ret (bodyPost_ret (v:=.tuple #[nI_ l.epoch,nI_ l.tail,nI_ l.head,iv 0]) (Go.Proofs.results_tmp4 rfl _ _ kr_ kr_ kr_ kr_) rfl ⟨rfl,S17⟩))))))
theorem k_count {w:World}{m:Nat}(hm:m≤140737488355328):Calls Tryz.prog 104 #[.int .i64 (m:Nat)] w fun e w'=>e=.returned (.int .i64 (countR m:Nat))∧w=w':=by
 have hcn:countR m=(m+491)/492:=rfl
 exact eN (fr [nI_ m] 6) Tryz.func104 rfl (sR (pv (iv 0) (wER (pv (nI_ m) (gI .i64 (IntKind.i64.wrap (((m:Nat):Int)+492)) (((m:Nat):Int)+492) (wr_ok om_ om_) (gI .i64 (IntKind.i64.wrap ((((m:Nat):Int)+492)-1)) ((((m:Nat):Int)+492)-1) (wr_ok om_ om_) (gI .i64 (IntKind.i64.wrap (Int.tdiv ((((m:Nat):Int)+492)-1) 492)) ((countR m:Nat):Int) (wr_eq (by rw [Int.tdiv_eq_ediv_of_nonneg om_];omega) om_ om_) (pv (nI_ (countR m)) (wE (then_n (wp_ret (bA (nI_ (countR m)) ⟨rfl,rfl⟩))))))))))))
end
section
variable {F:Nat→Prop} {w0 w:World} {L:List Ast}
theorem put_snoc0 (v i:Nat):(leB v i).map bv++[Value.int .u8 ((UInt8.ofNat (v/256^i%256)).toNat:Int)]=(leB v (i+1)).map bv:=by
 rw [leB_snoc,List.map_append];rfl
theorem put_byte0 (v i:Nat):IntKind.u8.wrap ((v/256^i%256:Nat):Int)=((UInt8.ofNat (v/256^i%256)).toNat:Int):=by
 rw [IntKind.wrap_u8,UInt8.toNat_ofNat']
 have:v/256^i%256%2^8=v/256^i%256:=Nat.mod_eq_of_lt om_
 rw [this];omega
theorem put_quo {v i:Nat}(hv:v≤9223372036854775807):IntKind.i64.wrap (Int.tdiv ((v/256^i:Nat):Int) 256)=((v/256^(i+1):Nat):Int):=by
 have h1:v/256^(i+1)≤v:=Nat.div_le_self _ _
 have h2:=put_shr v i
 have h3:((2:Int)^8)=256:=by decide
 rw [h3] at h2
 obtain ⟨x,hx⟩:∃x,v/256^i=x:=⟨_,rfl⟩
 obtain ⟨y,hy⟩:∃y,v/256^(i+1)=y:=⟨_,rfl⟩
 rw [hx,hy] at h2
 rw [hy] at h1
 rw [hx,hy,Int.tdiv_eq_ediv_of_nonneg om_,IntKind.wrap_i64]
 omega
theorem St.rdV {t:TypeId}{A:Option Addr}{l:List UInt8}{n c:Nat}(S:St F w0 w L)(i:Nat)(hi:L[i]?=some (vec t 1 (.slice A n c) n (l.map bv))):RdB w A l:=(RoT.ofVec i hi).now S
theorem rw_write_n {g:Nat}{s:Dsk}{at_:Int}{A:Option Addr}{d:List UInt8}{cd n:Nat}(S:St F w0 w (RW g s::L))(hr:RoT F w0 L A d)(hn:n=d.length)(hdm:d.length≤512)(hpn:s.pend.length<4398046511104):
  Calls Tryz.prog 55 #[pq g,iv at_,.slice A n cd] w fun e w'=>e=.returned (iv (s.writeR at_ d).2)∧St F w0 w' (RW g (s.writeR at_ d).1::L):=by
 subst hn;exact rw_write S hr om_ hpn
theorem numN_step {b:List UInt8}{a n k:Nat}(hk:k<n)(hn:a+n≤b.length):leN (((b.drop a).take n).drop k)=(b.getD (a+k) 0).toNat+256*leN (((b.drop a).take n).drop (k+1)):=by
 rw [num_step hk (by rw [List.length_drop];omega)]
 congr 2
 rw [List.getD_eq_getElem?_getD,List.getD_eq_getElem?_getD,List.getElem?_drop]
theorem k_bytes (S:St F w0 w L){v m:Nat}(hv:v≤9223372036854775807)(hm:m≤4):Calls Tryz.prog 105 #[.int .i64 (v:Nat),.int .i64 (m:Nat)] w fun e w'=>∃A c,e=.returned (.slice A m c)∧St F w0 w' (vec 5 1 (.slice A m c) m ((leB v m).map bv)::L):=by
 obtain ⟨u,hu⟩:∃u:Nat,u=v/256^0:=⟨_,rfl⟩
 have hu0:v=u:=by rw [hu,Nat.pow_zero,Nat.div_one]
 rw [show ((v:Nat):Int)=((v/256^0:Nat):Int) by rw [←hu,←hu0]]
 have S1:St F w0 w (vec 5 1 (nS_) 0 ((leB v 0).map bv)::L):=St.vec_nil S
 refine eN (fr [nI_ (v/256^0),nI_ m] 19) Tryz.func105 rfl (sR (pv (nS_) (wER (pv (nS_) (wE (nS (sR (pv (iv 0) (wE (then_n (wp_block (wp_loop_g (G:=Nat×Option Addr×Nat) (fun (g_:Nat×Option Addr×Nat) (a_:Act) (w_:World)=>∃J:Nat→Value,a_=(fr ([nI_ (v/256^g_.1),nI_ m,ud,ud,nS_,.slice g_.2.1 g_.1 g_.2.2,nI_ g_.1]++jR J 7 13) 1)∧St F w0 w_ (vec 5 1 (.slice g_.2.1 g_.1 g_.2.2) g_.1 ((leB v g_.1).map bv)::L)∧(g_.1≤m)) (fun g_=>m-g_.1) (0,none,0) (jE_ ⟨S1,Nat.zero_le _⟩) ?_))))))))))))
 rintro ⟨i,A5,c5⟩ a_ w2 ⟨J,rfl,S3,hI4⟩
 skip
 have S3:St F w0 w2 (vec 5 1 (.slice A5 i c5) i ((leB v i).map bv)::L):=S3
 have hI4:(i≤m):=hI4
 refine wp_seq (sR (pv (nI_ i) (pv (nI_ m) (dC ((((i:Nat):Int):Int)<((m:Nat):Int)) (fun hb5=> ?_) fun hb5=> ?_))))
 ·have hi:i<m:=by omega
  have hvi:v/256^i≤v:=Nat.div_le_self _ _
  refine wE (nCT (wp_skip (nS (wp_block (sR (pv (.slice A5 i c5) (pv (nI_ (v/256^i)) (gI .i64 (Int.tmod ((v/256^i:Nat):Int) 256) ((v/256^i%256:Nat):Int) (tmod_nat rfl rfl) (gI .u8 (IntKind.u8.wrap ((v/256^i%256:Nat):Int)) ((UInt8.ofNat (v/256^i%256)).toNat:Int) (put_byte0 v i) (g_ (gv_slit (e:=5) (sz:=1) (z:=.int .u8 0) (by_:=1) (vs:=#[(0,.int .u8 ((UInt8.ofNat (v/256^i%256)).toNat:Int))]) (cells:=#[.int .u8 ((UInt8.ofNat (v/256^i%256)).toNat:Int)]) S3 rfl kr_ ⟨by kernel_rfl⟩ kr_ kr_ kr_ kr_ (fun g6 w7 hg8 S9=> ?_))))))))))))
  have S10:St F w0 w7 (row g6 #[.int .u8 ((UInt8.ofNat (v/256^i%256)).toNat:Int)] 5::vec 5 1 (.slice A5 i c5) i ((leB v i).map bv)::L):=St.pm 2 [0,1] S9
  refine g_ (gv_append (e:=5) (sz:=1) (n:=i) (v:=(.slice A5 i c5)) (vals:=((leB v i).map bv)) (z:=.int .u8 0) (by_:=1) (m:=1) (c':=1) (ad:=⟨g6,0,none⟩) (news:=[.int .u8 ((UInt8.ofNat (v/256^i%256)).toNat:Int)]) (St.swap S10) rfl kr_ ⟨by kernel_rfl⟩ rfl kr_ kr_ dc_ rfl (row_news (S10.blk 0 rfl)) (by intro u hu;simp at hu;subst hu;rfl) om_ om_ (fun v12 w11 S13=> ?_))
  have S14:St F w0 w11 (vec 5 1 v12 (i+1) ((leB v i).map bv++[.int .u8 ((UInt8.ofNat (v/256^i%256)).toNat:Int)])::L):=St.pm 2 [0] S13
  rw [put_snoc0] at S14
  obtain ⟨A15,c16,rfl⟩:=St.vecV S14 0 rfl
  change St F w0 w11 (vec 5 1 (.slice A15 (i+1) c16) (i+1) ((leB v (i+1)).map bv)::L) at S14
  exact pv (.slice A15 (i+1) c16) (wE (nR (pv (nI_ (v/256^i)) (gI .i64 (IntKind.i64.wrap (Int.tdiv ((v/256^i:Nat):Int) 256)) ((v/256^(i+1):Nat):Int) (put_quo hv) (pv (nI_ (v/256^(i+1))) (wE (inb_n (nR (pv (nI_ i) (gI .i64 (IntKind.i64.wrap (((i:Nat):Int)+1)) ((i+1:Nat):Int) wq_ (pv (nI_ (i+1)) (wE (then_n ⟨(i+1,A15,c16),(jE_ ⟨S14,om_⟩),(by show m-(i+1)<m-i;omega)⟩)))))))))))))
 ·have him:i=m:=by omega
  rw [him] at S3
  rw [him]
  exact wE (nCF (wp_exit (then_x (then_x (inb_x (nSR (pv (.slice A5 m c5) (pv (.slice A5 m c5) (wE (then_n (wp_ret (bA (.slice A5 m c5) ⟨_,_,rfl,S3⟩))))))))))))
theorem k_number {w:World}{A:Option Addr}{b:List UInt8}{m a n ca:Nat}(hm:m=b.length)(hr:RdB w A b)(hn:a+n≤b.length)(hn4:n≤4)(hmm:m≤9223372036854775807):Calls Tryz.prog 116 #[.slice A m ca,.int .i64 (a:Nat),.int .i64 (n:Nat)] w fun e w'=>e=.returned (.int .i64 ((numN b a n:Nat):Int))∧w=w':=by
 have hs0:((0:Nat):Int)=((leN (((b.drop a).take n).drop n):Nat):Int):=by rw [num_nil]
 refine eN (fr [.slice A m ca,nI_ a,nI_ n] 23) Tryz.func116 rfl (sR (pv (iv 0) (wER (gI .i64 0 ((leN (((b.drop a).take n).drop n):Nat):Int) (hs0▸rfl) (wE (nS (sR (pv (nI_ n) (gI .i64 (IntKind.i64.wrap (((n:Nat):Int)-1)) (((n:Nat):Int)-1) (wr_ok om_ om_) (pv (iv (((n:Nat):Int)-1)) (wE (then_n (wp_block ?_)))))))))))))
 refine wp_loop_g (G:=Nat) (fun (g_:Nat) (a_:Act) (w_:World)=>∃J:Nat→Value,a_=(fr ([.slice A m ca,nI_ a,nI_ n,ud,ud,ud,iv 0,nI_ (leN (((b.drop a).take n).drop g_)),iv (((g_:Nat):Int)-1),nI_ n,iv (((n:Nat):Int)-1)]++jR J 11 14) 1)∧w_=w∧(g_≤n)) (fun g_=>g_) n (jE_ ⟨rfl,Nat.le_refl _⟩) ?_
 rintro k a_ _ ⟨J,rfl,rfl,hI3⟩
 skip
 have hI3:(k≤n):=hI3
 refine wp_seq (sR (pv (iv (((k:Nat):Int)-1)) (dC ((((k:Nat):Int)-1:Int)≥0) (fun hb4=> ?_) fun hb4=> ?_)))
 ·have hk1:1≤k:=by omega
  obtain ⟨ad,rfl⟩:=hr.at (k:=a+(k-1)) om_
  have hlt:leN (((b.drop a).take n).drop k)<4294967296:=Nat.lt_of_lt_of_le (num_lt (b.drop a) (m:=4) om_) dc_
  have hst:leN (((b.drop a).take n).drop (k-1))=(b.getD (a+(k-1)) 0).toNat+256*leN (((b.drop a).take n).drop k):=by have:=numN_step (b:=b) (a:=a) (n:=n) (k:=k-1) om_ hn;rwa [show k-1+1=k by omega] at this
  have hbl:=(b.getD (a+(k-1)) 0).toNat_lt
  refine wE (nCT (wp_skip (nS (wp_block (wp_region_lit (pv (nI_ (leN (((b.drop a).take n).drop k))) (gI .i64 (IntKind.i64.wrap (((leN (((b.drop a).take n).drop k):Nat):Int)*256)) ((leN (((b.drop a).take n).drop k)*256:Nat):Int) (wr_eq om_ om_ om_) (pv (.slice (some ad) m ca) (pv (nI_ a) (pv (iv (((k:Nat):Int)-1)) (gI .i64 (IntKind.i64.wrap (((a:Nat):Int)+(((k:Nat):Int)-1))) ((a+(k-1):Nat):Int) (wr_eq om_ om_ om_) (g_ (gv_ixB (e:=5) (sz:=1) (n:=m) (c:=ca) (i:=((a+(k-1):Nat):Int)) (k:=.i64) (ad:=ad) (ad':=(ad.add (a+(k-1)))) (j:=(a+(k-1))) rfl kr_ kr_ kr_ kr_ rfl om_ (by rw [Nat.mul_one]) (lQ (.int .u8 ((b.getD (a+(k-1)) 0).toNat:Int)) (hr.cell om_) ?_))))))))))))))
  exact gI .i64 (IntKind.i64.wrap ((b.getD (a+(k-1)) 0).toNat:Int)) ((b.getD (a+(k-1)) 0).toNat:Int) (wr_u8 _) (gI .i64 (IntKind.i64.wrap (((leN (((b.drop a).take n).drop k)*256:Nat):Int)+((b.getD (a+(k-1)) 0).toNat:Int))) ((leN (((b.drop a).take n).drop (k-1)):Nat):Int) (wr_eq (by rw [hst];omega) om_ om_) (pv (nI_ (leN (((b.drop a).take n).drop (k-1)))) (wE (inb_n (nR (pv (iv (((k:Nat):Int)-1)) (gI .i64 (IntKind.i64.wrap ((((k:Nat):Int)-1)-1)) (((k-1:Nat):Int)-1) (wr_eq om_ om_ om_) (pv (iv (((k-1:Nat):Int)-1)) (wE (then_n ⟨k-1,(jE_ ⟨rfl,om_⟩),(by show k-1<k;omega)⟩))))))))))
 ·have hk0:k=0:=by omega
  subst hk0
  exact wE (nCF (wp_exit (then_x (then_x (inb_x (nSR (pv (nI_ (leN (((b.drop a).take n).drop 0))) (pv (nI_ (leN (((b.drop a).take n).drop 0))) (wE (then_n (wp_ret (bA (nI_ (leN (((b.drop a).take n).drop 0))) ⟨rfl,rfl⟩))))))))))))
theorem k_append {g gd:Nat}{l:Lg}{s:Dsk}(S:St F w0 w (KLog g gd l::RW gd s::L))(hl:LOk l)(hh:LHd l){cd:Nat}{A:Option Addr}{d:List UInt8}(hd:RoT F w0 L A d)(hcap:d.length≤cd)(hdm:d.length≤140737488355328)(hin:readyR s l=0→l.first+2+l.n≤s.last.length)(hpn:s.pend.length+100<4398046511104):Calls Tryz.prog 71 #[.pointer (some ⟨g,0,none⟩),.slice A d.length cd] w fun e w'=>e=.returned (.int .i64 (appendR s l d).2.2)∧St F w0 w' (KLog g gd ((appendR s l d).2.1)::RW gd ((appendR s l d).1)::L):=by
 obtain ⟨h1,h2,h3,h4,h5,h6⟩:=id hl
 obtain ⟨h7,h8⟩:=id hh
 have hcn:countR d.length=(d.length+491)/492:=rfl
 by_cases hr:readyR s l≠0
 ·have e:appendR s l d=(s,l,readyR s l):=by unfold appendR;rw [if_pos hr]
  rw [e]
  change St F w0 w (row g (kC_ gd l l.head) 130::RW gd s::L) at S
  refine eN (fr [pq g,.slice A d.length cd] 145) Tryz.func71 rfl (sR (pv (iv 0) (wER (pv (pq g) (sP Tryz.func103 #[pq g] (k_ready S) fun w1 S2=>pv (iv (readyR s l)) (wER (pv (.slice A d.length cd) (pv (iv (d.length:Nat)) (sO Tryz.func104 #[iv (d.length:Nat)] (k_count hdm) (pv (nI_ (countR d.length)) (wE (nS ?_))))))))))))
  refine wp_block (sR (pv (iv (readyR s l)) (dN (readyR s l) 0 (fun _=>pv tv (wE (nCT (sR (pv (iv (readyR s l)) (pv (iv (readyR s l)) (wE (then_n (wp_ret (inb_r ?_)))))))))) fun hd3=>False.elim (hr hd3))))
  exact then_r (bA (iv (readyR s l)) ⟨rfl,S2⟩)
 have hr:readyR s l=0:=by omega
 obtain ⟨c,hc⟩:∃c,countR d.length=c:=⟨_,rfl⟩
 obtain ⟨R,hR⟩:∃R,appendR s l d=R:=⟨_,rfl⟩
 rw [hR]
 unfold appendR at hR
 rw [if_neg (fun h=>h hr)] at hR
 by_cases hd0:d.length=0
 ·rw [if_pos hd0] at hR
  subst hR
  change St F w0 w (row g (kC_ gd l l.head) 130::RW gd s::L) at S
  refine eN (fr [pq g,.slice A d.length cd] 145) Tryz.func71 rfl (sR (pv (iv 0) (wER (pv (pq g) (g_ (gv_call (args:=#[pq g]) rfl Tryz.func103 kr_ rfl rfl kr_ ?_))))))
  have hrd:=k_ready S
  rw [hr] at hrd
  refine Calls.mono hrd ?_
  rintro _ w1 ⟨rfl,S2⟩
  refine ⟨_,rfl,(pv (iv 0) (wER (pv (.slice A d.length cd) (pv (iv (d.length:Nat)) (g_ (gv_call (args:=#[iv (d.length:Nat)]) rfl Tryz.func104 kr_ rfl rfl kr_ ?_))))))⟩
  have hkc:=k_count (w:=w1) (m:=d.length) hdm
  rw [hc] at hkc
  refine Calls.mono hkc ?_
  rintro _ _ ⟨rfl,rfl⟩
  refine ⟨_,rfl,(pv (nI_ c) (wE (nS (wp_block (sR (pv (iv 0) (dN 0 0 (fun hd3=>False.elim om_) fun _=>pv fv (wE (nCF (sR (pv (.slice A d.length cd) (pv (iv (d.length:Nat)) ?_))))))))))))⟩
  exact dE (d.length:Nat) 0 (fun _=>pv tv (wE (nCT (sR (pv (iv 2) (wE (then_n (wp_ret (inb_r (then_r (bA (iv 2) ⟨rfl,S2⟩))))))))))) fun hd4=>False.elim om_
 rw [if_neg hd0] at hR
 have hin:=hin hr
 obtain ⟨m9,hm9⟩:∃m,l.n=m+1:=⟨l.n-1,by omega⟩
 obtain ⟨ad,rfl⟩:=(hd.out _ [_,_] S).at (k:=0) om_
 change St F w0 w (row g (kC_ gd l l.head) 130::RW gd s::L) at S
 refine eN (fr [pq g,.slice (some ad) d.length cd] 145) Tryz.func71 rfl (sR (pv (iv 0) (wER (pv (pq g) (g_ (gv_call (args:=#[pq g]) rfl Tryz.func103 kr_ rfl rfl kr_ ?_))))))
 have hrd:=k_ready S
 rw [hr] at hrd
 refine Calls.mono hrd ?_
 rintro _ w1 ⟨rfl,S2⟩
 refine ⟨_,rfl,(pv (iv 0) (wER (pv (.slice (some ad) d.length cd) (pv (iv (d.length:Nat)) (g_ (gv_call (args:=#[iv (d.length:Nat)]) rfl Tryz.func104 kr_ rfl rfl kr_ ?_))))))⟩
 have hkc:=k_count (w:=w1) (m:=d.length) hdm
 rw [hc] at hkc
 refine Calls.mono hkc ?_
 rintro _ _ ⟨rfl,rfl⟩
 refine ⟨_,rfl,(pv (nI_ c) (wE (nS (wp_block (sR (pv (iv 0) (dN 0 0 (fun hd3=>False.elim om_) fun _=>pv fv (wE (nCF (sR (pv (.slice (some ad) d.length cd) (pv (iv (d.length:Nat)) ?_))))))))))))⟩
 refine dE (d.length:Nat) 0 (fun hd4=>False.elim om_) fun _=>pv fv (wE (nCF (sR (pv (.slice (some ad) d.length cd) (pv (iv (d.length:Nat)) (dC (((d.length:Nat):Int)>8364) (fun hb5=> ?_) fun hb5=> ?_))))))
 ·rw [if_pos (show 8364<d.length by omega)] at hR
  subst hR
  exact pv tv (wE (nCT (sR (pv (iv 7) (wE (then_n (wp_ret (inb_r (then_r (bA (iv 7) ⟨rfl,S2⟩))))))))))
 ·rw [if_neg (show¬8364<d.length by omega)] at hR
  refine pv fv (wE (nCF (sR (pv (pq g) (pv (pq g) (pv (po g 6) (lR (nI_ l.head) S2 0 6 (pv (nI_ c) (gI .i64 (IntKind.i64.wrap (((l.head:Nat):Int)+((c:Nat):Int))) ((l.head+c:Nat):Int) wq_ (dC ((((l.head+c:Nat):Int):Int)>1073741824) (fun hb6=> ?_) fun hb6=> ?_))))))))))
  ·rw [hc] at hR
   rw [if_pos (show 1073741824<l.head+c by omega)] at hR
   subst hR
   exact pv tv (wE (nCT (sR (pv (iv 41) (wE (then_n (wp_ret (inb_r (then_r (bA (iv 41) ⟨rfl,S2⟩))))))))))
  ·rw [hc,if_neg (show¬1073741824<l.head+c by omega)] at hR
   refine pv fv (wE (nCF (wp_seq (wp_region_phu (γ:=Unit) 17 [] (fun (c_:Unit) (i_:Nat)=>(match i_ with|0=>nI_ c|1=>pq g|2=>pq g|3=>po g 3|4=>nI_ l.n|5=>pq g|6=>pq g|7=>po g 6|8=>nI_ l.head|9=>pq g|10=>pq g|11=>po g 5|12=>nI_ l.tail|13=>iv (((l.head:Nat):Int)-((l.tail:Nat):Int))|14=>iv (((l.n:Nat):Int)-(((l.head:Nat):Int)-((l.tail:Nat):Int)))|15=>.bool (decide ((((c:Nat):Int):Int)>(((l.n:Nat):Int)-(((l.head:Nat):Int)-((l.tail:Nat):Int)))))|16=>.bool (decide ((((c:Nat):Int):Int)>(((l.n:Nat):Int)-(((l.head:Nat):Int)-((l.tail:Nat):Int)))))|_=>undef:Value)) (fun (c_:Unit) (p_:Nat) (w_:World)=>(match p_ with|_=>St F w0 w_ (row g (kC_ gd l l.head) 130::RW gd s::L):Prop)) () kr_ kr_ kr_ kr_ (S2.drew) ?_ ?_ ?_))))
   ·intro i_ c_ p_ vals_ w1 hi_ hiE_ hp_ hk_ hu_ hPh_ hd_
    rcases i_ with _|_|_|_|_|_|_|_|_|_|_|_|_|_|_|_|_|i_
    ·exact tG_ rfl hd_ (gV (nI_ c) ⟨rfl,rfl⟩)
    ·exact tG_ rfl hd_ (gV (pq g) ⟨rfl,rfl⟩)
    ·exact tG_ rfl hd_ (gV (pq g) ⟨rfl,rfl⟩)
    ·exact tG_ rfl hd_ (gV (po g 3) ⟨rfl,rfl⟩)
    ·have S11:=St.id hPh_
     exact tG_ rfl hd_ (gL (nI_ l.n) rfl (((S11.blk 0 rfl).cell 3).trans rfl) ⟨rfl,rfl⟩)
    ·exact tG_ rfl hd_ (gV (pq g) ⟨rfl,rfl⟩)
    ·exact tG_ rfl hd_ (gV (pq g) ⟨rfl,rfl⟩)
    ·exact tG_ rfl hd_ (gV (po g 6) ⟨rfl,rfl⟩)
    ·have S15:=St.id hPh_
     exact tG_ rfl hd_ (gL (nI_ l.head) rfl (((S15.blk 0 rfl).cell 6).trans rfl) ⟨rfl,rfl⟩)
    ·exact tG_ rfl hd_ (gV (pq g) ⟨rfl,rfl⟩)
    ·exact tG_ rfl hd_ (gV (pq g) ⟨rfl,rfl⟩)
    ·exact tG_ rfl hd_ (gV (po g 5) ⟨rfl,rfl⟩)
    ·have S19:=St.id hPh_
     exact tG_ rfl hd_ (gL (nI_ l.tail) rfl (((S19.blk 0 rfl).cell 5).trans rfl) ⟨rfl,rfl⟩)
    ·exact tG_ rfl hd_ (gv_int (k:=.i64) (z:=IntKind.i64.wrap (((l.head:Nat):Int)-((l.tail:Nat):Int))) (z':=((l.head:Nat):Int)-((l.tail:Nat):Int)) kr_ (wr_ok om_ om_) ⟨rfl,rfl⟩)
    ·exact tG_ rfl hd_ (gv_int (k:=.i64) (z:=IntKind.i64.wrap (((l.n:Nat):Int)-(((l.head:Nat):Int)-((l.tail:Nat):Int)))) (z':=((l.n:Nat):Int)-(((l.head:Nat):Int)-((l.tail:Nat):Int))) kr_ (wr_ok om_ om_) ⟨rfl,rfl⟩)
    ·exact tG_ rfl hd_ (gV (.bool (decide ((((c:Nat):Int):Int)>(((l.n:Nat):Int)-(((l.head:Nat):Int)-((l.tail:Nat):Int)))))) ⟨rfl,rfl⟩)
    ·exact tG_ rfl hd_ (gV (.bool (decide ((((c:Nat):Int):Int)>(((l.n:Nat):Int)-(((l.head:Nat):Int)-((l.tail:Nat):Int)))))) ⟨rfl,rfl⟩)
    ·exact absurd hi_ om_
   ·intro k_ c_ vals_ w1 hk_ hPh_ hd_
    exact absurd hk_ (Nat.not_lt_zero _)
   ·intro c_ w1 hPh_
    have S24:=St.id hPh_
    refine (wE ?_)
    refine then_n (wp_cond_split (t:=decide ((((c:Nat):Int):Int)>(((l.n:Nat):Int)-(((l.head:Nat):Int)-((l.tail:Nat):Int))))) kr_ (fun hc25=> ?_) (fun hc25=> ?_))
    ·rw [if_pos (show l.n<l.head-l.tail+c by simp at hc25;omega)] at hR
     subst hR
     exact sR (pv (iv 40) (wE (then_n (wp_ret (inb_r (then_r (bA (iv 40) ⟨rfl,S24⟩)))))))
    ·rw [if_neg (show¬l.n<l.head-l.tail+c by simp at hc25;omega)] at hR
     refine wp_skip (inb_n (nS (sR (pv (iv 0) (wE (then_n (wp_block (wp_loop_g (G:=Nat×Dsk) (fun (g_:Nat×Dsk) (a_:Act) (w_:World)=>∃J:Nat→Value,a_=(fr ([pq g,.slice (some ad) d.length cd,ud,ud,J 4,iv 0,nI_ c,nI_ g_.1]++jR J 8 7++[pq g,iv 0,.slice (some ad) d.length cd,iv (d.length:Nat),nI_ c,fv,iv 0,fv,ud,fv,.slice (some ad) d.length cd,iv (d.length:Nat),fv,fv,.slice (some ad) d.length cd,iv (d.length:Nat),fv,fv,pq g,pq g,po g 6,nI_ l.head,nI_ c,nI_ (l.head+c),fv,.bool (decide ((((c:Nat):Int):Int)>(((l.n:Nat):Int)-(((l.head:Nat):Int)-((l.tail:Nat):Int))))),nI_ c,pq g,pq g,po g 3,nI_ l.n,pq g,pq g,po g 6,nI_ l.head,pq g,pq g,po g 5,nI_ l.tail,iv (((l.head:Nat):Int)-((l.tail:Nat):Int)),iv (((l.n:Nat):Int)-(((l.head:Nat):Int)-((l.tail:Nat):Int))),.bool (decide ((((c:Nat):Int):Int)>(((l.n:Nat):Int)-(((l.head:Nat):Int)-((l.tail:Nat):Int)))))]++jR J 57 81) 9)∧St F w0 w_ (row g (kC_ gd l l.head) 130::RW gd g_.2::L)∧(g_.1≤c∧laysR l d c s 0 c=laysR l d c g_.2 g_.1 (c-g_.1)∧g_.2.last.length=s.last.length∧g_.2.pend.length≤s.pend.length+g_.1)) (fun g_=>c-g_.1) (0,s) (jE_ ⟨S24,⟨Nat.zero_le _,rfl,rfl,Nat.le_refl _⟩⟩) ?_))))))))
     rintro ⟨i,si⟩ a_ w26 ⟨J,rfl,S27,⟨hI1,hI2,hI3,hI4⟩⟩
     skip
     have S27:St F w0 w26 (row g (kC_ gd l l.head) 130::RW gd si::L):=S27
     refine wp_seq (sR (pv (nI_ i) (pv (nI_ c) (dC ((((i:Nat):Int):Int)<((c:Nat):Int)) (fun hb29=> ?_) fun hb29=> ?_))))
     ·have hI1:i≤c:=hI1
      have hI2:laysR l d c s 0 c=laysR l d c si i (c-i):=hI2
      have hI3:si.last.length=s.last.length:=hI3
      have hI4:si.pend.length≤s.pend.length+i:=hI4
      have hi:i<c:=by omega
      obtain ⟨hp1,hp2,hp3⟩:=partR_len (d:=d) hc.symm hi
      have hst:=hI2.trans (laysR_step hi)
      obtain ⟨hlen1,hlen2⟩:=writeR_len (s:=si) (at_:=((l.first+2+(l.head+i)%l.n:Nat):Int)) (d:=(sealF (si.now (l.first+2+(l.head+i)%l.n)) (bodyR l.epoch (l.head+i) i c (partR d i))).1)
      have hly0:layR si l d i c=si.writeR ((l.first+2+(l.head+i)%l.n:Nat):Int) (sealF (si.now (l.first+2+(l.head+i)%l.n)) (bodyR l.epoch (l.head+i) i c (partR d i))).1:=rfl
      rw [←hly0] at hlen1 hlen2
      have hpm:(l.head+i)%l.n<l.n:=Nat.mod_lt _ om_
      have hbl:=length_bodyR l.epoch (l.head+i) i c (partR d i)
      have hoi:=St.rw_ok (St.tail S27)
      have hs5:=hoi.now (k:=l.first+2+(l.head+i)%l.n) om_
      have hse:=(sealF_len hs5 (b:=bodyR l.epoch (l.head+i) i c (partR d i)) om_).1
      have hn2:=hoi.n2
      refine wE (nCT (wp_skip (nS (wp_block (sR (pv (.slice (some ad) d.length cd) (pv (nI_ i) (gI .i64 (IntKind.i64.wrap (((i:Nat):Int)*492)) ((i*492:Nat):Int) wq_ (pv (.slice (some ad) d.length cd) (pv (iv (d.length:Nat)) (pv (nI_ i) (gI .i64 (IntKind.i64.wrap (((i:Nat):Int)+1)) ((i+1:Nat):Int) wq_ (gI .i64 (IntKind.i64.wrap (((i+1:Nat):Int)*492)) (((i+1)*492:Nat):Int) wq_ ?_)))))))))))))
      refine gI .i64 (if (((i+1)*492:Nat):Int)<(d.length:Nat) then (((i+1)*492:Nat):Int) else (d.length:Nat)) ((min d.length ((i+1)*492):Nat):Int) (by split<;>omega) (g_ (gv_cutA (e:=5) (sz:=1) (ad:=ad) (n:=d.length) (c:=cd) (kl:=.i64) (kh:=.i64) (u:=((i*492:Nat):Int)) (v:=((min d.length ((i+1)*492):Nat):Int)) (lo:=(i*492)) (hi:=(min d.length ((i+1)*492))) (ad':=(ad.add (i*492))) (n':=(min d.length ((i+1)*492)-i*492)) (c':=(cd-i*492)) rfl kr_ kr_ kr_ kr_ kr_ rfl rfl om_ om_ om_ (by rw [Nat.mul_one]) om_ om_ (pv (.slice (some (ad.add (i*492))) (min d.length ((i+1)*492)-i*492) (cd-i*492)) (wER ?_))))
      have S30:St F w0 w26 (vec 5 1 (nS_) 0 ([].map bv)::row g (kC_ gd l l.head) 130::RW gd si::L):=St.vec_nil S27
      refine pv (nS_) (wER (pv (nS_) (pv (pq g) (pv (pq g) (pv (po g 4) (lR (nI_ l.epoch) S30 1 4 (sP2 Tryz.func105 #[nI_ l.epoch,iv 4] (k_bytes (v:=l.epoch) (m:=4) S30 om_ dc_) fun A31 c32 w33 S34=> ?_)))))))
      obtain ⟨ad35,rfl⟩:=(St.rdV S34 0 rfl).at (k:=0) (by rw [length_leB];decide)
      have S36:St F w0 w33 (vec 5 1 (nS_) 0 ([].map bv)::vec 5 1 (.slice (some ad35) 4 c32) 4 ((leB l.epoch 4).map bv)::row g (kC_ gd l l.head) 130::RW gd si::L):=St.pm 4 [1,0,2,3] S34
      refine g_ (gv_append (e:=5) (sz:=1) (n:=0) (v:=.slice none 0 0) (vals:=([]).map bv) (z:=.int .u8 0) (by_:=1) (m:=4) (c':=c32) (ad:=ad35) (news:=(leB l.epoch 4).map bv) S36 rfl kr_ ⟨by kernel_rfl⟩ rfl kr_ kr_ om_ (by rw [List.length_map,Nat.mul_one];exact length_leB _ _) (RdB.cells (St.rdV S36 1 rfl)) (bv_one _) om_ om_ (fun v37 w38 S39=> ?_))
      rw [←List.map_append] at S39
      obtain ⟨A40,c41,rfl⟩:=St.vecV S39 0 rfl
      refine pv (.slice A40 (0+4) c41) (wER (pv (.slice A40 (0+4) c41) (pv (pq g) (pv (pq g) (pv (po g 6) (lR (nI_ l.head) S39 2 6 (pv (nI_ i) (gI .i64 (IntKind.i64.wrap (((l.head:Nat):Int)+((i:Nat):Int))) ((l.head+i:Nat):Int) wq_ (sP2 Tryz.func105 #[nI_ (l.head+i),iv 4] (k_bytes (v:=(l.head+i)) (m:=4) S39 om_ dc_) fun A42 c43 w44 S45=> ?_)))))))))
      obtain ⟨ad46,rfl⟩:=(St.rdV S45 0 rfl).at (k:=0) (by rw [length_leB];decide)
      have S47:St F w0 w44 (vec 5 1 (.slice A40 (0+4) c41) (0+4) (([]++leB l.epoch 4).map bv)::vec 5 1 (.slice (some ad46) 4 c43) 4 ((leB (l.head+i) 4).map bv)::vec 5 1 (.slice (some ad35) 4 c32) 4 ((leB l.epoch 4).map bv)::row g (kC_ gd l l.head) 130::RW gd si::L):=St.pm 5 [1,0,2,3,4] S45
      refine g_ (gv_append (e:=5) (sz:=1) (n:=0+4) (v:=.slice A40 (0+4) c41) (vals:=([]++leB l.epoch 4).map bv) (z:=.int .u8 0) (by_:=1) (m:=4) (c':=c43) (ad:=ad46) (news:=(leB (l.head+i) 4).map bv) S47 rfl kr_ ⟨by kernel_rfl⟩ rfl kr_ kr_ om_ (by rw [List.length_map,Nat.mul_one];exact length_leB _ _) (RdB.cells (St.rdV S47 1 rfl)) (bv_one _) om_ om_ (fun v48 w49 S50=> ?_))
      rw [←List.map_append] at S50
      obtain ⟨A51,c52,rfl⟩:=St.vecV S50 0 rfl
      refine pv (.slice A51 (0+4+4) c52) (wER (pv (.slice A51 (0+4+4) c52) (pv (nI_ i) (sP2 Tryz.func105 #[nI_ i,iv 2] (k_bytes (v:=i) (m:=2) S50 om_ dc_) fun A53 c54 w55 S56=> ?_))))
      obtain ⟨ad57,rfl⟩:=(St.rdV S56 0 rfl).at (k:=0) (by rw [length_leB];decide)
      have S58:St F w0 w55 (vec 5 1 (.slice A51 (0+4+4) c52) (0+4+4) (([]++leB l.epoch 4++leB (l.head+i) 4).map bv)::vec 5 1 (.slice (some ad57) 2 c54) 2 ((leB i 2).map bv)::vec 5 1 (.slice (some ad46) 4 c43) 4 ((leB (l.head+i) 4).map bv)::vec 5 1 (.slice (some ad35) 4 c32) 4 ((leB l.epoch 4).map bv)::row g (kC_ gd l l.head) 130::RW gd si::L):=St.pm 6 [1,0,2,3,4,5] S56
      refine g_ (gv_append (e:=5) (sz:=1) (n:=0+4+4) (v:=.slice A51 (0+4+4) c52) (vals:=([]++leB l.epoch 4++leB (l.head+i) 4).map bv) (z:=.int .u8 0) (by_:=1) (m:=2) (c':=c54) (ad:=ad57) (news:=(leB i 2).map bv) S58 rfl kr_ ⟨by kernel_rfl⟩ rfl kr_ kr_ om_ (by rw [List.length_map,Nat.mul_one];exact length_leB _ _) (RdB.cells (St.rdV S58 1 rfl)) (bv_one _) om_ om_ (fun v59 w60 S61=> ?_))
      rw [←List.map_append] at S61
      obtain ⟨A62,c63,rfl⟩:=St.vecV S61 0 rfl
      refine pv (.slice A62 (0+4+4+2) c63) (wER (pv (.slice A62 (0+4+4+2) c63) (pv (nI_ c) (sP2 Tryz.func105 #[nI_ c,iv 2] (k_bytes (v:=c) (m:=2) S61 om_ dc_) fun A64 c65 w66 S67=> ?_))))
      obtain ⟨ad68,rfl⟩:=(St.rdV S67 0 rfl).at (k:=0) (by rw [length_leB];decide)
      have S69:St F w0 w66 (vec 5 1 (.slice A62 (0+4+4+2) c63) (0+4+4+2) (([]++leB l.epoch 4++leB (l.head+i) 4++leB i 2).map bv)::vec 5 1 (.slice (some ad68) 2 c65) 2 ((leB c 2).map bv)::vec 5 1 (.slice (some ad57) 2 c54) 2 ((leB i 2).map bv)::vec 5 1 (.slice (some ad46) 4 c43) 4 ((leB (l.head+i) 4).map bv)::vec 5 1 (.slice (some ad35) 4 c32) 4 ((leB l.epoch 4).map bv)::row g (kC_ gd l l.head) 130::RW gd si::L):=St.pm 7 [1,0,2,3,4,5,6] S67
      refine g_ (gv_append (e:=5) (sz:=1) (n:=0+4+4+2) (v:=.slice A62 (0+4+4+2) c63) (vals:=([]++leB l.epoch 4++leB (l.head+i) 4++leB i 2).map bv) (z:=.int .u8 0) (by_:=1) (m:=2) (c':=c65) (ad:=ad68) (news:=(leB c 2).map bv) S69 rfl kr_ ⟨by kernel_rfl⟩ rfl kr_ kr_ om_ (by rw [List.length_map,Nat.mul_one];exact length_leB _ _) (RdB.cells (St.rdV S69 1 rfl)) (bv_one _) om_ om_ (fun v70 w71 S72=> ?_))
      rw [←List.map_append] at S72
      obtain ⟨A73,c74,rfl⟩:=St.vecV S72 0 rfl
      refine pv (.slice A73 (0+4+4+2+2) c74) (wE ?_)
      refine nSR (pv (.slice A73 (0+4+4+2+2) c74) (pv (.slice (some (ad.add (i*492))) (min d.length ((i+1)*492)-i*492) (cd-i*492)) ?_))
      have hdr9:=(hd.sub (i*492) 492).out _ [vec 5 1 (.slice A73 (0+4+4+2+2) c74) (0+4+4+2+2) (([]++leB l.epoch 4++leB (l.head+i) 4++leB i 2++leB c 2).map bv),vec 5 1 (.slice (some ad68) 2 c65) 2 ((leB c 2).map bv),vec 5 1 (.slice (some ad57) 2 c54) 2 ((leB i 2).map bv),vec 5 1 (.slice (some ad46) 4 c43) 4 ((leB (l.head+i) 4).map bv),vec 5 1 (.slice (some ad35) 4 c32) 4 ((leB l.epoch 4).map bv),row g (kC_ gd l l.head) 130,RW gd si] S72
      refine g_ (gv_append (e:=5) (sz:=1) (n:=0+4+4+2+2) (v:=.slice A73 (0+4+4+2+2) c74) (vals:=([]++leB l.epoch 4++leB (l.head+i) 4++leB i 2++leB c 2).map bv) (z:=.int .u8 0) (by_:=1) (m:=(min d.length ((i+1)*492)-i*492)) (c':=(cd-i*492)) (ad:=(ad.add (i*492))) (news:=(partR d i).map bv) S72 rfl kr_ ⟨by kernel_rfl⟩ rfl kr_ kr_ om_ (by rw [List.length_map,Nat.mul_one];exact hp1) (RdB.cells hdr9) (bv_one _) om_ om_ (fun v75 w76 S77=> ?_))
      rw [←List.map_append] at S77
      obtain ⟨A78,c79,rfl⟩:=St.vecV S77 0 rfl
      refine pv (.slice A78 (0+4+4+2+2+(min d.length ((i+1)*492)-i*492)) c79) (wE (nS (wp_region_phu (γ:=Unit) 17 [] (fun (c2_:Unit) (i_:Nat)=>(match i_ with|0=>pq g|1=>pq g|2=>po g 2|3=>nI_ l.first|4=>nI_ (l.first+2)|5=>pq g|6=>pq g|7=>po g 6|8=>nI_ l.head|9=>nI_ i|10=>nI_ (l.head+i)|11=>pq g|12=>pq g|13=>po g 3|14=>nI_ l.n|15=>nI_ ((l.head+i)%l.n)|16=>nI_ (l.first+2+(l.head+i)%l.n)|_=>undef:Value)) (fun (c2_:Unit) (p_:Nat) (w_:World)=>(match p_ with|_=>St F w0 w_ (vec 5 1 (.slice A78 (0+4+4+2+2+(min d.length ((i+1)*492)-i*492)) c79) (0+4+4+2+2+(min d.length ((i+1)*492)-i*492)) (([]++leB l.epoch 4++leB (l.head+i) 4++leB i 2++leB c 2++partR d i).map bv)::vec 5 1 (.slice (some ad68) 2 c65) 2 ((leB c 2).map bv)::vec 5 1 (.slice (some ad57) 2 c54) 2 ((leB i 2).map bv)::vec 5 1 (.slice (some ad46) 4 c43) 4 ((leB (l.head+i) 4).map bv)::vec 5 1 (.slice (some ad35) 4 c32) 4 ((leB l.epoch 4).map bv)::row g (kC_ gd l l.head) 130::RW gd si::L):Prop)) () kr_ kr_ kr_ kr_ (S77.drew) ?_ ?_ ?_)))
      ·intro i_ c2_ p_ vals_ w1 hi_ hiE_ hp_ hk_ hu_ hPh_ hd_
       rcases i_ with _|_|_|_|_|_|_|_|_|_|_|_|_|_|_|_|_|i_
       ·exact tG_ rfl hd_ (gV (pq g) ⟨rfl,rfl⟩)
       ·exact tG_ rfl hd_ (gV (pq g) ⟨rfl,rfl⟩)
       ·exact tG_ rfl hd_ (gV (po g 2) ⟨rfl,rfl⟩)
       ·have S83:=St.id hPh_
        exact tG_ rfl hd_ (gL (nI_ l.first) rfl (((S83.blk 5 rfl).cell 2).trans rfl) ⟨rfl,rfl⟩)
       ·exact tG_ rfl hd_ (gv_int (k:=.i64) (z:=IntKind.i64.wrap (((l.first:Nat):Int)+2)) (z':=((l.first+2:Nat):Int)) kr_ wq_ ⟨rfl,rfl⟩)
       ·exact tG_ rfl hd_ (gV (pq g) ⟨rfl,rfl⟩)
       ·exact tG_ rfl hd_ (gV (pq g) ⟨rfl,rfl⟩)
       ·exact tG_ rfl hd_ (gV (po g 6) ⟨rfl,rfl⟩)
       ·have S88:=St.id hPh_
        exact tG_ rfl hd_ (gL (nI_ l.head) rfl (((S88.blk 5 rfl).cell 6).trans rfl) ⟨rfl,rfl⟩)
       ·exact tG_ rfl hd_ (gV (nI_ i) ⟨rfl,rfl⟩)
       ·exact tG_ rfl hd_ (gv_int (k:=.i64) (z:=IntKind.i64.wrap (((l.head:Nat):Int)+((i:Nat):Int))) (z':=((l.head+i:Nat):Int)) kr_ wq_ ⟨rfl,rfl⟩)
       ·exact tG_ rfl hd_ (gV (pq g) ⟨rfl,rfl⟩)
       ·exact tG_ rfl hd_ (gV (pq g) ⟨rfl,rfl⟩)
       ·exact tG_ rfl hd_ (gV (po g 3) ⟨rfl,rfl⟩)
       ·have S94:=St.id hPh_
        exact tG_ rfl hd_ (gL (nI_ l.n) rfl (((S94.blk 5 rfl).cell 3).trans rfl) ⟨rfl,rfl⟩)
       ·exact tG_ rfl hd_ (gv_int (k:=.i64) (z:=Int.tmod ((l.head+i:Nat):Int) ((l.n:Nat):Int)) (z':=(((l.head+i)%l.n:Nat):Int)) (by rw [hm9];kernel_rfl) (tmod_nat rfl rfl) ⟨rfl,rfl⟩)
       ·exact tG_ rfl hd_ (gv_int (k:=.i64) (z:=IntKind.i64.wrap (((l.first+2:Nat):Int)+(((l.head+i)%l.n:Nat):Int))) (z':=((l.first+2+(l.head+i)%l.n:Nat):Int)) kr_ wq_ ⟨rfl,rfl⟩)
       ·exact absurd hi_ om_
      ·intro k_ c2_ vals_ w1 hk_ hPh_ hd_
       exact absurd hk_ (Nat.not_lt_zero _)
      ·intro c2_ w1 hPh_
       have S97:=St.id hPh_
       refine pv (nI_ (l.first+2+(l.head+i)%l.n)) (wE ?_)
       refine nSR (pv (pq g) (pv (pq g) (pv (pq g) (lR (pq gd) S97 5 0 (pv (nI_ (l.first+2+(l.head+i)%l.n)) (g_ (gv_call (args:=#[pq gd,nI_ (l.first+2+(l.head+i)%l.n)]) rfl Tryz.func40 kr_ rfl rfl kr_ ?_)))))))
       have S98:=St.pm 7 [6,0,1,2,3,4,5] S97
       obtain ⟨r9,S99⟩:=St.rw S98
       obtain ⟨gl,cl,c2,A2,junk,LL,PP,pool,hf,hcl,hju,S100⟩:=St.ropen S99
       change St F w0 w1 (rR2 gd gl LL.length cl (.slice A2 PP.length c2) si.left si.life r9 si.wr si.fl si.rf 0::row gl ((LL.map PEnt.val++junk).toArray) 22::vec 102 2 (.slice A2 PP.length c2) PP.length (putsV PP)::stars (pool.map PEnt.row)::vec 5 1 (.slice A78 (0+4+4+2+2+(min d.length ((i+1)*492)-i*492)) c79) (0+4+4+2+2+(min d.length ((i+1)*492)-i*492)) (([]++leB l.epoch 4++leB (l.head+i) 4++leB i 2++leB c 2++partR d i).map bv)::vec 5 1 (.slice (some ad68) 2 c65) 2 ((leB c 2).map bv)::vec 5 1 (.slice (some ad57) 2 c54) 2 ((leB i 2).map bv)::vec 5 1 (.slice (some ad46) 4 c43) 4 ((leB (l.head+i) 4).map bv)::vec 5 1 (.slice (some ad35) 4 c32) 4 ((leB l.epoch 4).map bv)::row g (kC_ gd l l.head) 130::L) at S100
       refine Calls.mono (rnow_own (s:=si.rdd r9) (k:=l.first+2+(l.head+i)%l.n) S100 hf (by show _<si.last.length;omega)) ?_
       rintro _ w101 ⟨bo,rfl,hbo,S102⟩
       refine ⟨_,rfl, ?_⟩
       have hbo:(bo,si.now (l.first+2+(l.head+i)%l.n))∈pool:=hbo
       change St F w0 w101 (rR2 gd gl LL.length cl (.slice A2 PP.length c2) si.left si.life r9 si.wr si.fl si.rf 0::row gl ((LL.map PEnt.val++junk).toArray) 22::vec 102 2 (.slice A2 PP.length c2) PP.length (putsV PP)::stars (pool.map PEnt.row)::vec 5 1 (.slice A78 (0+4+4+2+2+(min d.length ((i+1)*492)-i*492)) c79) (0+4+4+2+2+(min d.length ((i+1)*492)-i*492)) (([]++leB l.epoch 4++leB (l.head+i) 4++leB i 2++leB c 2++partR d i).map bv)::vec 5 1 (.slice (some ad68) 2 c65) 2 ((leB c 2).map bv)::vec 5 1 (.slice (some ad57) 2 c54) 2 ((leB i 2).map bv)::vec 5 1 (.slice (some ad46) 4 c43) 4 ((leB (l.head+i) 4).map bv)::vec 5 1 (.slice (some ad35) 4 c32) 4 ((leB l.epoch 4).map bv)::row g (kC_ gd l l.head) 130::L) at S102
       refine pv (sl bo 0 512 512) (wER (pv (sl bo 0 512 512) (pv (.slice A78 (0+4+4+2+2+(min d.length ((i+1)*492)-i*492)) c79) (g_ (gv_call (args:=#[sl bo 0 512 512,.slice A78 (0+4+4+2+2+(min d.length ((i+1)*492)-i*492)) c79]) rfl Tryz.func106 kr_ rfl rfl kr_ ?_)))))
       have hbe:[]++leB l.epoch 4++leB (l.head+i) 4++leB i 2++leB c 2++partR d i=bodyR l.epoch (l.head+i) i c (partR d i):=rfl
       refine Calls.mono (rseal0 (a:=si.now (l.first+2+(l.head+i)%l.n)) (b:=bodyR l.epoch (l.head+i) i c (partR d i)) S102 hs5.symm om_ (rot_pool 3 rfl hbo hs5) (RoT.ofVec 4 rfl) hs5 om_) ?_
       rintro _ w103 ⟨A9,c9,rfl,S104⟩
       refine ⟨_,rfl, ?_⟩
       have S105:=St.pm 11 [1,2,3,4,0,5,6,7,8,9,10] S104
       have S106:St F w0 w103 (RW gd si::vec 5 1 (.slice A9 512 c9) 512 ((sealF (si.now (l.first+2+(l.head+i)%l.n)) (bodyR l.epoch (l.head+i) i c (partR d i))).1.map bv)::vec 5 1 (.slice A78 (0+4+4+2+2+(min d.length ((i+1)*492)-i*492)) c79) (0+4+4+2+2+(min d.length ((i+1)*492)-i*492)) (([]++leB l.epoch 4++leB (l.head+i) 4++leB i 2++leB c 2++partR d i).map bv)::vec 5 1 (.slice (some ad68) 2 c65) 2 ((leB c 2).map bv)::vec 5 1 (.slice (some ad57) 2 c54) 2 ((leB i 2).map bv)::vec 5 1 (.slice (some ad46) 4 c43) 4 ((leB (l.head+i) 4).map bv)::vec 5 1 (.slice (some ad35) 4 c32) 4 ((leB l.epoch 4).map bv)::row g (kC_ gd l l.head) 130::L):=St.wr (r:=r9) (St.rclose (gl:=gl) (cl:=cl) (c2:=c2) (A2:=A2) (junk:=junk) (LL:=LL) (PP:=PP) (pool:=pool) (s:=si.rdd r9) S105 hf hcl hju)
       refine pv (.tuple #[.slice A9 512 c9,iv 0]) (pv (.slice A9 512 c9) (pv (iv 0) (pv (.slice A9 512 c9) (pv (iv 0) (wER (pv (pq g) (pv (pq g) (pv (pq g) (lR (pq gd) S106 7 0 (pv (nI_ (l.first+2+(l.head+i)%l.n)) (pv (.slice A9 512 c9) (g_ (gv_call (args:=#[pq gd,nI_ (l.first+2+(l.head+i)%l.n),.slice A9 512 c9]) rfl Tryz.func55 kr_ rfl rfl kr_ ?_)))))))))))))
       have hwc:=rw_write_n (at_:=((l.first+2+(l.head+i)%l.n:Nat):Int)) (d:=(sealF (si.now (l.first+2+(l.head+i)%l.n)) (bodyR l.epoch (l.head+i) i c (partR d i))).1) (cd:=c9) S106 (RoT.ofVec 0 rfl) hse.symm om_ om_
       rw [←hly0] at hwc
       refine Calls.mono hwc ?_
       rintro _ w107 ⟨rfl,S108⟩
       refine ⟨_,rfl,(pv (iv ((layR si l d i c).2)) (wER (pv (iv ((layR si l d i c).2)) (dN ((layR si l d i c).2) 0 (fun hly=> ?_) fun hly=> ?_))))⟩
       ·have hfin:laysR l d c s 0 c=layR si l d i c:=hst.trans (if_pos hly)
        rw [hfin] at hR
        rw [if_pos hly] at hR
        subst hR
        refine wE (nCT (sR (pv (iv ((layR si l d i c).2)) (pv (iv ((layR si l d i c).2)) (wE (then_n (wp_ret (inb_r (then_r (then_r (inb_r (then_r (bA (iv ((layR si l d i c).2)) ?_)))))))))))))
        have S109:=St.pm 8 [7,0,1,2,3,4,5,6] S108
        have S110:=St.pm 8 [0,1] S109
        exact ⟨rfl,S110⟩
       ·refine wE (nCF (wp_skip (inb_n (nR (pv (nI_ i) (gI .i64 (IntKind.i64.wrap (((i:Nat):Int)+1)) ((i+1:Nat):Int) wq_ (pv (nI_ (i+1)) (wE (then_n ?_)))))))))
        have S111:=St.pm 8 [7,0,1,2,3,4,5,6] S108
        have S112:=St.pm 8 [0,1] S111
        exact ⟨(i+1,(layR si l d i c).1),(jE_ ⟨S112,⟨by omega,hst.trans (by rw [if_neg (fun h=>h hly)]),by show (layR si l d i c).1.last.length=s.last.length;omega,by show (layR si l d i c).1.pend.length≤s.pend.length+(i+1);omega⟩⟩),(by show c-(i+1)<c-i;omega)⟩
     ·have hI1:i≤c:=hI1
      have hI2:laysR l d c s 0 c=laysR l d c si i (c-i):=hI2
      have hI3:si.last.length=s.last.length:=hI3
      have hI4:si.pend.length≤s.pend.length+i:=hI4
      have hic:i=c:=by omega
      have hfin:laysR l d c s 0 c=(si,0):=by rw [hI2,hic,Nat.sub_self];rfl
      rw [hfin] at hR
      subst hR
      refine wE (nCF (wp_exit (then_x (then_x (inb_x (nSR (pv (pq g) (pv (pq g) (pv (pq g) (pv (po g 6) (lR (nI_ l.head) S27 0 6 (pv (nI_ c) (gI .i64 (IntKind.i64.wrap (((l.head:Nat):Int)+((c:Nat):Int))) ((l.head+c:Nat):Int) wq_ ?_)))))))))))))
      exact pv (pq g) (pv (po g 6) (sS S27 0 rfl 6 (nI_ (l.head+c)) fun w113 S114=>wER (pv (iv 0) (wE (then_n (wp_ret (bA (iv 0) ⟨rfl,S114⟩)))))))
end
section
variable {F:Nat→Prop} {w0 w:World} {L:List Ast}
theorem k_format {gd:Nat}{s:Dsk}{first n:Int}(S:St F w0 w (RW gd s::L))(hpn:s.pend.length+1000<4398046511104):Calls Tryz.prog 21 #[.pointer (some ⟨gd,0,none⟩),.int .i64 first,.int .i64 n] w fun e w'=>e=.returned (.int .i64 (formatR s first n).2)∧St F w0 w' (RW gd (formatR s first n).1::L):=by
 have hok:=St.rw_ok S
 have hn2:=hok.n2
 by_cases ha:argsR s first n≠0
 ·have e:formatR s first n=(s,argsR s first n):=by unfold formatR;rw [if_pos ha]
  rw [e]
  refine eN (fr [pq gd,iv first,iv n] 39) Tryz.func21 rfl (sR (pv (iv 0) (wER (pv (pq gd) (pv (iv first) (pv (iv n) (g_ (gv_call (args:=#[pq gd,iv first,iv n]) rfl Tryz.func54 kr_ rfl rfl kr_ ?_))))))))
  have hag:=k_args (first:=first) (n:=n) S
  refine Calls.mono hag ?_
  rintro _ w1 ⟨rfl,S2⟩
  refine ⟨_,rfl,(pv (iv (argsR s first n)) (wE (nS (sR (pv (iv (argsR s first n)) (dN (argsR s first n) 0 (fun _=>wE (nCT (sR (pv (iv (argsR s first n)) (pv (iv (argsR s first n)) (wE (then_n ?_))))))) fun hd3=>False.elim (ha hd3)))))))⟩
  exact rR (bA (iv (argsR s first n)) ⟨rfl,S2⟩)
 have ha0:argsR s first n=0:=by omega
 obtain ⟨hz,hf0,hm18,hm256,hin⟩:=argsR_ok ha0
 obtain ⟨f,rfl⟩:∃f:Nat,first=(f:Int):=⟨first.toNat,by omega⟩
 obtain ⟨m,rfl⟩:∃m:Nat,n=(m:Int):=⟨n.toNat,by omega⟩
 obtain ⟨R,hR⟩:∃R,formatR s (f:Nat) (m:Nat)=R:=⟨_,rfl⟩
 rw [hR]
 unfold formatR at hR
 rw [if_neg (fun h=>h ha0)] at hR
 simp only [Int.toNat_natCast] at hR
 refine eN (fr [pq gd,nI_ f,nI_ m] 39) Tryz.func21 rfl (sR (pv (iv 0) (wER (pv (pq gd) (pv (nI_ f) (pv (nI_ m) (g_ (gv_call (args:=#[pq gd,nI_ f,nI_ m]) rfl Tryz.func54 kr_ rfl rfl kr_ ?_))))))))
 have hag:=k_args (first:=((f:Nat):Int)) (n:=((m:Nat):Int)) S
 rw [ha0] at hag
 refine Calls.mono hag ?_
 rintro _ w1 ⟨rfl,S2⟩
 refine ⟨_,rfl,(pv (iv 0) (wE (nS (sR (pv (iv 0) (dN 0 0 (fun hd3=>False.elim om_) fun _=>wE (nCF (wp_skip (nSR (pv (pq gd) (sP Tryz.func30 #[pq gd] (rw_take S2) fun w4 S5=>wE ?_)))))))))))⟩
 refine nS (sR (pv (iv 0) (wE (then_n (wp_block (wp_loop_g (G:=Nat×Dsk) (fun (g_:Nat×Dsk) (a_:Act) (w_:World)=>∃J:Nat→Value,a_=(fr ([pq gd,nI_ f,nI_ m,ud,ud,ud,J 6,iv 0,nI_ g_.1,J 9,pq gd,nI_ f,nI_ m,iv 0,iv 0,fv,ud,pq gd,iv (inc s.life)]++jR J 19 15) 8)∧St F w0 w_ (RW gd g_.2::L)∧(g_.1≤m+2∧zerosR s.take f (m+2)=zerosR g_.2 (f+g_.1) (m+2-g_.1)∧g_.2.last.length=s.last.length∧g_.2.pend.length≤s.pend.length+g_.1∧∀j,j<g_.1→g_.2.now (f+j)=zsec)) (fun g_=>m+2-g_.1) (0,s.take) (jE_ ⟨S5,⟨Nat.zero_le _,rfl,rfl,Nat.le_refl _,fun j h=>absurd h (Nat.not_lt_zero j)⟩⟩) ?_))))))
 rintro ⟨k,sk⟩ a_ w6 ⟨J,rfl,S7,⟨hI1,hI2,hI3,hI4,hI5⟩⟩
 skip
 have S7:St F w0 w6 (RW gd sk::L):=S7
 refine wp_seq (sR (pv (nI_ k) (pv (nI_ m) (gI .i64 (IntKind.i64.wrap (((m:Nat):Int)+2)) ((m+2:Nat):Int) wq_ (dC ((((k:Nat):Int):Int)<((m+2:Nat):Int)) (fun hb9=> ?_) fun hb9=> ?_)))))
 ·have hI1:k≤m+2:=hI1
  have hI2:zerosR s.take f (m+2)=zerosR sk (f+k) (m+2-k):=hI2
  have hI3:sk.last.length=s.last.length:=hI3
  have hI4:sk.pend.length≤s.pend.length+k:=hI4
  have hI5:∀j,j<k→sk.now (f+j)=zsec:=hI5
  have hk:k<m+2:=by omega
  have hst:=hI2.trans (zerosR_step hk)
  obtain ⟨hlen1,hlen2⟩:=writeR_len (s:=sk) (at_:=((f+k:Nat):Int)) (d:=zsec)
  refine wE (nCT (wp_skip (nS (wp_block (sR (pv (pq gd) (pv (nI_ f) (pv (nI_ k) (gI .i64 (IntKind.i64.wrap (((f:Nat):Int)+((k:Nat):Int))) ((f+k:Nat):Int) wq_ (sP1 Tryz.func56 #[] (rzeros S7) fun z9 w10 S11=>g_ (gv_call (args:=#[pq gd,nI_ (f+k),sl z9 0 512 512]) rfl Tryz.func55 kr_ rfl rfl kr_ ?_)))))))))))
  have S12:=St.pm 2 [1,0] S11
  refine Calls.mono (rw_write_n (at_:=((f+k:Nat):Int)) (d:=zsec) S12 (RoT.item (B:=zsec) 0 rfl 0 512 zsec (by simp [zsec])) zsec_len.symm (by rw [zsec_len];decide) om_) ?_
  rintro _ w13 ⟨rfl,S14⟩
  refine ⟨_,rfl,(pv (iv ((sk.writeR ((f+k:Nat):Int) zsec).2)) (wER (pv (iv ((sk.writeR ((f+k:Nat):Int) zsec).2)) (dN ((sk.writeR ((f+k:Nat):Int) zsec).2) 0 (fun hw=> ?_) fun hw=> ?_))))⟩
  ·have hfin:zerosR s.take f (m+2)=sk.writeR ((f+k:Nat):Int) zsec:=hst.trans (if_pos hw)
   rw [hfin,if_pos hw] at hR
   subst hR
   refine wE (nCT (sR (pv (iv ((sk.writeR ((f+k:Nat):Int) zsec).2)) (pv (iv ((sk.writeR ((f+k:Nat):Int) zsec).2)) (wE (then_n (wp_ret (inb_r (then_r (then_r (inb_r (then_r (bA (iv ((sk.writeR ((f+k:Nat):Int) zsec).2)) ?_)))))))))))))
   have S15:=St.pm 2 [0] S14
   exact ⟨rfl,S15⟩
  ·refine wE (nCF (wp_skip (inb_n (nR (pv (nI_ k) (gI .i64 (IntKind.i64.wrap (((k:Nat):Int)+1)) ((k+1:Nat):Int) wq_ (pv (nI_ (k+1)) (wE (then_n ?_)))))))))
   have S16:=St.pm 2 [0] S14
   exact ⟨(k+1,(sk.writeR ((f+k:Nat):Int) zsec).1),(jE_ ⟨S16,⟨by omega,hst.trans (if_neg (fun h=>h hw)),by show (sk.writeR ((f+k:Nat):Int) zsec).1.last.length=s.last.length;omega,by show (sk.writeR ((f+k:Nat):Int) zsec).1.pend.length≤s.pend.length+(k+1);omega,now_zero hw hI5⟩⟩),(by show m+2-(k+1)<m+2-k;omega)⟩
 ·have hI1:k≤m+2:=hI1
  have hI2:zerosR s.take f (m+2)=zerosR sk (f+k) (m+2-k):=hI2
  have hI3:sk.last.length=s.last.length:=hI3
  have hI4:sk.pend.length≤s.pend.length+k:=hI4
  have hI5:∀j,j<k→sk.now (f+j)=zsec:=hI5
  have hkm:k=m+2:=by omega
  have hfin:zerosR s.take f (m+2)=(sk,0):=by rw [hI2,hkm,Nat.sub_self];rfl
  rw [hfin] at hR
  rw [if_neg (fun h=>h rfl)] at hR
  obtain ⟨hf1,hf2⟩:=flush_facts sk
  refine wE (nCF (wp_exit (then_x (then_x (inb_x (nSR (pv (pq gd) (sP Tryz.func57 #[pq gd] (rw_flush S7) fun w17 S18=>pv (iv sk.flushR.2) (wE (nS (sR (pv (iv sk.flushR.2) (dN sk.flushR.2 0 (fun hfl=> ?_) fun hfl=> ?_)))))))))))))
  ·rw [if_pos hfl] at hR
   subst hR
   exact wE (nCT (sR (pv (iv sk.flushR.2) (pv (iv sk.flushR.2) (wE (then_n (rR (bA (iv sk.flushR.2) ⟨rfl,S18⟩))))))))
  ·rw [if_neg (fun h=>h hfl)] at hR
   subst hR
   exact wE (nCF (wp_skip (nSR (pv (pq gd) (pv (nI_ f) (sP Tryz.func58 #[pq gd,nI_ f,iv 1,iv 0] (k_renewed (first:=f) (ep:=1) (tl:=0) S18 om_ dc_ dc_ om_ (fun _=>by rw [now_flushR om_,now_flushR om_,show f=f+0 from rfl,hI5 0 om_];show (renewF zsec (sk.now (f+1)) _ _).2.2=0;rw [hI5 1 om_];exact renew_zeros dc_)) fun w19 S20=>pv (iv ((renewR sk.flushR.1 f (1*4294967296+0)).2)) (wE (then_n (wp_ret (bA (iv ((renewR sk.flushR.1 f (1*4294967296+0)).2)) ⟨rfl,S20⟩))))))))))
theorem ropen0 (S:St F w0 w L){A:Option Addr}{a:List UInt8}{m ca:Nat}(hm:m=a.length)(hr:RoT F w0 L A a)(hma:a.length≤512):Calls Tryz.prog 115 #[.slice A m ca] w fun e w'=>∃A c,e=.returned (.tuple #[.slice A (openF a).1.length c,.int .i64 ((openF a).2:Int)])∧St F w0 w' (vec 5 1 (.slice A (openF a).1.length c) (openF a).1.length ((openF a).1.map bv)::L):=by
 subst hm;exact ropen S hr om_
def partOf (s:Dsk)(first n ep p i c:Nat):List UInt8:=
 let b:=(openF (s.now (first+2+p%n))).1
 if (openF (s.now (first+2+p%n))).2≠0∨b.length≤12 then []
 else if numN b 0 4≠ep∨numN b 4 4≠p∨numN b 8 2≠i∨numN b 10 2≠c then []
 else if i+1≠c∧b.length≠504 then [] else b
def keepP (p:Prop):Ast:=fun h=>p∧emp h
theorem St.withP {p:Prop}(hp:p)(S:St F w0 w L):St F w0 w (keepP p::L):=(St.star_nil S).map1 fun h hh=>⟨hp,fun k=>by
 obtain ⟨hs,_,_,h3⟩:=hh
 cases e:h k with
 |none=>rfl
 |some o=>obtain ⟨i,hi,_⟩:=(h3 k o).1 e;exact absurd hi (Nat.not_lt_zero i)⟩
theorem St.takeP {p:Prop}(S:St F w0 w (keepP p::L)):p∧St F w0 w L:=⟨S.fact.1,S.tail⟩
theorem k_part {g gd:Nat}{l:Lg}{s:Dsk}(S:St F w0 w (KLog g gd l::RW gd s::L))(hl:LOk l)(hin:l.first+2+l.n≤s.last.length){ep p i c:Nat}(hep:ep≤4294967295)(hp:p≤4294967295)(hi:i≤65535)(hc:c≤65535):Calls Tryz.prog 117 #[.pointer (some ⟨g,0,none⟩),.int .i64 (ep:Nat),.int .i64 (p:Nat),.int .i64 (i:Nat),.int .i64 (c:Nat)] w fun e w'=>∃A ca,e=.returned (.slice A (partOf s l.first l.n ep p i c).length ca)∧St F w0 w' (vec 5 1 (.slice A (partOf s l.first l.n ep p i c).length ca) (partOf s l.first l.n ep p i c).length ((partOf s l.first l.n ep p i c).map bv)::KLog g gd l::RW gd s::L):=by
 have hok:=St.rw_ok S.tail
 obtain ⟨h1,h2,h3,h4,h5,h6⟩:=id hl
 obtain ⟨m9,hm9⟩:∃m,l.n=m+1:=⟨l.n-1,by omega⟩
 have hpm:p%l.n<l.n:=Nat.mod_lt _ om_
 have hs5:=hok.now (k:=l.first+2+p%l.n) om_
 have hol:=openF_len (s.now (l.first+2+p%l.n))
 have hn2:=hok.n2
 obtain ⟨r,hr⟩:∃r,partOf s l.first l.n ep p i c=r:=⟨_,rfl⟩
 rw [hr]
 unfold partOf at hr
 simp only [] at hr
 change St F w0 w (row g (kC_ gd l l.head) 130::RW gd s::L) at S
 refine eN (fr [pq g,nI_ ep,nI_ p,nI_ i,nI_ c] 70) Tryz.func117 rfl (sR (pv (nS_) (wE (nS ?_))))
 have S1:=St.pm 2 [1,0] S
 obtain ⟨r9,S2⟩:=St.rw S1
 obtain ⟨gl,cl,c2,A2,junk,LL,PP,pool,hf,hcl,hju,S3⟩:=St.ropen S2
 change St F w0 w (rR2 gd gl LL.length cl (.slice A2 PP.length c2) s.left s.life r9 s.wr s.fl s.rf 0::row gl ((LL.map PEnt.val++junk).toArray) 22::vec 102 2 (.slice A2 PP.length c2) PP.length (putsV PP)::stars (pool.map PEnt.row)::row g (kC_ gd l l.head) 130::L) at S3
 refine wp_region_phu (γ:=Nat) 17 [16] (fun (c_:Nat) (i_:Nat)=>(match i_ with|0=>pq g|1=>pq g|2=>pq g|3=>pq gd|4=>pq g|5=>pq g|6=>po g 2|7=>nI_ l.first|8=>nI_ (l.first+2)|9=>nI_ p|10=>pq g|11=>pq g|12=>po g 3|13=>nI_ l.n|14=>nI_ (p%l.n)|15=>nI_ (l.first+2+p%l.n)|16=>sl c_ 0 512 512|_=>undef:Value)) (fun (c_:Nat) (p_:Nat) (w_:World)=>(match p_ with|0=>St F w0 w_ (rR2 gd gl LL.length cl (.slice A2 PP.length c2) s.left s.life r9 s.wr s.fl s.rf 0::row gl ((LL.map PEnt.val++junk).toArray) 22::vec 102 2 (.slice A2 PP.length c2) PP.length (putsV PP)::stars (pool.map PEnt.row)::row g (kC_ gd l l.head) 130::L)|_=>St F w0 w_ (keepP ((c_,s.now (l.first+2+p%l.n))∈pool)::rR2 gd gl LL.length cl (.slice A2 PP.length c2) s.left s.life r9 s.wr s.fl s.rf 0::row gl ((LL.map PEnt.val++junk).toArray) 22::vec 102 2 (.slice A2 PP.length c2) PP.length (putsV PP)::stars (pool.map PEnt.row)::row g (kC_ gd l l.head) 130::L):Prop)) (0) kr_ kr_ kr_ kr_ (S3.drew) ?_ ?_ ?_
 ·intro i_ c_ p_ vals_ w1 hi_ hiE_ hp_ hk_ hu_ hPh_ hd_
  rcases i_ with _|_|_|_|_|_|_|_|_|_|_|_|_|_|_|_|_|i_
  ·exact tG_ rfl hd_ (gV (pq g) ⟨rfl,rfl⟩)
  ·exact tG_ rfl hd_ (gV (pq g) ⟨rfl,rfl⟩)
  ·exact tG_ rfl hd_ (gV (pq g) ⟨rfl,rfl⟩)
  ·rcases p_ with _|_|p_
   ·have S7:=St.id hPh_
    exact tG_ rfl hd_ (gL (pq gd) rfl (((S7.blk 4 rfl).cell 0).trans rfl) ⟨rfl,rfl⟩)
   ·exact absurd (hu_ 0 dc_ kr_) dc_
   ·exact absurd hp_ (by simp)
  ·exact tG_ rfl hd_ (gV (pq g) ⟨rfl,rfl⟩)
  ·exact tG_ rfl hd_ (gV (pq g) ⟨rfl,rfl⟩)
  ·exact tG_ rfl hd_ (gV (po g 2) ⟨rfl,rfl⟩)
  ·rcases p_ with _|_|p_
   ·have S11:=St.id hPh_
    exact tG_ rfl hd_ (gL (nI_ l.first) rfl (((S11.blk 4 rfl).cell 2).trans rfl) ⟨rfl,rfl⟩)
   ·exact absurd (hu_ 0 dc_ kr_) dc_
   ·exact absurd hp_ (by simp)
  ·exact tG_ rfl hd_ (gv_int (k:=.i64) (z:=IntKind.i64.wrap (((l.first:Nat):Int)+2)) (z':=((l.first+2:Nat):Int)) kr_ wq_ ⟨rfl,rfl⟩)
  ·exact tG_ rfl hd_ (gV (nI_ p) ⟨rfl,rfl⟩)
  ·exact tG_ rfl hd_ (gV (pq g) ⟨rfl,rfl⟩)
  ·exact tG_ rfl hd_ (gV (pq g) ⟨rfl,rfl⟩)
  ·exact tG_ rfl hd_ (gV (po g 3) ⟨rfl,rfl⟩)
  ·rcases p_ with _|_|p_
   ·have S17:=St.id hPh_
    exact tG_ rfl hd_ (gL (nI_ l.n) rfl (((S17.blk 4 rfl).cell 3).trans rfl) ⟨rfl,rfl⟩)
   ·exact absurd (hu_ 0 dc_ kr_) dc_
   ·exact absurd hp_ (by simp)
  ·exact tG_ rfl hd_ (gv_int (k:=.i64) (z:=Int.tmod ((p:Nat):Int) ((l.n:Nat):Int)) (z':=((p%l.n:Nat):Int)) (by rw [hm9];kernel_rfl) (tmod_nat rfl rfl) ⟨rfl,rfl⟩)
  ·exact tG_ rfl hd_ (gv_int (k:=.i64) (z:=IntKind.i64.wrap (((l.first+2:Nat):Int)+((p%l.n:Nat):Int))) (z':=((l.first+2+p%l.n:Nat):Int)) kr_ wq_ ⟨rfl,rfl⟩)
  ·exact absurd hiE_ dc_
  ·exact absurd hi_ om_
 ·intro k_ c_ vals_ w1 hk_ hPh_ hd_
  rcases k_ with _|k_
  ·have S20:=St.id hPh_
   refine tG_ rfl hd_ (gv_call (args:=#[pq gd,nI_ (l.first+2+p%l.n)]) rfl Tryz.func40 kr_ rfl rfl kr_ (Calls.mono (rnow_own (s:=s.rdd r9) (k:=l.first+2+p%l.n) S20 hf (by show _<s.last.length;omega)) ?_))
   rintro _ w22 ⟨m21,rfl,hbo,S23⟩
   refine ⟨_,rfl, ?_⟩
   have hbo:(m21,s.now (l.first+2+p%l.n))∈pool:=hbo
   change St F w0 w22 (rR2 gd gl LL.length cl (.slice A2 PP.length c2) s.left s.life r9 s.wr s.fl s.rf 0::row gl ((LL.map PEnt.val++junk).toArray) 22::vec 102 2 (.slice A2 PP.length c2) PP.length (putsV PP)::stars (pool.map PEnt.row)::row g (kC_ gd l l.head) 130::L) at S23
   have S24:=St.withP hbo S23
   refine ⟨(m21),rfl, ?_,S24⟩
   intro i_ hi_ hne_ hdp_
   rcases i_ with _|_|_|_|_|_|_|_|_|_|_|_|_|_|_|_|_|i_
   ·rfl
   ·rfl
   ·rfl
   ·rfl
   ·rfl
   ·rfl
   ·rfl
   ·rfl
   ·rfl
   ·rfl
   ·rfl
   ·rfl
   ·rfl
   ·rfl
   ·rfl
   ·rfl
   ·exact absurd rfl hne_
   ·exact absurd hi_ om_
  ·exact absurd hk_ (by simp)
 ·intro c_ w1 hPh_
  have S25:=St.id hPh_
  refine (pv (sl c_ 0 512 512) (wE (nSR (pv (sl c_ 0 512 512) (g_ (gv_call (args:=#[sl c_ 0 512 512]) rfl Tryz.func115 kr_ rfl rfl kr_ ?_))))))
  obtain ⟨hbo,S26⟩:=St.takeP S25
  refine Calls.mono (ropen0 (a:=s.now (l.first+2+p%l.n)) (ca:=512) S26 hs5.symm (rot_pool 3 rfl hbo hs5) om_) ?_
  rintro _ w27 ⟨A9,c9,rfl,S28⟩
  refine ⟨_,rfl, ?_⟩
  have S29:=St.pm 6 [1,2,3,4,0,5] S28
  have S30:St F w0 w27 (RW gd s::vec 5 1 (.slice A9 ((openF (s.now (l.first+2+p%l.n))).1.length) c9) ((openF (s.now (l.first+2+p%l.n))).1.length) (((openF (s.now (l.first+2+p%l.n))).1).map bv)::row g (kC_ gd l l.head) 130::L):=St.wr (r:=r9) (St.rclose (gl:=gl) (cl:=cl) (c2:=c2) (A2:=A2) (junk:=junk) (LL:=LL) (PP:=PP) (pool:=pool) (s:=s.rdd r9) S29 hf hcl hju)
  refine pv (.tuple #[.slice A9 ((openF (s.now (l.first+2+p%l.n))).1.length) c9,iv ((openF (s.now (l.first+2+p%l.n))).2:Int)]) (pv (.slice A9 ((openF (s.now (l.first+2+p%l.n))).1.length) c9) (pv (iv ((openF (s.now (l.first+2+p%l.n))).2:Int)) (pv (.slice A9 ((openF (s.now (l.first+2+p%l.n))).1.length) c9) (pv (iv ((openF (s.now (l.first+2+p%l.n))).2:Int)) (wE (nS (sR (pv (iv ((openF (s.now (l.first+2+p%l.n))).2:Int)) (dN ((openF (s.now (l.first+2+p%l.n))).2:Int) 0 (fun hb31=> ?_) fun hb31=> ?_)))))))))
  ·rw [if_pos om_] at hr
   refine pv tv (wN (wN (wN (pv tv (wE (nCT (sR (pv (nS_) (wE (then_n (rR (bA (nS_) ?_))))))))))))
   have S32:=St.pm 3 [2,0,1] S30
   have S33:=St.pm 3 [0,1] S32
   subst hr
   exact ⟨none,0,rfl,St.vec_nil S33⟩
  ·refine pv fv (pW (.slice A9 ((openF (s.now (l.first+2+p%l.n))).1.length) c9) (pW (iv ((openF (s.now (l.first+2+p%l.n))).1.length:Nat)) (wl_when kr_ (gv_dec (p:=(((openF (s.now (l.first+2+p%l.n))).1.length:Nat):Int)≤12) kr_ (fun hb34=> ?_) (fun hb34=> ?_)))))
   ·rw [if_pos om_] at hr
    refine pv tv (wE (nCT (sR (pv (nS_) (wE (then_n (rR (bA (nS_) ?_))))))))
    have S35:=St.pm 3 [2,0,1] S30
    have S36:=St.pm 3 [0,1] S35
    subst hr
    exact ⟨none,0,rfl,St.vec_nil S36⟩
   ·refine pv fv (wE (nCF (wp_skip (nS (sR (pv (.slice A9 ((openF (s.now (l.first+2+p%l.n))).1.length) c9) (sO Tryz.func116 #[.slice A9 ((openF (s.now (l.first+2+p%l.n))).1.length) c9,iv 0,iv 4] (k_number (a:=0) (n:=4) (b:=(openF (s.now (l.first+2+p%l.n))).1) rfl (St.rdV S30 1 rfl) om_ dc_ om_) (pv (nI_ ep) (dN ((numN (openF (s.now (l.first+2+p%l.n))).1 0 4:Nat):Int) ((ep:Nat):Int) (fun hb37=> ?_) fun hb37=> ?_)))))))))
    ·rw [if_neg om_,if_pos om_] at hr
     refine pv tv (wN (wN (wN (wN (pv tv (pv tv (wN (wN (wN (wN (pv tv (pv tv (wN ?_)))))))))))))
     refine wN (wN (wN (pv tv (wE (nCT (sR (pv (nS_) (wE (then_n (rR (bA (nS_) ?_)))))))))))
     have S38:=St.pm 3 [2,0,1] S30
     have S39:=St.pm 3 [0,1] S38
     subst hr
     exact ⟨none,0,rfl,St.vec_nil S39⟩
    ·refine pv fv (pW (.slice A9 ((openF (s.now (l.first+2+p%l.n))).1.length) c9) (wl_when kr_ (gv_call (args:=#[.slice A9 ((openF (s.now (l.first+2+p%l.n))).1.length) c9,iv 4,iv 4]) rfl Tryz.func116 kr_ rfl rfl kr_ (Calls.mono (k_number (a:=4) (n:=4) (b:=(openF (s.now (l.first+2+p%l.n))).1) rfl (St.rdV S30 1 rfl) om_ dc_ om_) ?_))))
     rintro _ _ ⟨rfl,rfl⟩
     refine ⟨_,rfl,(pW (nI_ p) (wl_when kr_ (gv_ne (x:=((numN (openF (s.now (l.first+2+p%l.n))).1 4 4:Nat):Int)) (y:=((p:Nat):Int)) kr_ (fun hb40=> ?_) (fun hb40=> ?_))))⟩
     ·rw [if_neg om_,if_pos om_] at hr
      refine pv tv (pv tv (wN (wN (wN (wN (pv tv (pv tv (wN (wN (wN (wN (pv tv (wE ?_)))))))))))))
      refine nCT (sR (pv (nS_) (wE (then_n (rR (bA (nS_) ?_))))))
      have S41:=St.pm 3 [2,0,1] S30
      have S42:=St.pm 3 [0,1] S41
      subst hr
      exact ⟨none,0,rfl,St.vec_nil S42⟩
     ·refine pv fv (pv fv (pW (.slice A9 ((openF (s.now (l.first+2+p%l.n))).1.length) c9) (wl_when kr_ (gv_call (args:=#[.slice A9 ((openF (s.now (l.first+2+p%l.n))).1.length) c9,iv 8,iv 2]) rfl Tryz.func116 kr_ rfl rfl kr_ (Calls.mono (k_number (a:=8) (n:=2) (b:=(openF (s.now (l.first+2+p%l.n))).1) rfl (St.rdV S30 1 rfl) om_ dc_ om_) ?_)))))
      rintro _ _ ⟨rfl,rfl⟩
      refine ⟨_,rfl,(pW (nI_ i) (wl_when kr_ (gv_ne (x:=((numN (openF (s.now (l.first+2+p%l.n))).1 8 2:Nat):Int)) (y:=((i:Nat):Int)) kr_ (fun hb43=> ?_) (fun hb43=> ?_))))⟩
      ·rw [if_neg om_,if_pos om_] at hr
       refine pv tv (pv tv (wN (wN (wN (wN (pv tv (wE (nCT (sR (pv (nS_) (wE (then_n (rR ?_)))))))))))))
       refine bA (nS_) ?_
       have S44:=St.pm 3 [2,0,1] S30
       have S45:=St.pm 3 [0,1] S44
       subst hr
       exact ⟨none,0,rfl,St.vec_nil S45⟩
      ·refine pv fv (pv fv (pW (.slice A9 ((openF (s.now (l.first+2+p%l.n))).1.length) c9) (wl_when kr_ (gv_call (args:=#[.slice A9 ((openF (s.now (l.first+2+p%l.n))).1.length) c9,iv 10,iv 2]) rfl Tryz.func116 kr_ rfl rfl kr_ (Calls.mono (k_number (a:=10) (n:=2) (b:=(openF (s.now (l.first+2+p%l.n))).1) rfl (St.rdV S30 1 rfl) om_ dc_ om_) ?_)))))
       rintro _ _ ⟨rfl,rfl⟩
       refine ⟨_,rfl,(pW (nI_ c) (wl_when kr_ (gv_ne (x:=((numN (openF (s.now (l.first+2+p%l.n))).1 10 2:Nat):Int)) (y:=((c:Nat):Int)) kr_ (fun hb46=> ?_) (fun hb46=> ?_))))⟩
       ·rw [if_neg om_,if_pos om_] at hr
        refine pv tv (wE (nCT (sR (pv (nS_) (wE (then_n (rR (bA (nS_) ?_))))))))
        have S47:=St.pm 3 [2,0,1] S30
        have S48:=St.pm 3 [0,1] S47
        subst hr
        exact ⟨none,0,rfl,St.vec_nil S48⟩
       ·refine pv fv (wE (nCF (wp_skip (nS (sR (pv (nI_ i) (pv (nI_ c) (gI .i64 (IntKind.i64.wrap (((c:Nat):Int)-1)) (((c:Nat):Int)-1) (wr_eq rfl om_ om_) (dN ((i:Nat):Int) (((c:Nat):Int)-1) (fun hb49=> ?_) fun hb49=> ?_)))))))))
        ·refine pv tv (pW (.slice A9 ((openF (s.now (l.first+2+p%l.n))).1.length) c9) (pW (iv ((openF (s.now (l.first+2+p%l.n))).1.length:Nat)) (wl_when kr_ (gv_ne (x:=((openF (s.now (l.first+2+p%l.n))).1.length:Nat)) (y:=504) kr_ (fun hb50=> ?_) (fun hb50=> ?_)))))
         ·rw [if_neg om_,if_neg om_,if_pos om_] at hr
          refine pv tv (wE ?_)
          refine nCT (sR (pv (nS_) (wE (then_n (rR (bA (nS_) ?_))))))
          have S51:=St.pm 3 [2,0,1] S30
          have S52:=St.pm 3 [0,1] S51
          subst hr
          exact ⟨none,0,rfl,St.vec_nil S52⟩
         ·refine pv fv (wE ?_)
          refine nCF (wp_skip (nSR (pv (.slice A9 ((openF (s.now (l.first+2+p%l.n))).1.length) c9) (pv (.slice A9 ((openF (s.now (l.first+2+p%l.n))).1.length) c9) (wE (then_n (wp_ret (bA (.slice A9 ((openF (s.now (l.first+2+p%l.n))).1.length) c9) ?_))))))))
          rw [if_neg om_,if_neg om_,if_neg om_] at hr
          subst hr
          have S53:=St.pm 3 [1,2,0] S30
          exact ⟨A9,c9,rfl,S53⟩
        ·refine pv fv (wN (wN (wN (pv fv (wE ?_)))))
         refine nCF (wp_skip (nSR (pv (.slice A9 ((openF (s.now (l.first+2+p%l.n))).1.length) c9) (pv (.slice A9 ((openF (s.now (l.first+2+p%l.n))).1.length) c9) (wE (then_n (wp_ret (bA (.slice A9 ((openF (s.now (l.first+2+p%l.n))).1.length) c9) ?_))))))))
         rw [if_neg om_,if_neg om_,if_neg om_] at hr
         subst hr
         have S54:=St.pm 3 [1,2,0] S30
         exact ⟨A9,c9,rfl,S54⟩
end
section
variable {F:Nat→Prop} {w0 w:World} {L:List Ast}
theorem pcOf_data (b:List UInt8):(pcOf b).data=b.drop 12:=rfl
theorem part_yes {s:Dsk}{f n ep q i c:Nat}(h:(partOf s f n ep q i c).length≠0):(pcAt s f n q).Part ep q i c∧(partOf s f n ep q i c).drop 12=(pcAt s f n q).data∧12<(partOf s f n ep q i c).length∧(partOf s f n ep q i c).length≤504:=by
 have hol:=openF_len (s.now (f+2+q%n))
 unfold partOf at h ⊢
 simp only [] at h ⊢
 split at h
 ·exact absurd rfl h
 ·rename_i h1
  rw [if_neg h1]
  split at h
  ·exact absurd rfl h
  ·rename_i h2
   rw [if_neg h2]
   split at h
   ·exact absurd rfl h
   ·rename_i h3
    rw [if_neg h3]
    have hp:pcAt s f n q=pcOf (openF (s.now (f+2+q%n))).1:=by unfold pcAt pcF;rw [if_pos ⟨by omega,by omega⟩]
    rw [hp]
    have hdl:((openF (s.now (f+2+q%n))).1.drop 12).length=(openF (s.now (f+2+q%n))).1.length-12:=List.length_drop
    exact ⟨⟨by rw [pcOf_data];exact List.ne_nil_of_length_pos om_,by show numN _ 0 4=ep;omega,by show numN _ 4 4=q;omega,by show numN _ 8 2=i;omega,by show numN _ 10 2=c;omega,by rw [pcOf_data];omega⟩,rfl,by omega,hol⟩
theorem part_no {s:Dsk}{f n ep q i c:Nat}(h:(partOf s f n ep q i c).length=0):¬(pcAt s f n q).Part ep q i c:=by
 intro hp
 have hd:=List.length_pos_iff.2 hp.data
 have ho:(openF (s.now (f+2+q%n))).2=0∧12≤(openF (s.now (f+2+q%n))).1.length:=by
  refine Classical.byContradiction fun hn=> ?_
  have:pcAt s f n q=pcNo:=by unfold pcAt pcF;rw [if_neg hn]
  rw [this] at hd
  exact absurd hd dc_
 have he:pcAt s f n q=pcOf (openF (s.now (f+2+q%n))).1:=by unfold pcAt pcF;rw [if_pos ho]
 rw [he] at hp hd
 rw [pcOf_data,List.length_drop] at hd
 have e1:numN (openF (s.now (f+2+q%n))).1 0 4=ep:=hp.epoch
 have e2:numN (openF (s.now (f+2+q%n))).1 4 4=q:=hp.pos
 have e3:numN (openF (s.now (f+2+q%n))).1 8 2=i:=hp.idx
 have e4:numN (openF (s.now (f+2+q%n))).1 10 2=c:=hp.cnt
 have e5:=hp.full
 rw [pcOf_data,List.length_drop] at e5
 unfold partOf at h
 simp only [] at h
 rw [if_neg om_,if_neg om_,if_neg om_] at h
 omega
theorem catF_len {pc:Nat→Pc}(hd:∀p,(pc p).data.length≤492)(p:Nat):∀i,(catF pc p i).length≤492*i
 |0=>Nat.le_refl _
 |i+1=>by
  have h1:=catF_len hd p i
  have h2:=hd (p+i)
  rw [catF_succ,List.length_append];omega
theorem St.vec_cap {t:TypeId}{A:Option Addr}{n c:Nat}{vals:List Value}(S:St F w0 w L)(i:Nat)(hi:L[i]?=some (vec t 1 (.slice A n c) n vals)):n≤c:=by
 rcases St.vec_cases (S.mem i hi) with ⟨h1,h2,_,_⟩|⟨g,c',junk,h1,h2,_⟩
 ·rw [h2];exact Nat.zero_le _
 ·simp at h1;omega
theorem atR_cnt {s:Dsk}{f n ep p c:Nat}(h:IsRec (pcAt s f n) ep p c):(openF (s.now (f+2+p%n))).2=0∧12<(openF (s.now (f+2+p%n))).1.length∧numN (openF (s.now (f+2+p%n))).1 10 2=c:=by
 have h0:=h.part 0 h.c1
 rw [Nat.add_zero] at h0
 have hd:=List.length_pos_iff.2 h0.data
 have hcn:=h.cnt
 have ho:(openF (s.now (f+2+p%n))).2=0∧12≤(openF (s.now (f+2+p%n))).1.length:=by
  refine Classical.byContradiction fun hn=> ?_
  have:pcAt s f n p=pcNo:=by unfold pcAt pcF;rw [if_neg hn]
  rw [this] at hd
  exact absurd hd dc_
 have he:pcAt s f n p=pcOf (openF (s.now (f+2+p%n))).1:=by unfold pcAt pcF;rw [if_pos ho]
 rw [he] at hd hcn
 rw [pcOf_data,List.length_drop] at hd
 exact ⟨ho.1,by omega,hcn⟩
theorem k_at {g gd:Nat}{l:Lg}{s:Dsk}(S:St F w0 w (KLog g gd l::RW gd s::L))(hl:LOk l)(hin:l.first+2+l.n≤s.last.length){ep p:Nat}(hep:ep≤1073741824)(hp:p≤2147483648):Calls Tryz.prog 97 #[.pointer (some ⟨g,0,none⟩),.int .i64 (ep:Nat),.int .i64 (p:Nat)] w fun e w'=>∃A ca d c,e=.returned (.tuple #[.slice A d.length ca,.int .i64 ((c:Nat):Int)])∧((c=0∧NoRec (pcAt s l.first l.n) ep p)∨(IsRec (pcAt s l.first l.n) ep p c∧d=catF (pcAt s l.first l.n) p c))∧St F w0 w' (vec 5 1 (.slice A d.length ca) d.length (d.map bv)::KLog g gd l::RW gd s::L):=by
 have hok:=St.rw_ok S.tail
 obtain ⟨h1,h2,h3,h4,h5,h6⟩:=id hl
 obtain ⟨m9,hm9⟩:∃m,l.n=m+1:=⟨l.n-1,by omega⟩
 have hpm:p%l.n<l.n:=Nat.mod_lt _ om_
 have hs5:=hok.now (k:=l.first+2+p%l.n) om_
 have hol:=openF_len (s.now (l.first+2+p%l.n))
 have hn2:=hok.n2
 have hlt:=numN_lt ((openF (s.now (l.first+2+p%l.n))).1) 10 2 dc_
 have hc9:∀c,IsRec (pcAt s l.first l.n) ep p c→_:=fun c h=>atR_cnt h
 change St F w0 w (row g (kC_ gd l l.head) 130::RW gd s::L) at S
 refine eN (fr [pq g,nI_ ep,nI_ p] 71) Tryz.func97 rfl (sR (pv (nS_) (pv (iv 0) (wE (nS ?_)))))
 have S1:St F w0 w (RW gd s::row g (kC_ gd l l.head) 130::L):=St.pm 2 [1,0] S
 obtain ⟨r9,S2⟩:=St.rw S1
 obtain ⟨gl,cl,c2,A2,junk,LL,PP,pool,hf,hcl,hju,S3⟩:=St.ropen S2
 change St F w0 w (rR2 gd gl LL.length cl (.slice A2 PP.length c2) s.left s.life r9 s.wr s.fl s.rf 0::row gl ((LL.map PEnt.val++junk).toArray) 22::vec 102 2 (.slice A2 PP.length c2) PP.length (putsV PP)::stars (pool.map PEnt.row)::row g (kC_ gd l l.head) 130::L) at S3
 refine wp_region_phu (γ:=Nat) 17 [16] (fun (c_:Nat) (i_:Nat)=>(match i_ with|0=>pq g|1=>pq g|2=>pq g|3=>pq gd|4=>pq g|5=>pq g|6=>po g 2|7=>nI_ l.first|8=>nI_ (l.first+2)|9=>nI_ p|10=>pq g|11=>pq g|12=>po g 3|13=>nI_ l.n|14=>nI_ (p%l.n)|15=>nI_ (l.first+2+p%l.n)|16=>sl c_ 0 512 512|_=>undef:Value)) (fun (c_:Nat) (p_:Nat) (w_:World)=>(match p_ with|0=>St F w0 w_ (rR2 gd gl LL.length cl (.slice A2 PP.length c2) s.left s.life r9 s.wr s.fl s.rf 0::row gl ((LL.map PEnt.val++junk).toArray) 22::vec 102 2 (.slice A2 PP.length c2) PP.length (putsV PP)::stars (pool.map PEnt.row)::row g (kC_ gd l l.head) 130::L)|_=>St F w0 w_ (keepP ((c_,s.now (l.first+2+p%l.n))∈pool)::rR2 gd gl LL.length cl (.slice A2 PP.length c2) s.left s.life r9 s.wr s.fl s.rf 0::row gl ((LL.map PEnt.val++junk).toArray) 22::vec 102 2 (.slice A2 PP.length c2) PP.length (putsV PP)::stars (pool.map PEnt.row)::row g (kC_ gd l l.head) 130::L):Prop)) (0) kr_ kr_ kr_ kr_ (S3.drew) ?_ ?_ ?_
 ·intro i_ c_ p_ vals_ w1 hi_ hiE_ hp_ hk_ hu_ hPh_ hd_
  rcases i_ with _|_|_|_|_|_|_|_|_|_|_|_|_|_|_|_|_|i_
  ·exact tG_ rfl hd_ (gV (pq g) ⟨rfl,rfl⟩)
  ·exact tG_ rfl hd_ (gV (pq g) ⟨rfl,rfl⟩)
  ·exact tG_ rfl hd_ (gV (pq g) ⟨rfl,rfl⟩)
  ·rcases p_ with _|_|p_
   ·have S7:=St.id hPh_
    exact tG_ rfl hd_ (gL (pq gd) rfl (((S7.blk 4 rfl).cell 0).trans rfl) ⟨rfl,rfl⟩)
   ·exact absurd (hu_ 0 dc_ kr_) dc_
   ·exact absurd hp_ (by simp)
  ·exact tG_ rfl hd_ (gV (pq g) ⟨rfl,rfl⟩)
  ·exact tG_ rfl hd_ (gV (pq g) ⟨rfl,rfl⟩)
  ·exact tG_ rfl hd_ (gV (po g 2) ⟨rfl,rfl⟩)
  ·rcases p_ with _|_|p_
   ·have S11:=St.id hPh_
    exact tG_ rfl hd_ (gL (nI_ l.first) rfl (((S11.blk 4 rfl).cell 2).trans rfl) ⟨rfl,rfl⟩)
   ·exact absurd (hu_ 0 dc_ kr_) dc_
   ·exact absurd hp_ (by simp)
  ·exact tG_ rfl hd_ (gv_int (k:=.i64) (z:=IntKind.i64.wrap (((l.first:Nat):Int)+2)) (z':=((l.first+2:Nat):Int)) kr_ wq_ ⟨rfl,rfl⟩)
  ·exact tG_ rfl hd_ (gV (nI_ p) ⟨rfl,rfl⟩)
  ·exact tG_ rfl hd_ (gV (pq g) ⟨rfl,rfl⟩)
  ·exact tG_ rfl hd_ (gV (pq g) ⟨rfl,rfl⟩)
  ·exact tG_ rfl hd_ (gV (po g 3) ⟨rfl,rfl⟩)
  ·rcases p_ with _|_|p_
   ·have S17:=St.id hPh_
    exact tG_ rfl hd_ (gL (nI_ l.n) rfl (((S17.blk 4 rfl).cell 3).trans rfl) ⟨rfl,rfl⟩)
   ·exact absurd (hu_ 0 dc_ kr_) dc_
   ·exact absurd hp_ (by simp)
  ·exact tG_ rfl hd_ (gv_int (k:=.i64) (z:=Int.tmod ((p:Nat):Int) ((l.n:Nat):Int)) (z':=((p%l.n:Nat):Int)) (by rw [hm9];kernel_rfl) (tmod_nat rfl rfl) ⟨rfl,rfl⟩)
  ·exact tG_ rfl hd_ (gv_int (k:=.i64) (z:=IntKind.i64.wrap (((l.first+2:Nat):Int)+((p%l.n:Nat):Int))) (z':=((l.first+2+p%l.n:Nat):Int)) kr_ wq_ ⟨rfl,rfl⟩)
  ·exact absurd hiE_ dc_
  ·exact absurd hi_ om_
 ·intro k_ c_ vals_ w1 hk_ hPh_ hd_
  rcases k_ with _|k_
  ·have S20:=St.id hPh_
   refine tG_ rfl hd_ (gv_call (args:=#[pq gd,nI_ (l.first+2+p%l.n)]) rfl Tryz.func40 kr_ rfl rfl kr_ (Calls.mono (rnow_own (s:=s.rdd r9) (k:=l.first+2+p%l.n) S20 hf (by show _<s.last.length;omega)) ?_))
   rintro _ w22 ⟨m21,rfl,hbo,S23⟩
   refine ⟨_,rfl, ?_⟩
   have hbo:(m21,s.now (l.first+2+p%l.n))∈pool:=hbo
   change St F w0 w22 (rR2 gd gl LL.length cl (.slice A2 PP.length c2) s.left s.life r9 s.wr s.fl s.rf 0::row gl ((LL.map PEnt.val++junk).toArray) 22::vec 102 2 (.slice A2 PP.length c2) PP.length (putsV PP)::stars (pool.map PEnt.row)::row g (kC_ gd l l.head) 130::L) at S23
   have S24:=St.withP hbo S23
   refine ⟨(m21),rfl, ?_,S24⟩
   intro i_ hi_ hne_ hdp_
   rcases i_ with _|_|_|_|_|_|_|_|_|_|_|_|_|_|_|_|_|i_
   ·rfl
   ·rfl
   ·rfl
   ·rfl
   ·rfl
   ·rfl
   ·rfl
   ·rfl
   ·rfl
   ·rfl
   ·rfl
   ·rfl
   ·rfl
   ·rfl
   ·rfl
   ·rfl
   ·exact absurd rfl hne_
   ·exact absurd hi_ om_
  ·exact absurd hk_ (by simp)
 ·intro c_ w1 hPh_
  have S25:=St.id hPh_
  refine (pv (sl c_ 0 512 512) (wE (nSR (pv (sl c_ 0 512 512) (g_ (gv_call (args:=#[sl c_ 0 512 512]) rfl Tryz.func115 kr_ rfl rfl kr_ ?_))))))
  obtain ⟨hbo,S26⟩:=St.takeP S25
  refine Calls.mono (ropen0 (a:=s.now (l.first+2+p%l.n)) (ca:=512) S26 hs5.symm (rot_pool 3 rfl hbo hs5) om_) ?_
  rintro _ w27 ⟨A9,c9,rfl,S28⟩
  refine ⟨_,rfl, ?_⟩
  have S29:St F w0 w27 (rR2 gd gl LL.length cl (.slice A2 PP.length c2) s.left s.life r9 s.wr s.fl s.rf 0::row gl ((LL.map PEnt.val++junk).toArray) 22::vec 102 2 (.slice A2 PP.length c2) PP.length (putsV PP)::stars (pool.map PEnt.row)::vec 5 1 (.slice A9 ((openF (s.now (l.first+2+p%l.n))).1.length) c9) ((openF (s.now (l.first+2+p%l.n))).1.length) (((openF (s.now (l.first+2+p%l.n))).1).map bv)::row g (kC_ gd l l.head) 130::L):=St.pm 6 [1,2,3,4,0,5] S28
  have S30:St F w0 w27 (RW gd s::vec 5 1 (.slice A9 ((openF (s.now (l.first+2+p%l.n))).1.length) c9) ((openF (s.now (l.first+2+p%l.n))).1.length) (((openF (s.now (l.first+2+p%l.n))).1).map bv)::row g (kC_ gd l l.head) 130::L):=St.wr (r:=r9) (St.rclose (gl:=gl) (cl:=cl) (c2:=c2) (A2:=A2) (junk:=junk) (LL:=LL) (PP:=PP) (pool:=pool) (s:=s.rdd r9) S29 hf hcl hju)
  refine pv (.tuple #[.slice A9 ((openF (s.now (l.first+2+p%l.n))).1.length) c9,iv ((openF (s.now (l.first+2+p%l.n))).2:Int)]) (pv (.slice A9 ((openF (s.now (l.first+2+p%l.n))).1.length) c9) (pv (iv ((openF (s.now (l.first+2+p%l.n))).2:Int)) (pv (.slice A9 ((openF (s.now (l.first+2+p%l.n))).1.length) c9) (pv (iv ((openF (s.now (l.first+2+p%l.n))).2:Int)) (wE (nS (sR (pv (iv ((openF (s.now (l.first+2+p%l.n))).2:Int)) (dN ((openF (s.now (l.first+2+p%l.n))).2:Int) 0 (fun hb31=> ?_) fun hb31=> ?_)))))))))
  ·refine pv tv (wN (wN (wN (pv tv (wE (nCT (sR (pv (nS_) (pv (iv 0) (wE (then_n (rR (bB (nS_) (iv 0) ?_)))))))))))))
   have hno:NoRec (pcAt s l.first l.n) ep p:=fun c hh=>by obtain ⟨h9,_⟩:=hc9 c hh;omega
   have S32:=St.pm 3 [2,0,1] S30
   have S33:=St.pm 3 [0,1] S32
   exact ⟨none,0,[],0,rfl,.inl ⟨rfl,hno⟩,St.vec_nil S33⟩
  ·refine pv fv (pW (.slice A9 ((openF (s.now (l.first+2+p%l.n))).1.length) c9) (pW (iv ((openF (s.now (l.first+2+p%l.n))).1.length:Nat)) (wl_when kr_ (gv_dec (p:=(((openF (s.now (l.first+2+p%l.n))).1.length:Nat):Int)≤12) kr_ (fun hb34=> ?_) (fun hb34=> ?_)))))
   ·refine pv tv (wE (nCT (sR (pv (nS_) (pv (iv 0) (wE (then_n (rR (bB (nS_) (iv 0) ?_)))))))))
    have hno:NoRec (pcAt s l.first l.n) ep p:=fun c hh=>by obtain ⟨_,h9,_⟩:=hc9 c hh;omega
    have S35:=St.pm 3 [2,0,1] S30
    have S36:=St.pm 3 [0,1] S35
    exact ⟨none,0,[],0,rfl,.inl ⟨rfl,hno⟩,St.vec_nil S36⟩
   ·refine pv fv (wE (nCF (wp_skip (nSR (pv (.slice A9 ((openF (s.now (l.first+2+p%l.n))).1.length) c9) (sO Tryz.func116 #[.slice A9 ((openF (s.now (l.first+2+p%l.n))).1.length) c9,iv 10,iv 2] (k_number (a:=10) (n:=2) (b:=(openF (s.now (l.first+2+p%l.n))).1) rfl (St.rdV S30 1 rfl) om_ dc_ om_) (pv (nI_ (numN (openF (s.now (l.first+2+p%l.n))).1 10 2)) (wE (nS (sR (pv (nI_ (numN (openF (s.now (l.first+2+p%l.n))).1 10 2)) (dC ((((numN (openF (s.now (l.first+2+p%l.n))).1 10 2:Nat):Int):Int)<1) (fun hb37=> ?_) fun hb37=> ?_))))))))))))
    ·refine pv tv (wN (wN (pv tv (wE (nCT (sR (pv (nS_) (pv (iv 0) (wE (then_n (rR (bB (nS_) (iv 0) ?_))))))))))))
     have hno:NoRec (pcAt s l.first l.n) ep p:=fun c hh=>by obtain ⟨_,_,h9⟩:=hc9 c hh;have:=hh.c1;omega
     have S38:=St.pm 3 [2,0,1] S30
     have S39:=St.pm 3 [0,1] S38
     exact ⟨none,0,[],0,rfl,.inl ⟨rfl,hno⟩,St.vec_nil S39⟩
    ·refine pv fv (pW (nI_ (numN (openF (s.now (l.first+2+p%l.n))).1 10 2)) (wl_when kr_ (gv_dec (p:=(((numN (openF (s.now (l.first+2+p%l.n))).1 10 2:Nat):Int):Int)>17) kr_ (fun hb40=> ?_) (fun hb40=> ?_))))
     ·refine pv tv (wE (nCT (sR (pv (nS_) (pv (iv 0) (wE (then_n (rR (bB (nS_) (iv 0) ?_)))))))))
      have hno:NoRec (pcAt s l.first l.n) ep p:=fun c hh=>by obtain ⟨_,_,h9⟩:=hc9 c hh;have:=hh.c17;omega
      have S41:=St.pm 3 [2,0,1] S30
      have S42:=St.pm 3 [0,1] S41
      exact ⟨none,0,[],0,rfl,.inl ⟨rfl,hno⟩,St.vec_nil S42⟩
     ·refine pv fv (wE (nCF (wp_skip (nSR (pv (.slice none ((catF (pcAt s l.first l.n) p 0).length) 0) (wE (nS (sR (pv (iv 0) (wE (then_n (wp_block ?_))))))))))))
      obtain ⟨c,hcc⟩:∃c,numN (openF (s.now (l.first+2+p%l.n))).1 10 2=c:=⟨_,rfl⟩
      rw [hcc]
      have hcl:1≤c∧c≤17:=by omega
      have S43:St F w0 w27 (row g (kC_ gd l l.head) 130::RW gd s::vec 5 1 (.slice A9 ((openF (s.now (l.first+2+p%l.n))).1.length) c9) ((openF (s.now (l.first+2+p%l.n))).1.length) (((openF (s.now (l.first+2+p%l.n))).1).map bv)::L):=St.pm 3 [2,0,1] S30
      have S44:St F w0 w27 (row g (kC_ gd l l.head) 130::RW gd s::L):=St.pm 3 [0,1] S43
      have S45:St F w0 w27 (vec 5 1 (.slice none ((catF (pcAt s l.first l.n) p 0).length) 0) ((catF (pcAt s l.first l.n) p 0).length) ((catF (pcAt s l.first l.n) p 0).map bv)::row g (kC_ gd l l.head) 130::RW gd s::L):=St.vec_nil S44
      refine wp_loop_g (G:=Nat×Option Addr×Nat) (fun (g_:Nat×Option Addr×Nat) (a_:Act) (w_:World)=>∃J:Nat→Value,a_=(fr ([pq g,nI_ ep,nI_ p,ud,ud,ud,J 6,J 7,sl c_ 0 512 512,.slice A9 ((openF (s.now (l.first+2+p%l.n))).1.length) c9,iv ((openF (s.now (l.first+2+p%l.n))).2:Int),nI_ c,.slice g_.2.1 ((catF (pcAt s l.first l.n) p g_.1).length) g_.2.2,nI_ g_.1,J 14,pq g,pq g,pq g,pq gd,pq g,pq g,po g 2,nI_ l.first,nI_ (l.first+2),nI_ p,pq g,pq g,po g 3,nI_ l.n,nI_ (p%l.n),nI_ (l.first+2+p%l.n),sl c_ 0 512 512,.tuple #[.slice A9 ((openF (s.now (l.first+2+p%l.n))).1.length) c9,iv ((openF (s.now (l.first+2+p%l.n))).2:Int)],sl c_ 0 512 512,.tuple #[.slice A9 ((openF (s.now (l.first+2+p%l.n))).1.length) c9,iv ((openF (s.now (l.first+2+p%l.n))).2:Int)],.slice A9 ((openF (s.now (l.first+2+p%l.n))).1.length) c9,iv ((openF (s.now (l.first+2+p%l.n))).2:Int),iv ((openF (s.now (l.first+2+p%l.n))).2:Int),fv,fv,.slice A9 ((openF (s.now (l.first+2+p%l.n))).1.length) c9,iv ((openF (s.now (l.first+2+p%l.n))).1.length:Nat),fv,fv,.slice A9 ((openF (s.now (l.first+2+p%l.n))).1.length) c9,nI_ c,nI_ c,fv,fv,nI_ c,fv,fv]++jR J 52 20) 2)∧St F w0 w_ (vec 5 1 (.slice g_.2.1 ((catF (pcAt s l.first l.n) p g_.1).length) g_.2.2) ((catF (pcAt s l.first l.n) p g_.1).length) ((catF (pcAt s l.first l.n) p g_.1).map bv)::row g (kC_ gd l l.head) 130::RW gd s::L)∧(g_.1≤c∧∀j,j<g_.1→(pcAt s l.first l.n (p+j)).Part ep (p+j) j c)) (fun g_=>c-g_.1) (0,none,0) (jE_ ⟨S45,⟨Nat.zero_le _,fun j h=>absurd h (Nat.not_lt_zero j)⟩⟩) ?_
      rintro ⟨i,A5,c5⟩ a_ w46 ⟨J,rfl,S47,⟨hI1,hI2⟩⟩
      skip
      have S47:St F w0 w46 (vec 5 1 (.slice A5 ((catF (pcAt s l.first l.n) p i).length) c5) ((catF (pcAt s l.first l.n) p i).length) ((catF (pcAt s l.first l.n) p i).map bv)::row g (kC_ gd l l.head) 130::RW gd s::L):=S47
      refine wp_seq (sR (pv (nI_ i) (pv (nI_ c) (dC ((((i:Nat):Int):Int)<((c:Nat):Int)) (fun hb49=> ?_) fun hb49=> ?_))))
      ·have hI1:i≤c:=hI1
       have hI2:∀j,j<i→(pcAt s l.first l.n (p+j)).Part ep (p+j) j c:=hI2
       have hi:i<c:=by omega
       refine wE (nCT (wp_skip (nS (wp_block (sR (pv (pq g) (pv (nI_ ep) (pv (nI_ p) (pv (nI_ i) (gI .i64 (IntKind.i64.wrap (((p:Nat):Int)+((i:Nat):Int))) ((p+i:Nat):Int) wq_ (pv (nI_ i) (pv (nI_ c) (g_ (gv_call (args:=#[pq g,nI_ ep,nI_ (p+i),nI_ i,nI_ c]) rfl Tryz.func117 kr_ rfl rfl kr_ ?_))))))))))))))
       have S50:St F w0 w46 (row g (kC_ gd l l.head) 130::RW gd s::vec 5 1 (.slice A5 ((catF (pcAt s l.first l.n) p i).length) c5) ((catF (pcAt s l.first l.n) p i).length) ((catF (pcAt s l.first l.n) p i).map bv)::L):=St.pm 3 [1,2,0] S47
       refine Calls.mono (k_part (ep:=ep) (p:=p+i) (i:=i) (c:=c) S50 hl hin om_ om_ om_ om_) ?_
       rintro _ w51 ⟨Ap,cp,rfl,S52⟩
       refine ⟨_,rfl,(pv (.slice Ap ((partOf s l.first l.n ep (p+i) i c).length) cp) (wE (nS (sR (pv (.slice Ap ((partOf s l.first l.n ep (p+i) i c).length) cp) (pv (iv ((partOf s l.first l.n ep (p+i) i c).length:Nat)) (dE ((partOf s l.first l.n ep (p+i) i c).length:Nat) 0 (fun hb53=> ?_) fun hb53=> ?_)))))))⟩
       ·have hpn:=part_no (s:=s) (f:=l.first) (n:=l.n) (ep:=ep) (q:=p+i) (i:=i) (c:=c) om_
        refine wE (nCT (sR (pv (nS_) (pv (iv 0) (wE ?_)))))
        refine then_n (rR (inb_r (then_r (then_r (inb_r (then_r (bB (nS_) (iv 0) ?_)))))))
        have hno:NoRec (pcAt s l.first l.n) ep p:=fun c hh=>by obtain ⟨_,_,h9⟩:=hc9 c hh;rw [hcc] at h9;subst h9;exact hpn (hh.part i hi)
        have S54:=St.pm 4 [1,2,0,3] S52
        have S55:=St.pm 4 [0,1] S54
        exact ⟨none,0,[],0,rfl,.inl ⟨rfl,hno⟩,St.vec_nil S55⟩
       ·obtain ⟨hp1,hp2,hp3,hp4⟩:=part_yes (s:=s) (f:=l.first) (n:=l.n) (ep:=ep) (q:=p+i) (i:=i) (c:=c) om_
        have hcap:=St.vec_cap S52 0 rfl
        obtain ⟨adp,rfl⟩:=(St.rdV S52 0 rfl).at (k:=0) om_
        have hcl2:=catF_len (pc:=pcAt s l.first l.n) (fun q=>pcF_data _) p i
        have hdl:(List.drop 12 (partOf s l.first l.n ep (p+i) i c)).length=(partOf s l.first l.n ep (p+i) i c).length-12:=List.length_drop
        refine wE (nCF (wp_skip (nR (pv (.slice A5 ((catF (pcAt s l.first l.n) p i).length) c5) (pv (.slice (some adp) ((partOf s l.first l.n ep (p+i) i c).length) cp) (g_ (gv_from (e:=5) (ad:=adp) (n:=((partOf s l.first l.n ep (p+i) i c).length)) (c:=cp) (lo:=12) (kl:=.i64) (u:=12) (n':=(((partOf s l.first l.n ep (p+i) i c).length)-12)) (c':=(cp-12)) rfl kr_ kr_ kr_ kr_ rfl om_ hcap rfl rfl ?_)))))))
        have S56:St F w0 w51 (vec 5 1 (.slice A5 ((catF (pcAt s l.first l.n) p i).length) c5) ((catF (pcAt s l.first l.n) p i).length) ((catF (pcAt s l.first l.n) p i).map bv)::vec 5 1 (.slice (some adp) ((partOf s l.first l.n ep (p+i) i c).length) cp) ((partOf s l.first l.n ep (p+i) i c).length) ((partOf s l.first l.n ep (p+i) i c).map bv)::row g (kC_ gd l l.head) 130::RW gd s::L):=St.pm 4 [3,0,1,2] S52
        refine g_ (gv_append (e:=5) (sz:=1) (n:=(catF (pcAt s l.first l.n) p i).length) (v:=.slice A5 (catF (pcAt s l.first l.n) p i).length c5) (vals:=(catF (pcAt s l.first l.n) p i).map bv) (z:=.int .u8 0) (by_:=1) (m:=(partOf s l.first l.n ep (p+i) i c).length-12) (c':=cp-12) (ad:=cutA cp 12 adp) (news:=(List.drop 12 (partOf s l.first l.n ep (p+i) i c)).map bv) S56 rfl kr_ ⟨by kernel_rfl⟩ rfl kr_ kr_ om_ (by rw [List.length_map,Nat.mul_one,hdl]) (RdB.cells (RdB.cut (c:=cp) (lo:=12) (St.rdV S56 1 rfl) hcap)) (bv_one _) om_ om_ (fun v57 w58 S59=> ?_))
        obtain ⟨A60,c61,rfl⟩:=St.vecV S59 0 rfl
        have hcs:catF (pcAt s l.first l.n) p i++List.drop 12 (partOf s l.first l.n ep (p+i) i c)=catF (pcAt s l.first l.n) p (i+1):=by rw [catF_succ,hp2]
        have hcn:(catF (pcAt s l.first l.n) p i).length+((partOf s l.first l.n ep (p+i) i c).length-12)=(catF (pcAt s l.first l.n) p (i+1)).length:=by rw [←hcs,List.length_append,hdl]
        rw [←List.map_append,hcs,hcn] at S59
        rw [hcn]
        have hpn9:∀j,j<i+1→(pcAt s l.first l.n (p+j)).Part ep (p+j) j c:=fun j hj=>(Nat.lt_succ_iff_lt_or_eq.1 hj).elim (hI2 j) (fun e=>e▸hp1)
        refine pv (.slice A60 ((catF (pcAt s l.first l.n) p (i+1)).length) c61) (wE ?_)
        refine inb_n (nR (pv (nI_ i) (gI .i64 (IntKind.i64.wrap (((i:Nat):Int)+1)) ((i+1:Nat):Int) wq_ (pv (nI_ (i+1)) (wE (then_n ?_))))))
        have S62:=St.pm 4 [0,2,3,1] S59
        have S63:=St.pm 4 [0,1,2] S62
        exact ⟨(i+1,A60,c61),(jE_ ⟨S63,⟨by omega,hpn9⟩⟩),(by show c-(i+1)<c-i;omega)⟩
      ·have hI1:i≤c:=hI1
       have hI2:∀j,j<i→(pcAt s l.first l.n (p+j)).Part ep (p+j) j c:=hI2
       have hic:i=c:=by omega
       subst hic
       have hrec:IsRec (pcAt s l.first l.n) ep p i:=⟨by omega,by omega,by have h9:=(hI2 0 om_).cnt;rwa [Nat.add_zero] at h9,hI2⟩
       refine wE (nCF (wp_exit (then_x (then_x (inb_x (nSR (pv (.slice A5 ((catF (pcAt s l.first l.n) p i).length) c5) (pv (nI_ i) (pv (.slice A5 ((catF (pcAt s l.first l.n) p i).length) c5) (pv (nI_ i) (wE (then_n (wp_ret ?_)))))))))))))
       exact bB (.slice A5 ((catF (pcAt s l.first l.n) p i).length) c5) (nI_ i) ⟨A5,c5,_,_,rfl,.inr ⟨hrec,rfl⟩,S47⟩
theorem k_top {g gd:Nat}{l:Lg}{s:Dsk}(S:St F w0 w (KLog g gd l::RW gd s::L))(hl:LOk l)(hin:l.first+2+l.n≤s.last.length){ep:Nat}(hep:ep≤1073741824):Calls Tryz.prog 96 #[.pointer (some ⟨g,0,none⟩),.int .i64 (ep:Nat)] w fun e w'=>e=.returned (.int .i64 ((topTo (pcAt s l.first l.n) ep l.n:Nat):Int))∧St F w0 w' (KLog g gd l::RW gd s::L):=by
 have hok:=St.rw_ok S.tail
 obtain ⟨h1,h2,h3,h4,h5,h6⟩:=id hl
 have hn2:=hok.n2
 change St F w0 w (row g (kC_ gd l l.head) 130::RW gd s::L) at S
 refine eN (fr [pq g,nI_ ep] 57) Tryz.func96 rfl (sR (pv (iv 0) (wER (pv (nI_ ep) (pv (nI_ ep) (wE (nS (sR (pv (iv 0) (wE (then_n (wp_block (wp_loop_g (G:=Nat) (fun (g_:Nat) (a_:Act) (w_:World)=>∃J:Nat→Value,a_=(fr ([pq g,nI_ ep,ud,ud,iv 0,nI_ (topTo (pcAt s l.first l.n) ep g_),nI_ g_]++jR J 7 4++[nI_ ep]++jR J 12 46) 1)∧St F w0 w_ (row g (kC_ gd l l.head) 130::RW gd s::L)∧(g_≤l.n)) (fun g_=>l.n-g_) 0 (jE_ ⟨S,Nat.zero_le _⟩) ?_)))))))))))))
 rintro i a_ w1 ⟨J,rfl,S2,hI3⟩
 skip
 have S2:St F w0 w1 (row g (kC_ gd l l.head) 130::RW gd s::L):=S2
 have hI3:(i≤l.n):=hI3
 refine wp_seq (sR (pv (nI_ i) (pv (pq g) (pv (pq g) (pv (po g 3) (lR (nI_ l.n) S2 0 3 (dC ((((i:Nat):Int):Int)<((l.n:Nat):Int)) (fun hb4=> ?_) fun hb4=> ?_)))))))
 ·have hi:i<l.n:=by omega
  have hte:=topTo_le (pcAt s l.first l.n) ep hep i
  have hs5:=hok.now (k:=l.first+2+i) om_
  have hol:=openF_len (s.now (l.first+2+i))
  have hpi:pcAt s l.first l.n i=pcF (s.now (l.first+2+i)):=by unfold pcAt;rw [Nat.mod_eq_of_lt hi]
  have hts:topTo (pcAt s l.first l.n) ep (i+1)=if (pcF (s.now (l.first+2+i))).epoch≤1073741824 then max (topTo (pcAt s l.first l.n) ep i) (pcF (s.now (l.first+2+i))).epoch else topTo (pcAt s l.first l.n) ep i:=by rw [←hpi];rfl
  refine wE (nCT (wp_skip (nS (wp_block (wp_seq ?_)))))
  have S5:=St.pm 2 [1,0] S2
  obtain ⟨r9,S6⟩:=St.rw S5
  obtain ⟨gl,cl,c2,A2,junk,LL,PP,pool,hf,hcl,hju,S7⟩:=St.ropen S6
  change St F w0 w1 (rR2 gd gl LL.length cl (.slice A2 PP.length c2) s.left s.life r9 s.wr s.fl s.rf 0::row gl ((LL.map PEnt.val++junk).toArray) 22::vec 102 2 (.slice A2 PP.length c2) PP.length (putsV PP)::stars (pool.map PEnt.row)::row g (kC_ gd l l.head) 130::L) at S7
  refine wp_region_phu (γ:=Nat) 12 [11] (fun (c_:Nat) (i_:Nat)=>(match i_ with|0=>pq g|1=>pq g|2=>pq g|3=>pq gd|4=>pq g|5=>pq g|6=>po g 2|7=>nI_ l.first|8=>nI_ (l.first+2)|9=>nI_ i|10=>nI_ (l.first+2+i)|11=>sl c_ 0 512 512|_=>undef:Value)) (fun (c_:Nat) (p_:Nat) (w_:World)=>(match p_ with|0=>St F w0 w_ (rR2 gd gl LL.length cl (.slice A2 PP.length c2) s.left s.life r9 s.wr s.fl s.rf 0::row gl ((LL.map PEnt.val++junk).toArray) 22::vec 102 2 (.slice A2 PP.length c2) PP.length (putsV PP)::stars (pool.map PEnt.row)::row g (kC_ gd l l.head) 130::L)|_=>St F w0 w_ (keepP ((c_,s.now (l.first+2+i))∈pool)::rR2 gd gl LL.length cl (.slice A2 PP.length c2) s.left s.life r9 s.wr s.fl s.rf 0::row gl ((LL.map PEnt.val++junk).toArray) 22::vec 102 2 (.slice A2 PP.length c2) PP.length (putsV PP)::stars (pool.map PEnt.row)::row g (kC_ gd l l.head) 130::L):Prop)) (0) kr_ kr_ kr_ kr_ (S7.drew) ?_ ?_ ?_
  ·intro i_ c_ p_ vals_ w1 hi_ hiE_ hp_ hk_ hu_ hPh_ hd_
   rcases i_ with _|_|_|_|_|_|_|_|_|_|_|_|i_
   ·exact tG_ rfl hd_ (gV (pq g) ⟨rfl,rfl⟩)
   ·exact tG_ rfl hd_ (gV (pq g) ⟨rfl,rfl⟩)
   ·exact tG_ rfl hd_ (gV (pq g) ⟨rfl,rfl⟩)
   ·rcases p_ with _|_|p_
    ·have S11:=St.id hPh_
     exact tG_ rfl hd_ (gL (pq gd) rfl (((S11.blk 4 rfl).cell 0).trans rfl) ⟨rfl,rfl⟩)
    ·exact absurd (hu_ 0 dc_ kr_) dc_
    ·exact absurd hp_ (by simp)
   ·exact tG_ rfl hd_ (gV (pq g) ⟨rfl,rfl⟩)
   ·exact tG_ rfl hd_ (gV (pq g) ⟨rfl,rfl⟩)
   ·exact tG_ rfl hd_ (gV (po g 2) ⟨rfl,rfl⟩)
   ·rcases p_ with _|_|p_
    ·have S15:=St.id hPh_
     exact tG_ rfl hd_ (gL (nI_ l.first) rfl (((S15.blk 4 rfl).cell 2).trans rfl) ⟨rfl,rfl⟩)
    ·exact absurd (hu_ 0 dc_ kr_) dc_
    ·exact absurd hp_ (by simp)
   ·exact tG_ rfl hd_ (gv_int (k:=.i64) (z:=IntKind.i64.wrap (((l.first:Nat):Int)+2)) (z':=((l.first+2:Nat):Int)) kr_ wq_ ⟨rfl,rfl⟩)
   ·exact tG_ rfl hd_ (gV (nI_ i) ⟨rfl,rfl⟩)
   ·exact tG_ rfl hd_ (gv_int (k:=.i64) (z:=IntKind.i64.wrap (((l.first+2:Nat):Int)+((i:Nat):Int))) (z':=((l.first+2+i:Nat):Int)) kr_ wq_ ⟨rfl,rfl⟩)
   ·exact absurd hiE_ dc_
   ·exact absurd hi_ om_
  ·intro k_ c_ vals_ w1 hk_ hPh_ hd_
   rcases k_ with _|k_
   ·have S19:=St.id hPh_
    refine tG_ rfl hd_ (gv_call (args:=#[pq gd,nI_ (l.first+2+i)]) rfl Tryz.func40 kr_ rfl rfl kr_ (Calls.mono (rnow_own (s:=s.rdd r9) (k:=l.first+2+i) S19 hf (by show _<s.last.length;omega)) ?_))
    rintro _ w21 ⟨m20,rfl,hbo,S22⟩
    refine ⟨_,rfl, ?_⟩
    have hbo:(m20,s.now (l.first+2+i))∈pool:=hbo
    change St F w0 w21 (rR2 gd gl LL.length cl (.slice A2 PP.length c2) s.left s.life r9 s.wr s.fl s.rf 0::row gl ((LL.map PEnt.val++junk).toArray) 22::vec 102 2 (.slice A2 PP.length c2) PP.length (putsV PP)::stars (pool.map PEnt.row)::row g (kC_ gd l l.head) 130::L) at S22
    have S23:=St.withP hbo S22
    refine ⟨(m20),rfl, ?_,S23⟩
    intro i_ hi_ hne_ hdp_
    rcases i_ with _|_|_|_|_|_|_|_|_|_|_|_|i_
    ·rfl
    ·rfl
    ·rfl
    ·rfl
    ·rfl
    ·rfl
    ·rfl
    ·rfl
    ·rfl
    ·rfl
    ·rfl
    ·exact absurd rfl hne_
    ·exact absurd hi_ om_
   ·exact absurd hk_ (by simp)
  ·intro c_ w1 hPh_
   have S24:=St.id hPh_
   refine (pv (sl c_ 0 512 512) (wE (nSR (pv (sl c_ 0 512 512) (g_ (gv_call (args:=#[sl c_ 0 512 512]) rfl Tryz.func115 kr_ rfl rfl kr_ ?_))))))
   obtain ⟨hbo,S25⟩:=St.takeP S24
   refine Calls.mono (ropen0 (a:=s.now (l.first+2+i)) (ca:=512) S25 hs5.symm (rot_pool 3 rfl hbo hs5) om_) ?_
   rintro _ w26 ⟨A9,c9,rfl,S27⟩
   refine ⟨_,rfl, ?_⟩
   have S28:=St.pm 6 [1,2,3,4,0,5] S27
   have S29:St F w0 w26 (RW gd s::vec 5 1 (.slice A9 ((openF (s.now (l.first+2+i))).1.length) c9) ((openF (s.now (l.first+2+i))).1.length) (((openF (s.now (l.first+2+i))).1).map bv)::row g (kC_ gd l l.head) 130::L):=St.wr (r:=r9) (St.rclose (gl:=gl) (cl:=cl) (c2:=c2) (A2:=A2) (junk:=junk) (LL:=LL) (PP:=PP) (pool:=pool) (s:=s.rdd r9) S28 hf hcl hju)
   refine pv (.tuple #[.slice A9 ((openF (s.now (l.first+2+i))).1.length) c9,iv ((openF (s.now (l.first+2+i))).2:Int)]) (pv (.slice A9 ((openF (s.now (l.first+2+i))).1.length) c9) (pv (iv ((openF (s.now (l.first+2+i))).2:Int)) (pv (.slice A9 ((openF (s.now (l.first+2+i))).1.length) c9) (pv (iv ((openF (s.now (l.first+2+i))).2:Int)) (wE (nS (sR (pv (iv ((openF (s.now (l.first+2+i))).2:Int)) (dN ((openF (s.now (l.first+2+i))).2:Int) 0 (fun hb30=> ?_) fun hb30=> ?_)))))))))
   ·have hts2:topTo (pcAt s l.first l.n) ep (i+1)=topTo (pcAt s l.first l.n) ep i:=by rw [hts,show pcF (s.now (l.first+2+i))=pcNo from by unfold pcF;rw [if_neg (fun hh=>by omega)],if_pos dc_];exact Nat.max_eq_left (Nat.zero_le _)
    refine pv tv (wN (wN (wN (pv tv (wE (nCT (wp_exit (then_x (inb_x (nR (pv (nI_ i) (gI .i64 (IntKind.i64.wrap (((i:Nat):Int)+1)) ((i+1:Nat):Int) wq_ (pv (nI_ (i+1)) ?_)))))))))))))
    refine wE (then_n ?_)
    have S31:=St.pm 3 [2,0,1] S29
    have S32:=St.pm 3 [0,1] S31
    exact ⟨i+1,(jF_ (fun z_:Nat=>(fr ([pq g,nI_ ep,ud,ud,iv 0,nI_ z_,nI_ (i+1),sl c_ 0 512 512,.slice A9 ((openF (s.now (l.first+2+i))).1.length) c9,iv ((openF (s.now (l.first+2+i))).2:Int),J 10,nI_ ep,nI_ i,pq g,pq g,po g 3,nI_ l.n,tv,nI_ i,nI_ (i+1),pq g,pq g,pq g,pq gd,pq g,pq g,po g 2,nI_ l.first,nI_ (l.first+2),nI_ i,nI_ (l.first+2+i),sl c_ 0 512 512,.tuple #[.slice A9 ((openF (s.now (l.first+2+i))).1.length) c9,iv ((openF (s.now (l.first+2+i))).2:Int)],sl c_ 0 512 512,.tuple #[.slice A9 ((openF (s.now (l.first+2+i))).1.length) c9,iv ((openF (s.now (l.first+2+i))).2:Int)],.slice A9 ((openF (s.now (l.first+2+i))).1.length) c9,iv ((openF (s.now (l.first+2+i))).2:Int),iv ((openF (s.now (l.first+2+i))).2:Int),tv,tv,ud,ud,ud,tv]++jR J 44 14) 1)) (x:=topTo (pcAt s l.first l.n) ep i) (y:=topTo (pcAt s l.first l.n) ep (i+1)) hts2.symm ⟨S32,om_⟩),(by show l.n-(i+1)<l.n-i;omega)⟩
   ·refine pv fv (pW (.slice A9 ((openF (s.now (l.first+2+i))).1.length) c9) (pW (iv ((openF (s.now (l.first+2+i))).1.length:Nat)) (wl_when kr_ (gv_dec (p:=(((openF (s.now (l.first+2+i))).1.length:Nat):Int)<12) kr_ (fun hb33=> ?_) (fun hb33=> ?_)))))
    ·have hts2:topTo (pcAt s l.first l.n) ep (i+1)=topTo (pcAt s l.first l.n) ep i:=by rw [hts,show pcF (s.now (l.first+2+i))=pcNo from by unfold pcF;rw [if_neg (fun hh=>by omega)],if_pos dc_];exact Nat.max_eq_left (Nat.zero_le _)
     refine pv tv (wE (nCT (wp_exit (then_x (inb_x (nR (pv (nI_ i) (gI .i64 (IntKind.i64.wrap (((i:Nat):Int)+1)) ((i+1:Nat):Int) wq_ (pv (nI_ (i+1)) (wE (then_n ?_)))))))))))
     have S34:=St.pm 3 [2,0,1] S29
     have S35:=St.pm 3 [0,1] S34
     exact ⟨i+1,(jF_ (fun z_:Nat=>(fr ([pq g,nI_ ep,ud,ud,iv 0,nI_ z_,nI_ (i+1),sl c_ 0 512 512,.slice A9 ((openF (s.now (l.first+2+i))).1.length) c9,iv ((openF (s.now (l.first+2+i))).2:Int),J 10,nI_ ep,nI_ i,pq g,pq g,po g 3,nI_ l.n,tv,nI_ i,nI_ (i+1),pq g,pq g,pq g,pq gd,pq g,pq g,po g 2,nI_ l.first,nI_ (l.first+2),nI_ i,nI_ (l.first+2+i),sl c_ 0 512 512,.tuple #[.slice A9 ((openF (s.now (l.first+2+i))).1.length) c9,iv ((openF (s.now (l.first+2+i))).2:Int)],sl c_ 0 512 512,.tuple #[.slice A9 ((openF (s.now (l.first+2+i))).1.length) c9,iv ((openF (s.now (l.first+2+i))).2:Int)],.slice A9 ((openF (s.now (l.first+2+i))).1.length) c9,iv ((openF (s.now (l.first+2+i))).2:Int),iv ((openF (s.now (l.first+2+i))).2:Int),fv,fv,.slice A9 ((openF (s.now (l.first+2+i))).1.length) c9,iv ((openF (s.now (l.first+2+i))).1.length:Nat),tv,tv]++jR J 44 14) 1)) (x:=topTo (pcAt s l.first l.n) ep i) (y:=topTo (pcAt s l.first l.n) ep (i+1)) hts2.symm ⟨S35,om_⟩),(by show l.n-(i+1)<l.n-i;omega)⟩
    ·have hpy:(pcF (s.now (l.first+2+i))).epoch=numN (openF (s.now (l.first+2+i))).1 0 4:=by unfold pcF;rw [if_pos ⟨by omega,by omega⟩];rfl
     rw [hpy] at hts
     have hnl:=numN_lt ((openF (s.now (l.first+2+i))).1) 0 4 dc_
     refine pv fv (wE (nCF (wp_skip (nSR (pv (.slice A9 ((openF (s.now (l.first+2+i))).1.length) c9) (sO Tryz.func116 #[.slice A9 ((openF (s.now (l.first+2+i))).1.length) c9,iv 0,iv 4] (k_number (a:=0) (n:=4) (b:=(openF (s.now (l.first+2+i))).1) rfl (St.rdV S29 1 rfl) om_ dc_ om_) (pv (nI_ (numN (openF (s.now (l.first+2+i))).1 0 4)) (wER (pv (nI_ (numN (openF (s.now (l.first+2+i))).1 0 4)) (dC ((((numN (openF (s.now (l.first+2+i))).1 0 4:Nat):Int):Int)≥1) (fun hb36=> ?_) fun hb36=> ?_))))))))))
     ·refine pv tv (pW (nI_ (numN (openF (s.now (l.first+2+i))).1 0 4)) (wl_when kr_ (gv_dec (p:=(((numN (openF (s.now (l.first+2+i))).1 0 4:Nat):Int):Int)≤1073741824) kr_ (fun hb37=> ?_) (fun hb37=> ?_))))
      ·refine pv tv (pv tv (pW (nI_ (numN (openF (s.now (l.first+2+i))).1 0 4)) (pW (nI_ (topTo (pcAt s l.first l.n) ep i)) (wl_when kr_ (gv_dec (p:=(((numN (openF (s.now (l.first+2+i))).1 0 4:Nat):Int):Int)>((topTo (pcAt s l.first l.n) ep i:Nat):Int)) kr_ (fun hb38=> ?_) (fun hb38=> ?_))))))
       ·have hts2:topTo (pcAt s l.first l.n) ep (i+1)=numN (openF (s.now (l.first+2+i))).1 0 4:=by rw [hts];split<;>omega
        refine pv tv (wE (nCT (wp_region_lit (pv (nI_ (numN (openF (s.now (l.first+2+i))).1 0 4)) (pv (nI_ (numN (openF (s.now (l.first+2+i))).1 0 4)) (wE (inb_n (nR (pv (nI_ i) (gI .i64 (IntKind.i64.wrap (((i:Nat):Int)+1)) ((i+1:Nat):Int) wq_ (pv (nI_ (i+1)) (wE (then_n ?_)))))))))))))
        have S39:=St.pm 3 [2,0,1] S29
        have S40:=St.pm 3 [0,1] S39
        exact ⟨i+1,(jF_ (fun z_:Nat=>(fr [pq g,nI_ ep,ud,ud,iv 0,nI_ z_,nI_ (i+1),sl c_ 0 512 512,.slice A9 ((openF (s.now (l.first+2+i))).1.length) c9,iv ((openF (s.now (l.first+2+i))).2:Int),nI_ (numN (openF (s.now (l.first+2+i))).1 0 4),nI_ ep,nI_ i,pq g,pq g,po g 3,nI_ l.n,tv,nI_ i,nI_ (i+1),pq g,pq g,pq g,pq gd,pq g,pq g,po g 2,nI_ l.first,nI_ (l.first+2),nI_ i,nI_ (l.first+2+i),sl c_ 0 512 512,.tuple #[.slice A9 ((openF (s.now (l.first+2+i))).1.length) c9,iv ((openF (s.now (l.first+2+i))).2:Int)],sl c_ 0 512 512,.tuple #[.slice A9 ((openF (s.now (l.first+2+i))).1.length) c9,iv ((openF (s.now (l.first+2+i))).2:Int)],.slice A9 ((openF (s.now (l.first+2+i))).1.length) c9,iv ((openF (s.now (l.first+2+i))).2:Int),iv ((openF (s.now (l.first+2+i))).2:Int),fv,fv,.slice A9 ((openF (s.now (l.first+2+i))).1.length) c9,iv ((openF (s.now (l.first+2+i))).1.length:Nat),fv,fv,.slice A9 ((openF (s.now (l.first+2+i))).1.length) c9,nI_ (numN (openF (s.now (l.first+2+i))).1 0 4),nI_ (numN (openF (s.now (l.first+2+i))).1 0 4),tv,tv,nI_ (numN (openF (s.now (l.first+2+i))).1 0 4),tv,tv,tv,nI_ (numN (openF (s.now (l.first+2+i))).1 0 4),nI_ (topTo (pcAt s l.first l.n) ep i),tv,tv,nI_ (numN (openF (s.now (l.first+2+i))).1 0 4)] 1)) (x:=numN (openF (s.now (l.first+2+i))).1 0 4) (y:=topTo (pcAt s l.first l.n) ep (i+1)) hts2.symm ⟨S40,om_⟩),(by show l.n-(i+1)<l.n-i;omega)⟩
       ·have hts2:topTo (pcAt s l.first l.n) ep (i+1)=topTo (pcAt s l.first l.n) ep i:=by rw [hts];split<;>omega
        refine pv fv (wE (nCF (wp_skip (inb_n (nR (pv (nI_ i) (gI .i64 (IntKind.i64.wrap (((i:Nat):Int)+1)) ((i+1:Nat):Int) wq_ (pv (nI_ (i+1)) (wE (then_n ?_))))))))))
        have S41:=St.pm 3 [2,0,1] S29
        have S42:=St.pm 3 [0,1] S41
        exact ⟨i+1,(jF_ (fun z_:Nat=>(fr [pq g,nI_ ep,ud,ud,iv 0,nI_ z_,nI_ (i+1),sl c_ 0 512 512,.slice A9 ((openF (s.now (l.first+2+i))).1.length) c9,iv ((openF (s.now (l.first+2+i))).2:Int),nI_ (numN (openF (s.now (l.first+2+i))).1 0 4),nI_ ep,nI_ i,pq g,pq g,po g 3,nI_ l.n,tv,nI_ i,nI_ (i+1),pq g,pq g,pq g,pq gd,pq g,pq g,po g 2,nI_ l.first,nI_ (l.first+2),nI_ i,nI_ (l.first+2+i),sl c_ 0 512 512,.tuple #[.slice A9 ((openF (s.now (l.first+2+i))).1.length) c9,iv ((openF (s.now (l.first+2+i))).2:Int)],sl c_ 0 512 512,.tuple #[.slice A9 ((openF (s.now (l.first+2+i))).1.length) c9,iv ((openF (s.now (l.first+2+i))).2:Int)],.slice A9 ((openF (s.now (l.first+2+i))).1.length) c9,iv ((openF (s.now (l.first+2+i))).2:Int),iv ((openF (s.now (l.first+2+i))).2:Int),fv,fv,.slice A9 ((openF (s.now (l.first+2+i))).1.length) c9,iv ((openF (s.now (l.first+2+i))).1.length:Nat),fv,fv,.slice A9 ((openF (s.now (l.first+2+i))).1.length) c9,nI_ (numN (openF (s.now (l.first+2+i))).1 0 4),nI_ (numN (openF (s.now (l.first+2+i))).1 0 4),tv,tv,nI_ (numN (openF (s.now (l.first+2+i))).1 0 4),tv,tv,tv,nI_ (numN (openF (s.now (l.first+2+i))).1 0 4),nI_ (topTo (pcAt s l.first l.n) ep i),fv,fv,J 57] 1)) (x:=topTo (pcAt s l.first l.n) ep i) (y:=topTo (pcAt s l.first l.n) ep (i+1)) hts2.symm ⟨S42,om_⟩),(by show l.n-(i+1)<l.n-i;omega)⟩
      ·have hts2:topTo (pcAt s l.first l.n) ep (i+1)=topTo (pcAt s l.first l.n) ep i:=by rw [hts];split<;>omega
       refine pv fv (pv fv (wN (wN (wN (pv fv (wE (nCF (wp_skip (inb_n (nR (pv (nI_ i) (gI .i64 (IntKind.i64.wrap (((i:Nat):Int)+1)) ((i+1:Nat):Int) wq_ (pv (nI_ (i+1)) ?_)))))))))))))
       refine wE (then_n ?_)
       have S43:=St.pm 3 [2,0,1] S29
       have S44:=St.pm 3 [0,1] S43
       exact ⟨i+1,(jF_ (fun z_:Nat=>(fr [pq g,nI_ ep,ud,ud,iv 0,nI_ z_,nI_ (i+1),sl c_ 0 512 512,.slice A9 ((openF (s.now (l.first+2+i))).1.length) c9,iv ((openF (s.now (l.first+2+i))).2:Int),nI_ (numN (openF (s.now (l.first+2+i))).1 0 4),nI_ ep,nI_ i,pq g,pq g,po g 3,nI_ l.n,tv,nI_ i,nI_ (i+1),pq g,pq g,pq g,pq gd,pq g,pq g,po g 2,nI_ l.first,nI_ (l.first+2),nI_ i,nI_ (l.first+2+i),sl c_ 0 512 512,.tuple #[.slice A9 ((openF (s.now (l.first+2+i))).1.length) c9,iv ((openF (s.now (l.first+2+i))).2:Int)],sl c_ 0 512 512,.tuple #[.slice A9 ((openF (s.now (l.first+2+i))).1.length) c9,iv ((openF (s.now (l.first+2+i))).2:Int)],.slice A9 ((openF (s.now (l.first+2+i))).1.length) c9,iv ((openF (s.now (l.first+2+i))).2:Int),iv ((openF (s.now (l.first+2+i))).2:Int),fv,fv,.slice A9 ((openF (s.now (l.first+2+i))).1.length) c9,iv ((openF (s.now (l.first+2+i))).1.length:Nat),fv,fv,.slice A9 ((openF (s.now (l.first+2+i))).1.length) c9,nI_ (numN (openF (s.now (l.first+2+i))).1 0 4),nI_ (numN (openF (s.now (l.first+2+i))).1 0 4),tv,tv,nI_ (numN (openF (s.now (l.first+2+i))).1 0 4),fv,fv,fv,ud,ud,ud,fv,J 57] 1)) (x:=topTo (pcAt s l.first l.n) ep i) (y:=topTo (pcAt s l.first l.n) ep (i+1)) hts2.symm ⟨S44,om_⟩),(by show l.n-(i+1)<l.n-i;omega)⟩
     ·have hts2:topTo (pcAt s l.first l.n) ep (i+1)=topTo (pcAt s l.first l.n) ep i:=by rw [hts];split<;>omega
      refine pv fv (wN (wN (pv fv (pv fv (wN (wN (wN (pv fv (wE (nCF (wp_skip (inb_n (nR ?_)))))))))))))
      refine pv (nI_ i) (gI .i64 (IntKind.i64.wrap (((i:Nat):Int)+1)) ((i+1:Nat):Int) wq_ (pv (nI_ (i+1)) (wE (then_n ?_))))
      have S45:=St.pm 3 [2,0,1] S29
      have S46:=St.pm 3 [0,1] S45
      exact ⟨i+1,(jF_ (fun z_:Nat=>(fr [pq g,nI_ ep,ud,ud,iv 0,nI_ z_,nI_ (i+1),sl c_ 0 512 512,.slice A9 ((openF (s.now (l.first+2+i))).1.length) c9,iv ((openF (s.now (l.first+2+i))).2:Int),nI_ (numN (openF (s.now (l.first+2+i))).1 0 4),nI_ ep,nI_ i,pq g,pq g,po g 3,nI_ l.n,tv,nI_ i,nI_ (i+1),pq g,pq g,pq g,pq gd,pq g,pq g,po g 2,nI_ l.first,nI_ (l.first+2),nI_ i,nI_ (l.first+2+i),sl c_ 0 512 512,.tuple #[.slice A9 ((openF (s.now (l.first+2+i))).1.length) c9,iv ((openF (s.now (l.first+2+i))).2:Int)],sl c_ 0 512 512,.tuple #[.slice A9 ((openF (s.now (l.first+2+i))).1.length) c9,iv ((openF (s.now (l.first+2+i))).2:Int)],.slice A9 ((openF (s.now (l.first+2+i))).1.length) c9,iv ((openF (s.now (l.first+2+i))).2:Int),iv ((openF (s.now (l.first+2+i))).2:Int),fv,fv,.slice A9 ((openF (s.now (l.first+2+i))).1.length) c9,iv ((openF (s.now (l.first+2+i))).1.length:Nat),fv,fv,.slice A9 ((openF (s.now (l.first+2+i))).1.length) c9,nI_ (numN (openF (s.now (l.first+2+i))).1 0 4),nI_ (numN (openF (s.now (l.first+2+i))).1 0 4),fv,fv,ud,ud,fv,fv,ud,ud,ud,fv,J 57] 1)) (x:=topTo (pcAt s l.first l.n) ep i) (y:=topTo (pcAt s l.first l.n) ep (i+1)) hts2.symm ⟨S46,om_⟩),(by show l.n-(i+1)<l.n-i;omega)⟩
 ·have hin0:i=l.n:=by omega
  exact wE (nCF (wp_exit (then_x (then_x (inb_x (nSR (pv (nI_ (topTo (pcAt s l.first l.n) ep i)) (pv (nI_ (topTo (pcAt s l.first l.n) ep i)) (wE (then_n (wp_ret (bA (nI_ (topTo (pcAt s l.first l.n) ep i)) ⟨by rw [hin0],S2⟩))))))))))))
end
section
variable {F:Nat→Prop} {w0 w:World} {L:List Ast}
theorem rnewest0 (S:St F w0 w L){A B:Option Addr}{a b:List UInt8}{m n ca cb:Nat}(hm0:m=a.length)(hn0:n=b.length)(ha:RoT F w0 L A a)(hb:RoT F w0 L B b)(hma:a.length≤512)(hmb:b.length≤512):Calls Tryz.prog 95 #[.slice A m ca,.slice B n cb] w fun e w'=>∃A c,e=.returned (.tuple #[.int .i64 ((newestF a b).1:Int),.int .i64 ((newestF a b).2.1:Int),.slice A (newestF a b).2.2.1.length c,.int .i64 ((newestF a b).2.2.2:Int)])∧St F w0 w' (vec 5 1 (.slice A (newestF a b).2.2.1.length c) (newestF a b).2.2.1.length ((newestF a b).2.2.1.map bv)::L):=by
 subst hm0 hn0
 exact rnewest S ha hb om_ om_
theorem k_open_args {gd:Nat}{s:Dsk}{first n:Int}(S:St F w0 w (RW gd s::L))(ha:argsR s first n≠0):Calls Tryz.prog 60 #[.pointer (some ⟨gd,0,none⟩),.int .i64 first,.int .i64 n] w fun e w'=>e=.returned (.tuple #[.pointer none,.slice none 0 0,.int .i64 (argsR s first n)])∧St F w0 w' (RW gd s::L):=by
 refine eN (fr [pq gd,iv first,iv n] 118) Tryz.func60 rfl (sR (pv pn (pv (nS_) (pv (iv 0) (wER (pv (pq gd) (pv (iv first) (pv (iv n) (sP Tryz.func54 #[pq gd,iv first,iv n] (k_args S) fun w1 S2=>pv (iv (argsR s first n)) (wE (nS (sR ?_))))))))))))
 exact pv (iv (argsR s first n)) (dN (argsR s first n) 0 (fun _=>wE (nCT (sR (pv (iv (argsR s first n)) (pv pn (pv (nS_) (pv (iv (argsR s first n)) (wE (then_n (rR (bodyPost_ret (v:=.tuple #[pn,nS_,iv (argsR s first n)]) (Go.Vel.results_tmp3 rfl _ _ kr_ kr_ kr_) rfl ⟨rfl,S2⟩))))))))))) fun hd3=>False.elim (ha hd3))
theorem k_open_go {gd:Nat}{s:Dsk}{first n:Int}(S:St F w0 w (RW gd s::L))(ha0:argsR s first n=0):Calls Tryz.prog 60 #[.pointer (some ⟨gd,0,none⟩),.int .i64 first,.int .i64 n] w fun e w'=>(newR s.take first.toNat=none∧e=.returned (.tuple #[.pointer none,.slice none 0 0,.int .i64 6])∧St F w0 w' (RW gd s.take::L))∨
  (∃(ep tl:Nat),newR s.take first.toNat=some (ep,tl)∧topTo (pcAt s.take first.toNat n.toNat) ep n.toNat=1073741824∧e=.returned (.tuple #[.pointer none,nS_,iv 41])∧St F w0 w' (RW gd s.take::L))∨
  (∃(ep tl gl:Nat) (v:Value) (RV:List RecV) (h:Nat),newR s.take first.toNat=some (ep,tl)∧topTo (pcAt s.take first.toNat n.toNat) ep n.toNat≠1073741824∧Recs (pcAt s.take first.toNat n.toNat) ep tl (RV.map (·.2)) h∧NoRec (pcAt s.take first.toNat n.toNat) ep h∧e=.returned (.tuple #[pq gl,v,iv 0])∧St F w0 w' (vec 22 1 v RV.length (RV.map (·.1))::stars (RV.map recD)::KLog gl gd ⟨first.toNat,n.toNat,inc s.life,ep,topTo (pcAt s.take first.toNat n.toNat) ep n.toNat,tl,h,false⟩::RW gd s.take.flushR.1::L)):=by
 have hok:=St.rw_ok S
 have hn2:=hok.n2
 obtain ⟨hz,hf0,hm18,hm256,hin⟩:=argsR_ok ha0
 obtain ⟨f,rfl⟩:∃f:Nat,first=(f:Int):=⟨first.toNat,by omega⟩
 obtain ⟨m,rfl⟩:∃m:Nat,n=(m:Int):=⟨n.toNat,by omega⟩
 simp only [Int.toNat_natCast]
 obtain ⟨s1,hs1⟩:∃s1,s.take=s1:=⟨_,rfl⟩
 have hz1:s1.left≠0:=by rw [←hs1];exact hz
 have hl1:s1.last=s.last:=by rw [←hs1];rfl
 have hok1:DOk s1:=by rw [←hs1];exact ⟨hok.len,hok.plen,hok.n1,hok.n2,hok.lb⟩
 rw [hs1]
 have ha5:=hok1.now (k:=f) (by rw [hl1];omega)
 have hb5:=hok1.now (k:=f+1) (by rw [hl1];omega)
 have hq63:=newest_lt (s1.now f) (s1.now (f+1))
 have hsome:=newR_some (s:=s1) (f:=f)
 have hnone:=newR_none (s:=s1) (f:=f)
 obtain ⟨q,hq⟩:∃q,newestF (s1.now f) (s1.now (f+1))=q:=⟨_,rfl⟩
 rw [hq] at hq63 hsome hnone
 refine eN (fr [pq gd,nI_ f,nI_ m] 118) Tryz.func60 rfl (sR (pv pn (pv (nS_) (pv (iv 0) (wER (pv (pq gd) (pv (nI_ f) (pv (nI_ m) (g_ (gv_call (args:=#[pq gd,nI_ f,nI_ m]) rfl Tryz.func54 kr_ rfl rfl kr_ ?_))))))))))
 have hpl:=k_args (first:=((f:Nat):Int)) (n:=((m:Nat):Int)) S
 rw [ha0] at hpl
 refine Calls.mono hpl ?_
 rintro _ w1 ⟨rfl,S2⟩
 refine ⟨_,rfl,(pv (iv 0) (wE (nS (sR (pv (iv 0) (dN 0 0 (fun hd3=>False.elim om_) fun _=>wE (nCF (wp_skip (nSR (pv (pq gd) (sP Tryz.func30 #[pq gd] (rw_take S2) fun w4 S5=> ?_)))))))))))⟩
 rw [hs1] at S5
 refine pv (iv (inc s.life)) (wER (pv (pq gd) (pv (nI_ f) (g_ (gv_call (args:=#[pq gd,nI_ f]) rfl Tryz.func40 kr_ rfl rfl kr_ ?_)))))
 obtain ⟨r9,S6⟩:=St.rw S5
 obtain ⟨gl,cl,c2,A2,junk,LL,PP,pool,hf,hcl,hju,S7⟩:=St.ropen S6
 change St F w0 w4 (rR2 gd gl LL.length cl (.slice A2 PP.length c2) s1.left s1.life r9 s1.wr s1.fl s1.rf 0::row gl ((LL.map PEnt.val++junk).toArray) 22::vec 102 2 (.slice A2 PP.length c2) PP.length (putsV PP)::stars (pool.map PEnt.row)::L) at S7
 refine Calls.mono (rnow_own (s:=s1.rdd r9) (k:=f) S7 hf (by show f<s1.last.length;rw [hl1];omega)) ?_
 rintro _ w8 ⟨bl,rfl,hbl,S9⟩
 refine ⟨_,rfl, ?_⟩
 have hbl:(bl,s1.now (f))∈pool:=hbl
 change St F w0 w8 (rR2 gd gl LL.length cl (.slice A2 PP.length c2) s1.left s1.life r9 s1.wr s1.fl s1.rf 0::row gl ((LL.map PEnt.val++junk).toArray) 22::vec 102 2 (.slice A2 PP.length c2) PP.length (putsV PP)::stars (pool.map PEnt.row)::L) at S9
 refine pv (sl bl 0 512 512) (wER (pv (pq gd) (pv (nI_ f) (gI .i64 (IntKind.i64.wrap (((f:Nat):Int)+1)) ((f+1:Nat):Int) (wr_eq om_ om_ om_) (g_ (gv_call (args:=#[pq gd,nI_ (f+1)]) rfl Tryz.func40 kr_ rfl rfl kr_ (Calls.mono (rnow_own (s:=s1.rdd r9) (k:=f+1) S9 hf (by show f+1<s1.last.length;rw [hl1];omega)) ?_)))))))
 rintro _ w10 ⟨br,rfl,hbr,S11⟩
 refine ⟨_,rfl, ?_⟩
 have hbr:(br,s1.now (f+1))∈pool:=hbr
 change St F w0 w10 (rR2 gd gl LL.length cl (.slice A2 PP.length c2) s1.left s1.life r9 s1.wr s1.fl s1.rf 0::row gl ((LL.map PEnt.val++junk).toArray) 22::vec 102 2 (.slice A2 PP.length c2) PP.length (putsV PP)::stars (pool.map PEnt.row)::L) at S11
 refine pv (sl br 0 512 512) (wER (pv (sl bl 0 512 512) (pv (sl br 0 512 512) (g_ (gv_call (args:=#[sl bl 0 512 512,sl br 0 512 512]) rfl Tryz.func95 kr_ rfl rfl kr_ ?_)))))
 have hnw:=rnewest0 (ca:=512) (cb:=512) S11 (a:=s1.now f) (b:=s1.now (f+1)) ha5.symm hb5.symm (rot_pool 3 rfl hbl ha5) (rot_pool 3 rfl hbr hb5) om_ om_
 rw [hq] at hnw
 refine Calls.mono hnw ?_
 rintro _ w12 ⟨A8,c8,rfl,S13⟩
 refine ⟨_,rfl, ?_⟩
 have S14:=St.pm 5 [1,2,3,4,0] S13
 have S15:St F w0 w12 (RW gd s1::vec 5 1 (.slice A8 q.2.2.1.length c8) q.2.2.1.length (q.2.2.1.map bv)::L):=St.wr (r:=r9) (St.rclose (gl:=gl) (cl:=cl) (c2:=c2) (A2:=A2) (junk:=junk) (LL:=LL) (PP:=PP) (pool:=pool) (s:=s1.rdd r9) S14 hf hcl hju)
 refine pv (.tuple #[iv (q.1:Int),iv (q.2.1:Int),.slice A8 q.2.2.1.length c8,iv (q.2.2.2:Int)]) (pv (iv (q.1:Int)) (pv (iv (q.2.1:Int)) (pv (.slice A8 q.2.2.1.length c8) (pv (iv (q.2.2.2:Int)) (pv (iv (q.1:Int)) (pv (iv (q.2.1:Int)) (pv (.slice A8 q.2.2.1.length c8) (pv (iv (q.2.2.2:Int)) (wER (pv (iv (q.2.1:Int)) (gI .i64 (IntKind.i64.wrap (Int.tdiv (q.2.1:Int) 4294967296)) ((q.2.1/4294967296:Nat):Int) (wr_eq (by rw [Int.tdiv_eq_ediv_of_nonneg om_];omega) om_ om_) (pv (nI_ (q.2.1/4294967296)) (wER ?_)))))))))))))
 refine pv (iv (q.2.1:Int)) (gI .i64 (Int.tmod (q.2.1:Int) 4294967296) ((q.2.1%4294967296:Nat):Int) (tmod_nat' rfl rfl) (pv (nI_ (q.2.1%4294967296)) (wE (nS (sR (pv (iv (q.2.2.2:Int)) (dN (q.2.2.2:Int) 0 (fun hb16=> ?_) fun hb16=> ?_)))))))
 ·have hno:=hnone (.inl om_)
  refine pv tv (wN (wN (wN (pv tv (pv tv (wN (wN (pv tv (pv tv (wN (wN (pv tv (pv tv ?_)))))))))))))
  refine wN (wN (pv tv (wE (nCT (sR (pv pn (pv (nS_) (pv (iv 6) (wE (then_n (rR (bodyPost_ret (v:=.tuple #[pn,nS_,iv 6]) (Go.Vel.results_tmp3 rfl _ _ kr_ kr_ kr_) rfl ?_))))))))))))
  have S17:=St.pm 2 [0] S15
  exact .inl ⟨hno,rfl,S17⟩
 ·refine pv fv (pW (.slice A8 q.2.2.1.length c8) (pW (iv (q.2.2.1.length:Nat)) (wl_when kr_ (gv_dec (p:=((q.2.2.1.length:Nat):Int)>0) kr_ (fun hb18=> ?_) (fun hb18=> ?_)))))
  ·have hno:=hnone (.inr (.inl (List.ne_nil_of_length_pos om_)))
   refine pv tv (pv tv (wN (wN (pv tv (pv tv (wN (wN (pv tv (pv tv (wN (wN (pv tv (wE ?_)))))))))))))
   refine nCT (sR (pv pn (pv (nS_) (pv (iv 6) (wE (then_n (rR (bodyPost_ret (v:=.tuple #[pn,nS_,iv 6]) (Go.Vel.results_tmp3 rfl _ _ kr_ kr_ kr_) rfl ?_))))))))
   have S19:=St.pm 2 [0] S15
   exact .inl ⟨hno,rfl,S19⟩
  ·refine pv fv (pv fv (pW (nI_ (q.2.1/4294967296)) (wl_when kr_ (gv_dec (p:=(((q.2.1/4294967296:Nat):Int):Int)<1) kr_ (fun hb20=> ?_) (fun hb20=> ?_)))))
   ·have hno:=hnone (.inr (.inr (.inl om_)))
    refine pv tv (pv tv (wN (wN (pv tv (pv tv (wN (wN (pv tv (wE (nCT (sR (pv pn (pv (nS_) ?_)))))))))))))
    refine pv (iv 6) (wE (then_n (rR (bodyPost_ret (v:=.tuple #[pn,nS_,iv 6]) (Go.Vel.results_tmp3 rfl _ _ kr_ kr_ kr_) rfl ?_))))
    have S21:=St.pm 2 [0] S15
    exact .inl ⟨hno,rfl,S21⟩
   ·refine pv fv (pv fv (pW (nI_ (q.2.1/4294967296)) (wl_when kr_ (gv_dec (p:=(((q.2.1/4294967296:Nat):Int):Int)>1073741824) kr_ (fun hb22=> ?_) (fun hb22=> ?_)))))
    ·have hno:=hnone (.inr (.inr (.inr (.inl om_))))
     refine pv tv (pv tv (wN (wN (pv tv (wE (nCT (sR (pv pn (pv (nS_) (pv (iv 6) (wE (then_n (rR ?_)))))))))))))
     refine bodyPost_ret (v:=.tuple #[pn,nS_,iv 6]) (Go.Vel.results_tmp3 rfl _ _ kr_ kr_ kr_) rfl ?_
     have S23:=St.pm 2 [0] S15
     exact .inl ⟨hno,rfl,S23⟩
    ·refine pv fv (pv fv (pW (nI_ (q.2.1%4294967296)) (wl_when kr_ (gv_dec (p:=(((q.2.1%4294967296:Nat):Int):Int)>1073741824) kr_ (fun hb24=> ?_) (fun hb24=> ?_)))))
     ·have hno:=hnone (.inr (.inr (.inr (.inr om_))))
      refine pv tv (wE (nCT (sR (pv pn (pv (nS_) (pv (iv 6) (wE (then_n (rR (bodyPost_ret (v:=.tuple #[pn,nS_,iv 6]) (Go.Vel.results_tmp3 rfl _ _ kr_ kr_ kr_) rfl ?_))))))))))
      have S25:=St.pm 2 [0] S15
      exact .inl ⟨hno,rfl,S25⟩
     ·refine pv fv (wE (nCF (wp_skip (nSR (pv (pq gd) (pv (iv (inc s.life)) (pv (nI_ f) (pv (nI_ m) (pv (nI_ (q.2.1/4294967296)) (pv (nI_ (q.2.1%4294967296)) (pv (nI_ (q.2.1%4294967296)) (pv (.agg #[pq gd,iv (inc s.life),nI_ f,nI_ m,nI_ (q.2.1/4294967296),nI_ (q.2.1%4294967296),nI_ (q.2.1%4294967296),iv 0,fv]) ?_))))))))))))
      refine nB rfl (.agg #[pq gd,iv (inc s.life),nI_ f,nI_ m,nI_ (q.2.1/4294967296),nI_ (q.2.1%4294967296),nI_ (q.2.1%4294967296),iv 0,.bool false]) S15 fun g26 w27 hg28 S29=>pv (pq g26) (wER (pv (pq g26) (pv (pq g26) (pv (nI_ (q.2.1/4294967296)) (g_ (gv_call (args:=#[pq g26,nI_ (q.2.1/4294967296)]) rfl Tryz.func96 kr_ rfl rfl kr_ ?_))))))
      have hgood:=hsome (fun hh=>by rcases hh with h|h|h|h|h<;>first|omega|exact h (List.length_eq_zero_iff.1 om_))
      refine Calls.mono (k_top (l:=⟨f,m,inc s.life,q.2.1/4294967296,0,q.2.1%4294967296,q.2.1%4294967296,false⟩) (ep:=q.2.1/4294967296) S29 ⟨by show f≤2048;omega,by show 18≤m;omega,by show m≤256;omega,by show q.2.1/4294967296≤_;omega,Nat.zero_lt_succ _,by show q.2.1%4294967296≤_;omega⟩ (by show f+2+m≤s1.last.length;rw [hl1];omega) om_) ?_
      rintro _ w30 ⟨rfl,S31⟩
      refine ⟨_,rfl, ?_⟩
      change St F w0 w30 (row g26 #[pq gd,iv (inc s.life),nI_ f,nI_ m,nI_ (q.2.1/4294967296),nI_ (q.2.1%4294967296),nI_ (q.2.1%4294967296),nI_ 0,.bool false] 130::RW gd s1::vec 5 1 (.slice A8 q.2.2.1.length c8) q.2.2.1.length (q.2.2.1.map bv)::L) at S31
      skip
      obtain ⟨tp,htp⟩:∃tp,topTo (pcAt s1 f m) (q.2.1/4294967296) m=tp:=⟨_,rfl⟩
      have htl:=topTo_le (pcAt s1 f m) (q.2.1/4294967296) om_ m
      rw [htp] at htl
      rw [htp]
      refine pv (pq g26) (pv (po g26 7) (sS S31 0 rfl 7 (nI_ tp) fun w32 S33=>wE (nS (sR (pv (pq g26) (pv (pq g26) (pv (po g26 7) (lR (nI_ tp) S33 0 7 (dE ((tp:Nat):Int) 1073741824 (fun hb34=> ?_) fun hb34=> ?_)))))))))
      ·refine wE (nCT (sR (pv pn (pv (nS_) (pv (iv 41) (wE (then_n (rR (bodyPost_ret (v:=.tuple #[pn,nS_,iv 41]) (Go.Vel.results_tmp3 rfl _ _ kr_ kr_ kr_) rfl ?_)))))))))
       have S35:=St.pm 3 [1] S33
       exact .inr (.inl ⟨_,_,hgood,by rw [htp];omega,rfl,S35⟩)
      ·have hlk:tp<1073741824:=by omega
       refine wE (nCF (wp_skip (nSR (pv (nS_) (wE (nS (wp_block ?_)))))))
       have S36:=St.pm 3 [0,1] S33
       have S37:St F w0 w32 (stars ((([]:List RecV)).map recD)::row g26 #[pq gd,iv (inc s.life),nI_ f,nI_ m,nI_ (q.2.1/4294967296),nI_ (q.2.1%4294967296),nI_ (q.2.1%4294967296),nI_ tp,.bool false] 130::RW gd s1::L):=St.star_nil S36
       have S38:St F w0 w32 (vec 22 1 (nS_) 0 []::stars ((([]:List RecV)).map recD)::row g26 #[pq gd,iv (inc s.life),nI_ f,nI_ m,nI_ (q.2.1/4294967296),nI_ (q.2.1%4294967296),nI_ (q.2.1%4294967296),nI_ tp,.bool false] 130::RW gd s1::L):=St.vec_nil S37
       refine wp_loop_g (G:=List RecV×Option Addr×Nat×Nat) (fun (g_:List RecV×Option Addr×Nat×Nat) (a_:Act) (w_:World)=>∃J:Nat→Value,a_=(fr ([pq gd,nI_ f,nI_ m,ud,ud,ud,pn,nS_,iv 0,iv 0,iv (inc s.life),sl bl 0 512 512,sl br 0 512 512,iv (q.1:Int),iv (q.2.1:Int),.slice A8 q.2.2.1.length c8,iv (q.2.2.2:Int),nI_ (q.2.1/4294967296),nI_ (q.2.1%4294967296),pq g26,.slice g_.2.1 g_.1.length g_.2.2.1,J 21,J 22,pq gd,nI_ f,nI_ m,iv 0,iv 0,fv,ud,pq gd,iv (inc s.life),pq gd,nI_ f,sl bl 0 512 512,pq gd,nI_ f,nI_ (f+1),sl br 0 512 512,.tuple #[iv (q.1:Int),iv (q.2.1:Int),.slice A8 q.2.2.1.length c8,iv (q.2.2.2:Int)],sl bl 0 512 512,sl br 0 512 512,.tuple #[iv (q.1:Int),iv (q.2.1:Int),.slice A8 q.2.2.1.length c8,iv (q.2.2.2:Int)],iv (q.1:Int),iv (q.2.1:Int),.slice A8 q.2.2.1.length c8,iv (q.2.2.2:Int),iv (q.2.1:Int),nI_ (q.2.1/4294967296),iv (q.2.1:Int),nI_ (q.2.1%4294967296),iv (q.2.2.2:Int),fv,fv,.slice A8 q.2.2.1.length c8,iv (q.2.2.1.length:Nat),fv,fv,fv,nI_ (q.2.1/4294967296),fv,fv,fv,nI_ (q.2.1/4294967296),fv,fv,fv,nI_ (q.2.1%4294967296),fv,fv,pq gd,iv (inc s.life),nI_ f,nI_ m,nI_ (q.2.1/4294967296),nI_ (q.2.1%4294967296),nI_ (q.2.1%4294967296),.agg #[pq gd,iv (inc s.life),nI_ f,nI_ m,nI_ (q.2.1/4294967296),nI_ (q.2.1%4294967296),nI_ (q.2.1%4294967296),iv 0,fv],pq g26,pq g26,pq g26,nI_ (q.2.1/4294967296),nI_ tp,pq g26,po g26 7,pq g26,pq g26,po g26 7,nI_ tp,fv]++jR J 90 25) 6)∧St F w0 w_ (vec 22 1 (.slice g_.2.1 g_.1.length g_.2.2.1) g_.1.length (g_.1.map (·.1))::stars (g_.1.map recD)::row g26 #[pq gd,iv (inc s.life),nI_ f,nI_ m,nI_ (q.2.1/4294967296),nI_ (q.2.1%4294967296),nI_ g_.2.2.2,nI_ tp,.bool false] 130::RW gd s1::L)∧Recs (pcAt s1 f m) (q.2.1/4294967296) (q.2.1%4294967296) (g_.1.map (·.2)) g_.2.2.2) (fun g_=>q.2.1%4294967296+m-g_.2.2.2) ([],none,0,q.2.1%4294967296) (jE_ ⟨S38,Recs.nil⟩) ?_
       rintro ⟨RV,A5,c5,h⟩ a_ w39 ⟨J,rfl,S40,hrec⟩
       skip
       have S40:St F w0 w39 (vec 22 1 (.slice A5 RV.length c5) RV.length (RV.map (·.1))::stars (RV.map recD)::row g26 #[pq gd,iv (inc s.life),nI_ f,nI_ m,nI_ (q.2.1/4294967296),nI_ (q.2.1%4294967296),nI_ h,nI_ tp,.bool false] 130::RW gd s1::L):=S40
       refine wp_block (sR (pv (pq g26) (pv (nI_ (q.2.1/4294967296)) (pv (pq g26) (pv (pq g26) (pv (po g26 6) (lR (nI_ h) S40 2 6 (g_ (gv_call (args:=#[pq g26,nI_ (q.2.1/4294967296),nI_ h]) rfl Tryz.func97 kr_ rfl rfl kr_ ?_)))))))))
       have hrec:Recs (pcAt s1 f m) (q.2.1/4294967296) (q.2.1%4294967296) (RV.map (·.2)) h:=hrec
       have hle:=hrec.le
       have hro:=hrec.room (n:=m) (fun p=>pcAt_round s1 f m p) om_
       have hcn:=hrec.count
       rw [List.length_map] at hcn
       have S42:=St.pm 4 [2,3,0,1] S40
       refine Calls.mono (k_at (l:=⟨f,m,inc s.life,q.2.1/4294967296,tp,q.2.1%4294967296,h,false⟩) (ep:=q.2.1/4294967296) (p:=h) S42 ⟨by show f≤2048;omega,by show 18≤m;omega,by show m≤256;omega,by show q.2.1/4294967296≤_;omega,by show tp<_;omega,by show q.2.1%4294967296≤_;omega⟩ (by show f+2+m≤s1.last.length;rw [hl1];omega) om_ om_) ?_
       rintro _ w43 ⟨A6,c6,d,c,rfl,hcase,S44⟩
       refine ⟨_,rfl, ?_⟩
       have hcase:(c=0∧NoRec (pcAt s1 f m) (q.2.1/4294967296) h)∨(IsRec (pcAt s1 f m) (q.2.1/4294967296) h c∧d=catF (pcAt s1 f m) h c):=hcase
       change St F w0 w43 (vec 5 1 (.slice A6 d.length c6) d.length (d.map bv)::row g26 #[pq gd,iv (inc s.life),nI_ f,nI_ m,nI_ (q.2.1/4294967296),nI_ (q.2.1%4294967296),nI_ h,nI_ tp,.bool false] 130::RW gd s1::vec 22 1 (.slice A5 RV.length c5) RV.length (RV.map (·.1))::stars (RV.map recD)::L) at S44
       refine pv (.tuple #[.slice A6 d.length c6,nI_ c]) (pv (.slice A6 d.length c6) (pv (nI_ c) (pv (.slice A6 d.length c6) (pv (nI_ c) (wE (nS (sR (pv (nI_ c) (dE ((c:Nat):Int) 0 (fun hb45=> ?_) fun hb45=> ?_)))))))))
       ·have hnorec:NoRec (pcAt s1 f m) (q.2.1/4294967296) h:=hcase.elim (fun h1=>h1.2) (fun h1=>absurd h1.1.c1 om_)
        refine wE (nCT (wp_exit (then_x (inb_y dc_ (then_x (inb_x (nSR (pv (pq gd) (g_ (gv_call (args:=#[pq gd]) rfl Tryz.func57 kr_ rfl rfl kr_ ?_))))))))))
        have S46:=St.pm 5 [2,0,1,3,4] S44
        have hfl:=rw_flush S46
        rw [flush_live hz1] at hfl
        refine Calls.mono hfl ?_
        rintro _ w47 ⟨rfl,S48⟩
        refine ⟨_,rfl,(pv (iv 0) (wE (nS (sR (pv (iv 0) (dN 0 0 (fun hd49=>False.elim om_) fun _=>wE ?_))))))⟩
        refine nCF (wp_skip (nSR (pv (pq g26) (pv (.slice A5 RV.length c5) (pv (pq g26) (pv (.slice A5 RV.length c5) (pv (iv 0) (wE (then_n (wp_ret (bodyPost_ret (v:=.tuple #[pq g26,.slice A5 RV.length c5,iv 0]) (Go.Vel.results_tmp3 rfl _ _ kr_ kr_ kr_) rfl ?_)))))))))))
        have S50:=St.pm 5 [3,4,2,0] S48
        exact .inr (.inr ⟨_,_,_,_,RV,h,hgood,by rw [htp];omega,hrec,hnorec,rfl,by rw [htp];exact S50⟩)
       ·have hisr:IsRec (pcAt s1 f m) (q.2.1/4294967296) h c∧d=catF (pcAt s1 f m) h c:=hcase.elim (fun h1=>absurd h1.1 om_) id
        have hc17:=hisr.1.c17
        have hc1:=hisr.1.c1
        have hrec2':=Recs.step hrec hisr.1
        rw [←hisr.2] at hrec2'
        have hro2:=hrec2'.room (n:=m) (fun p=>pcAt_round s1 f m p) om_
        refine wE (nCF (wp_skip (nSR (pv (.slice A5 RV.length c5) (pv (.slice A6 d.length c6) (g_ (gv_slit (e:=22) (sz:=1) (z:=nS_) (by_:=24) (vs:=#[(0,.slice A6 d.length c6)]) (cells:=#[.slice A6 d.length c6]) S44 rfl kr_ ⟨by kernel_rfl⟩ kr_ kr_ kr_ kr_ (fun g51 w52 hg53 S54=> ?_))))))))
        have S55:=St.pm 6 [0,4,1,2,3,5] S54
        refine g_ (gv_append (e:=22) (sz:=1) (n:=RV.length) (v:=(.slice A5 RV.length c5)) (vals:=(RV.map (·.1))) (z:=nS_) (by_:=24) (m:=1) (c':=1) (ad:=⟨g51,0,none⟩) (news:=[.slice A6 d.length c6]) (St.swap S55) rfl kr_ ⟨by kernel_rfl⟩ rfl kr_ kr_ dc_ rfl (row_news (S55.blk 0 rfl)) (by intro u hu;simp at hu;subst hu;rfl) om_ om_ (fun v57 w56 S58=> ?_))
        obtain ⟨A59,c60,rfl⟩:=St.vecV S58 0 rfl
        have S61:=St.pm 6 [5,2,0,3,4] S58
        have S62:St F w0 w56 (stars ((RV++[((.slice A6 d.length c6:Value),d)]).map recD)::vec 22 1 (.slice A59 (RV.length+1) c60) (RV.length+1) (RV.map (·.1)++[.slice A6 d.length c6])::row g26 #[pq gd,iv (inc s.life),nI_ f,nI_ m,nI_ (q.2.1/4294967296),nI_ (q.2.1%4294967296),nI_ h,nI_ tp,.bool false] 130::RW gd s1::L):=(by rw [List.map_append];exact St.star_join (St.swap (St.one_star (St.swap S61))))
        have hrl:(RV++[((.slice A6 d.length c6:Value),d)]).length=RV.length+1:=by rw [List.length_append];rfl
        have hrm:(RV++[((.slice A6 d.length c6:Value),d)]).map (·.1)=RV.map (·.1)++[.slice A6 d.length c6]:=by rw [List.map_append];rfl
        have S63:St F w0 w56 (stars ((RV++[((.slice A6 d.length c6:Value),d)]).map recD)::vec 22 1 (.slice A59 (RV++[((.slice A6 d.length c6:Value),d)]).length c60) (RV++[((.slice A6 d.length c6:Value),d)]).length ((RV++[((.slice A6 d.length c6:Value),d)]).map (·.1))::row g26 #[pq gd,iv (inc s.life),nI_ f,nI_ m,nI_ (q.2.1/4294967296),nI_ (q.2.1%4294967296),nI_ h,nI_ tp,.bool false] 130::RW gd s1::L):=(by rw [hrl,hrm];exact S62)
        have hrec2:Recs (pcAt s1 f m) (q.2.1/4294967296) (q.2.1%4294967296) ((RV++[((.slice A6 d.length c6:Value),d)]).map (·.2)) (h+c):=by rw [List.map_append];exact hrec2'
        rw [←hrl]
        refine pv (.slice A59 ((RV++[((.slice A6 d.length c6:Value),d)]).length) c60) (wE ?_)
        refine nR (pv (pq g26) (pv (pq g26) (pv (pq g26) (pv (po g26 6) (lR (nI_ h) S63 2 6 (pv (nI_ c) (gI .i64 (IntKind.i64.wrap (((h:Nat):Int)+((c:Nat):Int))) ((h+c:Nat):Int) wq_ (pv (pq g26) (pv (po g26 6) (sS S63 2 rfl 6 (nI_ (h+c)) fun w64 S65=>wE (iN ?_)))))))))))
        have S66:=St.pm 4 [1,0,2,3] S65
        exact ⟨(RV++[((.slice A6 d.length c6:Value),d)],A59,c60,h+c),(jE_ ⟨S66,hrec2⟩),(by show q.2.1%4294967296+m-(h+c)<q.2.1%4294967296+m-h;omega)⟩
end
section
variable {F:Nat→Prop} {w0 w:World} {L:List Ast}
theorem byte_eq {a b:List UInt8}{k:Nat}(h:¬((a.getD k 0).toNat:Int)=((b.getD k 0).toNat:Int)):a≠b:=fun e=>h (by rw [e])
theorem bytes_ext {a b:List UInt8}(hl:a.length=b.length)(h:∀m,m<a.length→((a.getD m 0).toNat:Int)=((b.getD m 0).toNat:Int)):a=b:=by
 apply List.ext_getElem hl
 intro m h1 h2
 have:=h m h1
 rw [List.getD_eq_getElem?_getD,List.getD_eq_getElem?_getD,List.getElem?_eq_getElem h1,List.getElem?_eq_getElem h2] at this
 simp only [Option.getD_some] at this
 exact UInt8.toNat_inj.1 om_
theorem same_spec {A B:Option Addr}{a b:List UInt8}{ca cb:Nat}(S:St F w0 w L)(hx:RoT F w0 L A a)(hy:RoT F w0 L B b)(hm:a.length≤9223372036854775807)(hm2:b.length≤9223372036854775807):
  Calls Tryz.prog 33 #[.slice A a.length ca,.slice B b.length cb] w fun e w'=>e=.returned (.bool (decide (a=b)))∧St F w0 w' L:=by
 refine eN (fr [.slice A a.length ca,.slice B b.length cb] 24) Tryz.func33 rfl (sR (pv fv (wE (nS (sR (pv (.slice A a.length ca) (pv (iv (a.length:Nat)) (pv (.slice B b.length cb) (pv (iv (b.length:Nat)) (dN (a.length:Nat) (b.length:Nat) (fun hb1=> ?_) fun hb1=> ?_))))))))))
 ·have hlen:¬a.length=b.length:=fun e=>hb1 (by rw [e])
  exact wE (nCT (sR (pv fv (wE (then_n (rR (bA (.bool false) ⟨by rw [decide_eq_false (fun e=>hlen (by rw [e]))],S⟩)))))))
 ·have hlen:a.length=b.length:=Int.ofNat.inj hb1
  refine wE (nCF (wp_skip (nS (sR (pv (iv 0) (wE (then_n (wp_block (wp_loop_g (G:=Nat) (fun (g_:Nat) (a_:Act) (w_:World)=>∃J:Nat→Value,a_=(fr ([.slice A a.length ca,.slice B b.length cb,ud,ud,J 4,nI_ g_,.slice A a.length ca,iv (a.length:Nat),.slice B b.length cb,iv (b.length:Nat),fv]++jR J 11 15) 0)∧St F w0 w_ (L)∧(g_≤a.length∧∀m,m<g_→((a.getD m 0).toNat:Int)=((b.getD m 0).toNat:Int))) (fun g_=>a.length-g_) 0 (jE_ ⟨S,⟨Nat.zero_le _,fun m h=>absurd h (Nat.not_lt_zero _)⟩⟩) ?_)))))))))
  rintro k a_ w2 ⟨J,rfl,S3,hI4⟩
  skip
  have S3:St F w0 w2 (L):=S3
  have hI4:(k≤a.length∧∀m,m<k→((a.getD m 0).toNat:Int)=((b.getD m 0).toNat:Int)):=hI4
  refine wp_seq (sR (pv (nI_ k) (pv (.slice A a.length ca) (pv (iv (a.length:Nat)) (dC ((((k:Nat):Int):Int)<(a.length:Nat)) (fun hb5=> ?_) fun hb5=> ?_)))))
  ·have hk:k<a.length:=by omega
   obtain ⟨ada,rfl⟩:=(hx.now S3).at hk
   obtain ⟨adb,rfl⟩:=(hy.now S3).at (hlen▸hk)
   refine wE (nCT (wp_skip (nS (wp_block (wp_seq (wp_region_phu (γ:=Unit) 9 [] (fun (c_:Unit) (i_:Nat)=>(match i_ with|0=>.slice (some ada) a.length ca|1=>nI_ k|2=>.pointer (some (ada.add k))|3=>.int .u8 ((a.getD k 0).toNat:Int)|4=>.slice (some adb) b.length cb|5=>nI_ k|6=>.pointer (some (adb.add k))|7=>.int .u8 ((b.getD k 0).toNat:Int)|8=>.bool (((a.getD k 0).toNat:Int) !=((b.getD k 0).toNat:Int))|_=>undef:Value)) (fun (c_:Unit) (p_:Nat) (w_:World)=>(match p_ with|_=>St F w0 w_ (L):Prop)) () kr_ kr_ kr_ kr_ (S3.drew) ?_ ?_ ?_))))))
   ·intro i_ c_ p_ vals_ w1 hi_ hiE_ hp_ hk_ hu_ hPh_ hd_
    rcases i_ with _|_|_|_|_|_|_|_|_|i_
    ·exact tG_ rfl hd_ (gV (.slice (some ada) a.length ca) ⟨rfl,rfl⟩)
    ·exact tG_ rfl hd_ (gV (nI_ k) ⟨rfl,rfl⟩)
    ·exact tG_ rfl hd_ (gv_ixB (e:=5) (sz:=1) (n:=a.length) (c:=ca) (i:=((k:Nat):Int)) (k:=.i64) (ad:=ada) (ad':=(ada.add k)) (j:=k) rfl kr_ kr_ kr_ kr_ rfl hk (by rw [Nat.mul_one]) ⟨rfl,rfl⟩)
    ·have S9:=St.id hPh_
     exact tG_ rfl hd_ (gL (.int .u8 ((a.getD k 0).toNat:Int)) rfl ((hx.now S9).cell hk) ⟨rfl,rfl⟩)
    ·exact tG_ rfl hd_ (gV (.slice (some adb) b.length cb) ⟨rfl,rfl⟩)
    ·exact tG_ rfl hd_ (gV (nI_ k) ⟨rfl,rfl⟩)
    ·exact tG_ rfl hd_ (gv_ixB (e:=5) (sz:=1) (n:=b.length) (c:=cb) (i:=((k:Nat):Int)) (k:=.i64) (ad:=adb) (ad':=(adb.add k)) (j:=k) rfl kr_ kr_ kr_ kr_ rfl (hlen▸hk) (by rw [Nat.mul_one]) ⟨rfl,rfl⟩)
    ·have S13:=St.id hPh_
     exact tG_ rfl hd_ (gL (.int .u8 ((b.getD k 0).toNat:Int)) rfl ((hy.now S13).cell (hlen▸hk)) ⟨rfl,rfl⟩)
    ·exact tG_ rfl hd_ (gV (.bool (((a.getD k 0).toNat:Int) !=((b.getD k 0).toNat:Int))) ⟨rfl,rfl⟩)
    ·exact absurd hi_ om_
   ·intro k_ c_ vals_ w1 hk_ hPh_ hd_
    exact absurd hk_ (Nat.not_lt_zero _)
   ·intro c_ w1 hPh_
    have S15:=St.id hPh_
    refine (wE (then_n (wp_cond_split (t:=((a.getD k 0).toNat:Int) !=((b.getD k 0).toNat:Int)) kr_ (fun hc16=> ?_) (fun hc16=> ?_))))
    ·exact sR (pv fv (wE (then_n (wp_ret (inb_r (then_r (then_r (inb_r (then_r (bA (.bool false) ⟨by rw [decide_eq_false (byte_eq (by simpa using hc16))],S15⟩))))))))))
    ·have heqk:((a.getD k 0).toNat:Int)=((b.getD k 0).toNat:Int):=by simpa using hc16
     exact wp_skip (inb_n (nR (pv (nI_ k) (gI .i64 (IntKind.i64.wrap (((k:Nat):Int)+1)) (((k:Nat):Int)+1) (wr_ok om_ om_) (pv (iv (((k:Nat):Int)+1)) (wE (then_n ⟨k+1,(jE_ ⟨S15,⟨by omega,fun m hm=>(Nat.lt_succ_iff_lt_or_eq.1 hm).elim (hI4.2 m) (fun e=>e▸heqk)⟩⟩),(by show a.length-(k+1)<a.length-k;omega)⟩)))))))
  ·have hke:k=a.length:=by omega
   exact wE (nCF (wp_exit (then_x (then_x (inb_x (nSR (pv tv (wE (then_n (wp_ret (bA (.bool true) ⟨by rw [decide_eq_true (bytes_ext hlen (fun m hm=>hI4.2 m om_))],S3⟩)))))))))))
theorem same_b {A B:Option Addr}{a b:List UInt8}{ca cb:Nat}{t:Bool}(ht:decide (a=b)=t)(S:St F w0 w L)(hx:RoT F w0 L A a)(hy:RoT F w0 L B b)(hm:a.length≤9223372036854775807)(hm2:b.length≤9223372036854775807):
  Calls Tryz.prog 33 #[.slice A a.length ca,.slice B b.length cb] w fun e w'=>e=.returned (.bool t)∧St F w0 w' L:=ht▸same_spec S hx hy hm hm2
theorem ltwinS {A:Option Addr}{l:List UInt8}{c:Nat}(S:St F w0 w L)(hr:RoT F w0 L A l)(hlm:l.length≤140737488355328):Calls Tryz.prog 46 #[.slice A l.length c] w fun e w'=>∃go,e=.returned (.slice (some ⟨go,0,none⟩) l.length l.length)∧St F w0 w' (row go (bvs l) 5::L):=by
 refine eN (fr [.slice A l.length c] 10) Tryz.func46 rfl (sR (pv (.slice none 0 0) (wER (pv (.slice A l.length c) (pv (iv (l.length:Nat)) (g_ (gv_make (e:=5) (u:=(l.length:Nat)) (v:=(l.length:Nat)) (z:=.int .u8 0) (sz:=1) (by_:=1) (n:=l.length) (c:=l.length) (cs:=(bvs (List.replicate l.length 0))) S rfl kr_ ⟨by kernel_rfl⟩ kr_ kr_ rfl rfl (Nat.le_refl _) om_ om_ (mk_bytes _) (fun g1 w2 hg3 S4=>pv (sl g1 0 l.length l.length) (wER (pv (sl g1 0 l.length l.length) (pv (.slice A l.length c) (g_ (gv_copy (e:=5) (off:=0) (dLen:=l.length) (dCap:=l.length) (sLen:=l.length) (sCap:=c) (A:=A) (B:=(List.replicate l.length 0)) (l:=l) S4 0 rfl rfl kr_ kr_ kr_ kr_ rfl (hr.out _ [row g1 (bvs (List.replicate l.length 0)) 5] S4) (by simp) (L':=(row g1 (bvs l) 5::L)) (by rw [copy_all rfl];rfl) (fun w5 m7 S6=>wER (pv (sl g1 0 l.length l.length) ?_)))))))))))))))
 exact pv (sl g1 0 l.length l.length) (wE (then_n (wp_ret (bA (sl g1 0 l.length l.length) ⟨_,rfl,S6⟩))))
theorem splice_full {α:Type}{a b:List α}(h:b.length=a.length):splice a 0 b=b:=by
 simp [splice,h]
theorem len_zc (z:Array Value)(n:Nat):(madeCells z n).toList.length=n:=by simp [madeCells]
theorem picks_one:∀(ps:List Pick),∀u∈picksV ps,u.oneCell'=true:=fun ps u hu=>by
 obtain ⟨p,_,hp⟩:=List.mem_flatMap.1 hu
 simp [pickCells] at hp
 rcases hp with rfl|rfl|rfl<;>rfl
theorem tpicks {A:Option Addr}{ps:List Pick}{c:Nat}(S:St F w0 w L)(hr:RoV F w0 L A (picksV ps))(hlm:ps.length*24≤140737488355328):Calls Tryz.prog 27 #[.slice A ps.length c] w fun e w'=>∃go,e=.returned (.slice (some ⟨go,0,none⟩) ps.length ps.length)∧St F w0 w' (row go (picksV ps).toArray 97::L):=by
 refine eN (fr [.slice A ps.length c] 10) Tryz.func27 rfl (sR (pv (.slice none 0 0) (wER (pv (.slice A ps.length c) (pv (iv (ps.length:Nat)) (g_ (gv_make (e:=97) (u:=((ps.length:Nat):Int)) (v:=((ps.length:Nat):Int)) (z:=.agg #[iv 0,iv 0,iv 0]) (sz:=3) (by_:=24) (n:=ps.length) (c:=ps.length) (cs:=(madeCells (Value.agg #[iv 0,iv 0,iv 0]).cells (ps.length*3)).toList.toArray) S rfl kr_ ⟨by kernel_rfl⟩ kr_ kr_ rfl rfl (Nat.le_refl _) om_ om_ (by simp) (fun g1 w2 hg3 S4=>pv (sl g1 0 ps.length ps.length) (wER (pv (sl g1 0 ps.length ps.length) (pv (.slice A ps.length c) (g_ (gv_copyV (e:=97) (sz:=3) (g:=g1) (off:=0) (dLen:=ps.length) (dCap:=ps.length) (sLen:=ps.length) (sCap:=c) (A:=A) (cs:=(madeCells (Value.agg #[iv 0,iv 0,iv 0]).cells (ps.length*3)).toList) (news:=picksV ps) S4 0 rfl rfl kr_ kr_ kr_ kr_ (by rw [length_picksV];show _=min ps.length ps.length*3;rw [Nat.min_self]) (hr.out _ [_] S4) (picks_one ps) (by rw [length_picksV,len_zc];omega) (L':=(row g1 ((picksV ps).toArray) 97::L)) (by rw [splice_full (by rw [length_picksV,len_zc])];rfl) (fun w5 m6 S7=>wER (pv (sl g1 0 ps.length ps.length) ?_)))))))))))))))
 exact pv (sl g1 0 ps.length ps.length) (wE (then_n (wp_ret (bA (sl g1 0 ps.length ps.length) ⟨_,rfl,S7⟩))))
theorem RdV.fr {F:Nat→Prop}{w w':World}{A:Option Addr}{vs:List Value}(h:RdV w A vs)(hf:Fr F w w')(hF:∀k,F k→False):RdV w' A vs:=fun h0=>by
 obtain ⟨ad,e,hc⟩:=h h0
 refine ⟨ad,e,fun j u hu=> ?_⟩
 have h1:=hc j u hu
 have hb:(ad.add j).block<w.heap.size:=by
  unfold World.cell? at h1
  cases hq:w.heap[(ad.add j).block]? with
  |none=>simp [hq] at h1
  |some o=>exact (Array.getElem?_eq_some_iff.1 hq).1
 rw [←h1]
 unfold World.cell?
 rw [hf.block _ hb (fun hk=>hF _ hk)]
theorem RoV.of_rd {w:World}{A:Option Addr}{vs:List Value}(h:RdV w A vs)(L:List Ast):RoV none' w L A vs:=⟨fun w' L' S=>RdV.fr h S.fr (fun _ h=>h)⟩
theorem begin_odd {A:Option Addr}{l:List UInt8}{ca:Nat}(S:St F w0 w L)(hr:RoT F w0 L A l)(hlm:l.length≤140737488351232){n:Int}(h0:0<l.length)(ho:l.length%512≠0):Calls Tryz.prog 17 #[.int .i64 n,.slice A l.length ca] w fun e w'=>e=.returned (.tuple #[.pointer none,.pointer none,.bool true])∧St F w0 w' L:=by
 refine eN (fr [iv n,.slice A l.length ca] 61) Tryz.func17 rfl (sR (pv pn (pv pn (pv fv (wE (nS (sR (pv (.slice A l.length ca) (pv (iv (l.length:Nat)) (dC (((l.length:Nat):Int)>0) (fun _=>wE (nCT (sR ?_))) fun hd1=>False.elim om_))))))))))
 refine pv (.slice A l.length ca) (sP1 Tryz.func46 #[.slice A l.length ca] (ltwinS (l:=l) S hr om_) fun g2 w3 S4=>sP Tryz.func45 #[sl g2 0 l.length l.length] (pd_load_odd S4 (RoT.item 0 rfl 0 l.length l (by rw [List.drop_zero,List.take_length])) om_ ho) fun w5 S6=>pv (.tuple #[pn,iv 2]) (pv pn (pv (iv 2) (pv pn (pv (iv 2) (wER (pv (.slice A l.length ca) (sP Tryz.func47 #[.slice A l.length ca] (rd_load_odd S6 (RoT.more hr) om_ ho) fun w7 S8=>pv (.tuple #[pn,iv 2]) (pv pn (pv (iv 2) ?_))))))))))
 refine pv pn (pv (iv 2) (wER (pv pn (pv pn (pv (iv 2) (pv (iv 2) (dE 2 2 (fun _=>pv tv (pW pn (pW (.bool true) (pW pn (pW (.bool true) (pW (.bool true) ?_)))))) fun hd9=>False.elim (hd9 rfl))))))))
 refine pv tv (pv pn (pv pn (pv tv (wE (then_n (rR (bodyPost_ret (v:=.tuple #[pn,pn,.bool true]) (Go.Vel.results_tmp3 rfl _ _ kr_ kr_ kr_) rfl ?_)))))))
 have S10:=St.pm 1 [] S8
 exact ⟨rfl,S10⟩
theorem begin_bad {A:Option Addr}{l:List UInt8}{ca:Nat}(S:St F w0 w L)(hr:RoT F w0 L A l)(hlm:l.length≤140737488351232){n:Int}(h0:0<l.length)(ho:l.length%512=0)(hb:l.length/512<1∨2048<l.length/512):Calls Tryz.prog 17 #[.int .i64 n,.slice A l.length ca] w fun e w'=>e=.returned (.tuple #[.pointer none,.pointer none,.bool true])∧St F w0 w' L:=by
 refine eN (fr [iv n,.slice A l.length ca] 61) Tryz.func17 rfl (sR (pv pn (pv pn (pv fv (wE (nS (sR (pv (.slice A l.length ca) (pv (iv (l.length:Nat)) (dC (((l.length:Nat):Int)>0) (fun _=>wE (nCT (sR ?_))) fun hd1=>False.elim om_))))))))))
 refine pv (.slice A l.length ca) (sP1 Tryz.func46 #[.slice A l.length ca] (ltwinS (l:=l) S hr om_) fun g2 w3 S4=>sP Tryz.func45 #[sl g2 0 l.length l.length] (pd_load_bad S4 (RoT.item 0 rfl 0 l.length l (by rw [List.drop_zero,List.take_length])) om_ ho hb) fun w5 S6=>pv (.tuple #[pn,iv 10]) (pv pn (pv (iv 10) (pv pn (pv (iv 10) (wER (pv (.slice A l.length ca) (sP Tryz.func47 #[.slice A l.length ca] (rd_load_bad S6 (RoT.more hr) om_ ho hb) fun w7 S8=>pv (.tuple #[pn,iv 10]) (pv pn (pv (iv 10) ?_))))))))))
 refine pv pn (pv (iv 10) (wER (pv pn (pv pn (pv (iv 10) (pv (iv 10) (dE 10 10 (fun _=>pv tv (pW pn (pW (.bool true) (pW pn (pW (.bool true) (pW (.bool true) ?_)))))) fun hd9=>False.elim (hd9 rfl))))))))
 refine pv tv (pv pn (pv pn (pv tv (wE (then_n (rR (bodyPost_ret (v:=.tuple #[pn,pn,.bool true]) (Go.Vel.results_tmp3 rfl _ _ kr_ kr_ kr_) rfl ?_)))))))
 have S10:=St.pm 1 [] S8
 exact ⟨rfl,S10⟩
theorem begin_good {A:Option Addr}{l:List UInt8}{ca:Nat}(S:St F w0 w L)(hr:RoT F w0 L A l)(hlm:l.length≤140737488351232){n:Int}{m:Nat}(hca:l.length≤ca)(h0:0<l.length)(ho:l.length=512*m)(h1:1≤m)(h2:m≤2048):Calls Tryz.prog 17 #[.int .i64 n,.slice A l.length ca] w fun e w'=>∃gd gr,e=.returned (.tuple #[.pointer (some ⟨gd,0,none⟩),.pointer (some ⟨gr,0,none⟩),.bool true])∧St F w0 w' (PDisk gd (Dsk.mk0 (secs l m))::RDisk gr (Dsk.mk0 (secs l m))::L):=by
 refine eN (fr [iv n,.slice A l.length ca] 61) Tryz.func17 rfl (sR (pv pn (pv pn (pv fv (wE (nS (sR (pv (.slice A l.length ca) (pv (iv (l.length:Nat)) (dC (((l.length:Nat):Int)>0) (fun _=>wE (nCT (sR ?_))) fun hd1=>False.elim om_))))))))))
 refine pv (.slice A l.length ca) (sP1 Tryz.func46 #[.slice A l.length ca] (ltwinS (l:=l) S hr om_) fun g2 w3 S4=>sP1 Tryz.func45 #[sl g2 0 l.length l.length] (pd_load S4 (RoT.item 0 rfl 0 l.length l (by rw [List.drop_zero,List.take_length])) om_ ho h1 h2) fun gp5 w6 S7=>pv (.tuple #[pq gp5,iv 0]) (pv (pq gp5) (pv (iv 0) (pv (pq gp5) (pv (iv 0) (wER (pv (.slice A l.length ca) (sP1 Tryz.func47 #[.slice A l.length ca] (rd_load S7 (RoT.more (RoT.more hr)) om_ hca ho h1 h2) fun gr8 w9 S10=>pv (.tuple #[pq gr8,iv 0]) (pv (pq gr8) (pv (iv 0) ?_))))))))))
 refine pv (pq gr8) (pv (iv 0) (wER (pv (pq gp5) (pv (pq gr8) (pv (iv 0) (pv (iv 0) (dE 0 0 (fun _=>pv tv (pW (pq gp5) (pW (.bool false) (pW (pq gr8) (pW (.bool false) (pW (.bool true) ?_)))))) fun hd11=>False.elim (hd11 rfl))))))))
 refine pv tv (pv (pq gp5) (pv (pq gr8) (pv tv (wE (then_n (rR (bodyPost_ret (v:=.tuple #[pq gp5,pq gr8,.bool true]) (Go.Vel.results_tmp3 rfl _ _ kr_ kr_ kr_) rfl ?_)))))))
 have S12:=St.pm 3 [1,0] S10
 exact ⟨_,_,rfl,S12⟩
theorem begin_nbad {A:Option Addr}{l:List UInt8}{ca:Nat}(S:St F w0 w L)(hr:RoT F w0 L A l)(hlm:l.length≤140737488351232){n:Int}(h0:l.length=0)(hb:n<1∨2048<n):Calls Tryz.prog 17 #[.int .i64 n,.slice A l.length ca] w fun e w'=>e=.returned (.tuple #[.pointer none,.pointer none,.bool true])∧St F w0 w' L:=by
 refine eN (fr [iv n,.slice A l.length ca] 61) Tryz.func17 rfl (sR (pv pn (pv pn (pv fv (wE (nS (sR (pv (.slice A l.length ca) (pv (iv (l.length:Nat)) (dC (((l.length:Nat):Int)>0) (fun hd1=>False.elim om_) fun _=>wE (nCF (wp_skip ?_))))))))))))
 refine nSR (pv (iv n) (sP Tryz.func48 #[iv n] (pd_new_bad hb S) fun w2 S3=>pv (.tuple #[pn,iv 10]) (pv pn (pv (iv 10) (pv pn (pv (iv 10) (wER (pv (iv n) (sP Tryz.func49 #[iv n] (rd_new_bad hb S3) fun w4 S5=>pv (.tuple #[pn,iv 10]) (pv pn (pv (iv 10) ?_)))))))))))
 refine pv pn (pv (iv 10) (wER (pv pn (pv pn (pv (iv 10) (pv (iv 10) (dE 10 10 (fun _=>pv tv (pW pn (pW (.bool true) (pW pn (pW (.bool true) (pW (.bool true) ?_)))))) fun hd6=>False.elim (hd6 rfl))))))))
 exact pv tv (pv pn (pv pn (pv tv (wE (then_n (wp_ret (bodyPost_ret (v:=.tuple #[pn,pn,.bool true]) (Go.Vel.results_tmp3 rfl _ _ kr_ kr_ kr_) rfl ⟨rfl,S5⟩)))))))
theorem begin_ngood {A:Option Addr}{l:List UInt8}{ca:Nat}(S:St F w0 w L)(hr:RoT F w0 L A l)(hlm:l.length≤140737488351232){m:Nat}(h0:l.length=0)(h1:1≤m)(h2:m≤2048):Calls Tryz.prog 17 #[.int .i64 ((m:Nat):Int),.slice A l.length ca] w fun e w'=>∃gd gr,e=.returned (.tuple #[.pointer (some ⟨gd,0,none⟩),.pointer (some ⟨gr,0,none⟩),.bool true])∧St F w0 w' (PDisk gd (Dsk.mk0 (List.replicate m zsec))::RDisk gr (Dsk.mk0 (List.replicate m zsec))::L):=by
 refine eN (fr [nI_ m,.slice A l.length ca] 61) Tryz.func17 rfl (sR (pv pn (pv pn (pv fv (wE (nS (sR (pv (.slice A l.length ca) (pv (iv (l.length:Nat)) (dC (((l.length:Nat):Int)>0) (fun hd1=>False.elim om_) fun _=>wE (nCF (wp_skip ?_))))))))))))
 refine nSR (pv (nI_ m) (sP1 Tryz.func48 #[nI_ m] (pd_new h1 h2 S) fun gp2 w3 S4=>pv (.tuple #[pq gp2,iv 0]) (pv (pq gp2) (pv (iv 0) (pv (pq gp2) (pv (iv 0) (wER (pv (nI_ m) (sP1 Tryz.func49 #[nI_ m] (rd_new h1 h2 S4) fun gr5 w6 S7=>pv (.tuple #[pq gr5,iv 0]) (pv (pq gr5) (pv (iv 0) ?_)))))))))))
 refine pv (pq gr5) (pv (iv 0) (wER (pv (pq gp2) (pv (pq gr5) (pv (iv 0) (pv (iv 0) (dE 0 0 (fun _=>pv tv (pW (pq gp2) (pW (.bool false) (pW (pq gr5) (pW (.bool false) (pW (.bool true) ?_)))))) fun hd8=>False.elim (hd8 rfl))))))))
 refine pv tv (pv (pq gp2) (pv (pq gr5) (pv tv (wE (then_n (wp_ret (bodyPost_ret (v:=.tuple #[pq gp2,pq gr5,.bool true]) (Go.Vel.results_tmp3 rfl _ _ kr_ kr_ kr_) rfl ?_)))))))
 have S9:=St.pm 2 [1,0] S7
 exact ⟨_,_,rfl,S9⟩
theorem begin_all {A:Option Addr}{l:List UInt8}{ca:Nat}(S:St F w0 w L)(hr:RoT F w0 L A l)(hlm:l.length≤140737488351232)(hca:l.length≤ca)(n:Int):Calls Tryz.prog 17 #[.int .i64 n,.slice A l.length ca] w fun e w'=>(e=.returned (.tuple #[.pointer none,.pointer none,.bool true])∧St F w0 w' L)∨∃gd gr s,e=.returned (.tuple #[.pointer (some ⟨gd,0,none⟩),.pointer (some ⟨gr,0,none⟩),.bool true])∧s.pend=[]∧s.life=1∧St F w0 w' (PDisk gd s::RDisk gr s::L):=by
 by_cases h0:0<l.length
 ·by_cases ho:l.length%512=0
  ·by_cases hb:l.length/512<1∨2048<l.length/512
   ·exact (begin_bad S hr hlm h0 ho hb).mono fun e w' h=>.inl h
   ·refine (begin_good S hr hlm (m:=l.length/512) hca h0 om_ om_ om_).mono fun e w' h=>.inr ?_
    obtain ⟨gd,gr,h1,h2⟩:=h
    exact ⟨gd,gr,_,h1,rfl,rfl,h2⟩
  ·exact (begin_odd S hr hlm h0 ho).mono fun e w' h=>.inl h
 ·by_cases hb:n<1∨2048<n
  ·exact (begin_nbad S hr hlm om_ hb).mono fun e w' h=>.inl h
  ·obtain ⟨m,rfl⟩:∃m:Nat,n=(m:Int):=⟨n.toNat,by omega⟩
   refine (begin_ngood S hr hlm om_ om_ om_).mono fun e w' h=>.inr ?_
   obtain ⟨gd,gr,h1,h2⟩:=h
   exact ⟨gd,gr,_,h1,rfl,rfl,h2⟩
theorem pw_crash {g:Nat}{s:Dsk}{A:Option Addr}{ps:List Pick}{n c:Nat}(S:St F w0 w (PW g s::L))(hr:RoV F w0 L A (picksV ps))(hn:n=ps.length)(hpm:ps.length≤9223372036854775807):
  Calls Tryz.prog 26 #[pq g,.slice A n c] w fun e w'=>e=.returned (.tuple #[])∧St F w0 w' (PW g (s.crashR ps)::L):=by
 obtain ⟨r,S⟩:=St.pw S
 exact (pd_crash S hr hn hpm).mono fun e w' h=>⟨h.1,St.wp (r:=r) (s:=s.crashR ps) h.2⟩
theorem rw_crash {g:Nat}{s:Dsk}{A:Option Addr}{ps:List Pick}{n c:Nat}(S:St F w0 w (RW g s::L))(hr:RoV F w0 L A (picksV ps))(hn:n=ps.length)(hpm:ps.length≤9223372036854775807)(hpn':s.pend.length<4398046511104):
  Calls Tryz.prog 28 #[pq g,.slice A n c] w fun e w'=>e=.returned (.tuple #[])∧St F w0 w' (RW g (s.crashR ps)::L):=by
 obtain ⟨r,S⟩:=St.rw S
 exact (rd_crash S hr hn hpm hpn').mono fun e w' h=>⟨h.1,St.wr (r:=r) (s:=s.crashR ps) h.2⟩
end
section
structure LogE where
 p:Nat
 k:Nat
 l:Lg
def LogE.pv (e:LogE):Value:=.pointer (some ⟨e.p,0,none⟩)
def LogE.kv (e:LogE):Value:=.pointer (some ⟨e.k,0,none⟩)
def LogE.pl (gd:Nat)(e:LogE):Ast:=PLog e.p gd e.l
def LogE.kl (gr:Nat)(e:LogE):Ast:=KLog e.k gr e.l
def wparts (gw:Nat)(s:Dsk)(E:List LogE)(gd gr:Nat)(AP:Option Addr)(cp:Nat)(AK:Option Addr)(ck:Nat):List Ast:=
 [row gw #[pq gd,pq gr,.slice AP E.length cp,.slice AK E.length ck] 35,vec 60 1 (.slice AP E.length cp) E.length (E.map LogE.pv),vec 91 1 (.slice AK E.length ck) E.length (E.map LogE.kv),stars (E.map (LogE.pl gd)),stars (E.map (LogE.kl gr)),PW gd s,RW gr s]
def WB (gw:Nat)(s:Dsk)(E:List LogE):Ast:=fun h=>∃(gd gr:Nat) (AP:Option Addr) (cp:Nat) (AK:Option Addr) (ck:Nat),stars (wparts gw s E gd gr AP cp AK ck) h
section
variable {F:Nat→Prop}{w0 w:World}{L:List Ast}{gw:Nat}{s:Dsk}{E:List LogE}
theorem St.wopen (S:St F w0 w (WB gw s E::L)):∃gd gr AP cp AK ck,St F w0 w (wparts gw s E gd gr AP cp AK ck++L):=by
 obtain ⟨gd,S⟩:=St.ex S
 obtain ⟨gr,S⟩:=St.ex S
 obtain ⟨AP,S⟩:=St.ex S
 obtain ⟨cp,S⟩:=St.ex S
 obtain ⟨AK,S⟩:=St.ex S
 obtain ⟨ck,S⟩:=St.ex S
 exact ⟨gd,gr,AP,cp,AK,ck,S.flat⟩
theorem St.wclose {gd gr:Nat}{AP:Option Addr}{cp:Nat}{AK:Option Addr}{ck:Nat}(S:St F w0 w (wparts gw s E gd gr AP cp AK ck++L)):St F w0 w (WB gw s E::L):=(St.star S).map1 fun h hh=>⟨gd,gr,AP,cp,AK,ck,hh⟩
theorem St.recv {RV:List RecV}{x:RecV}(S:St F w0 w L)(i:Nat)(hi:L[i]?=some (stars (RV.map recD)))(hx:x∈RV):∃A c,x.1=.slice A x.2.length c:=((S.mem i hi).star_mem (List.mem_map_of_mem hx)).vec_val
theorem rot_rec {RV:List RecV}{x:RecV}{A:Option Addr}{c:Nat}(i:Nat)(hi:L[i]?=some (stars (RV.map recD)))(hx:x∈RV)(hv:x.1=.slice A x.2.length c):RoT F w0 L A x.2:=⟨fun w' L' S'=>by
 have h1:(L'++L)[L'.length+i]?=some (stars (RV.map recD)):=by rw [List.getElem?_append_right om_];simpa using hi
 have h2:=(S'.mem _ h1).star_mem (List.mem_map_of_mem hx)
 unfold recD at h2
 rw [hv] at h2
 exact RdV.bytes (St.vec_rd h2 0 rfl)⟩
end
def ageR (n:Nat)(a:Int):Int:=if n=0 then-1 else ((n-1-a.toNat%n:Nat):Int)
def refused (f:Int)(b:Bool):Bool:=decide (f=11)||decide (f=1)||(decide (f=3)&&b)
theorem w_age {F:Nat→Prop}{w0 w:World}{L:List Ast}{gw gd gr n cp ck:Nat}{AP AK:Option Addr}{a:Int}(S:St F w0 w (row gw #[.pointer (some ⟨gd,0,none⟩),.pointer (some ⟨gr,0,none⟩),.slice AP n cp,.slice AK n ck] 35::L))(hn:n≤9223372036854775807)(ham:a≤9223372036854775807):Calls Tryz.prog 68 #[.pointer (some ⟨gw,0,none⟩),.int .i64 a] w fun e w'=>e=.returned (.int .i64 (ageR n a))∧St F w0 w' (row gw #[.pointer (some ⟨gd,0,none⟩),.pointer (some ⟨gr,0,none⟩),.slice AP n cp,.slice AK n ck] 35::L):=by
 refine eN (fr [pq gw,iv a] 19) Tryz.func68 rfl (sR (pv (iv 0) (wER (pv (pq gw) (pv (pq gw) (pv (po gw 2) (lR (.slice AP n cp) S 0 2 (pv (iv (n:Nat)) (pv (iv (n:Nat)) (wE (nS (sR (pv (iv (n:Nat)) (dE (n:Nat) 0 (fun hb1=> ?_) fun hb1=> ?_))))))))))))))
 ·have hn0:n=0:=by omega
  exact wE (nCT (sR (pv (iv (-1)) (wE (then_n (rR (bA (iv (-1)) ⟨by rw [show ageR n a= -1 from if_pos hn0],S⟩)))))))
 ·obtain ⟨m,hm⟩:∃m,n=m+1:=⟨n-1,by omega⟩
  refine wE (nCF (wp_skip (nS (sR (pv (iv a) (dC ((a:Int)<0) (fun hb2=> ?_) fun hb2=> ?_))))))
  ·have hz:a.toNat=0:=by omega
   refine wE (nCT (wp_region_lit (pv (iv 0) (wER (pv (iv (n:Nat)) (gI .i64 (IntKind.i64.wrap ((n:Nat)-1)) ((n-1:Nat):Int) wq_ (pv (iv 0) (pv (iv (n:Nat)) ?_))))))))
   have hlt:0%n<n:=Nat.mod_lt _ om_
   exact g_ (gv_int (k:=.i64) (z:=Int.tmod 0 (n:Nat)) (z':=((0%n:Nat):Int)) (by rw [hm];kernel_rfl) (tmod_nat' (m:=0) rfl rfl) (gI .i64 (IntKind.i64.wrap (((n-1:Nat):Int)-((0%n:Nat):Int))) ((n-1-0%n:Nat):Int) (wr_eq om_ om_ om_) (pv (nI_ (n-1-0%n)) (wE (then_n (wp_ret (bA (nI_ (n-1-0%n)) ⟨by rw [show ageR n a=((n-1-a.toNat%n:Nat):Int) from if_neg om_];rw [hz],S⟩)))))))
  ·refine wE (nCF (wp_skip (nSR (pv (iv (n:Nat)) (gI .i64 (IntKind.i64.wrap ((n:Nat)-1)) ((n-1:Nat):Int) wq_ (pv (iv a) (pv (iv (n:Nat)) ?_)))))))
   have hlt:a.toNat%n<n:=Nat.mod_lt _ om_
   exact g_ (gv_int (k:=.i64) (z:=Int.tmod a (n:Nat)) (z':=((a.toNat%n:Nat):Int)) (by rw [hm];kernel_rfl) (tmod_nat' om_ rfl) (gI .i64 (IntKind.i64.wrap (((n-1:Nat):Int)-((a.toNat%n:Nat):Int))) ((n-1-a.toNat%n:Nat):Int) (wr_eq om_ om_ om_) (pv (nI_ (n-1-a.toNat%n)) (wE (then_n (wp_ret (bA (nI_ (n-1-a.toNat%n)) ⟨by rw [show ageR n a=((n-1-a.toNat%n:Nat):Int) from if_neg om_],S⟩)))))))
theorem w_lives {F:Nat→Prop}{w0 w:World}{L:List Ast}{gw gd gr:Nat}{v2 v3:Value}{s:Dsk}{f life:Int}{b:Bool}(S:St F w0 w (row gw #[.pointer (some ⟨gd,0,none⟩),.pointer (some ⟨gr,0,none⟩),v2,v3] 35::PW gd s::L))(h:(s.life==life)=refused f b):Calls Tryz.prog 22 #[.pointer (some ⟨gw,0,none⟩),.int .i64 f,.bool b,.int .i64 life] w fun e w'=>e=.returned (.bool true)∧St F w0 w' (row gw #[.pointer (some ⟨gd,0,none⟩),.pointer (some ⟨gr,0,none⟩),v2,v3] 35::PW gd s::L):=by
 refine eN (fr [pq gw,iv f,.bool b,iv life] 28) Tryz.func22 rfl (sR (pv fv (wER (pv (iv f) (dE f 11 (fun hb1=> ?_) fun hb1=> ?_)))))
 ·refine pv tv (wN (wN (pv tv (pv tv (wN (wN (wN (wN (wN (pv tv (pv tv (wER (pv (pq gw) ?_)))))))))))))
  refine pv (pq gw) (pv (pq gw) (lR (pq gd) S 0 0 (sO Tryz.func18 #[pq gd] (pw_life S 1 rfl) (pv (iv life) (pv (.bool (s.life==life)) (pv tv ?_))))))
  have hrf:refused f b=true:=by simp [refused, *]
  exact g_ (gB_ (b:=(s.life==life)==true) (b':=true) kr_ (by rw [h,hrf];simp) (pv tv (wE (then_n (wp_ret (bA (.bool true) ⟨rfl,S⟩))))))
 ·refine pv fv (pW (iv f) (wl_when kr_ (gv_eq (x:=f) (y:=1) kr_ (fun hb2=> ?_) (fun hb2=> ?_))))
  ·refine pv tv (pv tv (wN (wN (wN (wN (wN (pv tv (pv tv (wER (pv (pq gw) (pv (pq gw) (pv (pq gw) (lR (pq gd) S 0 0 ?_)))))))))))))
   refine sO Tryz.func18 #[pq gd] (pw_life S 1 rfl) (pv (iv life) (pv (.bool (s.life==life)) (pv tv ?_)))
   have hrf:refused f b=true:=by simp [refused, *]
   exact g_ (gB_ (b:=(s.life==life)==true) (b':=true) kr_ (by rw [h,hrf];simp) (pv tv (wE (then_n (wp_ret (bA (.bool true) ⟨rfl,S⟩))))))
  ·refine pv fv (pv fv (pW (iv f) (wl_when kr_ (gv_eq (x:=f) (y:=3) kr_ (fun hb3=> ?_) (fun hb3=> ?_)))))
   ·refine pW (.bool true) (pW (.bool b) (pW (.bool b) (pv (.bool b) (pv (.bool b) (wER (pv (pq gw) (pv (pq gw) (pv (pq gw) (lR (pq gd) S 0 0 (sO Tryz.func18 #[pq gd] (pw_life S 1 rfl) (pv (iv life) (pv (.bool (s.life==life)) (pv (.bool b) ?_)))))))))))))
    have hrf:refused f b=b:=by simp [refused, *]
    exact g_ (gB_ (b:=(s.life==life)==b) (b':=true) kr_ (by rw [h,hrf];simp) (pv tv (wE (then_n (wp_ret (bA (.bool true) ⟨rfl,S⟩))))))
   ·refine pW (.bool false) (wN (pW (.bool false) (pv fv (pv fv (wER (pv (pq gw) (pv (pq gw) (pv (pq gw) (lR (pq gd) S 0 0 (sO Tryz.func18 #[pq gd] (pw_life S 1 rfl) (pv (iv life) (pv (.bool (s.life==life)) (pv fv ?_)))))))))))))
    have hrf:refused f b=false:=by simp [refused, *]
    exact g_ (gB_ (b:=(s.life==life)==false) (b':=true) kr_ (by rw [h,hrf];simp) (pv tv (wE (then_n (wp_ret (bA (.bool true) ⟨rfl,S⟩))))))
theorem w_alike {F:Nat→Prop}{w0 w:World}{L:List Ast}{A B:Option Addr}{ca cb:Nat}{RV RK:List RecV}(S:St F w0 w (vec 22 1 (.slice A RV.length ca) RV.length (RV.map (·.1))::stars (RV.map recD)::vec 22 1 (.slice B RK.length cb) RK.length (RK.map (·.1))::stars (RK.map recD)::L))(he:RV.map (·.2)=RK.map (·.2))(hm:RV.length≤1000)(hb:∀x∈RV,x.2.length≤9223372036854775807):Calls Tryz.prog 61 #[.slice A RV.length ca,.slice B RK.length cb] w fun e w'=>e=.returned (.bool true)∧St F w0 w' (vec 22 1 (.slice A RV.length ca) RV.length (RV.map (·.1))::stars (RV.map recD)::vec 22 1 (.slice B RK.length cb) RK.length (RK.map (·.1))::stars (RK.map recD)::L):=by
 have hl:RV.length=RK.length:=by have:=congrArg List.length he;simpa using this
 refine eN (fr [.slice A RV.length ca,.slice B RK.length cb] 25) Tryz.func61 rfl (sR (pv fv (wE (nS (sR (pv (.slice A RV.length ca) (pv (iv (RV.length:Nat)) (pv (.slice B RK.length cb) (pv (iv (RK.length:Nat)) (dN (RV.length:Nat) (RK.length:Nat) (fun hd1=>False.elim om_) fun _=>wE (nCF (wp_skip ?_))))))))))))
 refine nS (sR (pv (iv 0) (wE (then_n (wp_block (wp_loop_g (G:=Nat) (fun (g_:Nat) (a_:Act) (w_:World)=>∃J:Nat→Value,a_=(fr ([.slice A RV.length ca,.slice B RK.length cb,ud,ud,J 4,nI_ g_,.slice A RV.length ca,iv (RV.length:Nat),.slice B RK.length cb,iv (RK.length:Nat),fv]++jR J 11 16) 0)∧St F w0 w_ (vec 22 1 (.slice A RV.length ca) RV.length (RV.map (·.1))::stars (RV.map recD)::vec 22 1 (.slice B RK.length cb) RK.length (RK.map (·.1))::stars (RK.map recD)::L)∧(g_≤RV.length)) (fun g_=>RV.length-g_) 0 (jE_ ⟨S,Nat.zero_le _⟩) ?_))))))
 rintro i a_ w2 ⟨J,rfl,S3,hI4⟩
 skip
 have S3:St F w0 w2 (vec 22 1 (.slice A RV.length ca) RV.length (RV.map (·.1))::stars (RV.map recD)::vec 22 1 (.slice B RK.length cb) RK.length (RK.map (·.1))::stars (RK.map recD)::L):=S3
 have hI4:(i≤RV.length):=hI4
 refine wp_seq (sR (pv (nI_ i) (pv (.slice A RV.length ca) (pv (iv (RV.length:Nat)) (dC ((((i:Nat):Int):Int)<(RV.length:Nat)) (fun hb5=> ?_) fun hb5=> ?_)))))
 ·have hi:i<RV.length:=by omega
  have hi2:i<RK.length:=by omega
  obtain ⟨x,hx⟩:∃x,RV[i]?=some x:=⟨_,List.getElem?_eq_getElem hi⟩
  obtain ⟨y,hy⟩:∃y,RK[i]?=some y:=⟨_,List.getElem?_eq_getElem hi2⟩
  have hxy:x.2=y.2:=by have h9:=congrArg (fun q=>q[i]?) he;simp only [List.getElem?_map,hx,hy,Option.map_some] at h9;exact Option.some.inj h9
  have hxm:=List.mem_of_getElem? hx
  have hym:=List.mem_of_getElem? hy
  obtain ⟨Ax,cx,hxv⟩:=St.recv S3 1 rfl hxm
  obtain ⟨Ay,cy,hyv⟩:=St.recv S3 3 rfl hym
  obtain ⟨ad,hAd,hrs⟩:=(St.vec_rd S3 0 rfl) (by rw [List.length_map];omega)
  obtain ⟨ad2,hAd2,hrs2⟩:=(St.vec_rd S3 2 rfl) (by rw [List.length_map];omega)
  subst hAd hAd2
  have hcx:(RV.map (·.1))[i]?=some (.slice Ax x.2.length cx):=by rw [List.getElem?_map,hx];exact congrArg some hxv
  have hcy:(RK.map (·.1))[i]?=some (.slice Ay y.2.length cy):=by rw [List.getElem?_map,hy];exact congrArg some hyv
  have hbx:=hb x hxm
  refine wE (nCT (wp_skip (nS (wp_block (wp_seq (wp_region_phu (γ:=Unit) 10 [8] (fun (c_:Unit) (i_:Nat)=>(match i_ with|0=>.slice (some ad) RV.length ca|1=>nI_ i|2=>.pointer (some (ad.add i))|3=>.slice Ax x.2.length cx|4=>.slice (some ad2) RK.length cb|5=>nI_ i|6=>.pointer (some (ad2.add i))|7=>.slice Ay y.2.length cy|8=>.bool true|9=>.bool false|_=>undef:Value)) (fun (c_:Unit) (p_:Nat) (w_:World)=>(match p_ with|0=>St F w0 w_ (vec 22 1 (.slice (some ad) RV.length ca) RV.length (RV.map (·.1))::stars (RV.map recD)::vec 22 1 (.slice (some ad2) RK.length cb) RK.length (RK.map (·.1))::stars (RK.map recD)::L)|_=>St F w0 w_ (vec 22 1 (.slice (some ad) RV.length ca) RV.length (RV.map (·.1))::stars (RV.map recD)::vec 22 1 (.slice (some ad2) RK.length cb) RK.length (RK.map (·.1))::stars (RK.map recD)::L):Prop)) () kr_ kr_ kr_ kr_ (S3.drew) ?_ ?_ ?_))))))
  ·intro i_ c_ p_ vals_ w1 hi_ hiE_ hp_ hk_ hu_ hPh_ hd_
   rcases i_ with _|_|_|_|_|_|_|_|_|_|i_
   ·exact tG_ rfl hd_ (gV (.slice (some ad) RV.length ca) ⟨rfl,rfl⟩)
   ·exact tG_ rfl hd_ (gV (nI_ i) ⟨rfl,rfl⟩)
   ·exact tG_ rfl hd_ (gv_ixB (e:=22) (sz:=1) (n:=RV.length) (c:=ca) (i:=((i:Nat):Int)) (k:=.i64) (ad:=ad) (ad':=(ad.add i)) (j:=i) rfl kr_ kr_ kr_ kr_ rfl hi (by rw [Nat.mul_one]) ⟨rfl,rfl⟩)
   ·rcases p_ with _|_|p_
    ·have S9:=St.id hPh_
     exact tG_ rfl hd_ (gL (.slice Ax x.2.length cx) rfl (((St.vec_rd S9 0 rfl) (by rw [List.length_map];omega)).elim fun a9 h9=>by obtain ⟨e9,h9⟩:=h9;cases e9;exact h9 _ _ hcx) ⟨rfl,rfl⟩)
    ·exact absurd (hu_ 0 dc_ kr_) dc_
    ·exact absurd hp_ (by simp)
   ·exact tG_ rfl hd_ (gV (.slice (some ad2) RK.length cb) ⟨rfl,rfl⟩)
   ·exact tG_ rfl hd_ (gV (nI_ i) ⟨rfl,rfl⟩)
   ·exact tG_ rfl hd_ (gv_ixB (e:=22) (sz:=1) (n:=RK.length) (c:=cb) (i:=((i:Nat):Int)) (k:=.i64) (ad:=ad2) (ad':=(ad2.add i)) (j:=i) rfl kr_ kr_ kr_ kr_ rfl hi2 (by rw [Nat.mul_one]) ⟨rfl,rfl⟩)
   ·rcases p_ with _|_|p_
    ·have S13:=St.id hPh_
     exact tG_ rfl hd_ (gL (.slice Ay y.2.length cy) rfl (((St.vec_rd S13 2 rfl) (by rw [List.length_map];omega)).elim fun a9 h9=>by obtain ⟨e9,h9⟩:=h9;cases e9;exact h9 _ _ hcy) ⟨rfl,rfl⟩)
    ·exact absurd (hu_ 0 dc_ kr_) dc_
    ·exact absurd hp_ (by simp)
   ·exact absurd hiE_ dc_
   ·exact tG_ rfl hd_ (gV (.bool false) ⟨rfl,rfl⟩)
   ·exact absurd hi_ om_
  ·intro k_ c_ vals_ w1 hk_ hPh_ hd_
   rcases k_ with _|k_
   ·have S15:=St.id hPh_
    refine tG_ rfl hd_ (gv_call (args:=#[.slice Ax x.2.length cx,.slice Ay y.2.length cy]) rfl Tryz.func33 kr_ rfl rfl kr_ (Calls.mono (same_b (decide_eq_true hxy) S15 (rot_rec 1 rfl hxm hxv) (rot_rec 3 rfl hym hyv) hbx (hxy▸hbx)) ?_))
    rintro _ w16 ⟨rfl,S17⟩
    refine ⟨_,rfl,⟨(),rfl, ?_,S17⟩⟩
    intro i_ hi_ hne_ hdp_
    rcases i_ with _|_|_|_|_|_|_|_|_|_|i_
    ·rfl
    ·rfl
    ·rfl
    ·rfl
    ·rfl
    ·rfl
    ·rfl
    ·rfl
    ·exact absurd rfl hne_
    ·exact dN_ hdp_
    ·exact absurd hi_ om_
   ·exact absurd hk_ (by simp)
  ·intro c_ w1 hPh_
   have S18:=St.id hPh_
   exact (wE (nCF (wp_skip (inb_n (nR (pv (nI_ i) (gI .i64 (IntKind.i64.wrap (((i:Nat):Int)+1)) ((i+1:Nat):Int) wq_ (pv (nI_ (i+1)) (wE (then_n ⟨i+1,(jE_ ⟨S18,om_⟩),(by show RV.length-(i+1)<RV.length-i;omega)⟩))))))))))
 ·exact wE (nCF (wp_exit (then_x (then_x (inb_x (nSR (pv tv (wE (then_n (wp_ret (bA (.bool true) ⟨rfl,S3⟩)))))))))))
end
section
variable {F:Nat→Prop} {w0 w:World} {L:List Ast}
theorem same_n {A B:Option Addr}{a b:List UInt8}{m n ca cb:Nat}(S:St F w0 w L)(hm:m=a.length)(hn:n=b.length)(he:a=b)(hx:RoT F w0 L A a)(hy:RoT F w0 L B b)(hb:a.length≤9223372036854775807):Calls Tryz.prog 33 #[.slice A m ca,.slice B n cb] w fun e w'=>e=.returned (.bool true)∧St F w0 w' L:=by
 subst hm hn;exact same_b (decide_eq_true he) S hx hy hb (he▸hb)
theorem rw_burnt_b {g:Nat}{s:Dsk}(S:St F w0 w (RW g s::L)):Calls Tryz.prog 19 #[.pointer (some ⟨g,0,none⟩)] w fun e w'=>e=.returned (.bool (decide (s.left=0)))∧St F w0 w' (RW g s::L):=rw_burnt S
theorem w_looks {gw:Nat}{s:Dsk}{E:List LogE}(S:St F w0 w (WB gw s E::L)):Calls Tryz.prog 15 #[.pointer (some ⟨gw,0,none⟩)] w fun e w'=>e=.returned (.bool true)∧St F w0 w' (WB gw s E::L):=by
 obtain ⟨gd,gr,AP,cp,AK,ck,S⟩:=St.wopen S
 have hok:DOk s:=St.pw_ok (L:=[]) (S.mem 5 rfl)
 have hn2:=hok.n2
 have hfl:=flat_len hok.len
 change St F w0 w (row gw (eC_ gd gr AP cp AK ck E.length) 35::vec 60 1 (.slice AP E.length cp) E.length (E.map LogE.pv)::vec 91 1 (.slice AK E.length ck) E.length (E.map LogE.kv)::stars (E.map (LogE.pl gd))::stars (E.map (LogE.kl gr))::PW gd s::RW gr s::L) at S
 refine eN (fr [pq gw] 109) Tryz.func15 rfl (sR (pv fv (wER (pv (pq gw) (pv (pq gw) (pv (pq gw) (lR (pq gd) S 0 0 (g_ (gv_call (args:=#[pq gd]) rfl Tryz.func32 kr_ rfl rfl kr_ ?_)))))))))
 have S1:=St.pm 7 [5,0,1,2,3,4,6] S
 refine Calls.mono (pw_image S1) ?_
 rintro _ w2 ⟨v,rfl,S3⟩
 obtain ⟨AI,rfl,S3'⟩:=St.bytes_eq S3
 refine ⟨_,rfl,(pv (.slice AI s.last.flatten.length s.last.flatten.length) (wE (nS (wp_seq (wp_region_phu (γ:=Option Addr×Nat) 21 [5,6,18] (fun (c_:Option Addr×Nat) (i_:Nat)=>(match i_ with|0=>.slice AI s.last.flatten.length s.last.flatten.length|1=>pq gw|2=>pq gw|3=>po gw 1|4=>pq gr|5=>.slice c_.1 s.last.flatten.length c_.2|6=>.bool true|7=>.bool false|8=>.bool false|9=>pq gw|10=>pq gw|11=>pq gw|12=>pq gd|13=>.bool (decide (s.left=0))|14=>pq gw|15=>pq gw|16=>po gw 1|17=>pq gr|18=>.bool (decide (s.left=0))|19=>.bool false|20=>.bool false|_=>undef:Value)) (fun (c_:Option Addr×Nat) (p_:Nat) (w_:World)=>(match p_ with|0=>St F w0 w_ (bytesA (.slice AI s.last.flatten.length s.last.flatten.length) s.last.flatten::PW gd s::row gw (eC_ gd gr AP cp AK ck E.length) 35::vec 60 1 (.slice AP E.length cp) E.length (E.map LogE.pv)::vec 91 1 (.slice AK E.length ck) E.length (E.map LogE.kv)::stars (E.map (LogE.pl gd))::stars (E.map (LogE.kl gr))::RW gr s::L)|1=>St F w0 w_ (vec 5 1 (.slice c_.1 s.last.flatten.length c_.2) s.last.flatten.length (s.last.flatten.map bv)::RW gr s::bytesA (.slice AI s.last.flatten.length s.last.flatten.length) s.last.flatten::PW gd s::row gw (eC_ gd gr AP cp AK ck E.length) 35::vec 60 1 (.slice AP E.length cp) E.length (E.map LogE.pv)::vec 91 1 (.slice AK E.length ck) E.length (E.map LogE.kv)::stars (E.map (LogE.pl gd))::stars (E.map (LogE.kl gr))::L)|2=>St F w0 w_ (vec 5 1 (.slice c_.1 s.last.flatten.length c_.2) s.last.flatten.length (s.last.flatten.map bv)::RW gr s::bytesA (.slice AI s.last.flatten.length s.last.flatten.length) s.last.flatten::PW gd s::row gw (eC_ gd gr AP cp AK ck E.length) 35::vec 60 1 (.slice AP E.length cp) E.length (E.map LogE.pv)::vec 91 1 (.slice AK E.length ck) E.length (E.map LogE.kv)::stars (E.map (LogE.pl gd))::stars (E.map (LogE.kl gr))::L)|_=>St F w0 w_ (RW gr s::vec 5 1 (.slice c_.1 s.last.flatten.length c_.2) s.last.flatten.length (s.last.flatten.map bv)::bytesA (.slice AI s.last.flatten.length s.last.flatten.length) s.last.flatten::PW gd s::row gw (eC_ gd gr AP cp AK ck E.length) 35::vec 60 1 (.slice AP E.length cp) E.length (E.map LogE.pv)::vec 91 1 (.slice AK E.length ck) E.length (E.map LogE.kv)::stars (E.map (LogE.pl gd))::stars (E.map (LogE.kl gr))::L):Prop)) (none,0) kr_ kr_ kr_ kr_ (S3'.drew) ?_ ?_ ?_)))))⟩
 ·intro i_ c_ p_ vals_ w1 hi_ hiE_ hp_ hk_ hu_ hPh_ hd_
  rcases i_ with _|_|_|_|_|_|_|_|_|_|_|_|_|_|_|_|_|_|_|_|_|i_
  ·exact tG_ rfl hd_ (gV (.slice AI s.last.flatten.length s.last.flatten.length) ⟨rfl,rfl⟩)
  ·exact tG_ rfl hd_ (gV (pq gw) ⟨rfl,rfl⟩)
  ·exact tG_ rfl hd_ (gV (pq gw) ⟨rfl,rfl⟩)
  ·exact tG_ rfl hd_ (gV (po gw 1) ⟨rfl,rfl⟩)
  ·rcases p_ with _|_|_|_|p_
   ·have S8:=St.id hPh_
    exact tG_ rfl hd_ (gL (pq gr) rfl (((S8.blk 2 rfl).cell 1).trans rfl) ⟨rfl,rfl⟩)
   ·exact absurd (hu_ 0 dc_ kr_) dc_
   ·exact absurd (hu_ 0 dc_ kr_) dc_
   ·exact absurd (hu_ 0 dc_ kr_) dc_
   ·exact absurd hp_ (by simp)
  ·exact absurd hiE_ dc_
  ·exact absurd hiE_ dc_
  ·exact tG_ rfl hd_ (gV (.bool false) ⟨rfl,rfl⟩)
  ·exact tG_ rfl hd_ (gV (.bool false) ⟨rfl,rfl⟩)
  ·exact tW_ 8 22 8 false rfl hd_ (gv_val (v:=pq gw) (w':=w1) kr_ ⟨rfl,rfl⟩)
  ·exact tW_ 8 22 8 false rfl hd_ (gv_val (v:=pq gw) (w':=w1) kr_ ⟨rfl,rfl⟩)
  ·exact tW_ 8 22 8 false rfl hd_ (gv_val (v:=pq gw) (w':=w1) kr_ ⟨rfl,rfl⟩)
  ·rcases p_ with _|_|_|_|p_
   ·exact absurd (hk_ 1 dc_ kr_) dc_
   ·exact absurd (hk_ 1 dc_ kr_) dc_
   ·have S14:=St.id hPh_
    exact tW_ 8 22 8 false rfl hd_ (gv_ldR (v:=pq gd) rfl kr_ kr_ (((S14.blk 4 rfl).cell 0).trans rfl) ⟨rfl,rfl⟩)
   ·exact absurd (hu_ 2 dc_ kr_) dc_
   ·exact absurd hp_ (by simp)
  ·rcases p_ with _|_|_|_|p_
   ·exact absurd (hk_ 1 dc_ kr_) dc_
   ·exact absurd (hk_ 1 dc_ kr_) dc_
   ·have S15:=St.id hPh_
    refine tW_ 8 22 8 false rfl hd_ (gv_call (args:=#[pq gd]) rfl Tryz.func35 kr_ rfl rfl kr_ (Calls.mono (pw_burnt S15 3 rfl) ?_))
    rintro _ _ ⟨rfl,rfl⟩
    exact ⟨_,rfl,⟨rfl,rfl⟩⟩
   ·exact absurd (hu_ 2 dc_ kr_) dc_
   ·exact absurd hp_ (by simp)
  ·exact tW_ 8 22 8 false rfl hd_ (gv_val (v:=pq gw) (w':=w1) kr_ ⟨rfl,rfl⟩)
  ·exact tW_ 8 22 8 false rfl hd_ (gv_val (v:=pq gw) (w':=w1) kr_ ⟨rfl,rfl⟩)
  ·exact tW_ 8 22 8 false rfl hd_ (gv_val (v:=po gw 1) (w':=w1) kr_ ⟨rfl,rfl⟩)
  ·rcases p_ with _|_|_|_|p_
   ·exact absurd (hk_ 1 dc_ kr_) dc_
   ·exact absurd (hk_ 1 dc_ kr_) dc_
   ·have S19:=St.id hPh_
    exact tW_ 8 22 8 false rfl hd_ (gv_ldR (v:=pq gr) rfl kr_ kr_ (((S19.blk 4 rfl).cell 1).trans rfl) ⟨rfl,rfl⟩)
   ·exact absurd (hu_ 2 dc_ kr_) dc_
   ·exact absurd hp_ (by simp)
  ·exact absurd hiE_ dc_
  ·exact tW_ 8 22 8 false rfl hd_ (gB_ (b:=(decide (s.left=0)) !=(decide (s.left=0))) (b':=false) kr_ (by simp) ⟨rfl,rfl⟩)
  ·exact tG_ rfl hd_ (gV (.bool false) ⟨rfl,rfl⟩)
  ·exact absurd hi_ om_
 ·intro k_ c_ vals_ w1 hk_ hPh_ hd_
  rcases k_ with _|_|_|k_
  ·have S22:=St.id hPh_
   refine tG_ rfl hd_ (gv_call (args:=#[pq gr]) rfl Tryz.func34 kr_ rfl rfl kr_ ?_)
   have S23:=St.pm 8 [7,0,1,2,3,4,5,6] S22
   refine Calls.mono (rw_image S23) ?_
   rintro _ w24 ⟨v,rfl,S25⟩
   obtain ⟨m26,g27,rfl⟩:=St.vec_v S25 0 rfl
   refine ⟨_,rfl,⟨(m26,g27),rfl, ?_,S25⟩⟩
   intro i_ hi_ hne_ hdp_
   rcases i_ with _|_|_|_|_|_|_|_|_|_|_|_|_|_|_|_|_|_|_|_|_|i_
   ·rfl
   ·rfl
   ·rfl
   ·rfl
   ·rfl
   ·exact absurd rfl hne_
   ·exact dN_ hdp_
   ·exact dN_ hdp_
   ·exact dN_ hdp_
   ·exact dN_ hdp_
   ·exact dN_ hdp_
   ·exact dN_ hdp_
   ·exact dN_ hdp_
   ·exact dN_ hdp_
   ·exact dN_ hdp_
   ·exact dN_ hdp_
   ·exact dN_ hdp_
   ·exact dN_ hdp_
   ·exact dN_ hdp_
   ·exact dN_ hdp_
   ·exact dN_ hdp_
   ·exact absurd hi_ om_
  ·have S28:=St.id hPh_
   refine tG_ rfl hd_ (gv_call (args:=#[.slice AI s.last.flatten.length s.last.flatten.length,.slice c_.1 s.last.flatten.length c_.2]) rfl Tryz.func33 kr_ rfl rfl kr_ (Calls.mono (same_n S28 rfl rfl rfl (RoT.bytes 2 rfl rfl) (RoT.ofVec 0 rfl) om_) ?_))
   rintro _ w29 ⟨rfl,S30⟩
   refine ⟨_,rfl,⟨(c_.1,c_.2),rfl, ?_,S30⟩⟩
   intro i_ hi_ hne_ hdp_
   rcases i_ with _|_|_|_|_|_|_|_|_|_|_|_|_|_|_|_|_|_|_|_|_|i_
   ·rfl
   ·rfl
   ·rfl
   ·rfl
   ·rfl
   ·rfl
   ·exact absurd rfl hne_
   ·exact dN_ hdp_
   ·exact dN_ hdp_
   ·exact dN_ hdp_
   ·exact dN_ hdp_
   ·exact dN_ hdp_
   ·exact dN_ hdp_
   ·exact dN_ hdp_
   ·exact dN_ hdp_
   ·exact dN_ hdp_
   ·exact dN_ hdp_
   ·exact dN_ hdp_
   ·exact dN_ hdp_
   ·exact dN_ hdp_
   ·exact dN_ hdp_
   ·exact absurd hi_ om_
  ·have S31:=St.id hPh_
   refine tW_ 8 22 8 false rfl hd_ (gv_call (args:=#[pq gr]) rfl Tryz.func19 kr_ rfl rfl kr_ ?_)
   have S32:=St.pm 9 [1,0,2,3,4,5,6,7,8] S31
   refine Calls.mono (rw_burnt_b S32) ?_
   rintro _ w33 ⟨rfl,S34⟩
   refine ⟨_,rfl,⟨(c_.1,c_.2),rfl, ?_,S34⟩⟩
   intro i_ hi_ hne_ hdp_
   rcases i_ with _|_|_|_|_|_|_|_|_|_|_|_|_|_|_|_|_|_|_|_|_|i_
   ·rfl
   ·rfl
   ·rfl
   ·rfl
   ·rfl
   ·rfl
   ·rfl
   ·rfl
   ·rfl
   ·rfl
   ·rfl
   ·rfl
   ·rfl
   ·rfl
   ·rfl
   ·rfl
   ·rfl
   ·rfl
   ·exact absurd rfl hne_
   ·exact dN_ hdp_
   ·exact dN_ hdp_
   ·exact absurd hi_ om_
  ·exact absurd hk_ (by simp)
 ·intro c_ w1 hPh_
  have S35:=St.id hPh_
  refine (wE (nCF (wp_skip (nSR (pv (pq gw) (pv (pq gw) (pv (pq gw) (lR (pq gd) S35 4 0 (g_ (gv_call (args:=#[pq gd]) rfl Tryz.func36 kr_ rfl rfl kr_ ?_))))))))))
  have S36:=St.pm 9 [3,0,1,2,4,5,6,7,8] S35
  refine Calls.mono (pw_counts S36) ?_
  rintro _ w37 ⟨rr39,rfl,S38⟩
  refine ⟨_,rfl,(nW rfl (.agg #[iv 0,iv 0,iv 0,iv 0,iv 0]) S38 fun g40 w41 hg42 S43=>g_ (gv_stA (k:=0) (vs:=[iv rr39,iv s.wr,iv s.fl,iv s.rf,iv (s.pend.length:Int)]) S43 0 rfl rfl kr_ kr_ kr_ rfl (by simp [Value.oneCell']) (Nat.le_of_ble_eq_true kr_) (L':=(row g40 #[iv rr39,iv s.wr,iv s.fl,iv s.rf,iv (s.pend.length:Int)] 55::PW gd s::RW gr s::vec 5 1 (.slice c_.1 s.last.flatten.length c_.2) s.last.flatten.length (s.last.flatten.map bv)::bytesA (.slice AI s.last.flatten.length s.last.flatten.length) s.last.flatten::row gw (eC_ gd gr AP cp AK ck E.length) 35::vec 60 1 (.slice AP E.length cp) E.length (E.map LogE.pv)::vec 91 1 (.slice AK E.length ck) E.length (E.map LogE.kv)::stars (E.map (LogE.pl gd))::stars (E.map (LogE.kl gr))::L)) rfl (fun w44 S45=>wER (pv (pq gw) (pv (pq gw) (pv (po gw 1) (lR (pq gr) S45 5 1 (g_ (gv_call (args:=#[pq gr]) rfl Tryz.func37 kr_ rfl rfl kr_ ?_)))))))))⟩
  have S46:=St.pm 10 [2,0,1,3,4,5,6,7,8,9] S45
  refine Calls.mono (rw_counts S46) ?_
  rintro _ w47 ⟨rr49,rfl,S48⟩
  refine ⟨_,rfl,(nW rfl (.agg #[iv 0,iv 0,iv 0,iv 0,iv 0]) S48 fun g50 w51 hg52 S53=>g_ (gv_stA (k:=0) (vs:=[iv rr49,iv s.wr,iv s.fl,iv s.rf,iv (s.pend.length:Int)]) S53 0 rfl rfl kr_ kr_ kr_ rfl (by simp [Value.oneCell']) (Nat.le_of_ble_eq_true kr_) (L':=(row g50 #[iv rr49,iv s.wr,iv s.fl,iv s.rf,iv (s.pend.length:Int)] 55::RW gr s::row g40 #[iv rr39,iv s.wr,iv s.fl,iv s.rf,iv (s.pend.length:Int)] 55::PW gd s::vec 5 1 (.slice c_.1 s.last.flatten.length c_.2) s.last.flatten.length (s.last.flatten.map bv)::bytesA (.slice AI s.last.flatten.length s.last.flatten.length) s.last.flatten::row gw (eC_ gd gr AP cp AK ck E.length) 35::vec 60 1 (.slice AP E.length cp) E.length (E.map LogE.pv)::vec 91 1 (.slice AK E.length ck) E.length (E.map LogE.kv)::stars (E.map (LogE.pl gd))::stars (E.map (LogE.kl gr))::L)) rfl (fun w54 S55=>wE (nS (sR (pv (po g40 1) (lR (iv s.wr) S55 2 1 (pv (po g50 1) (lR (iv s.wr) S55 0 1 (dN s.wr s.wr (fun hd56=>False.elim (hd56 rfl)) fun _=>pv fv (pW (po g40 2) (wl_when kr_ (gv_ldR (v:=iv s.fl) rfl kr_ kr_ (((S55.blk 2 rfl).cell 2).trans rfl) ?_)))))))))))))⟩
  refine pW (po g50 2) (wl_when kr_ (gv_ldR (v:=iv s.fl) rfl kr_ kr_ (((S55.blk 0 rfl).cell 2).trans rfl) (wl_when kr_ (gv_ne (x:=s.fl) (y:=s.fl) kr_ (fun hd57=>False.elim (hd57 rfl)) (fun _=>pv fv (pv fv (pW (po g40 3) (wl_when kr_ (gv_ldR (v:=iv s.rf) rfl kr_ kr_ (((S55.blk 2 rfl).cell 3).trans rfl) (pW (po g50 3) (wl_when kr_ (gv_ldR (v:=iv s.rf) rfl kr_ kr_ (((S55.blk 0 rfl).cell 3).trans rfl) (wl_when kr_ (gv_ne (x:=s.rf) (y:=s.rf) kr_ (fun hd58=>False.elim (hd58 rfl)) (fun _=>pv fv (pv fv (pW (po g40 4) (wl_when kr_ (gv_ldR (v:=iv (s.pend.length:Int)) rfl kr_ kr_ (((S55.blk 2 rfl).cell 4).trans rfl) ?_)))))))))))))))))))
  refine pW (po g50 4) (wl_when kr_ (gv_ldR (v:=iv (s.pend.length:Int)) rfl kr_ kr_ (((S55.blk 0 rfl).cell 4).trans rfl) (wl_when kr_ (gv_ne (x:=(s.pend.length:Int)) (y:=(s.pend.length:Int)) kr_ (fun hd59=>False.elim (hd59 rfl)) (fun _=>pv fv (wE (nCF (wp_skip (nS (sR (pv (iv 0) (wE (then_n (wp_block ?_))))))))))))))
  have S60:=St.pm 11 [6,7,8,9,10,3,1] S55
  refine wp_loop_g (G:=Nat) (fun (g_:Nat) (a_:Act) (w_:World)=>∃J:Nat→Value,a_=(fr ([pq gw,ud,J 2,.slice AI s.last.flatten.length s.last.flatten.length,pq g40,pq g50,nI_ g_,J 7,J 8,pq gw,pq gw,pq gw,pq gd,.slice AI s.last.flatten.length s.last.flatten.length,.slice AI s.last.flatten.length s.last.flatten.length,pq gw,pq gw,po gw 1,pq gr,.slice c_.1 s.last.flatten.length c_.2,tv,fv,fv,pq gw,pq gw,pq gw,pq gd,.bool (decide (s.left=0)),pq gw,pq gw,po gw 1,pq gr,.bool (decide (s.left=0)),fv,fv,pq gw,pq gw,pq gw,pq gd,.agg #[iv rr39,iv s.wr,iv s.fl,iv s.rf,iv (s.pend.length:Int)],pq gw,pq gw,po gw 1,pq gr,.agg #[iv rr49,iv s.wr,iv s.fl,iv s.rf,iv (s.pend.length:Int)],po g40 1,iv s.wr,po g50 1,iv s.wr,fv,fv,po g40 2,iv s.fl,po g50 2,iv s.fl,fv,fv,fv,po g40 3,iv s.rf,po g50 3,iv s.rf,fv,fv,fv,po g40 4,iv (s.pend.length:Int),po g50 4,iv (s.pend.length:Int),fv,fv]++jR J 71 39) 0)∧St F w0 w_ (row gw (eC_ gd gr AP cp AK ck E.length) 35::vec 60 1 (.slice AP E.length cp) E.length (E.map LogE.pv)::vec 91 1 (.slice AK E.length ck) E.length (E.map LogE.kv)::stars (E.map (LogE.pl gd))::stars (E.map (LogE.kl gr))::PW gd s::RW gr s::L)∧(g_≤s.last.length)) (fun g_=>s.last.length-g_) 0 (jE_ ⟨S60,Nat.zero_le _⟩) ?_
  rintro i a_ w61 ⟨J,rfl,S62,hI63⟩
  skip
  have S62:St F w0 w61 (row gw (eC_ gd gr AP cp AK ck E.length) 35::vec 60 1 (.slice AP E.length cp) E.length (E.map LogE.pv)::vec 91 1 (.slice AK E.length ck) E.length (E.map LogE.kv)::stars (E.map (LogE.pl gd))::stars (E.map (LogE.kl gr))::PW gd s::RW gr s::L):=S62
  have hI63:(i≤s.last.length):=hI63
  refine wp_seq (sR (pv (nI_ i) (pv (pq gw) (pv (pq gw) (pv (po gw 1) (lR (pq gr) S62 0 1 (g_ (gv_call (args:=#[pq gr]) rfl Tryz.func38 kr_ rfl rfl kr_ ?_))))))))
  have S64:=St.pm 7 [6,0,1,2,3,4,5] S62
  refine Calls.mono (rw_sectors S64) ?_
  rintro _ w65 ⟨rfl,S66⟩
  refine ⟨_,rfl,(dC ((((i:Nat):Int):Int)<(s.last.length:Int)) (fun hb67=> ?_) fun hb67=> ?_)⟩
  ·have hi:i<s.last.length:=by omega
   refine pv tv (pW (pq gw) (pW (pq gw) (pW (po gw 1) (wl_when kr_ (gv_ldR (v:=pq gr) rfl kr_ kr_ (((S66.blk 1 rfl).cell 1).trans rfl) (wl_when kr_ (gv_call (args:=#[pq gr]) rfl Tryz.func19 kr_ rfl rfl kr_ (Calls.mono (rw_burnt_b S66) ?_))))))))
   rintro _ w68 ⟨rfl,S69⟩
   refine ⟨_,rfl,(pW (.bool (!(decide (s.left=0)))) (pv (.bool (!(decide (s.left=0)))) (wE (then_n (wp_cond_split (t:= !(decide (s.left=0))) kr_ (fun hc70=> ?_) (fun hc70=> ?_))))))⟩
   ·have hz:s.left≠0:=by simpa using hc70
    refine wp_skip (nS (wp_block (sR (pv (pq gw) (pv (pq gw) (pv (pq gw) (lR (pq gd) S69 1 0 (pv (nI_ i) (g_ (gv_call (args:=#[pq gd,nI_ i]) rfl Tryz.func39 kr_ rfl rfl kr_ ?_))))))))))
    have S71:=St.pm 7 [6,0,1,2,3,4,5] S69
    refine Calls.mono (pw_read (k:=i) S71 hz om_) ?_
    rintro _ w72 ⟨m74,rfl,S73⟩
    refine ⟨_,rfl,(pv (.tuple #[.slice m74 512 512,iv 0]) (pv (.slice m74 512 512) (pv (iv 0) (pv (.slice m74 512 512) (pv (iv 0) (wER (pv (iv 0) (dN 0 0 (fun hd75=>False.elim (hd75 rfl)) fun _=>pv fv (pW (.slice m74 512 512) (pW (pq gw) (pW (pq gw) (pW (po gw 1) ?_))))))))))))⟩
    refine wl_when kr_ (gv_ldR (v:=pq gr) rfl kr_ kr_ (((S73.blk 3 rfl).cell 1).trans rfl) (pW (nI_ i) (wl_when kr_ (gv_call (args:=#[pq gr,nI_ i]) rfl Tryz.func40 kr_ rfl rfl kr_ ?_))))
    have S76:=St.pm 8 [2,0,1,3,4,5,6,7] S73
    obtain ⟨r9,S77⟩:=St.rw S76
    obtain ⟨gl,cl,c2,A2,junk,LL,PP,pool,hf,hcl,hju,S78⟩:=St.ropen S77
    change St F w0 w72 (rR2 gr gl LL.length cl (.slice A2 PP.length c2) s.left s.life r9 s.wr s.fl s.rf 0::row gl ((LL.map PEnt.val++junk).toArray) 22::vec 102 2 (.slice A2 PP.length c2) PP.length (putsV PP)::stars (pool.map PEnt.row)::bytesA (.slice m74 512 512) (s.now i)::PW gd s::row gw (eC_ gd gr AP cp AK ck E.length) 35::vec 60 1 (.slice AP E.length cp) E.length (E.map LogE.pv)::vec 91 1 (.slice AK E.length ck) E.length (E.map LogE.kv)::stars (E.map (LogE.pl gd))::stars (E.map (LogE.kl gr))::L) at S78
    refine Calls.mono (rnow_own (s:=s.rdd r9) (k:=i) S78 hf (by show i<s.last.length;omega)) ?_
    rintro _ w79 ⟨bn,rfl,hbn,S80⟩
    refine ⟨_,rfl, ?_⟩
    have hbn:(bn,s.now (i))∈pool:=hbn
    change St F w0 w79 (rR2 gr gl LL.length cl (.slice A2 PP.length c2) s.left s.life r9 s.wr s.fl s.rf 0::row gl ((LL.map PEnt.val++junk).toArray) 22::vec 102 2 (.slice A2 PP.length c2) PP.length (putsV PP)::stars (pool.map PEnt.row)::bytesA (.slice m74 512 512) (s.now i)::PW gd s::row gw (eC_ gd gr AP cp AK ck E.length) 35::vec 60 1 (.slice AP E.length cp) E.length (E.map LogE.pv)::vec 91 1 (.slice AK E.length ck) E.length (E.map LogE.kv)::stars (E.map (LogE.pl gd))::stars (E.map (LogE.kl gr))::L) at S80
    refine wl_when kr_ (gv_call (args:=#[.slice m74 512 512,sl bn 0 512 512]) rfl Tryz.func33 kr_ rfl rfl kr_ ?_)
    have hs5:=hok.now (k:=i) om_
    refine Calls.mono (same_n S80 hs5.symm hs5.symm rfl (RoT.bytes 4 rfl rfl) (rot_pool 3 rfl hbn hs5) om_) ?_
    rintro _ w81 ⟨rfl,S82⟩
    refine ⟨_,rfl, ?_⟩
    have S83:St F w0 w81 (RW gr s::bytesA (.slice m74 512 512) (s.now i)::PW gd s::row gw (eC_ gd gr AP cp AK ck E.length) 35::vec 60 1 (.slice AP E.length cp) E.length (E.map LogE.pv)::vec 91 1 (.slice AK E.length ck) E.length (E.map LogE.kv)::stars (E.map (LogE.pl gd))::stars (E.map (LogE.kl gr))::L):=St.wr (r:=r9) (St.rclose (gl:=gl) (cl:=cl) (c2:=c2) (A2:=A2) (junk:=junk) (LL:=LL) (PP:=PP) (pool:=pool) (s:=s.rdd r9) S82 hf hcl hju)
    refine pW (.bool false) (pv fv (wE (nCF (wp_skip (inb_n (nR (pv (nI_ i) (gI .i64 (IntKind.i64.wrap (((i:Nat):Int)+1)) ((i+1:Nat):Int) wq_ (pv (nI_ (i+1)) (wE ?_))))))))))
    refine then_n ?_
    have S84:=St.pm 8 [3,4,5,6,7,2,0] S83
    exact ⟨i+1,(jE_ ⟨S84,om_⟩),(by show s.last.length-(i+1)<s.last.length-i;omega)⟩
   ·refine wp_exit (then_x (then_x (inb_x (nSR (pv tv (wE (then_n (wp_ret (bA (.bool true) ?_)))))))))
    have S85:=St.pm 7 [1,2,3,4,5,6,0] S69
    exact ⟨rfl,(St.wclose (s:=s) (E:=E) S85)⟩
  ·refine pv fv (wN (wN (wN (wN (wN (wN (pv fv (wE (nCF (wp_exit (then_x (then_x (inb_x ?_)))))))))))))
   refine nSR (pv tv (wE (then_n (wp_ret (bA (.bool true) ?_)))))
   have S86:=St.pm 7 [1,2,3,4,5,6,0] S66
   exact ⟨rfl,(St.wclose (s:=s) (E:=E) S86)⟩
end
end Go.Proofs
end
