/- Part 4 of 5 of what the proof stands on: the words, the laws of the walk, the walks, the plain laws; each section is one text. -/
import Derived.Test.YtgeioealgidkiaaM3
section
open Go Go.RowKit Go.Proofs.YtgeioealgidkiaaW.PrintWords Go.Proofs.YtgeioealgidkiaaW.PrintMore
namespace Go.Proofs
open Go.Vel
set_option linter.unusedVariables false
set_option maxRecDepth 100000
set_option maxHeartbeats 4000000
attribute [local irreducible] gives wpList Code.wp
section
variable {F:Nat→Prop} {w0 w:World} {L:List Ast}
theorem bits_and_low (n:Nat)(hn:n≤9223372036854775807):bits .and .i64 ((n:Nat):Int) 4294967295=((n%4294967296:Nat):Int):=by
 show IntKind.i64.wrap ((BitVec.ofInt 64 ((n:Nat):Int)&&&BitVec.ofInt 64 4294967295).toNat:Int)=_
 rw [BitVec.toNat_and]
 have f1:(BitVec.ofInt 64 ((n:Nat):Int)).toNat=n:=by rw [BitVec.toNat_ofInt];omega
 have f2:(BitVec.ofInt 64 4294967295).toNat=2^32-1:=by decide
 rw [f1,f2,Nat.and_two_pow_sub_one_eq_mod,IntKind.wrap_i64]
 omega
theorem ps_newest0 (S:St F w0 w L){A B:Option Addr}{a b:List UInt8}{m n ca cb:Nat}(hm0:m=a.length)(hn0:n=b.length)(ha:RoT F w0 L A a)(hb:RoT F w0 L B b)(hma:a.length≤512)(hmb:b.length≤512):Calls Try.prog 98 #[.slice A m ca,.slice B n cb] w fun e w'=>∃A c,e=.returned (.tuple #[.int .i64 ((newestF a b).1:Int),.int .i64 ((newestF a b).2.1:Int),.slice A (newestF a b).2.2.1.length c,.int .i64 ((newestF a b).2.2.2:Int)])∧St F w0 w' (bytesX (.slice A (newestF a b).2.2.1.length c) (newestF a b).2.2.1::L):=by
 subst hm0 hn0
 refine (ps_newest S ha hb om_ om_).mono fun e w' h=> ?_
 obtain ⟨v,rfl,S2⟩:=h
 obtain ⟨A',c',rfl,_⟩:=St.bytesX_v S2
 exact ⟨A',c',rfl,S2⟩
theorem flush_live {s:Dsk}(hz:s.left≠0):s.flushR.2=0:=by
 rcases flushR_cases s with ⟨h,e⟩|⟨h,e⟩
 ·exact absurd h hz
 ·rw [e]
theorem pcAt_lt (s:Dsk)(f n p:Nat):(pcAt s f n p).epoch<4294967296∧(pcAt s f n p).pos<4294967296∧(pcAt s f n p).idx<4294967296∧(pcAt s f n p).cnt<4294967296:=pcF_lt _
theorem newR_some {s:Dsk}{f:Nat}(h:¬((newestF (s.now f) (s.now (f+1))).2.2.2≠0∨(newestF (s.now f) (s.now (f+1))).2.2.1≠[]∨(newestF (s.now f) (s.now (f+1))).2.1/4294967296<1∨1073741824<(newestF (s.now f) (s.now (f+1))).2.1/4294967296∨1073741824<(newestF (s.now f) (s.now (f+1))).2.1%4294967296)):newR s f=some ((newestF (s.now f) (s.now (f+1))).2.1/4294967296,(newestF (s.now f) (s.now (f+1))).2.1%4294967296):=by
 unfold newR;exact if_neg h
theorem newR_none {s:Dsk}{f:Nat}(h:(newestF (s.now f) (s.now (f+1))).2.2.2≠0∨(newestF (s.now f) (s.now (f+1))).2.2.1≠[]∨(newestF (s.now f) (s.now (f+1))).2.1/4294967296<1∨1073741824<(newestF (s.now f) (s.now (f+1))).2.1/4294967296∨1073741824<(newestF (s.now f) (s.now (f+1))).2.1%4294967296):newR s f=none:=by
 unfold newR;exact if_pos h
theorem w_open_args {gd:Nat}{s:Dsk}{first n:Int}(S:St F w0 w (PW gd s::L))(ha:argsR s first n≠0):Calls Try.prog 61 #[.pointer (some ⟨gd,0,none⟩),.int .i64 first,.int .i64 n] w fun e w'=>e=.returned (.tuple #[.pointer none,.slice none 0 0,.int .i64 (argsR s first n)])∧St F w0 w' (PW gd s::L):=by
 refine eN (fr [pq gd,iv first,iv n] 116) Try.func61 rfl (sR (pv pn (pv (nS_) (pv (iv 0) (wE (nS (sR (pv (pq gd) (pv (iv first) (pv (iv n) (sO Try.func108 #[pq gd,iv first,iv n] (w_place S 0 rfl) (pv (iv (argsR s first n)) (wER ?_)))))))))))))
 exact pv (iv (argsR s first n)) (dN (argsR s first n) 0 (fun _=>wE (nCT (sR (pv (iv (argsR s first n)) (pv pn (pv (nS_) (pv (iv (argsR s first n)) (wE (then_n (rR (bodyPost_ret (v:=.tuple #[pn,nS_,iv (argsR s first n)]) (Go.Vel.results_tmp3 rfl _ _ kr_ kr_ kr_) rfl ⟨rfl,S⟩))))))))))) fun hd1=>False.elim (ha hd1))
theorem w_open_go {gd:Nat}{s:Dsk}{first n:Int}(S:St F w0 w (PW gd s::L))(ha0:argsR s first n=0):Calls Try.prog 61 #[.pointer (some ⟨gd,0,none⟩),.int .i64 first,.int .i64 n] w fun e w'=>(newR s.take first.toNat=none∧e=.returned (.tuple #[.pointer none,.slice none 0 0,.int .i64 6])∧St F w0 w' (PW gd s.take::L))∨
  (∃(ep tl:Nat),newR s.take first.toNat=some (ep,tl)∧topTo (pcAt s.take first.toNat n.toNat) ep n.toNat=1073741824∧e=.returned (.tuple #[.pointer none,nS_,iv 41])∧St F w0 w' (PW gd s.take::L))∨
  (∃(ep tl gl:Nat) (v:Value) (RV:List RecV) (h:Nat),newR s.take first.toNat=some (ep,tl)∧topTo (pcAt s.take first.toNat n.toNat) ep n.toNat≠1073741824∧Recs (pcAt s.take first.toNat n.toNat) ep tl (RV.map (·.2)) h∧NoRec (pcAt s.take first.toNat n.toNat) ep h∧e=.returned (.tuple #[pq gl,v,iv 0])∧St F w0 w' (vec 31 1 v RV.length (RV.map (·.1))::stars (RV.map recD)::PLog gl gd ⟨first.toNat,n.toNat,inc s.life,ep,topTo (pcAt s.take first.toNat n.toNat) ep n.toNat,tl,h,false⟩::PW gd s.take.flushR.1::L)):=by
 have hok:=St.pw_ok S
 have hn2:=hok.n2
 obtain ⟨hz,hf0,hm18,hm256,hin⟩:=argsR_ok ha0
 obtain ⟨f,rfl⟩:∃f:Nat,first=(f:Int):=⟨first.toNat,by omega⟩
 obtain ⟨m,rfl⟩:∃m:Nat,n=(m:Int):=⟨n.toNat,by omega⟩
 simp only [Int.toNat_natCast]
 obtain ⟨s1,hs1⟩:∃s1,s.take=s1:=⟨_,rfl⟩
 have hz1:s1.left≠0:=by rw [←hs1];exact hz
 have hl1:s1.last=s.last:=by rw [←hs1];rfl
 have hok1:DOk s1:=by rw [←hs1];exact ⟨hok.len,hok.plen,hok.n1,hok.n2,hok.lb⟩
 rw [hs1]
 have ha5:=hok1.now (k:=f) (by rw [hl1];omega)
 have hb5:=hok1.now (k:=f+1) (by rw [hl1];omega)
 have hq63:=newest_lt (s1.now f) (s1.now (f+1))
 have hsome:=newR_some (s:=s1) (f:=f)
 have hnone:=newR_none (s:=s1) (f:=f)
 obtain ⟨q,hq⟩:∃q,newestF (s1.now f) (s1.now (f+1))=q:=⟨_,rfl⟩
 rw [hq] at hq63 hsome hnone
 refine eN (fr [pq gd,nI_ f,nI_ m] 116) Try.func61 rfl (sR (pv pn (pv (nS_) (pv (iv 0) (wE (nS (sR (pv (pq gd) (pv (nI_ f) (pv (nI_ m) (g_ (gv_call (args:=#[pq gd,nI_ f,nI_ m]) rfl Try.func108 kr_ rfl rfl kr_ ?_))))))))))))
 have hpl:=w_place (first:=((f:Nat):Int)) (n:=((m:Nat):Int)) S 0 rfl
 rw [ha0] at hpl
 refine Calls.mono hpl ?_
 rintro _ _ ⟨rfl,rfl⟩
 refine ⟨_,rfl,(pv (iv 0) (wER (pv (iv 0) (dN 0 0 (fun hd1=>False.elim om_) fun _=>wE (nCF (wp_skip (nSR (pv (pq gd) (pv (nI_ f) (pv (nI_ m) (pv (pq gd) (sP Try.func63 #[pq gd] (pw_take S) fun w2 S3=> ?_))))))))))))⟩
 rw [hs1] at S3
 refine pv (.agg #[pq gd,nI_ f,nI_ m,iv (inc s.life),iv 0,iv 0,iv 0,iv 0,fv]) (nB rfl (.agg #[pq gd,nI_ f,nI_ m,iv (inc s.life),iv 0,iv 0,iv 0,iv 0,.bool false]) S3 fun g4 w5 hg6 S7=>pv (pq g4) (wER (pv (pq g4) (sP2 Try.func109 #[pq g4] (w_pair (l:=⟨f,m,inc s.life,0,0,0,0,false⟩) S7 ⟨by show f≤2048;omega,by show 18≤m;omega,by show m≤256;omega,Nat.zero_le _,Nat.zero_lt_succ _,Nat.zero_le _⟩ hz1 (by show f+1<_;rw [hl1];omega)) fun A7 B7 w8 S9=> ?_))))
 change St F w0 w8 (bytesA (.slice A7 512 512) (s1.now f)::bytesA (.slice B7 512 512) (s1.now (f+1))::row g4 #[pq gd,nI_ f,nI_ m,iv (inc s.life),nI_ 0,nI_ 0,nI_ 0,nI_ 0,.bool false] 161::PW gd s1::L) at S9
 refine pv (.tuple #[.slice A7 512 512,.slice B7 512 512,iv 0]) (pv (.slice A7 512 512) (pv (.slice B7 512 512) (pv (iv 0) (pv (.slice A7 512 512) (pv (.slice B7 512 512) (pv (iv 0) (wE (nS (sR (pv (iv 0) (dN 0 0 (fun hd10=>False.elim om_) fun _=>wE (nCF ?_))))))))))))
 refine wp_skip (nSR (pv (.slice A7 512 512) (pv (.slice B7 512 512) (g_ (gv_call (args:=#[.slice A7 512 512,.slice B7 512 512]) rfl Try.func98 kr_ rfl rfl kr_ ?_)))))
 have hnw:=ps_newest0 (ca:=512) (cb:=512) S9 (a:=s1.now f) (b:=s1.now (f+1)) ha5.symm hb5.symm (RoT.bytes 0 rfl rfl) (RoT.bytes 1 rfl rfl) om_ om_
 rw [hq] at hnw
 refine Calls.mono hnw ?_
 rintro _ w11 ⟨A8,c8,rfl,S12⟩
 refine ⟨_,rfl,(pv (.tuple #[iv (q.1:Int),iv (q.2.1:Int),.slice A8 q.2.2.1.length c8,iv (q.2.2.2:Int)]) (pv (iv (q.1:Int)) (pv (iv (q.2.1:Int)) (pv (.slice A8 q.2.2.1.length c8) (pv (iv (q.2.2.2:Int)) (pv (iv (q.1:Int)) (pv (iv (q.2.1:Int)) (pv (.slice A8 q.2.2.1.length c8) (pv (iv (q.2.2.2:Int)) (wE (nS (sR (pv (iv (q.2.2.2:Int)) (dN (q.2.2.2:Int) 0 (fun hb13=> ?_) fun hb13=> ?_))))))))))))))⟩
 ·have hno:=hnone (.inl om_)
  refine pv tv (wN (wN (wN (pv tv (wE (nCT (sR (pv pn (pv (nS_) (pv (iv 6) (wE (then_n (rR ?_)))))))))))))
  refine bodyPost_ret (v:=.tuple #[pn,nS_,iv 6]) (Go.Vel.results_tmp3 rfl _ _ kr_ kr_ kr_) rfl ?_
  have S14:=St.pm 5 [4] S12
  exact .inl ⟨hno,rfl,S14⟩
 ·refine pv fv (pW (.slice A8 q.2.2.1.length c8) (pW (iv (q.2.2.1.length:Nat)) (wl_when kr_ (gv_dec (p:=((q.2.2.1.length:Nat):Int)>0) kr_ (fun hb15=> ?_) (fun hb15=> ?_)))))
  ·have hno:=hnone (.inr (.inl (List.ne_nil_of_length_pos om_)))
   refine pv tv (wE (nCT (sR (pv pn (pv (nS_) (pv (iv 6) (wE (then_n (rR (bodyPost_ret (v:=.tuple #[pn,nS_,iv 6]) (Go.Vel.results_tmp3 rfl _ _ kr_ kr_ kr_) rfl ?_))))))))))
   have S16:=St.pm 5 [4] S12
   exact .inl ⟨hno,rfl,S16⟩
  ·refine pv fv (wE (nCF (wp_skip (nSR (pv (pq g4) (pv (pq g4) (pv (iv (q.2.1:Int)) (g_ (gv_shr (k:=.i64) (yk:=.u64) (z:=(q.2.1:Int)) (i:=32) (j:=32) (z':=((q.2.1/4294967296:Nat):Int)) rfl kr_ kr_ rfl dc_ rfl (pv (iv (q.2.1:Int)) (gI .i64 (bits .and .i64 (q.2.1:Int) 4294967295) ((q.2.1%4294967296:Nat):Int) (bits_and_low _ hq63) (pv (pq g4) (pv (po g4 4) (sS S12 3 rfl 4 (nI_ (q.2.1/4294967296)) fun w17 S18=> ?_))))))))))))))
   refine pv (pq g4) (pv (po g4 6) (sS S18 3 rfl 6 (nI_ (q.2.1%4294967296)) fun w19 S20=>wE (nS (sR (pv (pq g4) (pv (pq g4) (pv (po g4 4) (lR (nI_ (q.2.1/4294967296)) S20 3 4 (dC ((((q.2.1/4294967296:Nat):Int):Int)<1) (fun hb21=> ?_) fun hb21=> ?_)))))))))
   ·have hno:=hnone (.inr (.inr (.inl om_)))
    refine pv tv (wN (wN (wN (wN (wN (pv tv (pv tv (wN (wN (wN (wN (wN (pv tv ?_)))))))))))))
    refine wE (nCT (sR (pv pn (pv (nS_) (pv (iv 6) (wE (then_n (rR (bodyPost_ret (v:=.tuple #[pn,nS_,iv 6]) (Go.Vel.results_tmp3 rfl _ _ kr_ kr_ kr_) rfl ?_)))))))))
    have S22:=St.pm 5 [4] S20
    exact .inl ⟨hno,rfl,S22⟩
   ·refine pv fv (pW (pq g4) (pW (pq g4) (pW (po g4 4) (wl_when kr_ (gv_ldR (v:=nI_ (q.2.1/4294967296)) rfl kr_ kr_ (((S20.blk 3 rfl).cell 4).trans rfl) (wl_when kr_ (gv_dec (p:=(((q.2.1/4294967296:Nat):Int):Int)>1073741824) kr_ (fun hb23=> ?_) (fun hb23=> ?_))))))))
    ·have hno:=hnone (.inr (.inr (.inr (.inl om_))))
     refine pv tv (pv tv (wN (wN (wN (wN (wN (pv tv (wE (nCT (sR (pv pn (pv (nS_) (pv (iv 6) ?_)))))))))))))
     refine wE (then_n (rR (bodyPost_ret (v:=.tuple #[pn,nS_,iv 6]) (Go.Vel.results_tmp3 rfl _ _ kr_ kr_ kr_) rfl ?_)))
     have S24:=St.pm 5 [4] S20
     exact .inl ⟨hno,rfl,S24⟩
    ·refine pv fv (pv fv (pW (pq g4) (pW (pq g4) (pW (po g4 6) (wl_when kr_ (gv_ldR (v:=nI_ (q.2.1%4294967296)) rfl kr_ kr_ (((S20.blk 3 rfl).cell 6).trans rfl) (wl_when kr_ (gv_dec (p:=(((q.2.1%4294967296:Nat):Int):Int)>1073741824) kr_ (fun hb25=> ?_) (fun hb25=> ?_)))))))))
     ·have hno:=hnone (.inr (.inr (.inr (.inr om_))))
      refine pv tv (wE (nCT (sR (pv pn (pv (nS_) (pv (iv 6) (wE ?_)))))))
      refine then_n (rR (bodyPost_ret (v:=.tuple #[pn,nS_,iv 6]) (Go.Vel.results_tmp3 rfl _ _ kr_ kr_ kr_) rfl ?_))
      have S26:=St.pm 5 [4] S20
      exact .inl ⟨hno,rfl,S26⟩
     ·refine pv fv (wE (nCF (wp_skip (nSR (pv (pq g4) (g_ (gv_call (args:=#[pq g4]) rfl Try.func110 kr_ rfl rfl kr_ ?_)))))))
      have S27:=St.pm 5 [3,4,0,1,2] S20
      have hgood:=hsome (fun hh=>by rcases hh with h|h|h|h|h<;>first|omega|exact h (List.length_eq_zero_iff.1 om_))
      have hlk:LOk ⟨f,m,inc s.life,q.2.1/4294967296,0,q.2.1%4294967296,0,false⟩:=⟨by show f≤2048;omega,by show 18≤m;omega,by show m≤256;omega,by show q.2.1/4294967296≤_;omega,Nat.zero_lt_succ _,by show q.2.1%4294967296≤_;omega⟩
      refine Calls.mono (w_ring (l:=⟨f,m,inc s.life,q.2.1/4294967296,0,q.2.1%4294967296,0,false⟩) S27 hlk hz1 (by show f+2+m≤_;rw [hl1];omega)) ?_
      rintro _ w28 ⟨gr,M,rfl,hM,S29⟩
      refine ⟨_,rfl, ?_⟩
      change St F w0 w28 (row gr (pcRow M) 165::stars (M.map pcD)::row g4 #[pq gd,nI_ f,nI_ m,iv (inc s.life),nI_ (q.2.1/4294967296),nI_ 0,nI_ (q.2.1%4294967296),nI_ 0,.bool false] 161::PW gd s1::bytesX (.slice A8 q.2.2.1.length c8) q.2.2.1::bytesA (.slice A7 512 512) (s1.now f)::bytesA (.slice B7 512 512) (s1.now (f+1))::L) at S29
      refine pv (.tuple #[sl gr 0 m m,iv 0]) (pv (sl gr 0 m m) (pv (iv 0) (pv (sl gr 0 m m) (pv (iv 0) (wE ?_)))))
      refine nS (sR (pv (iv 0) (dN 0 0 (fun hd30=>False.elim om_) fun _=>wE (nCF (wp_skip (nS (sR (pv (pq g4) (pv (pq g4) (pv (pq g4) (pv (po g4 4) (lR (nI_ (q.2.1/4294967296)) S29 2 4 ?_))))))))))))
      refine pv (sl gr 0 m m) (sP Try.func111 #[nI_ (q.2.1/4294967296),sl gr 0 m m] (w_top (n:=m) (ep:=q.2.1/4294967296) (pc:=pcAt s1 f m) S29 hM.len (fun j x hx=>hM.pc j x hx) (fun j=>(pcAt_lt s1 f m j).1) om_ om_) fun w31 S32=> ?_)
      obtain ⟨tp,htp⟩:∃tp,topTo (pcAt s1 f m) (q.2.1/4294967296) m=tp:=⟨_,rfl⟩
      have htl:=topTo_le (pcAt s1 f m) (q.2.1/4294967296) om_ m
      rw [htp] at htl
      rw [htp]
      refine pv (pq g4) (pv (po g4 5) (sS S32 2 rfl 5 (nI_ tp) fun w33 S34=>wER (pv (pq g4) (pv (pq g4) (pv (po g4 5) (lR (nI_ tp) S34 2 5 (dE ((tp:Nat):Int) 1073741824 (fun hb35=> ?_) fun hb35=> ?_)))))))
      ·refine wE (nCT (sR (pv pn (pv (nS_) (pv (iv 41) (wE (then_n (rR (bodyPost_ret (v:=.tuple #[pn,nS_,iv 41]) (Go.Vel.results_tmp3 rfl _ _ kr_ kr_ kr_) rfl ?_)))))))))
       have S36:=St.pm 7 [3] S34
       exact .inr (.inl ⟨_,_,hgood,by rw [htp];omega,rfl,S36⟩)
      ·refine wE (nCF (wp_skip (nSR (pv (pq g4) (pv (sl gr 0 m m) (g_ (gv_call (args:=#[pq g4,sl gr 0 m m]) rfl Try.func112 kr_ rfl rfl kr_ ?_)))))))
       have S37:=St.pm 7 [2,0,1,3,4,5,6] S34
       refine Calls.mono (w_scan (l:=⟨f,m,inc s.life,q.2.1/4294967296,tp,q.2.1%4294967296,0,false⟩) (pc:=pcAt s1 f m) S37 ⟨by show f≤2048;omega,by show 18≤m;omega,by show m≤256;omega,by show q.2.1/4294967296≤_;omega,by show tp<_;omega,by show q.2.1%4294967296≤_;omega⟩ hM.len (fun j x hx=>hM.pc j x hx) (pcAt_round s1 f m) (pcAt_lt s1 f m) (fun p=>pcF_data _)) ?_
       rintro _ w38 ⟨v40,RV,hd9,rfl,hR1,hR2,S39⟩
       refine ⟨_,rfl,(pv v40 (wE (nS (sR (pv (pq gd) (g_ (gv_call (args:=#[pq gd]) rfl Try.func87 kr_ rfl rfl kr_ ?_)))))))⟩
       have S41:=St.pm 9 [5,0,1,2,3,4,6,7,8] S39
       have hfl:=pw_flush S41
       rw [flush_live hz1] at hfl
       refine Calls.mono hfl ?_
       rintro _ w42 ⟨rfl,S43⟩
       refine ⟨_,rfl,(pv (iv 0) (wER (pv (iv 0) (dN 0 0 (fun hd44=>False.elim om_) fun _=>wE (nCF (wp_skip (nSR (pv (pq g4) (pv v40 (pv (pq g4) (pv v40 (pv (iv 0) ?_))))))))))))⟩
       refine wE (then_n (wp_ret (bodyPost_ret (v:=.tuple #[pq g4,v40,iv 0]) (Go.Vel.results_tmp3 rfl _ _ kr_ kr_ kr_) rfl ?_)))
       have S45:=St.pm 9 [1,2,3,0] S43
       exact .inr (.inr ⟨_,_,_,_,RV,hd9,hgood,by rw [htp];omega,hR1,hR2,rfl,by rw [htp];exact S45⟩)
end
end Go.Proofs
end
section
namespace Go.Proofs
open Go Go.Vel
theorem open_or (s:List UInt8)(hs:s.length=512):openF s=([],30)∨∃b,b.length≤504∧s=form (s.getD 0 0) b:=by
 rw [openF_at hs rfl rfl]
 split
 ·exact .inl rfl
 ·rename_i h
  split
  ·rename_i h2
   exact .inr ⟨_,by rw [List.length_take];omega,h2⟩
  ·exact .inl rfl
theorem form_end (t:UInt8)(b:List UInt8)(hb:b.length≤504):(form t b).getD 511 0=t:=by
 have hl:=length_text hb
 have e:form t b=(t::((text b).take 2++(le4 (crc (text b))++(text b).drop 2)))++[t]:=by unfold form;simp
 have h511:(t::((text b).take 2++(le4 (crc (text b))++(text b).drop 2))).length=511:=by simp [length_le4];omega
 rw [e,List.getD_eq_getElem?_getD,List.getElem?_append_right om_,h511]
 rfl
theorem open_ends (s:List UInt8)(hs:s.length=512)(h:s.getD 0 0≠s.getD 511 0):openF s=([],30):=by
 rcases open_or s hs with h1|⟨b,hb,h1⟩
 ·exact h1
 ·exfalso
  apply h
  have:=form_end (s.getD 0 0) b hb
  rw [←h1] at this
  exact this.symm
def step (s:List UInt8)(p:Nat)(x:UInt8):List UInt8:=s.set p (s.getD p 0^^^x)
end Go.Proofs
end
section
open Go Go.RowKit Go.Proofs.YtgeioealgidkiaaW.PrintWords Go.Proofs.YtgeioealgidkiaaW.PrintMore
namespace Go.Proofs
open Go.Vel
set_option linter.unusedVariables false
theorem openF_form (t:UInt8)(b:List UInt8)(ht:t.toNat≤2)(hb:b.length≤504):openF (form t b)=(b,0):=by
 obtain ⟨s0,s1,s2,s3,hs⟩:∃s0 s1 s2 s3,le4 (crc (text b))=[s0,s1,s2,s3]:=⟨_,_,_,_,rfl⟩
 have hf:=form_eq t b s0 s1 s2 s3 hs
 have h1:(form t b).getD 1 0=UInt8.ofNat (b.length%256):=by rw [hf];rfl
 have h2:(form t b).getD 2 0=UInt8.ofNat (b.length/256):=by rw [hf];rfl
 have hn:b.length=((form t b).getD 1 0).toNat+256*((form t b).getD 2 0).toNat:=by
  rw [h1,h2,UInt8.toNat_ofNat',UInt8.toNat_ofNat',Nat.mod_eq_of_lt (show b.length%256<2^8 by omega),Nat.mod_eq_of_lt (show b.length/256<2^8 by omega)];omega
 have h0:t=(form t b).getD 0 0:=rfl
 rw [openF_at (length_form t hb) h0 hn,if_neg om_]
 have hd:((form t b).drop 7).take b.length=b:=by
  rw [hf];simp
 rw [hd,if_pos rfl]
theorem turn_ne (x y:UInt8):turnOf x y≠x∧turnOf x y≠y∧(turnOf x y).toNat≤2:=by
 have e0:∀z:UInt8,(0:UInt8)≠z↔z.toNat≠0:=fun z=>by rw [ne_eq,←UInt8.toNat_inj];simp;omega
 have e1:∀z:UInt8,(1:UInt8)≠z↔z.toNat≠1:=fun z=>by rw [ne_eq,←UInt8.toNat_inj];simp;omega
 have e2:∀z:UInt8,(2:UInt8)≠z↔z.toNat≠2:=fun z=>by rw [ne_eq,←UInt8.toNat_inj];simp;omega
 unfold turnOf
 split
 ·rename_i h;exact ⟨h.1,h.2,by decide⟩
 ·split
  ·rename_i h;exact ⟨h.1,h.2,by decide⟩
  ·rename_i h h'
   rw [e0,e0] at h
   rw [e1,e1] at h'
   exact ⟨(e2 x).2 om_,(e2 y).2 om_,by decide⟩
theorem mix_is (a b:List UInt8)(c:Nat)(hc:c≤512)(ha:a.length=512)(hb:b.length=512)(h:a.getD 0 0≠b.getD 511 0):(a.take c++b.drop c)=b∨(a.take c++b.drop c)=a∨openF (a.take c++b.drop c)=([],30):=by
 rcases Nat.eq_zero_or_pos c with h0|h0
 ·left;rw [h0];simp
 ·rcases Nat.lt_or_ge c 512 with h5|h5
  ·right;right
   refine open_ends _ (by simp;omega) ?_
   have e0:(a.take c++b.drop c).getD 0 0=a.getD 0 0:=by
    rw [List.getD_eq_getElem?_getD,List.getD_eq_getElem?_getD,List.getElem?_append_left (by simp;omega),List.getElem?_take_of_lt h0]
   have e1:(a.take c++b.drop c).getD 511 0=b.getD 511 0:=by
    rw [List.getD_eq_getElem?_getD,List.getD_eq_getElem?_getD,List.getElem?_append_right (by simp;omega),List.getElem?_drop]
    have:c+(511-(a.take c).length)=511:=by rw [List.length_take];omega
    rw [this]
   rw [e0,e1];exact h
  ·right;left
   rw [List.take_of_length_le om_,List.drop_of_length_le om_,List.append_nil]
theorem over_mixes (o b:List UInt8)(c:Nat)(hc:c≤512)(ho:o.length=512)(hb:b.length≤504)(s:List UInt8)(hs:s=form (turnOf (o.getD 0 0) (o.getD 511 0)) b):
  s.length=512∧(let m:=o.take c++s.drop c;m=o∨m=s∨openF m=([],30))∧(let m:=s.take c++o.drop c;m=o∨m=s∨openF m=([],30)):=by
 obtain ⟨n0,n1,n2⟩:=turn_ne (o.getD 0 0) (o.getD 511 0)
 have hl:s.length=512:=by rw [hs];exact length_form _ hb
 have e0:s.getD 0 0=turnOf (o.getD 0 0) (o.getD 511 0):=by rw [hs];rfl
 have e1:s.getD 511 0=turnOf (o.getD 0 0) (o.getD 511 0):=by rw [hs];exact form_end _ b hb
 refine ⟨hl, ?_, ?_⟩
 ·rcases mix_is o s c hc ho hl (by rw [e1];exact n0.symm) with h|h|h
  ·exact .inr (.inl h)
  ·exact .inl h
  ·exact .inr (.inr h)
 ·rcases mix_is s o c hc hl ho (by rw [e0];exact n1) with h|h|h
  ·exact .inl h
  ·exact .inr (.inl h)
  ·exact .inr (.inr h)
theorem leN_le8 {no:Int}(h0:0≤no)(h1:no≤9223372036854775807):leN (le8 no)=no.toNat:=by
 have e:le8 no=(List.range 8).map fun i=>UInt8.ofNat (no.toNat/256^i%256):=by
  apply List.ext_getElem?
  intro k
  rw [List.getElem?_map]
  by_cases hk:k<8
  ·have h2:=le8_nat h0 hk
   rw [List.getElem?_range hk,Option.map_some,←h2,List.getD_eq_getElem?_getD,List.getElem?_eq_getElem (by rw [length_le8];exact hk)];rfl
  ·rw [List.getElem?_eq_none (by rw [length_le8];omega),List.getElem?_eq_none (by simpa using hk)];rfl
 rw [e]
 have hn:no.toNat≤9223372036854775807:=by omega
 generalize no.toNat=n at*
 simp only [List.range,List.range.loop,List.map_cons,List.map_nil,leN,UInt8.toNat_ofNat',Nat.reducePow,Nat.div_one]
 omega
theorem readF_new {t:UInt8}{no:Int}{d:List UInt8}(ht:t.toNat≤2)(h0:1≤no)(h1:no≤9223372036854775807)(hd:d.length≤496):readF (form t (le8 no++d))=(no.toNat,d):=by
 have h8:=length_le8 no
 have ho:=openF_form t (le8 no++d) ht (by rw [List.length_append];omega)
 have hk:(le8 no++d).take 8=le8 no:=by rw [List.take_append_of_le_length om_,List.take_of_length_le om_]
 have hdr:(le8 no++d).drop 8=d:=by rw [List.drop_append,List.drop_of_length_le om_,h8];rfl
 have hn:=leN_le8 (no:=no) om_ h1
 unfold readF
 rw [ho]
 simp only []
 rw [if_neg (by rw [List.length_append];omega),hk,hdr,hn,if_neg om_]
theorem readF_torn {m:List UInt8}(h:openF m=([],30)):readF m=(0,[]):=by
 unfold readF;rw [h];rfl
def putIn (a b:List UInt8)(slot:Nat)(x:List UInt8):List UInt8×List UInt8:=if slot=0 then (x,b) else (a,x)
theorem newest_of {l r:List UInt8}(h:l.length=512∧r.length=512):newestF l r=if (readF l).1=0∧(readF r).1=0 then (0,0,[],30) else if (readF l).1<(readF r).1 then (1,(readF r).1,(readF r).2,0) else (0,(readF l).1,(readF l).2,0):=by
 unfold newestF;rw [if_pos h]
structure Renewed (a b:List UInt8)(no:Int)(d:List UInt8):Prop where
 len:(renewF a b no d).2.1.length=512
 slot:(renewF a b no d).1=0∨(renewF a b no d).1=1
 other:(newestF a b).2.2.2=0→(renewF a b no d).1≠(newestF a b).1
 first:(newestF a b).2.2.2≠0→(renewF a b no d).1=0
 new:newestF (putIn a b (renewF a b no d).1 (renewF a b no d).2.1).1 (putIn a b (renewF a b no d).1 (renewF a b no d).2.1).2=((renewF a b no d).1,no.toNat,d,0)
 torn:∀m,m=(if (renewF a b no d).1=1 then b else a)∨m=(renewF a b no d).2.1∨openF m=([],30)→m.length=512→newestF (putIn a b (renewF a b no d).1 m).1 (putIn a b (renewF a b no d).1 m).2=((renewF a b no d).1,no.toNat,d,0)∨newestF (putIn a b (renewF a b no d).1 m).1 (putIn a b (renewF a b no d).1 m).2=newestF a b
 mix:∀c,c≤512→let o:=(if (renewF a b no d).1=1 then b else a);let s:=(renewF a b no d).2.1;(o.take c++s.drop c=o∨o.take c++s.drop c=s∨openF (o.take c++s.drop c)=([],30))∧(s.take c++o.drop c=o∨s.take c++o.drop c=s∨openF (s.take c++o.drop c)=([],30))
theorem renew_told {a b:List UInt8}{no:Int}{d:List UInt8}(hl:a.length=512∧b.length=512)(hd:d.length≤496)(hno:no≤9223372036854775807):
  ((renewF a b no d).2.2≠0∧¬(1≤no∧((newestF a b).2.2.2≠0∨((newestF a b).2.1:Int)<no)))∨((renewF a b no d).2.2=0∧(1≤no∧((newestF a b).2.2.2≠0∨((newestF a b).2.1:Int)<no))∧Renewed a b no d):=by
 by_cases h1:no<1
 ·left
  have e:renewF a b no d=(0,[],1):=by unfold renewF;rw [if_neg (fun h=>h hl),if_pos h1]
  rw [e];exact ⟨by decide,fun h=>by omega⟩
 by_cases h3:(newestF a b).2.2.2=0∧no≤((newestF a b).2.1:Int)
 ·left
  have e:renewF a b no d=(0,[],31):=by rw [renew_mid hl h1 om_,if_pos h3]
  rw [e];exact ⟨by decide,fun h=>by omega⟩
 right
 have h8:=length_le8 no
 have hbl:(le8 no++d).length≤504:=by rw [List.length_append];omega
 have e:=renew_end hl h1 (show¬496<d.length by omega) h3
 have sealed:∀o:List UInt8,o.length=512→sealF o (le8 no++d)=(form (turnOf (o.getD 0 0) (o.getD 511 0)) (le8 no++d),0):=fun o ho=>by unfold sealF;rw [if_neg om_,if_neg om_]
 have hnn:=newest_of hl
 have key:∀(slot:Nat) (o other:List UInt8),(slot=0∧o=a∧other=b)∨(slot=1∧o=b∧other=a)→(readF other).1<no.toNat→((newestF a b).2.2.2=0→newestF a b=(1-slot,(readF other).1,(readF other).2,0))→((newestF a b).2.2.2≠0→(readF other).1=0∧newestF a b=(0,0,[],30)∧slot=0)→renewF a b no d=(slot,form (turnOf (o.getD 0 0) (o.getD 511 0)) (le8 no++d),0)→(renewF a b no d).2.2=0∧Renewed a b no d:=by
  intro slot o other hs hlt hq0 hq1 er
  have ho:o.length=512:=by rcases hs with ⟨_,rfl,_⟩|⟨_,rfl,_⟩<;>omega
  obtain ⟨n0,n1,n2⟩:=turn_ne (o.getD 0 0) (o.getD 511 0)
  obtain ⟨s,hsd⟩:∃s,s=form (turnOf (o.getD 0 0) (o.getD 511 0)) (le8 no++d):=⟨_,rfl⟩
  have hsl:s.length=512:=by rw [hsd];exact length_form _ hbl
  have hrs:readF s=(no.toNat,d):=by rw [hsd];exact readF_new n2 om_ hno hd
  have hsl01:slot=0∨slot=1:=hs.elim (fun h=>.inl h.1) (fun h=>.inr h.1)
  have hold:(if slot=1 then b else a)=o:=by
   rcases hs with ⟨rfl,rfl,_⟩|⟨rfl,rfl,_⟩
   ·exact if_neg dc_
   ·exact if_pos rfl
  rw [←hsd] at er
  have hnew:newestF (putIn a b slot s).1 (putIn a b slot s).2=(slot,no.toNat,d,0):=by
   rcases hs with ⟨rfl,rfl,rfl⟩|⟨rfl,rfl,rfl⟩
   ·show newestF s other=_
    rw [newest_of ⟨hsl,hl.2⟩,hrs,if_neg (by simp only [];omega),if_neg (by simp only [];omega)]
   ·show newestF other s=_
    rw [newest_of ⟨hl.1,hsl⟩,hrs,if_neg (by simp only [];omega),if_pos (by simp only [];omega)]
  have hback:newestF (putIn a b slot o).1 (putIn a b slot o).2=newestF a b:=by
   rcases hs with ⟨rfl,rfl,rfl⟩|⟨rfl,rfl,rfl⟩<;>rfl
  have htorn:∀m:List UInt8,m.length=512→openF m=([],30)→newestF (putIn a b slot m).1 (putIn a b slot m).2=newestF a b:=fun m hm ht=>by
   have hr:=readF_torn ht
   by_cases hq:(newestF a b).2.2.2=0
   ·rw [hq0 hq]
    have hne:(readF other).1≠0:=fun h0=>by
     have h9:=hq0 hq
     rw [hnn] at h9
     split at h9
     ·exact absurd (show (30:Nat)=0 from congrArg (fun x=>x.2.2.2) h9) dc_
     ·rename_i hz
      split at h9
      ·rename_i hz2
       simp only [Prod.mk.injEq] at h9
       omega
      ·rename_i hz2
       simp only [Prod.mk.injEq] at h9
       omega
    rcases hs with ⟨rfl,rfl,rfl⟩|⟨rfl,rfl,rfl⟩
    ·show newestF m other=_
     rw [newest_of ⟨hm,hl.2⟩,hr,if_neg (by simp only [];omega),if_pos (by simp only [];omega)]
    ·show newestF other m=_
     rw [newest_of ⟨hl.1,hm⟩,hr,if_neg (by simp only [];omega),if_neg (by simp only [];omega)]
   ·obtain ⟨g1,g2,rfl⟩:=hq1 hq
    rw [g2]
    rcases hs with ⟨_,rfl,rfl⟩|⟨h,_⟩
    ·show newestF m other=_
     rw [newest_of ⟨hm,hl.2⟩,hr,if_pos ⟨rfl,g1⟩]
    ·cases h
  refine ⟨by rw [er],by rw [er];exact hsl,by rw [er];exact hsl01,fun hq=> ?_,fun hq=> ?_,by rw [er];exact hnew,fun m hm hm5=> ?_,fun c hc=> ?_⟩
  ·rw [er,hq0 hq];show slot≠1-slot;omega
  ·rw [er];exact (hq1 hq).2.2
  ·rw [er] at hm ⊢
   simp only [] at hm ⊢
   rw [hold] at hm
   rcases hm with rfl|rfl|hm
   ·exact .inr hback
   ·exact .inl hnew
   ·exact .inr (htorn m hm5 hm)
  ·rw [er]
   simp only []
   rw [hold]
   exact (over_mixes o (le8 no++d) c hc ho hbl s hsd).2
 have h13:1≤no∧((newestF a b).2.2.2≠0∨((newestF a b).2.1:Int)<no):=⟨by omega,by omega⟩
 by_cases hz:(readF a).1=0∧(readF b).1=0
 ·rw [if_pos hz] at hnn
  rw [hnn] at e h3
  rw [if_neg (by simp),sealed a hl.1] at e
  obtain ⟨r1,r2⟩:=key 0 a b (.inl ⟨rfl,rfl,rfl⟩) om_ (fun h=>by rw [hnn] at h;exact absurd (show (30:Nat)=0 from h) dc_) (fun _=>⟨hz.2,hnn,rfl⟩) e
  exact ⟨r1,h13,r2⟩
 ·rw [if_neg hz] at hnn
  by_cases hlt:(readF a).1<(readF b).1
  ·rw [if_pos hlt] at hnn
   rw [hnn] at e h3
   rw [if_neg (by simp),sealed a hl.1] at e
   obtain ⟨r1,r2⟩:=key 0 a b (.inl ⟨rfl,rfl,rfl⟩) (by have h4:¬no≤((readF b).1:Int):=fun h=>h3 ⟨rfl,h⟩;omega) (fun _=>hnn) (fun h=>by rw [hnn] at h;exact absurd rfl h) e
   exact ⟨r1,h13,r2⟩
  ·rw [if_neg hlt] at hnn
   rw [hnn] at e h3
   rw [if_pos ⟨rfl,rfl⟩,sealed b hl.2] at e
   obtain ⟨r1,r2⟩:=key 1 b a (.inr ⟨rfl,rfl,rfl⟩) (by have h4:¬no≤((readF a).1:Int):=fun h=>h3 ⟨rfl,h⟩;omega) (fun _=>hnn) (fun h=>by rw [hnn] at h;exact absurd rfl h) e
   exact ⟨r1,h13,r2⟩
structure Did (s s':Dsk)(m:Nat):Prop where
 len:s'.last.length=s.last.length
 life:s'.life=s.life
 pend:s'.pend.length≤s.pend.length+m
 left:s'.left≠0→s.left≠0
theorem Did.trans {s s1 s2:Dsk}{m n:Nat}(h:Did s s1 m)(g:Did s1 s2 n):Did s s2 (m+n):=
 ⟨g.len.trans h.len,g.life.trans h.life,by have:=h.pend;have:=g.pend;omega,fun q=>h.left (g.left q)⟩
theorem Did.le {s s1:Dsk}{m n:Nat}(h:Did s s1 m)(hmn:m≤n):Did s s1 n:=⟨h.len,h.life,by have:=h.pend;omega,h.left⟩
theorem Did.write (s:Dsk)(a:Int)(d:List UInt8):Did s (s.writeR a d).1 1:=by
 unfold Dsk.writeR
 split
 ·exact ⟨rfl,rfl,Nat.le_succ _,id⟩
 ·rename_i h
  split
  ·exact ⟨rfl,rfl,Nat.le_succ _,id⟩
  ·split
   ·exact ⟨rfl,rfl,Nat.le_succ _,id⟩
   ·exact ⟨rfl,rfl,by simp,fun _=>h⟩
theorem Did.flush (s:Dsk):Did s s.flushR.1 0:=by
 unfold Dsk.flushR
 split
 ·exact ⟨rfl,rfl,Nat.le_refl _,id⟩
 ·rename_i h;exact ⟨length_applyP _ _,rfl,Nat.zero_le _,fun _=>h⟩
theorem flushR_err (s:Dsk):(s.flushR.2=0∧s.flushR.1.pend=[]∧s.left≠0)∨(s.flushR.2=3∧s.flushR.1=s∧s.left=0):=by
 rcases flushR_cases s with ⟨h,e⟩|⟨h,e⟩
 ·rw [e];exact .inr ⟨rfl,rfl,h⟩
 ·rw [e];exact .inl ⟨rfl,rfl,h⟩
theorem DOk.write {s:Dsk}(h:DOk s)(a:Int)(d:List UInt8):DOk (s.writeR a d).1:=by
 by_cases hw:(s.writeR a d).2=0
 ·obtain ⟨h1,h2,h3,h4,e⟩:=writeR_ok hw
  rw [e]
  refine ⟨h.len,fun x hx=> ?_,h.n1,h.n2, ?_⟩
  ·rcases List.mem_append.1 hx with hx|hx
   ·exact h.plen x hx
   ·rw [List.mem_singleton] at hx;subst hx;exact ⟨h3,by show a.toNat<s.last.length;omega⟩
  ·have:=h.lb
   show-1≤spent s.left∧spent s.left≤_
   unfold spent;split<;>omega
 ·obtain ⟨e1,e2,e3,_⟩:=writeR_no hw
  exact ⟨by rw [e1];exact h.len,by rw [e1,e2];exact h.plen,by rw [e1];exact h.n1,by rw [e1];exact h.n2,by rw [e3];exact h.lb⟩
theorem renewR_did (s:Dsk)(f no:Nat):Did s (renewR s f no).1 1∧((renewR s f no).2=0∨(renewR s f no).2=3):=by
 unfold renewR
 obtain ⟨r,hr⟩:∃r,renewF (s.now f) (s.now (f+1)) (no:Int) []=r:=⟨_,rfl⟩
 rw [hr]
 simp only []
 have h1:=Did.write s ((f+r.1:Nat):Int) r.2.1
 split
 ·exact ⟨h1,.inr rfl⟩
 ·refine ⟨h1.trans (Did.flush _), ?_⟩
  rcases flushR_err (s.writeR ((f+r.1:Nat):Int) r.2.1).1 with h|h
  ·exact .inl h.1
  ·exact .inr h.1
def Low (s:Dsk)(f no:Nat):Prop:=(newestF (s.now f) (s.now (f+1))).2.2.2≠0∨(newestF (s.now f) (s.now (f+1))).2.1≤no
theorem Low.congr {s s':Dsk}{f no:Nat}(h:Low s f no)(h0:s'.now f=s.now f)(h1:s'.now (f+1)=s.now (f+1)):Low s' f no:=by
 unfold Low at*;rw [h0,h1];exact h
theorem Low.flush {s:Dsk}{f no:Nat}(h:Low s f no)(hf:f+1<s.last.length):Low s.flushR.1 f no:=h.congr (now_flushR om_) (now_flushR hf)
theorem Low.ren {s:Dsk}{f no no':Nat}(h:Low s f no)(hok:DOk s)(hf:f+1<s.last.length)(h1:no<no')(h2:no'≤9223372036854775807):(renewF (s.now f) (s.now (f+1)) (no':Int) []).2.2=0:=by
 rcases renew_told (a:=s.now f) (b:=s.now (f+1)) (no:=(no':Int)) (d:=[]) ⟨hok.now om_,hok.now hf⟩ (Nat.zero_le _) om_ with ⟨_,g⟩|⟨g,_⟩
 ·exact absurd ⟨by omega,h.elim .inl (fun q=>.inr om_)⟩ g
 ·exact g
theorem renewR_good {s:Dsk}(hok:DOk s){f no:Nat}(hf:f+1<s.last.length)(hno:no≤9223372036854775807)(hren:(renewF (s.now f) (s.now (f+1)) (no:Int) []).2.2=0):
  ((renewR s f no).2=0→∃x,newestF ((renewR s f no).1.now f) ((renewR s f no).1.now (f+1))=(x,no,[],0))∧((renewR s f no).2≠0→(renewR s f no).1.left=0)∧((renewR s f no).1.left≠0→(renewR s f no).1.pend=[])∧(∀k,k≠f→k≠f+1→k<s.last.length→(renewR s f no).1.now k=s.now k):=by
 by_cases hz:s.left=0
 ·rw [renewR_dead hz];exact ⟨fun h=>absurd (show (3:Int)=0 from h) dc_,fun _=>hz,fun h=>absurd hz h,fun _ _ _ _=>rfl⟩
 ·obtain ⟨hq1,hq5⟩:=renew_ok (hok.now om_) (hok.now hf) hren
  rw [renewR_go hz hf hq1 hq5]
  rcases renew_told (a:=s.now f) (b:=s.now (f+1)) (no:=(no:Int)) (d:=[]) ⟨hok.now om_,hok.now hf⟩ (Nat.zero_le _) om_ with ⟨g,_⟩|⟨_,_,g⟩
  ·exact absurd hren g
  ·have hnew:=g.new
   have hslot:=g.slot
   have hnw:∀k,(s.anch f no).now k=if f+(renewF (s.now f) (s.now (f+1)) (no:Int) []).1=k then (renewF (s.now f) (s.now (f+1)) (no:Int) []).2.1 else s.now k:=fun k=>now_write (s:=s) (s':=s.anch f no) rfl rfl k
   obtain ⟨r,hr⟩:∃r,renewF (s.now f) (s.now (f+1)) (no:Int) []=r:=⟨_,rfl⟩
   rw [hr] at hnew hslot hnw hq1
   have hn:∀k,k<s.last.length→(s.anch f no).flushR.1.now k=if f+r.1=k then r.2.1 else s.now k:=fun k hk=>(now_flushR (s:=s.anch f no) hk).trans (hnw k)
   refine ⟨fun _=>⟨r.1, ?_⟩,fun h=> ?_,fun h=> ?_,fun k h1 h2 h3=> ?_⟩
   ·rw [hn f om_,hn (f+1) hf]
    rcases hslot with h0|h0
    ·rw [h0,if_pos (show f+0=f from rfl),if_neg (show¬f+0=f+1 by omega)];rw [h0] at hnew;exact hnew
    ·rw [h0,if_neg (show¬f+1=f by omega),if_pos (show f+1=f+1 from rfl)];rw [h0] at hnew;exact hnew
   ·rcases flushR_err (s.anch f no) with q|q
    ·exact absurd q.1 h
    ·rw [q.2.1];exact q.2.2
   ·rcases flushR_err (s.anch f no) with q|q
    ·exact q.2.1
    ·rw [q.2.1] at h;exact absurd q.2.2 h
   ·rw [hn k h3,if_neg om_]
theorem laysR_did {l:Lg}{d:List UInt8}{c:Nat}(hc:c=countR d.length)(hn:1≤l.n):∀(k i:Nat) (s:Dsk),i+k=c→DOk s→l.first+2+l.n≤s.last.length→
  Did s (laysR l d c s i k).1 k∧((laysR l d c s i k).2=0∨(laysR l d c s i k).1.left=0)∧∀j,j<l.first+2→(laysR l d c s i k).1.now j=s.now j
 |0,i,s,_,_,_=>⟨⟨rfl,rfl,Nat.le_refl _,id⟩,.inl rfl,fun _ _=>rfl⟩
 |k+1,i,s,hk,hok,hin=>by
  have hp:=partR_len (d:=d) (i:=i) hc om_
  have hmod:(l.head+i)%l.n<l.n:=Nat.mod_lt _ om_
  have h5:(sealF (s.now (l.first+2+(l.head+i)%l.n)) (bodyR l.epoch (l.head+i) i c (partR d i))).1.length=512:=(sealF_len (hok.now om_) (by rw [length_bodyR];omega)).1
  have hlay:layR s l d i c=s.writeR ((l.first+2+(l.head+i)%l.n:Nat):Int) (sealF (s.now (l.first+2+(l.head+i)%l.n)) (bodyR l.epoch (l.head+i) i c (partR d i))).1:=rfl
  unfold laysR
  rw [hlay]
  obtain ⟨x,hx⟩:∃x,(sealF (s.now (l.first+2+(l.head+i)%l.n)) (bodyR l.epoch (l.head+i) i c (partR d i))).1=x:=⟨_,rfl⟩
  rw [hx] at h5 ⊢
  have hw:=Did.write s ((l.first+2+(l.head+i)%l.n:Nat):Int) x
  by_cases h0:(s.writeR ((l.first+2+(l.head+i)%l.n:Nat):Int) x).2≠0
  ·rw [if_pos h0]
   obtain ⟨e1,e2,e3,e4,_⟩:=writeR_no h0
   obtain ⟨_,g2⟩:=e4 om_ om_ h5
   exact ⟨hw.le om_,.inr (by rw [e3];exact g2),fun j _=>now_congr e1 e2 j⟩
  ·rw [if_neg h0]
   obtain ⟨_,_,_,_,e⟩:=writeR_ok (Classical.not_not.1 h0)
   obtain ⟨g1,g2,g3⟩:=laysR_did hc hn k (i+1) _ om_ (hok.write ((l.first+2+(l.head+i)%l.n:Nat):Int) x) (by rw [hw.len];exact hin)
   refine ⟨(hw.trans g1).le om_,g2,fun j hj=>(g3 j hj).trans ?_⟩
   rw [e,Int.toNat_natCast];exact (now_write (s:=s) (s':=s.wrote (l.first+2+(l.head+i)%l.n) x) rfl rfl j).trans (if_neg om_)
structure LgOk (m:Nat)(l:Lg):Prop where
 ok:LOk l
 hd:LHd l
 fit:l.first+2+l.n≤m
 end_:l.begun=true→l.head≤1073741824
structure Live (s:Dsk)(l:Lg):Prop where
 low:Low s l.first (l.epoch*4294967296+l.tail)
 pend:l.begun=true→s.pend.length≤l.head-l.tail
 top:l.begun=false→l.epoch≤l.top
structure WInv (k:Nat)(s:Dsk)(ls:List Lg):Prop where
 pend:s.pend.length≤1000
 room:s.left≠0→s.pend.length≤256
 life:0≤s.life∧s.life≤(k:Int)+1
 inj:∀(i j:Nat) (a b:Lg),ls[i]?=some a→ls[j]?=some b→a.life=b.life→i=j
 le:∀a∈ls,a.life≤s.life
 ok:∀a∈ls,LgOk s.last.length a
 live:∀a∈ls,aliveR s a=true→Live s a
theorem alive_iff {s:Dsk}{l:Lg}:aliveR s l=true↔s.left≠0∧s.life=l.life:=by unfold aliveR;simp
theorem inc_ok {x:Int}(h0:0≤x)(h1:x<9223372036854775807):inc x=x+1:=by unfold inc;rw [IntKind.wrap_i64];omega
theorem WInv.next {k:Nat}{s:Dsk}{ls:List Lg}(h:WInv k s ls):WInv (k+1) s ls:=⟨h.pend,h.room,⟨h.life.1,by have:=h.life.2;omega⟩,h.inj,h.le,h.ok,h.live⟩
theorem WInv.start {s:Dsk}(hp:s.pend=[])(hl:s.life=1):WInv 0 s []:=
 ⟨by rw [hp];exact Nat.zero_le _,fun _=>by rw [hp];exact Nat.zero_le _,by omega,fun i j a b h=>by simp at h,fun a h=>by simp at h,fun a h=>by simp at h,fun a h=>by simp at h⟩
theorem WInv.die {k:Nat}{s s':Dsk}{ls:List Lg}(h:WInv k s ls)(hk:k≤4398046511104)(hl:s'.life=inc s.life)(hlen:s'.last.length=s.last.length)(hp:s'.pend.length≤1000)(hr:s'.left≠0→s'.pend.length≤256):WInv (k+1) s' ls∧∀a∈ls,a.life<s'.life:=by
 obtain ⟨h1,h2⟩:=h.life
 have e:s'.life=s.life+1:=by rw [hl];exact inc_ok h1 om_
 have hlt:∀a∈ls,a.life<s'.life:=fun a ha=>by have:=h.le a ha;omega
 exact ⟨⟨hp,hr,by omega,h.inj,fun a ha=>by have:=hlt a ha;omega,fun a ha=>by rw [hlen];exact h.ok a ha,fun a ha q=>by have:=hlt a ha;have:=(alive_iff.1 q).2;omega⟩,hlt⟩
theorem WInv.push {k:Nat}{s:Dsk}{ls:List Lg}(h:WInv k s ls)(hlt:∀a∈ls,a.life<s.life){l:Lg}(hl:l.life=s.life)(ok:LgOk s.last.length l)(hv:Live s l):WInv k s (ls++[l]):=by
 have hg:∀i a,(ls++[l])[i]?=some a→(ls[i]?=some a∧a.life<s.life)∨(i=ls.length∧a=l):=fun i a q=>by
  by_cases hi:i<ls.length
  ·rw [List.getElem?_append_left hi] at q;exact .inl ⟨q,hlt a (List.mem_of_getElem? q)⟩
  ·rw [List.getElem?_append_right om_] at q
   have hi2:=(List.getElem?_eq_some_iff.1 q).1
   have:i-ls.length=0:=by simp at hi2;omega
   rw [this] at q
   simp at q
   exact .inr ⟨by omega,q.symm⟩
 have hm:∀a,a∈ls++[l]→a∈ls∨a=l:=fun a q=>by simpa using q
 refine ⟨h.pend,h.room,h.life,fun i j a b qi qj hab=> ?_,fun a q=> ?_,fun a q=> ?_,fun a q hq=> ?_⟩
 ·rcases hg i a qi with ⟨p1,p2⟩|⟨p1,p2⟩<;>rcases hg j b qj with ⟨q1,q2⟩|⟨q1,q2⟩
  ·exact h.inj i j a b p1 q1 hab
  ·subst q2;omega
  ·subst p2;omega
  ·omega
 ·rcases hm a q with q|rfl
  ·exact h.le a q
  ·omega
 ·rcases hm a q with q|rfl
  ·exact h.ok a q
  ·exact ok
 ·rcases hm a q with q|rfl
  ·exact h.live a q hq
  ·exact hv
structure Log1 (s:Dsk)(l:Lg)(s':Dsk)(l':Lg):Prop where
 len:s'.last.length=s.last.length
 slife:s'.life=s.life
 life:l'.life=l.life
 left:s'.left≠0→s.left≠0
 same:aliveR s l=false→s'=s∧l'=l
 ok:LgOk s.last.length l'
 pend:s'.pend.length≤1000
 room:s'.left≠0→s'.pend.length≤256
 live:aliveR s' l'=true→Live s' l'
theorem WInv.log1 {k:Nat}{s:Dsk}{ls:List Lg}{l:Lg}{i:Nat}(h:WInv k s ls)(hi:ls[i]?=some l):Log1 s l s l:=
 ⟨rfl,rfl,rfl,id,fun _=>⟨rfl,rfl⟩,h.ok l (List.mem_of_getElem? hi),h.pend,h.room,h.live l (List.mem_of_getElem? hi)⟩
theorem WInv.log {k:Nat}{s s':Dsk}{ls:List Lg}{l l':Lg}{i:Nat}(h:WInv k s ls)(hi:ls[i]?=some l)(g:Log1 s l s' l'):WInv (k+1) s' (ls.set i l'):=by
 by_cases hal:aliveR s l=false
 ·obtain ⟨rfl,rfl⟩:=g.same hal
  rw [show ls.set i l'=ls from by
   apply List.ext_getElem?
   intro j
   rw [List.getElem?_set]
   split
   ·rename_i e;subst e;rw [hi];split
    ·rfl
    ·rename_i hn;exact absurd (List.getElem?_eq_some_iff.1 hi).1 hn
   ·rfl]
  exact h.next
 ·have hal:aliveR s l=true:=by simpa using hal
  have hilt:=(List.getElem?_eq_some_iff.1 hi).1
  have hg:∀j a,(ls.set i l')[j]?=some a→(j=i∧a=l')∨(j≠i∧ls[j]?=some a):=fun j a q=>by
   rw [List.getElem?_set] at q
   by_cases e:i=j
   ·subst e;rw [if_pos rfl,if_pos hilt] at q;exact .inl ⟨rfl,(Option.some.inj q).symm⟩
   ·rw [if_neg e] at q;exact .inr ⟨fun x=>e x.symm,q⟩
  have hm:∀a,a∈ls.set i l'→a=l'∨∃j,j≠i∧ls[j]?=some a:=fun a q=>by
   obtain ⟨j,hj⟩:=List.getElem?_of_mem q
   rcases hg j a hj with ⟨_,e⟩|⟨e1,e2⟩
   ·exact .inl e
   ·exact .inr ⟨j,e1,e2⟩
  have hls:=(alive_iff.1 hal).2
  refine ⟨g.pend,g.room,by rw [g.slife];have:=h.life;omega,fun a b x y qa qb hxy=> ?_,fun a q=> ?_,fun a q=> ?_,fun a q hq=> ?_⟩
  ·rcases hg a x qa with ⟨p1,p2⟩|⟨p1,p2⟩<;>rcases hg b y qb with ⟨q1,q2⟩|⟨q1,q2⟩
   ·omega
   ·subst p2;have:=h.inj i b l y hi q2 (by rw [←g.life];exact hxy);omega
   ·subst q2;have:=h.inj a i x l p2 hi (by rw [←g.life];exact hxy);omega
   ·exact h.inj a b x y p2 q2 hxy
  ·rw [g.slife]
   rcases hm a q with rfl|⟨j,_,q⟩
   ·rw [g.life];omega
   ·exact h.le a (List.mem_of_getElem? q)
  ·rw [g.len]
   rcases hm a q with rfl|⟨j,_,q⟩
   ·exact g.ok
   ·exact h.ok a (List.mem_of_getElem? q)
  ·rcases hm a q with rfl|⟨j,hj,q⟩
   ·exact g.live hq
   ·have h9:=(alive_iff.1 hq).2
    rw [g.slife] at h9
    exact absurd (h.inj j i a l q hi om_) hj
theorem WInv.fuse {k:Nat}{s:Dsk}{ls:List Lg}(h:WInv k s ls)(n:Int):WInv (k+1) (s.fuseR n) ls:=by
 obtain ⟨e1,e2⟩:=fuseR_same s n
 have e3:(s.fuseR n).life=s.life:=by unfold Dsk.fuseR;split<;>rfl
 have e4:(s.fuseR n).left≠0→s.left≠0:=fun q hz=>q (by unfold Dsk.fuseR;rw [if_pos hz];exact hz)
 refine ⟨by rw [e2];exact h.pend,fun q=>by rw [e2];exact h.room (e4 q),by rw [e3];have:=h.life;omega,h.inj,fun a q=>by rw [e3];exact h.le a q,fun a q=>by rw [e1];exact h.ok a q,fun a q hq=> ?_⟩
 obtain ⟨g1,g2⟩:=alive_iff.1 hq
 have hv:=h.live a q (alive_iff.2 ⟨e4 g1,by rw [←e3];exact g2⟩)
 exact ⟨hv.low.congr (now_congr e1 e2 _) (now_congr e1 e2 _),fun b=>by rw [e2];exact hv.pend b,hv.top⟩
theorem ready_iff {s:Dsk}{l:Lg}:readyR s l=0↔aliveR s l=true∧l.begun=true:=by
 unfold readyR
 split
 ·rename_i h;rw [h];simp
 ·rename_i h
  split
  ·rename_i h2;rw [h2];simp
  ·rename_i h2;simp at h h2;simp [h,h2]
theorem WInv.sync1 {k:Nat}{s:Dsk}{ls:List Lg}{l:Lg}{i:Nat}(h:WInv k s ls)(hi:ls[i]?=some l):Log1 s l (syncR s l).1 l:=by
 unfold syncR
 split
 ·exact h.log1 hi
 ·rename_i hr
  obtain ⟨ha,hb⟩:=ready_iff.1 (Classical.not_not.1 hr)
  have hm:=List.mem_of_getElem? hi
  have hok:=h.ok l hm
  have hv:=h.live l hm ha
  have hf:=Did.flush s
  have hn:=hok.ok.n0
  have hfit:=hok.fit
  have hrm:=h.room (alive_iff.1 ha).1
  have hfp:=hf.pend
  refine ⟨hf.len,hf.life,rfl,hf.left,fun q=>absurd (ha.symm.trans q) dc_,hok,by omega,fun _=>by omega,fun _=>⟨hv.low.flush om_,fun b=>by have:=hv.pend b;omega,hv.top⟩⟩
theorem WInv.hstart {k:Nat}{s:Dsk}{ls:List Lg}{l:Lg}{i:Nat}(h:WInv k s ls)(hok:DOk s)(hi:ls[i]?=some l):aliveR s l=true→l.begun=false→(renewF (s.now l.first) (s.now (l.first+1)) (((l.top+1)*4294967296+0:Nat):Int) []).2.2=0:=fun ha hb=>by
 have hm:=List.mem_of_getElem? hi
 have hl:=h.ok l hm
 have hv:=h.live l hm ha
 have:=hl.ok.n0;have:=hl.fit;have:=hv.top hb;have:=hl.ok.tail;have:=hl.ok.top
 exact hv.low.ren hok om_ om_ om_
theorem WInv.htrim {k:Nat}{s:Dsk}{ls:List Lg}{l:Lg}{i:Nat}(h:WInv k s ls)(hok:DOk s)(hi:ls[i]?=some l):readyR s l=0→s.flushR.1.left≠0→l.tail≠l.head→(renewF (s.flushR.1.now l.first) (s.flushR.1.now (l.first+1)) ((l.epoch*4294967296+l.head:Nat):Int) []).2.2=0:=fun hr _ hne=>by
 obtain ⟨ha,hb⟩:=ready_iff.1 hr
 have hm:=List.mem_of_getElem? hi
 have hl:=h.ok l hm
 have hv:=h.live l hm ha
 have:=hl.ok.n0;have:=hl.fit;have:=hl.ok.epoch;have:=hl.end_ hb;have:=hl.hd.th
 rw [now_flushR om_,now_flushR om_]
 exact hv.low.ren hok om_ om_ om_
theorem DOk.flush {s:Dsk}(h:DOk s):DOk s.flushR.1:=by
 rcases flushR_cases s with ⟨_,e⟩|⟨_,e⟩
 ·rw [e];exact h
 ·rw [e]
  have h5:∀(ps:List (Nat×List UInt8)) (l:List (List UInt8)),(∀x∈l,x.length=512)→(∀x∈ps,x.2.length=512)→∀x∈applyP l ps,x.length=512:=by
   intro ps
   induction ps with
   |nil=>intro l hl _ x hx;exact hl x hx
   |cons p r ih=>
    intro l hl hp x hx
    refine ih (l.set p.1 p.2) (fun y hy=> ?_) (fun y hy=>hp y (List.mem_cons_of_mem _ hy)) x hx
    rcases List.mem_or_eq_of_mem_set hy with q|q
    ·exact hl y q
    ·rw [q];exact hp p (List.mem_cons_self)
  refine ⟨h5 s.pend s.last h.len (fun x hx=>(h.plen x hx).1),fun x hx=>by simp at hx,by show 1≤(applyP _ _).length;rw [length_applyP];exact h.n1,by show (applyP _ _).length≤_;rw [length_applyP];exact h.n2, ?_⟩
  have:=h.lb
  show-1≤spent s.left∧spent s.left≤_
  unfold spent;split<;>omega
theorem Low.of {s:Dsk}{f no:Nat}(h:∃x,newestF (s.now f) (s.now (f+1))=(x,no,[],0)):Low s f no:=by
 obtain ⟨x,h⟩:=h;unfold Low;rw [h];exact .inr (Nat.le_refl _)
theorem WInv.start1 {k:Nat}{s:Dsk}{ls:List Lg}{l:Lg}{i:Nat}(h:WInv k s ls)(hok:DOk s)(hi:ls[i]?=some l):Log1 s l (startR s l).1 (startR s l).2.1:=by
 have hren:=h.hstart hok hi
 unfold startR
 split
 ·exact h.log1 hi
 ·rename_i ha
  have ha:aliveR s l=true:=by simpa using ha
  split
  ·exact h.log1 hi
  ·rename_i hb
   have hb:l.begun=false:=by simpa using hb
   have hm:=List.mem_of_getElem? hi
   have hl:=h.ok l hm
   obtain ⟨q1,q2,q3,q4,q5,q6⟩:=id hl.ok
   have hfit:=hl.fit
   have hrm:=h.room (alive_iff.1 ha).1
   obtain ⟨g1,g2,g3,_⟩:=renewR_good hok (f:=l.first) (no:=(l.top+1)*4294967296+0) om_ om_ (hren ha hb)
   have hd:=(renewR_did s l.first ((l.top+1)*4294967296+0)).1
   obtain ⟨r,hr⟩:∃r,renewR s l.first ((l.top+1)*4294967296+0)=r:=⟨_,rfl⟩
   rw [hr] at g1 g2 g3 hd ⊢
   have hdp:=hd.pend
   have hrr:r.1.left≠0→r.1.pend.length≤0:=fun q=>by rw [g3 q];exact Nat.le_refl _
   simp only []
   split
   ·rename_i he
    exact ⟨hd.len,hd.life,rfl,hd.left,fun q=>absurd (ha.symm.trans q) dc_,hl,by show r.1.pend.length≤_;omega,fun q=>absurd (g2 he) q,fun q=>absurd (g2 he) (alive_iff.1 q).1⟩
   ·rename_i he
    have he:=Classical.not_not.1 he
    refine ⟨hd.len,hd.life,rfl,hd.left,fun q=>absurd (ha.symm.trans q) dc_,⟨⟨q1,q2,q3,by show l.top+1≤_;omega,q5,Nat.zero_le _⟩,⟨Nat.le_refl _,Nat.zero_le _⟩,hfit,fun _=>Nat.zero_le _⟩,by show r.1.pend.length≤_;omega,fun q=>by have:=hrr q;show r.1.pend.length≤_;omega,fun q=>⟨Low.of (g1 he),fun _=>hrr (alive_iff.1 q).1,fun b=>by cases b⟩⟩
theorem WInv.trim1 {k:Nat}{s:Dsk}{ls:List Lg}{l:Lg}{i:Nat}(h:WInv k s ls)(hok:DOk s)(hi:ls[i]?=some l):Log1 s l (trimR s l).1 (trimR s l).2.1:=by
 have hsy:=h.sync1 hi
 have hren:=h.htrim hok hi
 unfold trimR
 split
 ·exact h.log1 hi
 ·rename_i hr
  have hr:=Classical.not_not.1 hr
  obtain ⟨ha,hb⟩:=ready_iff.1 hr
  have es:(syncR s l).1=s.flushR.1:=by unfold syncR;rw [if_neg om_]
  rw [es] at hsy
  split
  ·exact hsy
  ·rename_i hne
   have hm:=List.mem_of_getElem? hi
   have hl:=h.ok l hm
   obtain ⟨q1,q2,q3,q4,q5,q6⟩:=id hl.ok
   have hfit:=hl.fit
   have hend:=hl.end_ hb
   have hlen:=hsy.len
   by_cases hz:s.flushR.1.left=0
   ·have e:=renewR_dead (first:=l.first) (no:=l.epoch*4294967296+l.head) hz
    rw [e]
    simp only []
    rw [if_pos dc_]
    exact hsy
   ·obtain ⟨g1,g2,g3,_⟩:=renewR_good hok.flush (f:=l.first) (no:=l.epoch*4294967296+l.head) om_ om_ (hren hr hz (fun e=>hne (.inr e)))
    have hd:=(renewR_did s.flushR.1 l.first (l.epoch*4294967296+l.head)).1
    obtain ⟨r,hrr⟩:∃r,renewR s.flushR.1 l.first (l.epoch*4294967296+l.head)=r:=⟨_,rfl⟩
    rw [hrr] at g1 g2 g3 hd ⊢
    have hdp:=hd.pend
    have hsr:=hsy.room hz
    have hr0:r.1.left≠0→r.1.pend.length≤0:=fun q=>by rw [g3 q];exact Nat.le_refl _
    simp only []
    split
    ·rename_i he
     exact ⟨hd.len.trans hlen,hd.life.trans hsy.slife,rfl,fun q=>hsy.left (hd.left q),fun q=>absurd (ha.symm.trans q) dc_,hl,by show r.1.pend.length≤_;omega,fun q=>absurd (g2 he) q,fun q=>absurd (g2 he) (alive_iff.1 q).1⟩
    ·rename_i he
     have he:=Classical.not_not.1 he
     refine ⟨hd.len.trans hlen,hd.life.trans hsy.slife,rfl,fun q=>hsy.left (hd.left q),fun q=>absurd (ha.symm.trans q) dc_,⟨⟨q1,q2,q3,q4,q5,hend⟩,⟨Nat.le_refl _,Nat.le_add_right _ _⟩,hfit,fun _=>hend⟩,by show r.1.pend.length≤_;omega,fun q=>by have:=hr0 q;show r.1.pend.length≤_;omega,fun q=>⟨Low.of (g1 he),fun _=>Nat.le_trans (hr0 (alive_iff.1 q).1) (Nat.zero_le _),fun b=>absurd (hb.symm.trans b) dc_⟩⟩
theorem WInv.append1 {k:Nat}{s:Dsk}{ls:List Lg}{l:Lg}{i:Nat}(h:WInv k s ls)(hok:DOk s)(hi:ls[i]?=some l)(d:List UInt8):Log1 s l (appendR s l d).1 (appendR s l d).2.1:=by
 unfold appendR
 split
 ·exact h.log1 hi
 ·rename_i hr
  split
  ·exact h.log1 hi
  ·rename_i h0
   split
   ·exact h.log1 hi
   ·rename_i h1
    split
    ·exact h.log1 hi
    ·rename_i h2
     split
     ·exact h.log1 hi
     ·rename_i h3
      obtain ⟨ha,hb⟩:=ready_iff.1 (Classical.not_not.1 hr)
      have hm:=List.mem_of_getElem? hi
      have hl:=h.ok l hm
      have hv:=h.live l hm ha
      have hvp:=hv.pend hb
      obtain ⟨q1,q2,q3,q4,q5,q6⟩:=id hl.ok
      obtain ⟨q7,q8⟩:=hl.hd
      have hc:countR d.length≤17:=by unfold countR;omega
      obtain ⟨g1,g2,g3⟩:=laysR_did (l:=l) (d:=d) rfl om_ (countR d.length) 0 s (Nat.zero_add _) hok hl.fit
      obtain ⟨r,hrr⟩:∃r,laysR l d (countR d.length) s 0 (countR d.length)=r:=⟨_,rfl⟩
      rw [hrr] at g1 g2 g3 ⊢
      have hp:=g1.pend
      have hrm:=h.room (alive_iff.1 ha).1
      simp only []
      split
      ·rename_i he
       have hz:=g2.resolve_left he
       exact ⟨g1.len,g1.life,rfl,g1.left,fun q=>absurd (ha.symm.trans q) dc_,hl,by show r.1.pend.length≤_;omega,fun q=>absurd hz q,fun q=>absurd hz (alive_iff.1 q).1⟩
      ·refine ⟨g1.len,g1.life,rfl,g1.left,fun q=>absurd (ha.symm.trans q) dc_,⟨⟨q1,q2,q3,q4,q5,q6⟩,⟨by show l.tail≤l.head+_;omega,by show l.head+countR d.length≤l.tail+l.n;omega⟩,hl.fit,fun _=>by show l.head+countR d.length≤_;omega⟩,by show r.1.pend.length≤_;omega,fun _=>by show r.1.pend.length≤_;omega,fun _=>⟨hv.low.congr (g3 _ om_) (g3 _ om_),fun _=>by show r.1.pend.length≤l.head+countR d.length-l.tail;omega,fun b=>absurd (hb.symm.trans b) dc_⟩⟩
theorem WInv.open_ {k:Nat}{s:Dsk}{ls:List Lg}(h:WInv k s ls)(hok:DOk s)(hk:k≤4398046511104){first n:Int}(ha:argsR s first n=0){ep tl hd:Nat}{R:List (List UInt8)}(hn:newR s.take first.toNat=some (ep,tl))(ht:topTo (pcAt s.take first.toNat n.toNat) ep n.toNat≠1073741824)(hr:Recs (pcAt s.take first.toNat n.toNat) ep tl R hd):
  WInv (k+1) s.take.flushR.1 (ls++[⟨first.toNat,n.toNat,inc s.life,ep,topTo (pcAt s.take first.toNat n.toNat) ep n.toNat,tl,hd,false⟩]):=by
 obtain ⟨hz,hf0,hm18,hm256,hin⟩:=argsR_ok ha
 have hf:=Did.flush s.take
 have hfp:=hf.pend
 have hsp:s.take.pend.length=s.pend.length:=rfl
 have hp:=h.pend
 have hrm:=h.room hz
 have hlen:s.take.last.length=s.last.length:=rfl
 have hlen2:=hf.len
 obtain ⟨g1,g2⟩:=h.die hk (s':=s.take.flushR.1) hf.life hf.len om_ (fun _=>by omega)
 have hnw:newestF (s.take.now first.toNat) (s.take.now (first.toNat+1))=newestF (s.take.flushR.1.now first.toNat) (s.take.flushR.1.now (first.toNat+1)):=by rw [now_flushR (by rw [hlen];omega),now_flushR (by rw [hlen];omega)]
 unfold newR at hn
 simp only [] at hn
 split at hn
 ·cases hn
 ·rename_i hb
  have e:=Option.some.inj hn
  have e1:(newestF (s.take.now first.toNat) (s.take.now (first.toNat+1))).2.1/4294967296=ep:=congrArg (·.1) e
  have e2:(newestF (s.take.now first.toNat) (s.take.now (first.toNat+1))).2.1%4294967296=tl:=congrArg (·.2) e
  have hep:ep≤1073741824:=by rw [←e1];exact Nat.not_lt.1 fun q=>hb (.inr (.inr (.inr (.inl q))))
  have htl:tl≤1073741824:=by rw [←e2];exact Nat.not_lt.1 fun q=>hb (.inr (.inr (.inr (.inr q))))
  have htop:=topTo_le (pcAt s.take first.toNat n.toNat) ep hep n.toNat
  have htge:=topTo_ge (pcAt s.take first.toNat n.toNat) ep n.toNat
  have hn2:first.toNat+2+n.toNat≤s.take.flushR.1.last.length:=by rw [hlen2,hlen];omega
  refine g1.push g2 hf.life.symm ⟨⟨?_,by show 18≤n.toNat;omega,by show n.toNat≤256;omega,hep,by show topTo _ _ _<_;omega,htl⟩,⟨hr.le,hr.room (n:=n.toNat) (fun p=>pcAt_round _ _ _ p) om_⟩,hn2,fun b=>by cases b⟩ ⟨.inr ?_,fun b=>absurd (show false=true from b) dc_,fun _=>htge⟩
  ·have:=hok.n2;show first.toNat≤2048;omega
  ·show (newestF (s.take.flushR.1.now first.toNat) (s.take.flushR.1.now (first.toNat+1))).2.1≤ep*4294967296+tl
   rw [←hnw,←e1,←e2];omega
theorem leB_cons (v n:Nat):leB v (n+1)=UInt8.ofNat (v%256)::leB (v/256) n:=by
 unfold leB
 rw [List.range_succ_eq_map,List.map_cons,List.map_map]
 congr 1
 ·simp
 ·apply List.map_congr_left
  intro i _
  simp only [Function.comp]
  rw [Nat.pow_succ',Nat.div_div_eq_div_mul]
theorem leN_leB:∀(n v:Nat),leN (leB v n)=v%256^n
 |0,v=>by simp [leB,leN,Nat.mod_one]
 |n+1,v=>by
  rw [leB_cons,leN,leN_leB n,UInt8.toNat_ofNat',Nat.mod_eq_of_lt (show v%256<2^8 from by omega),Nat.pow_succ',Nat.mod_mul]
theorem leN_leB_lt {n v:Nat}(h:v<256^n):leN (leB v n)=v:=by rw [leN_leB,Nat.mod_eq_of_lt h]
theorem cut_app {α:Type}(a b c:List α){i n:Nat}(hi:a.length=i)(hn:b.length=n):((a++(b++c)).drop i).take n=b:=by
 subst hi hn
 rw [List.drop_append,List.drop_of_length_le (Nat.le_refl _),List.nil_append,Nat.sub_self,List.drop_zero,List.take_append,List.take_of_length_le (Nat.le_refl _),Nat.sub_self,List.take_zero,List.append_nil]
theorem pcOf_body {E p i c:Nat}{d:List UInt8}(hE:E<4294967296)(hp:p<4294967296)(hi:i<65536)(hc:c<65536):pcOf (bodyR E p i c d)=⟨E,p,i,c,d⟩:=by
 have l4:=length_leB E 4
 have m4:=length_leB p 4
 have l2:=length_leB i 2
 have m2:=length_leB c 2
 unfold pcOf numN bodyR
 have e1:((leB E 4++leB p 4++leB i 2++leB c 2++d).drop 0).take 4=leB E 4:=by
  have:=cut_app [] (leB E 4) (leB p 4++(leB i 2++(leB c 2++d))) rfl l4
  simpa [List.append_assoc] using this
 have e2:((leB E 4++leB p 4++leB i 2++leB c 2++d).drop 4).take 4=leB p 4:=by
  have:=cut_app (leB E 4) (leB p 4) (leB i 2++(leB c 2++d)) l4 m4
  simpa [List.append_assoc] using this
 have e3:((leB E 4++leB p 4++leB i 2++leB c 2++d).drop 8).take 2=leB i 2:=by
  have:=cut_app (leB E 4++leB p 4) (leB i 2) (leB c 2++d) (i:=8) (by rw [List.length_append];omega) l2
  simpa [List.append_assoc] using this
 have e4:((leB E 4++leB p 4++leB i 2++leB c 2++d).drop 10).take 2=leB c 2:=by
  have:=cut_app (leB E 4++leB p 4++leB i 2) (leB c 2) d (i:=10) (by rw [List.length_append,List.length_append];omega) m2
  simpa [List.append_assoc] using this
 have e5:(leB E 4++leB p 4++leB i 2++leB c 2++d).drop 12=d:=by
  rw [List.drop_append,List.drop_of_length_le (by simp only [List.length_append];omega),List.nil_append]
  rw [show 12-(leB E 4++leB p 4++leB i 2++leB c 2).length=0 by simp only [List.length_append];omega,List.drop_zero]
 rw [e1,e2,e3,e4,e5,leN_leB_lt om_,leN_leB_lt om_,leN_leB_lt om_,leN_leB_lt om_]
def partF (o:List UInt8)(E p i c:Nat)(d:List UInt8):List UInt8:=(sealF o (bodyR E p i c d)).1
theorem partF_form {o:List UInt8}{E p i c:Nat}{d:List UInt8}(ho:o.length=512)(hd:d.length≤492):partF o E p i c d=form (turnOf (o.getD 0 0) (o.getD 511 0)) (bodyR E p i c d):=by
 unfold partF sealF
 rw [if_neg om_,if_neg (by rw [length_bodyR];omega)]
theorem pcF_part {o:List UInt8}{E p i c:Nat}{d:List UInt8}(ho:o.length=512)(hd:d.length≤492)(hE:E<4294967296)(hp:p<4294967296)(hi:i<65536)(hc:c<65536):pcF (partF o E p i c d)=⟨E,p,i,c,d⟩:=by
 have h:=openF_form (turnOf (o.getD 0 0) (o.getD 511 0)) (bodyR E p i c d) (turn_ne _ _).2.2 (by rw [length_bodyR];omega)
 unfold pcF
 rw [partF_form ho hd,h,if_pos ⟨rfl,by rw [length_bodyR];omega⟩]
 exact pcOf_body hE hp hi hc
theorem pcF_torn {m:List UInt8}(h:openF m=([],30)):pcF m=pcNo:=by
 unfold pcF;rw [h,if_neg (by simp)]
def Over (o x:List UInt8):Prop:=o.length=512∧∃b,b.length≤504∧x=form (turnOf (o.getD 0 0) (o.getD 511 0)) b
theorem torn_over {o x:List UInt8}(h:Over o x)(p:Pick):tornS [o,x] p=o∨tornS [o,x] p=x∨openF (tornS [o,x] p)=([],30):=by
 obtain ⟨ho,b,hb,hx⟩:=h
 have hc:p.2.2.toNat%513≤512:=by have:=Nat.mod_lt p.2.2.toNat (show 0<513 by decide);omega
 obtain ⟨hl,m1,m2⟩:=over_mixes o b (p.2.2.toNat%513) hc ho hb x hx
 have hi:∀q:Nat,[o,x].getD (q% [o,x].length) []=o∨[o,x].getD (q% [o,x].length) []=x:=fun q=>by
  have h2:q% [o,x].length=0∨q% [o,x].length=1:=by
   have:=Nat.mod_lt q (show 0<2 by decide)
   have e:[o,x].length=2:=rfl
   rw [e];omega
  rcases h2 with h2|h2<;>rw [h2]
  ·exact .inl rfl
  ·exact .inr rfl
 have hid:∀y:List UInt8,y.take (p.2.2.toNat%513)++y.drop (p.2.2.toNat%513)=y:=fun y=>List.take_append_drop _ y
 unfold tornS
 rcases hi p.1.toNat with e1|e1<;>rcases hi p.2.1.toNat with e2|e2<;>rw [e1,e2]
 ·exact .inl (hid o)
 ·exact m1
 ·exact m2
 ·exact .inr (.inl (hid x))
structure Sgl (s:Dsk):Prop where
 nodup:(s.pend.map (·.1)).Nodup
 over:∀x∈s.pend,Over (s.last.getD x.1 []) x.2
theorem Sgl.nil {s:Dsk}(h:s.pend=[]):Sgl s:=⟨by rw [h];exact List.nodup_nil,fun x hx=>by rw [h] at hx;cases hx⟩
theorem pend_one:∀{l:List (Nat×List UInt8)},(l.map (·.1)).Nodup→∀{x:Nat×List UInt8},x∈l→(l.filter (fun y=>y.1==x.1)).map (·.2)=[x.2]
 |[],_,x,h=>by cases h
 |y::r,hn,x,h=>by
  rw [List.map_cons,List.nodup_cons] at hn
  by_cases hxy:y.1=x.1
  ·have hno:r.filter (fun z=>z.1==x.1)=[]:=by
    rw [List.filter_eq_nil_iff]
    intro z hz hb
    exact hn.1 (List.mem_map.2 ⟨z,hz,by rw [hxy];simpa using hb⟩)
   rcases List.mem_cons.1 h with rfl|h
   ·rw [List.filter_cons_of_pos (by simp),hno];rfl
   ·exact absurd (List.mem_map.2 ⟨x,h,hxy.symm⟩) hn.1
  ·rw [List.filter_cons_of_neg (by simpa using hxy)]
   rcases List.mem_cons.1 h with rfl|h
   ·exact absurd rfl hxy
   ·exact pend_one hn.2 h
theorem Sgl.now {s:Dsk}(h:Sgl s){x:Nat×List UInt8}(hx:x∈s.pend):pendOf s x.1=[x.2]∧s.now x.1=x.2:=by
 have e:pendOf s x.1=[x.2]:=pend_one h.nodup hx
 refine ⟨e, ?_⟩
 unfold Dsk.now;rw [e];rfl
theorem now_free {s:Dsk}{k:Nat}(h:∀x∈s.pend,x.1≠k):pendOf s k=[]∧s.now k=s.last.getD k []:=by
 have e:pendOf s k=[]:=by
  unfold pendOf
  rw [List.map_eq_nil_iff,List.filter_eq_nil_iff]
  intro x hx hb
  exact h x hx (by simpa using hb)
 exact ⟨e,Dsk.now_none e⟩
theorem crash_at' {s:Dsk}{k:Nat}(hk:k<s.last.length)(ps:List Pick):(pendOf s k=[]∧(s.crashR ps).last.getD k []=s.last.getD k [])∨(pendOf s k≠[]∧∃i,(s.crashR ps).last.getD k []=tornS (candS s k) (pickAt ps i)):=by
 show (pendOf s k=[]∧(applyP s.last (crashOuts s ps)).getD k []=_)∨(_∧∃i,(applyP s.last (crashOuts s ps)).getD k []=_)
 have hmem:∀x∈crashOuts s ps,∃i,x.2=tornS (candS s x.1) (pickAt ps i)∧pendOf s x.1≠[]:=fun x hx=>by
  unfold crashOuts at hx
  obtain ⟨i,hi,rfl⟩:=List.mem_mapIdx.1 hx
  have hm:(crashKeys s)[i]∈crashKeys s:=List.getElem_mem hi
  exact ⟨i,rfl,(keysTo_mem.1 hm).2⟩
 rw [List.getD_eq_getElem?_getD,get_applyP]
 by_cases hp:pendOf s k=[]
 ·refine .inl ⟨hp, ?_⟩
  have hn:newest (crashOuts s ps) k=none:=by
   unfold newest
   rw [List.getLast?_eq_none_iff,List.map_eq_nil_iff,List.filter_eq_nil_iff]
   intro x hx hb
   obtain ⟨i,_,h2⟩:=hmem x hx
   have:x.1=k:=by simpa using hb
   subst this;exact h2 hp
  rw [hn,List.getD_eq_getElem?_getD]
 ·refine .inr ⟨hp, ?_⟩
  have hkm:k∈crashKeys s:=keysTo_mem.2 ⟨hk,hp⟩
  have hne:newest (crashOuts s ps) k≠none:=by
   unfold newest
   rw [ne_eq,List.getLast?_eq_none_iff,List.map_eq_nil_iff,List.filter_eq_nil_iff]
   intro h
   obtain ⟨j,hj⟩:=List.getElem?_of_mem hkm
   have hx:outOf s ps j k∈crashOuts s ps:=by
    unfold crashOuts
    have hl:=(List.getElem?_eq_some_iff.1 hj).1
    exact List.mem_mapIdx.2 ⟨j,hl,by rw [(List.getElem?_eq_some_iff.1 hj).2]⟩
   exact h _ hx (by simp [outOf])
  cases hq:newest (crashOuts s ps) k with
  |none=>exact absurd hq hne
  |some d=>
   unfold newest at hq
   have hm:=List.mem_of_getLast? hq
   obtain ⟨x,hx,rfl⟩:=List.mem_map.1 hm
   obtain ⟨hx1,hx2⟩:=List.mem_filter.1 hx
   obtain ⟨i,h1,_⟩:=hmem x hx1
   have h3:x.1=k:=by simpa using hx2
   simp only []
   rw [if_pos hk,h1,h3]
   exact ⟨i,rfl⟩
theorem applyP_self':∀(ps:List (Nat×List UInt8)) (l:List (List UInt8)),(∀x∈ps,x.1<l.length∧x.2=l.getD x.1 [])→applyP l ps=l
 |[],_,_=>rfl
 |x::r,l,h=>by
  obtain ⟨h1,h2⟩:=h x List.mem_cons_self
  have e:l.set x.1 x.2=l:=by
   rw [h2,List.getD_eq_getElem?_getD,List.getElem?_eq_getElem h1];exact List.set_getElem_self h1
  unfold applyP;rw [List.foldl_cons,e]
  exact applyP_self' r l fun y hy=>h y (List.mem_cons_of_mem _ hy)
theorem crash_nil' (s:Dsk):(s.crashR []).last=s.last:=by
 refine applyP_self' _ _ fun x hx=> ?_
 unfold crashOuts at hx
 obtain ⟨i,hi,rfl⟩:=List.mem_mapIdx.1 hx
 have hm:(crashKeys s)[i]∈crashKeys s:=List.getElem_mem hi
 refine ⟨(keysTo_mem.1 hm).1, ?_⟩
 show tornS (candS s _) (0,0,0)=_
 unfold tornS candS
 simp
 rfl
structure CutOf (s x:Dsk):Prop where
 pend:x.pend=[]
 len:x.last.length=s.last.length
 free:∀k,k<s.last.length→(∀y∈s.pend,y.1≠k)→x.last.getD k []=s.last.getD k []
 one:∀y∈s.pend,x.last.getD y.1 []=s.last.getD y.1 []∨x.last.getD y.1 []=y.2∨openF (x.last.getD y.1 [])=([],30)
theorem Sgl.cut {s:Dsk}(h:Sgl s)(hok:DOk s)(ps:List Pick):CutOf s (s.crashR ps):=by
 refine ⟨rfl,crashR_len s ps,fun k hk hf=> ?_,fun y hy=> ?_⟩
 ·rcases crash_at' hk ps with ⟨_,e⟩|⟨e,_⟩
  ·exact e
  ·exact absurd (now_free hf).1 e
 ·obtain ⟨e1,e2⟩:=h.now hy
  rcases crash_at' (hok.plen y hy).2 ps with ⟨e,_⟩|⟨_,i,e⟩
  ·rw [e1] at e;cases e
  ·rw [e]
   show tornS (s.last.getD y.1 []::pendOf s y.1) _=_∨tornS (s.last.getD y.1 []::pendOf s y.1) _=_∨openF (tornS (s.last.getD y.1 []::pendOf s y.1) _)=_
   rw [e1]
   exact torn_over (h.over y hy) _
section
theorem Recs.congr {pc pc':Nat→Pc}{E a:Nat}{R:List (List UInt8)}{h:Nat}(r:Recs pc E a R h)(hq:∀p i c,a≤p→p<h→(pc p).Part E p i c→pc' p=pc p):Recs pc' E a R h:=by
 induction r with
 |nil=>exact .nil
 |@step R h c r hr ih=>
  have hp:∀j,j<c→pc' (h+j)=pc (h+j):=fun j hj=>hq (h+j) j c (by have:=r.le;omega) om_ (hr.part j hj)
  have e:catF pc h c=catF pc' h c:=by
   unfold catF
   congr 1
   apply List.map_congr_left
   intro j hj
   rw [hp j (List.mem_range.1 hj)]
  rw [e]
  have hc:=hr.c1
  refine Recs.step (ih fun p i c' h1 h2 h3=>hq p i c' h1 om_ h3) ⟨hr.c1,hr.c17, ?_,fun j hj=> ?_⟩
  ·have:=hp 0 om_
   rw [Nat.add_zero] at this
   rw [this];exact hr.cnt
  ·rw [hp j hj];exact hr.part j hj
theorem Recs.pre {pc:Nat→Pc}{e:Nat}:∀(k:Nat) {a:Nat} {R R':List (List UInt8)} {h h':Nat},R.length≤k→Recs pc e a R h→Recs pc e a R' h'→NoRec pc e h'→R.length≤R'.length∧R=R'.take R.length
 |k,a,R,R',h,h',hk,r,r',e'=>by
  by_cases hx:∃c,IsRec pc e a c
  ·obtain ⟨c,hc⟩:=hx
   rcases r.uncons hc with ⟨rfl,rfl⟩|⟨R1,rfl,r1⟩
   ·exact ⟨Nat.zero_le _,by simp⟩
   ·rcases r'.uncons hc with ⟨rfl,rfl⟩|⟨R2,rfl,r2⟩
    ·exact absurd hc (e' c)
    ·cases k with
     |zero=>exact absurd hk (by simp)
     |succ k=>
      obtain ⟨q1,q2⟩:=Recs.pre k (by simpa using hk) r1 r2 e'
      refine ⟨by simpa using q1, ?_⟩
      rw [List.length_cons,List.take_succ_cons,←q2]
  ·have hno:∀{R h},Recs pc e a R h→R=[]:=fun {R h} r=>by
    have h1:R=[]∧h=a∨False:=by
     induction r with
     |nil=>exact .inl ⟨rfl,rfl⟩
     |step _ hr ih=>
      rcases ih with ⟨rfl,rfl⟩|h
      ·exact .inr (hx ⟨_,hr⟩)
      ·exact .inr h
    exact (h1.elim id False.elim).1
   have e0:=hno r
   subst e0
   exact ⟨Nat.zero_le _,by simp⟩
def Dsk.lst (s:Dsk)(k:Nat):List UInt8:=s.last.getD k []
structure Core (s:Dsk)(n E T Y H H':Nat)(R:List (List UInt8))(low:Nat):Prop where
 n0:18≤n∧n≤256
 len:s.last.length=n+2
 sgl:Sgl s
 ends:T≤Y∧Y≤H∧H≤H'∧H'≤T+n
 keys:∀y∈s.pend,∃p,Y≤p∧p<H'∧y.1=2+p%n∧(pcF y.2).epoch=E∧(pcF y.2).pos=p
 pair:∃x,newestF (s.lst 0) (s.lst 1)=(x,E*4294967296+T,[],0)
 old:∀k,k<n→(pcF (s.lst (2+k))).epoch≤E∧((pcF (s.lst (2+k))).epoch=E→(pcF (s.lst (2+k))).data≠[]→(pcF (s.lst (2+k))).pos<Y)
 recs:Recs (pcAt s 0 n) E T R H
 low:low≤R.length∧Recs (pcAt s 0 n) E T (R.take low) Y
theorem pcAt_lst {s:Dsk}{n p:Nat}(h:∀y∈s.pend,y.1≠2+p%n):pcAt s 0 n p=pcF (s.lst (2+p%n)):=by
 unfold pcAt Dsk.lst
 rw [Nat.zero_add,(now_free h).2]
theorem pcAt_new {s:Dsk}{n p:Nat}(hs:Sgl s){y:Nat×List UInt8}(hy:y∈s.pend)(h:y.1=2+p%n):pcAt s 0 n p=pcF y.2:=by
 unfold pcAt
 rw [Nat.zero_add,←h,(hs.now hy).2]
theorem mod_eq_far {n p q:Nat}(h:p%n=q%n)(h1:p<q+n)(h2:q<p+n):p=q:=by
 rcases Nat.lt_or_ge p q with hlt|hge
 ·have e:(q-p)%n=0:=by
   have:=Nat.sub_mod_eq_zero_of_mod_eq h.symm
   exact this
  rw [Nat.mod_eq_of_lt om_] at e;omega
 ·have e:(p-q)%n=0:=Nat.sub_mod_eq_zero_of_mod_eq h
  rw [Nat.mod_eq_of_lt om_] at e;omega
section
variable {s:Dsk}{n E T Y H H':Nat}{R:List (List UInt8)}{low:Nat}
theorem Core.none (h:Core s n E T Y H H' R low){q i c:Nat}(hq:H'≤q):¬(pcAt s 0 n q).Part E q i c:=by
 intro hp
 have hn:=h.n0
 have he:=h.ends
 have hm:=Nat.mod_lt q (show 0<n by omega)
 by_cases hx:∃y∈s.pend,y.1=2+q%n
 ·obtain ⟨y,hy,e⟩:=hx
  obtain ⟨p,h1,h2,h3,h4,h5⟩:=h.keys y hy
  rw [pcAt_new h.sgl hy e] at hp
  have:=hp.pos;omega
 ·rw [pcAt_lst (fun y hy e=>hx ⟨y,hy,e⟩)] at hp
  have:=(h.old (q%n) hm).2 hp.epoch hp.data
  have:=hp.pos;omega
theorem Core.no (h:Core s n E T Y H H R low):NoRec (pcAt s 0 n) E H:=fun c hr=>h.none (Nat.le_refl _) (by have:=hr.part 0 hr.c1;rwa [Nat.add_zero] at this)
structure Left (x:Dsk)(n E T:Nat)(R:List (List UInt8))(low:Nat):Prop where
 pair:∃q,newestF (x.lst 0) (x.lst 1)=(q,E*4294967296+T,[],0)
 old:∀k,k<n→(pcF (x.lst (2+k))).epoch≤E
 tell:∀R' h',Recs (pcAt x 0 n) E T R' h'→NoRec (pcAt x 0 n) E h'→low≤R'.length∧R'.length≤R.length∧R'=R.take R'.length
theorem Core.cut (h:Core s n E T Y H H' R low)(hno:NoRec (pcAt s 0 n) E H){x:Dsk}(c:CutOf s x):Left x n E T R low:=by
 have hn:=h.n0
 have he:=h.ends
 have hl:=h.len
 have hpn:∀p,pcAt x 0 n p=pcF (x.lst (2+p%n)):=fun p=>pcAt_lst (by rw [c.pend];intro y hy;cases hy)
 have hfree:∀k,k<2→∀y∈s.pend,y.1≠k:=fun k hk y hy e=>by
  obtain ⟨p,_,_,h3,_,_⟩:=h.keys y hy
  omega
 have key:∀k,k<n→pcF (x.lst (2+k))=pcF (s.lst (2+k))∨(∃y∈s.pend,y.1=2+k∧pcF (x.lst (2+k))=pcF y.2)∨pcF (x.lst (2+k))=pcNo:=fun k hk=>by
  by_cases hx:∃y∈s.pend,y.1=2+k
  ·obtain ⟨y,hy,e⟩:=hx
   rcases c.one y hy with e1|e1|e1
   ·left;unfold Dsk.lst;rw [←e,e1]
   ·right;left;exact ⟨y,hy,e,by unfold Dsk.lst;rw [←e,e1]⟩
   ·right;right;exact pcF_torn (by unfold Dsk.lst;rw [←e];exact e1)
  ·left;unfold Dsk.lst;rw [c.free (2+k) om_ (fun y hy e=>hx ⟨y,hy,e⟩)]
 refine ⟨?_,fun k hk=> ?_,fun R' h' r' n'=> ?_⟩
 ·obtain ⟨q,hq⟩:=h.pair
  refine ⟨q, ?_⟩
  unfold Dsk.lst at hq ⊢
  rw [c.free 0 om_ (hfree 0 om_),c.free 1 om_ (hfree 1 om_)];exact hq
 ·rcases key k hk with e|⟨y,hy,_,e⟩|e
  ·rw [e];exact (h.old k hk).1
  ·obtain ⟨p,_,_,_,h4,_⟩:=h.keys y hy
   rw [e];omega
  ·rw [e];exact Nat.zero_le _
 ·have hA:Recs (pcAt s 0 n) E T R' h':=r'.congr fun p i cc h1 h2 h3=>by
   have hm:=Nat.mod_lt p (show 0<n by omega)
   rw [hpn] at h3 ⊢
   rcases key (p%n) hm with e|⟨y,hy,ey,e⟩|e
   ·by_cases hx:∃y∈s.pend,y.1=2+p%n
    ·obtain ⟨y,hy,ey⟩:=hx
     obtain ⟨q,q1,q2,q3,q4,q5⟩:=h.keys y hy
     rw [e] at h3
     have hlt:=(h.old (p%n) hm).2 h3.epoch h3.data
     have hpos:=h3.pos
     have:=mod_eq_far (n:=n) (p:=p) (q:=q) om_ om_ om_
     omega
    ·rw [e,pcAt_lst (fun y hy ey=>hx ⟨y,hy,ey⟩)]
   ·rw [e,pcAt_new h.sgl hy ey]
   ·rw [e] at h3;exact absurd rfl h3.data
  have hB:Recs (pcAt x 0 n) E T (R.take low) Y:=h.low.2.congr fun p i cc h1 h2 h3=>by
   have hm:=Nat.mod_lt p (show 0<n by omega)
   have hf:∀y∈s.pend,y.1≠2+p%n:=fun y hy ey=>by
    obtain ⟨q,q1,q2,q3,q4,q5⟩:=h.keys y hy
    have:=mod_eq_far (n:=n) (p:=p) (q:=q) om_ om_ om_
    omega
   rw [hpn,pcAt_lst hf]
   unfold Dsk.lst;rw [c.free _ om_ hf]
  obtain ⟨a1,a2⟩:=Recs.pre _ (Nat.le_refl _) hA h.recs hno
  obtain ⟨b1,b2⟩:=Recs.pre _ (Nat.le_refl _) hB r' n'
  have hlow:=h.low.1
  rw [List.length_take] at b1
  exact ⟨by omega,a1,a2⟩
theorem Core.same {s':Dsk}(h:Core s n E T Y H H' R low)(h1:s'.last=s.last)(h2:s'.pend=s.pend):Core s' n E T Y H H' R low:=by
 have e:pcAt s' 0 n=pcAt s 0 n:=by funext p;unfold pcAt;rw [now_congr h1 h2]
 have el:∀k,s'.lst k=s.lst k:=fun k=>by unfold Dsk.lst;rw [h1]
 exact ⟨h.n0,by rw [h1];exact h.len,⟨by rw [h2];exact h.sgl.nodup,by rw [h1,h2];exact h.sgl.over⟩,h.ends,by rw [h2];exact h.keys,by rw [el,el];exact h.pair,fun k hk=>by rw [el];exact h.old k hk,by rw [e];exact h.recs,by rw [e];exact h.low⟩
theorem lst_flush {s':Dsk}(h1:s'=s.flushR.1)(hz:s.left≠0){k:Nat}(hk:k<s.last.length):s'.lst k=s.now k:=by
 have hp:s'.pend=[]:=by
  rcases flushR_err s with q|q
  ·rw [h1];exact q.2.1
  ·exact absurd q.2.2 hz
 have:=now_flushR (s:=s) hk
 rw [←h1,now_nil hp] at this
 exact this
theorem Core.flush (h:Core s n E T Y H H R low)(hz:s.left≠0):Core s.flushR.1 n E T H H H R R.length:=by
 have hn:=h.n0
 have he:=h.ends
 have hl:=h.len
 obtain ⟨s',hs'⟩:∃s',s'=s.flushR.1:=⟨_,rfl⟩
 have hp:s'.pend=[]:=by
  rcases flushR_err s with q|q
  ·rw [hs'];exact q.2.1
  ·exact absurd q.2.2 hz
 have hlen:s'.last.length=s.last.length:=by rw [hs'];exact (Did.flush s).len
 have hlst:∀k,k<s.last.length→s'.lst k=s.now k:=fun k hk=>lst_flush hs' hz hk
 rw [←hs']
 have hfree:∀k,k<2→∀y∈s.pend,y.1≠k:=fun k hk y hy e=>by
  obtain ⟨p,_,_,h3,_,_⟩:=h.keys y hy
  omega
 have e:pcAt s' 0 n=pcAt s 0 n:=by
  funext p
  have hm:=Nat.mod_lt p (show 0<n by omega)
  unfold pcAt
  rw [hs',now_flushR om_]
 refine ⟨hn,by omega,Sgl.nil hp,by omega,(by rw [hp];intro y hy;cases hy), ?_,fun k hk=> ?_,by rw [e];exact h.recs,Nat.le_refl _,by rw [e,List.take_length];exact h.recs⟩
 ·obtain ⟨q,hq⟩:=h.pair
  refine ⟨q, ?_⟩
  rw [hlst 0 om_,hlst 1 om_,(now_free (hfree 0 om_)).2,(now_free (hfree 1 om_)).2];exact hq
 ·rw [hlst (2+k) om_]
  by_cases hx:∃y∈s.pend,y.1=2+k
  ·obtain ⟨y,hy,ey⟩:=hx
   obtain ⟨p,h1,h2,h3,h4,h5⟩:=h.keys y hy
   rw [←ey,(h.sgl.now hy).2]
   exact ⟨by omega,fun _ _=>by omega⟩
  ·rw [(now_free (fun y hy e=>hx ⟨y,hy,e⟩)).2]
   have:=h.old k hk
   exact ⟨this.1,fun a b=>by have:=this.2 a b;unfold Dsk.lst at this;omega⟩
end
end
section
section
variable {s:Dsk}{n E T Y H H':Nat}{R:List (List UInt8)}{low:Nat}
theorem Core.free (h:Core s n E T Y H H' R low){q:Nat}(h1:H'≤q)(h2:q<T+n):∀y∈s.pend,y.1≠2+q%n:=fun y hy e=>by
 have he:=h.ends
 obtain ⟨p,q1,q2,q3,_,_⟩:=h.keys y hy
 have:=mod_eq_far (n:=n) (p:=p) (q:=q) om_ om_ om_
 omega
theorem Core.write (h:Core s n E T Y H H' R low)(hok:DOk s){i c:Nat}{d:List UInt8}(hH:H'<T+n)(hd:d.length≤492)(hE:E<4294967296)(hp:H'<4294967296)(hi:i<65536)(hc:c<65536){K:Nat}(hK:K=2+H'%n){X:List UInt8}(hX:X=partF (s.now K) E H' i c d):
  Core (s.wrote K X) n E T Y H (H'+1) R low∧pcAt (s.wrote K X) 0 n H'=⟨E,H',i,c,d⟩∧∀q,q%n≠H'%n→pcAt (s.wrote K X) 0 n q=pcAt s 0 n q:=by
 have hn:=h.n0
 have he:=h.ends
 have hl:=h.len
 have hm:=Nat.mod_lt H' (show 0<n by omega)
 have hf:=h.free (Nat.le_refl H') hH
 rw [←hK] at hf
 have hnow:s.now K=s.last.getD K []:=(now_free hf).2
 have h512:(s.now K).length=512:=hok.now om_
 have hx:pcF X=⟨E,H',i,c,d⟩:=by rw [hX];exact pcF_part h512 hd hE hp hi hc
 have hov:Over (s.last.getD K []) X:=by
  rw [←hnow]
  exact ⟨h512,bodyR E H' i c d,by rw [length_bodyR];omega,by rw [hX];exact partF_form h512 hd⟩
 obtain ⟨s',hs'⟩:∃s',s'=s.wrote K X:=⟨_,rfl⟩
 have h1:s'.last=s.last:=by rw [hs'];rfl
 have h2:s'.pend=s.pend++[(K,X)]:=by rw [hs'];rfl
 rw [←hs']
 have hnw:=now_write (s:=s) (s':=s') h1 h2
 have hat:pcAt s' 0 n H'=⟨E,H',i,c,d⟩:=by
  unfold pcAt
  rw [Nat.zero_add,←hK,hnw,if_pos rfl,hx]
 have hoth:∀q,q%n≠H'%n→pcAt s' 0 n q=pcAt s 0 n q:=fun q hq=>by
  unfold pcAt
  rw [hnw,if_neg om_]
 have hlst:∀k,s'.lst k=s.lst k:=fun k=>by unfold Dsk.lst;rw [h1]
 have hback:∀p i c,T≤p→p<H'→(pcAt s 0 n p).Part E p i c→pcAt s' 0 n p=pcAt s 0 n p:=fun p i c q1 q2 _=>hoth p fun e=>by
  have:=mod_eq_far (n:=n) (p:=p) (q:=H') e om_ om_
  omega
 refine ⟨⟨hn,by rw [h1];exact hl,⟨?_,fun y hy=> ?_⟩,by omega,fun y hy=> ?_,by rw [hlst,hlst];exact h.pair,fun k hk=>by rw [hlst];exact h.old k hk,h.recs.congr fun p i c q1 q2 q3=>hback p i c q1 om_ q3,h.low.1,h.low.2.congr fun p i c q1 q2 q3=>hback p i c q1 om_ q3⟩,hat,hoth⟩
 ·rw [h2,List.map_append]
  refine List.nodup_append.2 ⟨h.sgl.nodup,by simp,fun a ha b hb e=> ?_⟩
  obtain ⟨y,hy,rfl⟩:=List.mem_map.1 ha
  simp at hb
  exact hf y hy (e.trans hb)
 ·rw [h2] at hy
  rcases List.mem_append.1 hy with hy|hy
  ·rw [h1];exact h.sgl.over y hy
  ·rw [List.mem_singleton] at hy;subst hy;rw [h1];exact hov
 ·rw [h2] at hy
  rcases List.mem_append.1 hy with hy|hy
  ·obtain ⟨p,q1,q2,q3⟩:=h.keys y hy
   exact ⟨p,q1,by omega,q3⟩
  ·rw [List.mem_singleton] at hy;subst hy
   exact ⟨H',by omega,by omega,hK,by rw [hx],by rw [hx]⟩
end
theorem parts_take (d:List UInt8):∀c,((List.range c).map (partR d)).flatten=d.take (c*492)
 |0=>by simp
 |c+1=>by
  rw [List.range_succ,List.map_append,List.flatten_append,parts_take d c,List.map_singleton,List.flatten_singleton]
  unfold partR
  rw [←List.take_add,Nat.add_mul,Nat.one_mul]
theorem parts_cat {pc:Nat→Pc}{H c:Nat}{d:List UInt8}(hc:c=countR d.length)(h:∀i,i<c→(pc (H+i)).data=partR d i):catF pc H c=d:=by
 unfold catF
 have e:(List.range c).map (fun j=>(pc (H+j)).data)=(List.range c).map (partR d):=List.map_congr_left fun j hj=>h j (List.mem_range.1 hj)
 rw [e,parts_take,List.take_of_length_le]
 unfold countR at hc;omega
theorem parts_rec {pc:Nat→Pc}{E H c:Nat}{d:List UInt8}(hc:c=countR d.length)(h0:1≤d.length)(h1:d.length≤8364)(h:∀i,i<c→pc (H+i)=⟨E,H+i,i,c,partR d i⟩):IsRec pc E H c:=by
 have hc1:1≤c:=by unfold countR at hc;omega
 refine ⟨hc1,by unfold countR at hc;omega, ?_,fun j hj=> ?_⟩
 ·have:=h 0 om_
  rw [Nat.add_zero] at this
  rw [this]
 ·obtain ⟨q1,q2,q3⟩:=partR_len (d:=d) (i:=j) hc hj
  rw [h j hj]
  refine ⟨fun e=> ?_,rfl,rfl,rfl,rfl, ?_⟩
  ·have e:partR d j=[]:=e
   rw [e] at q2;exact absurd q2 dc_
  ·by_cases hj1:j+1=c
   ·exact .inl hj1
   ·right
    show (partR d j).length=492
    rw [q1]
    unfold countR at hc;omega
section
variable {n E T Y H top tl:Nat}{life:Int}{b:Bool}{R:List (List UInt8)}{low:Nat}{d:List UInt8}{c:Nat}
theorem lays_core {l:Lg}(hl:l=⟨0,n,life,E,top,tl,H,b⟩)(hc:c=countR d.length)(h1:d.length≤8364)(hE:E<4294967296)(hH:H+c≤T+n)(hp:H+c<4294967296):
  ∀(k i:Nat) (s:Dsk),i+k=c→Core s n E T Y H (H+i) R low→DOk s→(∀j,j<i→pcAt s 0 n (H+j)=⟨E,H+j,j,c,partR d j⟩)→
   ∃j,j≤c∧Core (laysR l d c s i k).1 n E T Y H (H+j) R low∧(∀m,m<j→pcAt (laysR l d c s i k).1 0 n (H+m)=⟨E,H+m,m,c,partR d m⟩)∧((laysR l d c s i k).2=0∧j=c∨(laysR l d c s i k).2=3∧j<c∧(laysR l d c s i k).1.left=0)∧(laysR l d c s i k).1.life=s.life∧(s.left= -1→(laysR l d c s i k).2=0∧(laysR l d c s i k).1.left= -1)
 |0,i,s,hk,h,_,hat=>⟨i,by omega,h,hat,.inl ⟨rfl,by omega⟩,rfl,fun q=>⟨rfl,q⟩⟩
 |k+1,i,s,hk,h,hok,hat=>by
  have hn:=h.n0
  have he:=h.ends
  have hlen:=h.len
  have hm:=Nat.mod_lt (H+i) (show 0<n by omega)
  have hpl:=partR_len (d:=d) (i:=i) hc om_
  have hc17:c≤17:=by unfold countR at hc;omega
  obtain ⟨K,hK⟩:∃K,K=2+(H+i)%n:=⟨_,rfl⟩
  obtain ⟨X,hX⟩:∃X,X=partF (s.now K) E (H+i) i c (partR d i):=⟨_,rfl⟩
  have hlay:layR s l d i c=s.writeR ((K:Nat):Int) X:=by
   rw [hl,hX,hK]
   show s.writeR ((0+2+(H+i)%n:Nat):Int) (sealF (s.now (0+2+(H+i)%n)) (bodyR E (H+i) i c (partR d i))).1=_
   rw [Nat.zero_add];rfl
  have hXl:X.length=512:=by
   rw [hX,partF_form (hok.now om_) hpl.2.2]
   exact length_form _ (by rw [length_bodyR];omega)
  unfold laysR
  rw [hlay]
  by_cases hz:s.left=0
  ·have hne:(s.writeR ((K:Nat):Int) X).2≠0:=by
    intro q
    exact (writeR_ok q).2.2.2.1 hz
   obtain ⟨e1,e2,e3,_,e5⟩:=writeR_no hne
   have el:=(Did.write s ((K:Nat):Int) X).life
   rw [if_pos hne]
   obtain ⟨s',hs'⟩:∃s',s'=(s.writeR ((K:Nat):Int) X).1:=⟨_,rfl⟩
   rw [←hs'] at e1 e2 e3 el ⊢
   refine ⟨i,by omega,h.same e1 e2,fun m hm=> ?_,.inr ⟨e5 hz,by omega,by rw [e3];exact hz⟩,el,fun q=>by omega⟩
   rw [←hat m hm]
   unfold pcAt
   rw [now_congr e1 e2]
  ·have hgo:=writeR_go (k:=K) (d:=X) hz om_ hXl
   rw [hgo,if_neg (fun q=>q rfl)]
   obtain ⟨g1,g2,g3⟩:=h.write hok (i:=i) (c:=c) (d:=partR d i) om_ hpl.2.2 hE om_ om_ om_ hK hX
   have hok':DOk (s.wrote K X):=by
    have:=hok.write ((K:Nat):Int) X
    rw [hgo] at this;exact this
   obtain ⟨j,j1,j2,j3,j4,j5,j6⟩:=lays_core hl hc h1 hE hH hp k (i+1) (s.wrote K X) om_ g1 hok' (fun m hm=>by
    by_cases hmi:m=i
    ·rw [hmi];exact g2
    ·rw [g3 (H+m) fun e=>by
      have:=mod_eq_far (n:=n) (p:=H+m) (q:=H+i) e om_ om_
      omega]
     exact hat m om_)
   refine ⟨j,j1,j2,j3,j4,j5,fun q=>j6 ?_⟩
   show spent s.left= -1
   rw [q];rfl
theorem append_core {s:Dsk}{l:Lg}(hl:l=⟨0,n,s.life,E,top,T,H,true⟩)(h:Core s n E T Y H H R low)(hok:DOk s)(hz:s.left≠0)(hE:E<4294967296)(hb:H+17≤1073741824)(d:List UInt8):
  ((appendR s l d).2.2=0∧1≤d.length∧d.length≤8364∧(appendR s l d).2.1=⟨0,n,s.life,E,top,T,H+countR d.length,true⟩∧countR d.length≤17∧H+countR d.length≤T+n∧Core (appendR s l d).1 n E T Y (H+countR d.length) (H+countR d.length) (R++[d]) low∧(s.left= -1→(appendR s l d).1.left= -1)∧(appendR s l d).1.life=s.life)∨
  ((appendR s l d).2.2≠0∧(appendR s l d).2.2≠3∧appendR s l d=(s,l,(appendR s l d).2.2)∧(1≤d.length→d.length≤8364→(appendR s l d).2.2=40∧T+n<H+countR d.length))∨
  ((appendR s l d).2.2=3∧(appendR s l d).1.left=0∧(appendR s l d).2.1=l∧s.left≠ -1∧(appendR s l d).1.life=s.life∧∃j,Core (appendR s l d).1 n E T Y H (H+j) R low∧NoRec (pcAt (appendR s l d).1 0 n) E H):=by
 have he:=h.ends
 have ha:aliveR s l=true:=alive_iff.2 ⟨hz,by rw [hl]⟩
 have hr:readyR s l=0:=ready_iff.2 ⟨ha,by rw [hl]⟩
 have e1:l.head=H:=by rw [hl]
 have e2:l.tail=T:=by rw [hl]
 have e3:l.n=n:=by rw [hl]
 unfold appendR
 rw [if_neg om_,e1,e2,e3]
 by_cases h0:d.length=0
 ·rw [if_pos h0];exact .inr (.inl ⟨by show (2:Int)≠0;decide,by show (2:Int)≠3;decide,rfl,fun q=>by omega⟩)
 ·rw [if_neg h0]
  by_cases h7:8364<d.length
  ·rw [if_pos h7];exact .inr (.inl ⟨by show (7:Int)≠0;decide,by show (7:Int)≠3;decide,rfl,fun _ q=>by omega⟩)
  ·rw [if_neg h7]
   obtain ⟨c,hc⟩:∃c,c=countR d.length:=⟨_,rfl⟩
   have hc17:c≤17:=by unfold countR at hc;omega
   rw [←hc,if_neg om_]
   by_cases h40:n<H-T+c
   ·rw [if_pos h40];exact .inr (.inl ⟨by show (40:Int)≠0;decide,by show (40:Int)≠3;decide,rfl,fun _ _=>⟨rfl,by omega⟩⟩)
   ·rw [if_neg h40]
    obtain ⟨j,j1,j2,j3,j4,j5,j6⟩:=lays_core hl hc om_ hE om_ om_ c 0 s om_ h hok (fun j hj=>absurd hj (Nat.not_lt_zero _))
    obtain ⟨r,hrr⟩:∃r,r=laysR l d c s 0 c:=⟨_,rfl⟩
    rw [←hrr] at j2 j3 j4 j5 j6
    simp only []
    rw [←hrr]
    rcases j4 with ⟨q1,rfl⟩|⟨q1,q2,q3⟩
    ·rw [if_neg om_]
     have hrec:=parts_rec hc om_ om_ j3
     have hcat:=parts_cat (pc:=pcAt r.1 0 n) (H:=H) hc (fun i hi=>by rw [j3 i hi])
     refine .inl ⟨rfl,by omega,by omega,by rw [hl],by omega,by omega, ?_,fun q=>(j6 q).2,j5⟩
     show Core r.1 n E T Y (H+j) (H+j) (R++[d]) low
     have hR:=j2.recs.step hrec
     rw [hcat] at hR
     have hlow:=j2.low
     refine ⟨j2.n0,j2.len,j2.sgl,by omega,j2.keys,j2.pair,j2.old,hR,by rw [List.length_append];omega, ?_⟩
     rw [List.take_append_of_le_length hlow.1];exact hlow.2
    ·rw [if_pos om_]
     refine .inr (.inr ⟨q1,q3,rfl,fun q=>by have:=(j6 q).2;omega,j5,j,j2,fun c' hr'=> ?_⟩)
     by_cases hj0:j=0
     ·subst hj0
      exact j2.none (q:=H) om_ (by have:=hr'.part 0 hr'.c1;rwa [Nat.add_zero] at this)
     ·have e0:=j3 0 om_
      rw [Nat.add_zero] at e0
      have hcc:c=c':=by have:=hr'.cnt;rw [e0] at this;exact this
      exact j2.none (q:=H+j) (Nat.le_refl _) (hr'.part j om_)
end
end
section
theorem renew_over {a b:List UInt8}{no:Int}(ha:a.length=512)(hb:b.length=512)(h:(renewF a b no []).2.2=0):Over (if (renewF a b no []).1=1 then b else a) (renewF a b no []).2.1:=by
 have h8:(le8 no++[]).length≤504:=by simp [le8]
 have key:∀o:List UInt8,o.length=512→Over o (sealF o (le8 no++[])).1:=fun o ho=>⟨ho,_,h8,by unfold sealF;rw [if_neg om_,if_neg om_]⟩
 by_cases h1:no<1
 ·exfalso
  unfold renewF at h
  rw [if_neg (fun hh=>hh ⟨ha,hb⟩),if_pos h1] at h
  cases h
 ·have e:=renew_mid (l:=a) (r:=b) (no:=no) (d:=[]) ⟨ha,hb⟩ h1 dc_
  by_cases h3:(newestF a b).2.2.2=0∧no≤((newestF a b).2.1:Int)
  ·rw [if_pos h3] at e
   rw [e] at h;cases h
  ·rw [if_neg h3] at e
   by_cases hC:(newestF a b).2.2.2=0∧(newestF a b).1=0
   ·rw [if_pos hC] at e
    rw [e]
    show Over (if (1:Nat)=1 then b else a) _
    rw [if_pos rfl];exact key b hb
   ·rw [if_neg hC] at e
    rw [e]
    show Over (if (0:Nat)=1 then b else a) _
    rw [if_neg dc_];exact key a ha
theorem now_lst {s:Dsk}(hp:s.pend=[])(k:Nat):s.now k=s.lst k:=now_nil hp k
theorem renew_two {s:Dsk}(hok:DOk s)(hp:s.pend=[])(hz:s.left≠0)(hf:2≤s.last.length){no:Nat}(hno:no≤9223372036854775807)(hren:(renewF (s.now 0) (s.now (0+1)) (no:Int) []).2.2=0):
  ((renewR s 0 no).2=0∧(renewR s 0 no).1.pend=[]∧(∃x,newestF ((renewR s 0 no).1.lst 0) ((renewR s 0 no).1.lst 1)=(x,no,[],0))∧∀k,2≤k→k<s.last.length→(renewR s 0 no).1.lst k=s.lst k)∨
  ((renewR s 0 no).2=3∧(renewR s 0 no).1.left=0∧Sgl (renewR s 0 no).1∧∀x,CutOf (renewR s 0 no).1 x→((∃q,newestF (x.lst 0) (x.lst 1)=(q,no,[],0))∨newestF (x.lst 0) (x.lst 1)=newestF (s.lst 0) (s.lst 1))∧∀k,2≤k→k<s.last.length→x.lst k=s.lst k):=by
 have h0:=hok.now (k:=0) om_
 have h1:=hok.now (k:=1) om_
 obtain ⟨q1,q5⟩:=renew_ok h0 (hok.now (k:=0+1) om_) hren
 obtain ⟨g1,g2,g3,g4⟩:=renewR_good hok (f:=0) om_ hno hren
 have hgo:=renewR_go (first:=0) hz om_ q1 q5
 have hov:=renew_over h0 h1 hren
 have hdid:=(renewR_did s 0 no).2
 rcases flushR_err (s.anch 0 no) with ⟨f1,f2,f3⟩|⟨f1,f2,f3⟩
 ·left
  have e0:(renewR s 0 no).2=0:=by rw [hgo];exact f1
  have ep:(renewR s 0 no).1.pend=[]:=by rw [hgo];exact f2
  obtain ⟨x,hx⟩:=g1 e0
  refine ⟨e0,ep,⟨x, ?_⟩,fun k k1 k2=> ?_⟩
  ·rw [←now_lst ep,←now_lst ep];exact hx
  ·rw [←now_lst ep,←now_lst hp];exact g4 k om_ om_ k2
 ·right
  rcases renew_told (a:=s.now 0) (b:=s.now (0+1)) (no:=(no:Int)) (d:=[]) ⟨h0,h1⟩ (Nat.zero_le _) om_ with ⟨g,_⟩|⟨_,_,g⟩
  ·exact absurd hren g
  have hslot:=g.slot
  have htorn:=g.torn
  have hnew:=g.new
  obtain ⟨r,hr⟩:∃r,renewF (s.now 0) (s.now (0+1)) (no:Int) []=r:=⟨_,rfl⟩
  have hov:Over (if r.1=1 then s.now (0+1) else s.now 0) r.2.1:=by rw [←hr];exact hov
  rw [hr] at hslot htorn hnew q1 q5
  have hs1:(renewR s 0 no).1=s.anch 0 no:=by rw [hgo];exact f2
  have hap:(s.anch 0 no).pend=[(r.1,r.2.1)]:=by
   show s.pend++[(0+(renewF (s.now 0) (s.now (0+1)) (no:Int) []).1,(renewF (s.now 0) (s.now (0+1)) (no:Int) []).2.1)]=_
   rw [hp,hr,Nat.zero_add];rfl
  have hal:(s.anch 0 no).last=s.last:=rfl
  refine ⟨by rw [hgo];exact f1,by rw [hs1];exact f3, ?_,fun x c=> ?_⟩
  ·rw [hs1]
   refine ⟨by rw [hap];simp,fun y hy=> ?_⟩
   rw [hap,List.mem_singleton] at hy
   subst hy
   rw [hal]
   rcases hslot with e|e
   ·rw [if_neg (by rw [e];decide),now_lst hp] at hov
    rw [e];exact hov
   ·rw [if_pos e,now_lst hp] at hov
    rw [e];exact hov
  ·rw [hs1] at c
   have c1:=c.one (r.1,r.2.1) (by rw [hap];exact List.mem_singleton.2 rfl)
   have cf:∀k,k≠r.1→k<s.last.length→x.lst k=s.lst k:=fun k k1 k2=>c.free k k2 (fun y hy e=>by
    rw [hap,List.mem_singleton] at hy
    subst hy
    exact k1 e.symm)
   refine ⟨?_,fun k k1 k2=>cf k om_ k2⟩
   rw [hal] at c1
   have hlen:(x.lst r.1).length=512:=by
    rcases c1 with e|e|e
    ·show (x.last.getD r.1 []).length=512
     rw [e,List.getD_eq_getElem?_getD,List.getElem?_eq_getElem (show r.1<s.last.length by omega)]
     exact hok.len _ (List.getElem_mem _)
    ·show (x.last.getD r.1 []).length=512
     rw [e];exact q5
    ·show (x.last.getD r.1 []).length=512
     refine Classical.byContradiction fun hne=> ?_
     have:openF (x.last.getD r.1 [])=([],2):=by unfold openF;rw [if_pos hne]
     rw [this] at e
     exact absurd (congrArg (·.2) e) dc_
   have hx:=htorn (x.lst r.1) (by
    rcases c1 with e|e|e
    ·left
     show x.last.getD r.1 []=_
     rw [e]
     rcases hslot with e2|e2
     ·rw [if_neg (by rw [e2];decide),e2,now_lst hp];rfl
     ·rw [if_pos e2,e2,now_lst hp];rfl
    ·exact .inr (.inl e)
    ·exact .inr (.inr e)) hlen
   have hpair:(putIn (s.now 0) (s.now (0+1)) r.1 (x.lst r.1)).1=x.lst 0∧(putIn (s.now 0) (s.now (0+1)) r.1 (x.lst r.1)).2=x.lst 1:=by
    rcases hslot with e|e
    ·rw [e]
     exact ⟨rfl,by show s.now (0+1)=_;rw [now_lst hp,cf 1 om_ om_]⟩
    ·rw [e]
     exact ⟨by show s.now 0=_;rw [now_lst hp,cf 0 om_ om_],rfl⟩
   rw [hpair.1,hpair.2] at hx
   rcases hx with hx|hx
   ·left;exact ⟨r.1,hx⟩
   ·right;rw [hx,now_lst hp,now_lst hp]
section
variable {s:Dsk}{n E T Y H H':Nat}{R:List (List UInt8)}{low:Nat}
structure Flat (s:Dsk)(n E T:Nat)(R:List (List UInt8))(H:Nat):Prop where
 n0:18≤n∧n≤256
 len:s.last.length=n+2
 pend:s.pend=[]
 pair:∃x,newestF (s.lst 0) (s.lst 1)=(x,E*4294967296+T,[],0)
 old:∀k,k<n→(pcF (s.lst (2+k))).epoch≤E
 recs:Recs (pcAt s 0 n) E T R H
 no:NoRec (pcAt s 0 n) E H
theorem pcAt_flat {s x:Dsk}(hp:s.pend=[])(hx:x.pend=[]){n:Nat}(hn:0<n)(hl:n+2≤s.last.length)(h:∀k,2≤k→k<s.last.length→x.lst k=s.lst k):pcAt x 0 n=pcAt s 0 n:=by
 funext p
 have hm:=Nat.mod_lt p hn
 unfold pcAt
 rw [now_lst hp,now_lst hx,h _ om_ om_]
theorem recs_of_none {pc:Nat→Pc}{E a:Nat}(h:∀c,¬IsRec pc E a c){R:List (List UInt8)}{hd:Nat}(r:Recs pc E a R hd):R=[]:=by
 have h1:R=[]∧hd=a∨False:=by
  induction r with
  |nil=>exact .inl ⟨rfl,rfl⟩
  |step _ hr ih=>
   rcases ih with ⟨rfl,rfl⟩|q
   ·exact .inr (h _ hr)
   ·exact .inr q
 exact (h1.elim id False.elim).1
theorem Flat.left (h:Flat s n E T R H){x:Dsk}(hx:x.pend=[])(hpair:newestF (x.lst 0) (x.lst 1)=newestF (s.lst 0) (s.lst 1))(hr:∀k,2≤k→k<s.last.length→x.lst k=s.lst k):Left x n E T R R.length:=by
 have hn:=h.n0
 have hl:=h.len
 have e:=pcAt_flat h.pend hx (n:=n) om_ om_ hr
 refine ⟨by rw [hpair];exact h.pair,fun k hk=>by rw [hr (2+k) om_ om_];exact h.old k hk,fun R' h' r n'=> ?_⟩
 rw [e] at r n'
 obtain ⟨q1,q2⟩:=Recs.pre _ (Nat.le_refl _) r h.recs h.no
 obtain ⟨q3,_⟩:=Recs.pre _ (Nat.le_refl _) h.recs r n'
 exact ⟨q3,q1,q2⟩
theorem left_none {s x:Dsk}{n E T:Nat}(hs:s.pend=[])(hx:x.pend=[])(hn:18≤n)(hl:s.last.length=n+2)(hpair:∃q,newestF (x.lst 0) (x.lst 1)=(q,E*4294967296+T,[],0))(hr:∀k,2≤k→k<s.last.length→x.lst k=s.lst k)(hold:∀k,k<n→(pcF (s.lst (2+k))).epoch≤E)(hno:NoRec (pcAt s 0 n) E T)(low:Nat)(hlow:low=0):Left x n E T [] low:=by
 have e:=pcAt_flat hs hx (n:=n) om_ om_ hr
 refine ⟨hpair,fun k hk=>by rw [hr (2+k) om_ om_];exact hold k hk,fun R' h' r n'=> ?_⟩
 rw [e] at r
 have:=recs_of_none hno r
 subst this
 exact ⟨by omega,Nat.le_refl _,rfl⟩
theorem trim_core (h:Core s n E T Y H H R low)(hok:DOk s){l:Lg}{top:Nat}(hl:l=⟨0,n,s.life,E,top,T,H,true⟩)(hz:s.left≠0)(hE:E<1073741824)(hH:H≤1073741824):
  ((trimR s l).2.2=0∧(trimR s l).2.1=⟨0,n,s.life,E,top,H,H,true⟩∧Core (trimR s l).1 n E H H H H [] 0∧(trimR s l).1.life=s.life)∨
  ((trimR s l).2.2=3∧(trimR s l).1.left=0∧(trimR s l).2.1=l∧Sgl (trimR s l).1∧(trimR s l).1.life=s.life∧∀x,CutOf (trimR s l).1 x→Left x n E T R R.length∨Left x n E H [] 0):=by
 have hn:=h.n0
 have he:=h.ends
 have hlen:=h.len
 have ha:aliveR s l=true:=alive_iff.2 ⟨hz,by rw [hl]⟩
 have hr0:readyR s l=0:=ready_iff.2 ⟨ha,by rw [hl]⟩
 have e1:l.head=H:=by rw [hl]
 have e2:l.tail=T:=by rw [hl]
 have e3:l.first=0:=by rw [hl]
 have e4:l.epoch=E:=by rw [hl]
 have hc:=h.flush hz
 obtain ⟨f1,f2⟩:s.flushR.2=0∧s.flushR.1.pend=[]:=by
  rcases flushR_err s with q|q
  ·exact ⟨q.1,q.2.1⟩
  ·exact absurd q.2.2 hz
 have flife:=(Did.flush s).life
 obtain ⟨f,hf⟩:∃f,f=s.flushR:=⟨_,rfl⟩
 have hokf:DOk f.1:=by rw [hf];exact hok.flush
 rw [←hf] at hc f1 f2 flife
 unfold trimR
 rw [if_neg om_,←hf,e1,e2,e3,e4]
 have hcl:=hc.len
 by_cases ht:T=H
 ·rw [if_pos (.inr ht)]
  subst ht
  have hR:R=[]:=by
   have:=h.recs.count
   exact List.eq_nil_of_length_eq_zero om_
  subst hR
  exact .inl ⟨f1,hl,hc,flife⟩
 ·rw [if_neg (fun q=>q.elim (fun q=>q f1) ht)]
  by_cases hz2:f.1.left=0
  ·rw [renewR_dead hz2]
   simp only []
   rw [if_pos dc_]
   refine .inr ⟨rfl,hz2,rfl,hc.sgl,flife,fun x c=>.inl ?_⟩
   exact hc.cut hc.no c
  ·have hno:E*4294967296+H≤9223372036854775807:=by omega
   have hlw:Low f.1 0 (E*4294967296+T):=by
    obtain ⟨x,hx⟩:=hc.pair
    refine .inr ?_
    show (newestF (f.1.now 0) (f.1.now 1)).2.1≤_
    rw [now_lst f2,now_lst f2,hx];exact Nat.le_refl _
   have hren:=hlw.ren hokf om_ (no':=E*4294967296+H) om_ hno
   have hlife:=(renewR_did f.1 0 (E*4294967296+H)).1.life
   have hlen2:=(renewR_did f.1 0 (E*4294967296+H)).1.len
   have hflat:Flat f.1 n E T R H:=⟨hn,hcl,f2,hc.pair,fun k hk=>(hc.old k hk).1,hc.recs,hc.no⟩
   rcases renew_two hokf f2 hz2 om_ hno hren with ⟨q1,q2,q3,q4⟩|⟨q1,q2,q3,q4⟩
   ·obtain ⟨r,hr⟩:∃r,r=renewR f.1 0 (E*4294967296+H):=⟨_,rfl⟩
    rw [←hr] at q1 q2 q3 q4 hlife hlen2
    simp only []
    rw [←hr,if_neg om_]
    refine .inl ⟨rfl,by rw [hl], ?_,hlife.trans flife⟩
    show Core r.1 n E H H H H [] 0
    exact ⟨hn,by omega,Sgl.nil q2,by omega,(by rw [q2];intro y hy;cases hy),q3,fun k hk=>by rw [q4 (2+k) om_ om_];exact hc.old k hk,.nil,Nat.le_refl _,.nil⟩
   ·obtain ⟨r,hr⟩:∃r,r=renewR f.1 0 (E*4294967296+H):=⟨_,rfl⟩
    rw [←hr] at q1 q2 q3 q4 hlife hlen2
    simp only []
    rw [←hr,if_pos om_]
    refine .inr ⟨q1,q2,rfl,q3,hlife.trans flife,fun x c=> ?_⟩
    obtain ⟨a1,a2⟩:=q4 x c
    rcases a1 with a1|a1
    ·exact .inr (left_none f2 c.pend hn.1 hcl a1 a2 (fun k hk=>(hc.old k hk).1) hc.no 0 rfl)
    ·exact .inl (hflat.left c.pend a1 a2)
end
end
theorem flush_m {s:Dsk}(h:s.left= -1):s.flushR.2=0∧s.flushR.1.left= -1:=by
 rcases flushR_cases s with ⟨q,e⟩|⟨q,e⟩
 ·omega
 ·rw [e];exact ⟨rfl,by show spent s.left= -1;rw [h];rfl⟩
structure Zero (s:Dsk):Prop where
 left:s.left= -1
 len:s.last.length=20
 now:∀j,j<20→s.now j=zsec
structure FrD (s:Dsk)(no:Nat):Prop where
 left:s.left= -1
 len:s.last.length=20
 pair:∃x,newestF (s.now 0) (s.now 1)=(x,no,[],0)
 ring:∀j,2≤j→j<20→s.now j=zsec
theorem Zero.flush {s:Dsk}(h:Zero s):Zero s.flushR.1:=⟨(flush_m h.left).2,(Did.flush s).len.trans h.len,fun j hj=>(now_flushR (by rw [h.len];exact hj)).trans (h.now j hj)⟩
theorem DOk.take {s:Dsk}(h:DOk s):DOk s.take:=⟨h.len,h.plen,h.n1,h.n2,h.lb⟩
theorem FrD.take {s:Dsk}{no:Nat}(h:FrD s no):FrD s.take no:=⟨h.left,h.len,h.pair,h.ring⟩
theorem FrD.flush {s:Dsk}{no:Nat}(h:FrD s no):FrD s.flushR.1 no:=by
 have hl:=h.len
 refine ⟨(flush_m h.left).2,(Did.flush s).len.trans hl, ?_,fun j h2 h3=>(now_flushR om_).trans (h.ring j h2 h3)⟩
 rw [now_flushR om_,now_flushR om_];exact h.pair
theorem FrD.newR {s:Dsk}(h:FrD s 4294967296):newR s 0=some (1,0):=by
 obtain ⟨x,hx⟩:=h.pair
 have hx':newestF (s.now 0) (s.now (0+1))=(x,4294967296,[],0):=hx
 rw [newR_some (f:=0) (by rw [hx'];simp),hx']
 exact congrArg some (Prod.ext (show 4294967296/4294967296=1 by decide) (show 4294967296%4294967296=0 by decide))
structure ZeroN (n:Nat)(s:Dsk):Prop where
 left:s.left= -1
 len:s.last.length=n+2
 now:∀j,j<n+2→s.now j=zsec
structure FrN (n:Nat)(s:Dsk)(no:Nat):Prop where
 left:s.left= -1
 len:s.last.length=n+2
 pair:∃x,newestF (s.now 0) (s.now 1)=(x,no,[],0)
 ring:∀j,2≤j→j<n+2→s.now j=zsec
theorem ZeroN.flush {n:Nat}{s:Dsk}(h:ZeroN n s):ZeroN n s.flushR.1:=⟨(flush_m h.left).2,(Did.flush s).len.trans h.len,fun j hj=>(now_flushR (by rw [h.len];exact hj)).trans (h.now j hj)⟩
theorem FrN.take {n:Nat}{s:Dsk}{no:Nat}(h:FrN n s no):FrN n s.take no:=⟨h.left,h.len,h.pair,h.ring⟩
theorem FrN.flush {n:Nat}{s:Dsk}{no:Nat}(h:FrN n s no):FrN n s.flushR.1 no:=by
 have hl:=h.len
 refine ⟨(flush_m h.left).2,(Did.flush s).len.trans hl, ?_,fun j h2 h3=>(now_flushR om_).trans (h.ring j h2 h3)⟩
 rw [now_flushR om_,now_flushR om_];exact h.pair
theorem FrN.newR {n:Nat}{s:Dsk}(h:FrN n s 4294967296):newR s 0=some (1,0):=by
 obtain ⟨x,hx⟩:=h.pair
 have hx':newestF (s.now 0) (s.now (0+1))=(x,4294967296,[],0):=hx
 rw [newR_some (f:=0) (by rw [hx'];simp),hx']
 exact congrArg some (Prod.ext (show 4294967296/4294967296=1 by decide) (show 4294967296%4294967296=0 by decide))
section
def May (B:List (List UInt8))(low:Nat)(none:Bool)(told:List (List UInt8)):Prop:=
 (none=true∧told=[])∨(low≤told.length∧told.length≤B.length∧told=B.take told.length)
structure Cutted (k n:Nat)(x:Dsk)(B:List (List UInt8))(low:Nat)(none:Bool)(E T:Nat):Prop where
 e1:1≤E
 e2:E≤k+2
 t:T≤17*k
 pair:∃q,newestF (x.lst 0) (x.lst 1)=(q,E*4294967296+T,[],0)
 old:∀j,j<n→(pcF (x.lst (2+j))).epoch≤E
 tell:∀R' h',Recs (pcAt x 0 n) E T R' h'→NoRec (pcAt x 0 n) E h'→May B low none R'
def Back (k n:Nat)(s:Dsk)(B:List (List UInt8))(low:Nat)(none:Bool):Prop:=∀x,CutOf s x→∃E T,Cutted k n x B low none E T
theorem Left.cutted {k n E T low low':Nat}{x:Dsk}{R B:List (List UInt8)}{none:Bool}(h:Left x n E T R low)(h1:1≤E)(h2:E≤k+2)(h3:T≤17*k)(hm:∀R',low≤R'.length→R'.length≤R.length→R'=R.take R'.length→May B low' none R'):Cutted k n x B low' none E T:=
 ⟨h1,h2,h3,h.pair,h.old,fun R' h' r n'=>by obtain ⟨q1,q2,q3⟩:=h.tell R' h' r n';exact hm R' q1 q2 q3⟩
theorem Left.cut1 {k n E T low:Nat}{x:Dsk}{R B:List (List UInt8)}{none:Bool}(h:Left x n E T R low)(h1:1≤E)(h2:E≤k+2)(h3:T≤17*k)(hb:R=B.take R.length)(hl:R.length≤B.length):Cutted k n x B low none E T:=
 h.cutted h1 h2 h3 fun R' q1 q2 q3=>.inr ⟨q1,by omega,by
  rw [hb,List.take_take,Nat.min_eq_left q2] at q3;exact q3⟩
theorem Left.cut0 {k n E T low low':Nat}{x:Dsk}{B:List (List UInt8)}(h:Left x n E T [] low)(h1:1≤E)(h2:E≤k+2)(h3:T≤17*k):Cutted k n x B low' true E T:=
 h.cutted h1 h2 h3 fun R' _ q2 _=>.inl ⟨rfl,List.eq_nil_of_length_eq_zero (by simpa using q2)⟩
theorem Cutted.next {k n E T low:Nat}{x:Dsk}{B:List (List UInt8)}{none:Bool}(h:Cutted k n x B low none E T):Cutted (k+1) n x B low none E T:=⟨h.e1,by have:=h.e2;omega,by have:=h.t;omega,h.pair,h.old,h.tell⟩
theorem Cutted.mono {k n E T low:Nat}{x:Dsk}{B:List (List UInt8)}{none:Bool}(h:Cutted k n x B low none E T):Cutted k n x B low true E T:=⟨h.e1,h.e2,h.t,h.pair,h.old,fun R' h' r n'=>(h.tell R' h' r n').elim (fun q=>.inl ⟨rfl,q.2⟩) .inr⟩
structure PInv (k n:Nat)(s:Dsk)(l:Lg)(B:List (List UInt8))(low:Nat)(none:Bool):Prop where
 n0:18≤n∧n≤256
 len:s.last.length=n+2
 ok:DOk s
 life:0≤s.life∧s.life≤2*(k:Int)+5
 lg:LgOk (n+2) l
 pend:s.pend.length≤20*k+300
 st:(none=false∧∃E top T H Y,l=⟨0,n,s.life,E,top,T,H,true⟩∧1≤E∧E≤k+2∧top≤k+2∧H≤17*k∧Core s n E T Y H H B low)∨(s.left=0∧Sgl s∧Back k n s B low none)
theorem PInv.sgl {k n:Nat}{s:Dsk}{l:Lg}{B:List (List UInt8)}{low:Nat}{none:Bool}(h:PInv k n s l B low none):Sgl s:=by
 rcases h.st with ⟨_,E,top,T,H,Y,_,_,_,_,_,hc⟩|⟨_,q,_⟩
 ·exact hc.sgl
 ·exact q
theorem PInv.back {k n:Nat}{s:Dsk}{l:Lg}{B:List (List UInt8)}{low:Nat}{none:Bool}(h:PInv k n s l B low none):Back k n s B low none:=by
 rcases h.st with ⟨_,E,top,T,H,Y,_,h1,h2,_,h3,hc⟩|⟨_,_,q⟩
 ·intro x c
  have he:=hc.ends
  exact ⟨E,T,(hc.cut hc.no c).cut1 h1 h2 om_ (by rw [List.take_length]) (Nat.le_refl _)⟩
 ·exact q
theorem Back.next {k n:Nat}{s:Dsk}{B:List (List UInt8)}{low:Nat}{none:Bool}(h:Back k n s B low none):Back (k+1) n s B low none:=fun x c=>by obtain ⟨E,T,q⟩:=h x c;exact ⟨E,T,q.next⟩
theorem PInv.next {k n:Nat}{s:Dsk}{l:Lg}{B:List (List UInt8)}{low:Nat}{none:Bool}(h:PInv k n s l B low none):PInv (k+1) n s l B low none:=
 ⟨h.n0,h.len,h.ok,by have:=h.life;omega,h.lg,by have:=h.pend;omega,by
  rcases h.st with ⟨q,E,top,T,H,Y,h0,h1,h2,h3,h4,hc⟩|⟨q1,q2,q3⟩
  ·exact .inl ⟨q,E,top,T,H,Y,h0,h1,by omega,by omega,by omega,hc⟩
  ·exact .inr ⟨q1,q2,q3.next⟩⟩
theorem appendR_did {s:Dsk}{l:Lg}(hok:DOk s)(hn:1≤l.n)(hin:l.first+2+l.n≤s.last.length)(d:List UInt8):Did s (appendR s l d).1 17:=by
 have hs:Did s s 17:=⟨rfl,rfl,by omega,id⟩
 unfold appendR
 split
 ·exact hs
 ·split
  ·exact hs
  ·rename_i h0
   split
   ·exact hs
   ·rename_i h1
    split
    ·exact hs
    ·split
     ·exact hs
     ·have g:=(laysR_did (l:=l) (d:=d) rfl hn (countR d.length) 0 s (Nat.zero_add _) hok hin).1
      have hc:countR d.length≤17:=by unfold countR;omega
      simp only []
      split
      ·exact g.le hc
      ·exact g.le hc
theorem trimR_did {s:Dsk}{l:Lg}:Did s (trimR s l).1 17:=by
 unfold trimR
 split
 ·exact ⟨rfl,rfl,Nat.le_add_right _ _,id⟩
 ·split
  ·exact (Did.flush s).le om_
  ·simp only []
   split
   ·exact ((Did.flush s).trans (renewR_did _ _ _).1).le om_
   ·exact ((Did.flush s).trans (renewR_did _ _ _).1).le om_
section
variable {F:Nat→Prop}{w0 w:World}{L:List Ast}{g gd k n:Nat}{l:Lg}{s:Dsk}{B:List (List UInt8)}{low:Nat}{none:Bool}
theorem dead_append {s:Dsk}{l:Lg}(hz:s.left=0)(d:List UInt8):appendR s l d=(s,l,3):=by
 have hr:readyR s l=3:=by unfold readyR;rw [if_pos (alive_burnt hz)]
 unfold appendR;rw [if_pos om_,hr]
theorem dead_trim {s:Dsk}{l:Lg}(hz:s.left=0):trimR s l=(s,l,3):=by
 have hr:readyR s l=3:=by unfold readyR;rw [if_pos (alive_burnt hz)]
 unfold trimR;rw [if_pos om_,hr]
theorem PInv.append (h:PInv k n s l B low none)(hk:k≤70000){s':Dsk}(hok':DOk s')(d:List UInt8)(hs':s'=(appendR s l d).1):
  ((appendR s l d).2.2=0∧s.left≠0∧1≤d.length∧d.length≤8364∧PInv (k+1) n s' (appendR s l d).2.1 (B++[d]) low none)∨
  ((appendR s l d).2.2=3∧s.left≠0∧PInv (k+1) n s' (appendR s l d).2.1 (B++[d]) low none)∨
  ((appendR s l d).2.2=3∧s.left=0∧PInv (k+1) n s' (appendR s l d).2.1 B low none)∨
  ((appendR s l d).2.2≠0∧(appendR s l d).2.2≠3∧PInv (k+1) n s' (appendR s l d).2.1 B low none):=by
 have hd:=appendR_did h.ok (l:=l) (by have:=h.lg.ok.n0;omega) (by have:=h.lg.fit;have:=h.len;omega) d
 have hdp:=hd.pend
 have hdl:=hd.len
 have hlife:=h.life
 have hpend:=h.pend
 have hlen:=h.len
 rw [←hs'] at hd hdp hdl
 by_cases hz:s.left=0
 ·have e:=dead_append (l:=l) hz d
  refine .inr (.inr (.inl ⟨by rw [e],hz, ?_⟩))
  rw [hs',e];exact h.next
 ·rcases h.st with ⟨hnone,E,top,T,H,Y,hl,h1,h2,h3,h4,hc⟩|⟨q,_⟩
  ·have hn:=hc.n0
   have he:=hc.ends
   rcases append_core hl hc h.ok hz om_ om_ d with ⟨e,a1,a2,a3,a4,a5,a6,_,a7⟩|⟨e0,e3,a1,_⟩|⟨e,a1,a2,_,a3,j,a4,a5⟩
   ·refine .inl ⟨e,hz,a1,a2, ?_⟩
    rw [a3]
    rw [←hs'] at a6 a7
    refine ⟨hn,by omega,hok',by rw [a7];omega,⟨⟨Nat.zero_le _,hn.1,hn.2,by show E≤_;omega,by show top<_;omega,by show T≤_;omega⟩,⟨by show T≤H+_;omega,by show H+_≤T+n;omega⟩,by show 0+2+n≤n+2;omega,fun _=>by show H+_≤_;omega⟩,by omega,.inl ⟨hnone,E,top,T,H+countR d.length,Y,by rw [a7],h1,by omega,by omega,by omega,a6⟩⟩
   ·refine .inr (.inr (.inr ⟨e0,e3, ?_⟩))
    have e1:s'=s:=by rw [hs',a1]
    rw [e1,show (appendR s l d).2.1=l from by rw [a1]]
    exact h.next
   ·refine .inr (.inl ⟨e,hz, ?_⟩)
    rw [a2]
    rw [←hs'] at a1 a3 a4 a5
    refine ⟨hn,by omega,hok',by rw [a3];omega,h.lg,by omega,.inr ⟨a1,a4.sgl,fun x c=>⟨E,T, ?_⟩⟩⟩
    exact (a4.cut a5 c).cut1 h1 om_ om_ (by rw [List.take_append_of_le_length (Nat.le_refl _),List.take_length]) (by rw [List.length_append];omega)
  ·exact absurd q hz
theorem PInv.trim (h:PInv k n s l B low none)(hk:k≤70000){s':Dsk}(hok':DOk s')(hs':s'=(trimR s l).1):
  ((trimR s l).2.2=0∧s.left≠0∧PInv (k+1) n s' (trimR s l).2.1 [] 0 false)∨((trimR s l).2.2=3∧s.left≠0∧PInv (k+1) n s' (trimR s l).2.1 B low true)∨((trimR s l).2.2=3∧s.left=0∧PInv (k+1) n s' (trimR s l).2.1 B low none):=by
 have hd:=trimR_did (s:=s) (l:=l)
 have hdp:=hd.pend
 have hdl:=hd.len
 have hlife:=h.life
 have hpend:=h.pend
 have hlen:=h.len
 rw [←hs'] at hd hdp hdl
 by_cases hz:s.left=0
 ·have e:=dead_trim (l:=l) hz
  refine .inr (.inr ⟨by rw [e],hz, ?_⟩)
  rw [hs',e];exact h.next
 ·rcases h.st with ⟨hnone,E,top,T,H,Y,hl,h1,h2,h3,h4,hc⟩|⟨q,_⟩
  ·have hn:=hc.n0
   have he:=hc.ends
   rcases trim_core hc h.ok hl hz om_ om_ with ⟨e,a1,a2,a3⟩|⟨e,a1,a2,a3,a4,a5⟩
   ·refine .inl ⟨e,hz, ?_⟩
    rw [a1]
    rw [←hs'] at a2 a3
    refine ⟨hn,by omega,hok',by rw [a3];omega,⟨⟨Nat.zero_le _,hn.1,hn.2,by show E≤_;omega,by show top<_;omega,by show H≤_;omega⟩,⟨Nat.le_refl _,by show H≤H+n;omega⟩,by show 0+2+n≤n+2;omega,fun _=>by show H≤_;omega⟩,by omega,.inl ⟨rfl,E,top,H,H,H,by rw [a3],h1,by omega,by omega,by omega,a2⟩⟩
   ·refine .inr (.inl ⟨e,hz, ?_⟩)
    rw [a2]
    rw [←hs'] at a1 a3 a4 a5
    refine ⟨hn,by omega,hok',by rw [a4];omega,h.lg,by omega,.inr ⟨a1,a3,fun x c=> ?_⟩⟩
    have hlow:=hc.low.1
    rcases a5 x c with q|q
    ·exact ⟨E,T,q.cutted h1 om_ om_ fun R' q1 q2 q3=>.inr ⟨by omega,q2,q3⟩⟩
    ·exact ⟨E,H,q.cut0 h1 om_ om_⟩
  ·exact absurd q hz
theorem CutOf.fuse {s x:Dsk}{a:Int}(c:CutOf (s.fuseR a) x):CutOf s x:=by
 obtain ⟨e1,e2⟩:=fuseR_same s a
 refine ⟨c.pend,c.len.trans (by rw [e1]),fun j hj hf=> ?_,fun y hy=> ?_⟩
 ·have:=c.free j (by rw [e1];exact hj) (by rw [e2];exact hf)
  rw [this,e1]
 ·have:=c.one y (by rw [e2];exact hy)
  rw [e1] at this;exact this
theorem fuseR_life (s:Dsk)(a:Int):(s.fuseR a).life=s.life:=by unfold Dsk.fuseR;split<;>rfl
theorem PInv.fuse (h:PInv k n s l B low none)(a:Int)(hok':DOk (s.fuseR a)):PInv (k+1) n (s.fuseR a) l B low none:=by
 obtain ⟨e1,e2⟩:=fuseR_same s a
 have hlife:=h.life
 have hpend:=h.pend
 have hlen:=h.len
 refine ⟨h.n0,by rw [e1];exact hlen,hok',by rw [fuseR_life];omega,h.lg,by rw [e2];omega, ?_⟩
 rcases h.st with ⟨hnone,E,top,T,H,Y,hl,h1,h2,h3,h4,hc⟩|⟨q1,q2,q3⟩
 ·exact .inl ⟨hnone,E,top,T,H,Y,by rw [fuseR_life];exact hl,h1,by omega,by omega,by omega,hc.same e1 e2⟩
 ·refine .inr ⟨by unfold Dsk.fuseR;rw [if_pos q1];exact q1,⟨by rw [e2];exact q2.nodup,by rw [e1,e2];exact q2.over⟩,fun x c=>q3.next x c.fuse⟩
end
end
end Go.Proofs
end
section
open Go Go.RowKit Go.Proofs.YtgeioealgidkiaaW.PrintWords Go.Proofs.YtgeioealgidkiaaW.PrintMore
namespace Go.Proofs
open Go.Vel
set_option linter.unusedVariables false
set_option maxRecDepth 100000
section
structure PCut (k n:Nat)(x:Dsk)(B:List (List UInt8))(low:Nat)(nn:Bool):Prop where
 n0:18≤n∧n≤256
 len:x.last.length=n+2
 ok:DOk x
 pend:x.pend=[]
 left:x.left= -1
 life:0≤x.life∧x.life≤2*(k:Int)+6
 cut:∃E T,Cutted k n x B low nn E T
theorem Cutted.flat {k n E T low:Nat}{x y:Dsk}{B:List (List UInt8)}{nn:Bool}(h:Cutted k n x B low nn E T)(hx:x.pend=[])(hy:y.pend=[])(hn:0<n)(hl:x.last.length=n+2)(e:∀j,j<n+2→y.lst j=x.lst j):Cutted k n y B low nn E T:=by
 have e1:=pcAt_flat hx hy (n:=n) hn om_ (fun j _ h2=>e j om_)
 exact ⟨h.e1,h.e2,h.t,by rw [e 0 om_,e 1 om_];exact h.pair,fun j hj=>by rw [e (2+j) om_];exact h.old j hj,by rw [e1];exact h.tell⟩
theorem PInv.crash {k n low:Nat}{s:Dsk}{l:Lg}{B:List (List UInt8)}{nn:Bool}(h:PInv k n s l B low nn)(hk:k≤70000)(ps:List Pick)(hok:DOk (s.crashR ps)):PCut k n (s.crashR ps) B low nn:=by
 have hl:=h.life
 have e:(s.crashR ps).life=s.life+1:=inc_ok hl.1 om_
 exact ⟨h.n0,(crashR_len s ps).trans h.len,hok,rfl,rfl,by rw [e];omega,h.back _ (h.sgl.cut h.ok ps)⟩
theorem PCut.load {k n low:Nat}{x y:Dsk}{B:List (List UInt8)}{nn:Bool}(h:PCut k n x B low nn)(hy:y=Dsk.mk0 x.last)(hok:DOk y):PCut k n y B low nn:=by
 obtain ⟨E,T,hc⟩:=h.cut
 have hn:=h.n0
 have el:y.last=x.last:=by rw [hy];rfl
 refine ⟨h.n0,by rw [el];exact h.len,hok,by rw [hy];rfl,by rw [hy];rfl,by rw [show y.life=1 by rw [hy];rfl];omega,E,T,hc.flat h.pend (by rw [hy];rfl) om_ h.len fun j _=>by unfold Dsk.lst;rw [el]⟩
theorem catF_len {pc:Nat→Pc}(h:∀p,(pc p).data.length≤492)(p:Nat):∀c,(catF pc p c).length≤c*492
 |0=>by simp [catF]
 |c+1=>by
  rw [catF_succ,List.length_append]
  have:=catF_len h p c
  have:=h (p+c)
  omega
theorem Recs.lens {pc:Nat→Pc}{E a:Nat}{R:List (List UInt8)}{h:Nat}(r:Recs pc E a R h)(hd:∀p,(pc p).data.length≤492):∀x∈R,1≤x.length∧x.length≤8364:=by
 induction r with
 |nil=>intro x hx;cases hx
 |@step R h c r hr ih=>
  intro x hx
  rcases List.mem_append.1 hx with hx|hx
  ·exact ih x hx
  ·rw [List.mem_singleton] at hx
   subst hx
   have h1:=catF_len hd h c
   have h2:=hr.c17
   have h3:=hr.c1
   have h4:=(hr.part 0 h3).data
   refine ⟨?_,by omega⟩
   have:catF pc h c=(pc (h+0)).data++catF pc (h+1) (c-1):=by
    unfold catF
    rw [show c=(c-1)+1 by omega,List.range_succ_eq_map,List.map_cons,List.flatten_cons,List.map_map]
    congr 2
    rw [show c-1+1-1=c-1 by omega]
    apply List.map_congr_left
    intro j _
    show (pc (h+(j+1))).data=(pc (h+1+j)).data
    rw [show h+(j+1)=h+1+j by omega]
   rw [this,List.length_append]
   have:=List.length_pos_iff.2 h4
   omega
section
variable {F:Nat→Prop}{w0 w:World}{L:List Ast}{g gd k n:Nat}{l:Lg}{s:Dsk}{B:List (List UInt8)}{low:Nat}{nn:Bool}
end
end
end Go.Proofs
end
section
open Go Go.RowKit Go.Proofs.YtgeioealgidkiaaW.PrintWords Go.Proofs.YtgeioealgidkiaaW.PrintMore
namespace Go.Proofs
open Go.Vel
set_option linter.unusedVariables false
set_option maxRecDepth 100000
set_option maxHeartbeats 4000000
attribute [local irreducible] gives wpList Code.wp
section
variable {F:Nat→Prop} {w0 w:World} {L:List Ast}
theorem byte_eq {a b:List UInt8}{k:Nat}(h:¬((a.getD k 0).toNat:Int)=((b.getD k 0).toNat:Int)):a≠b:=fun e=>h (by rw [e])
theorem bytes_ext {a b:List UInt8}(hl:a.length=b.length)(h:∀m,m<a.length→((a.getD m 0).toNat:Int)=((b.getD m 0).toNat:Int)):a=b:=by
 apply List.ext_getElem hl
 intro m h1 h2
 have:=h m h1
 rw [List.getD_eq_getElem?_getD,List.getD_eq_getElem?_getD,List.getElem?_eq_getElem h1,List.getElem?_eq_getElem h2] at this
 simp only [Option.getD_some] at this
 exact UInt8.toNat_inj.1 om_
theorem same_spec {A B:Option Addr}{a b:List UInt8}{ca cb:Nat}(S:St F w0 w L)(hx:RoT F w0 L A a)(hy:RoT F w0 L B b)(hm:a.length≤9223372036854775807)(hm2:b.length≤9223372036854775807):
  Calls Try.prog 24 #[.slice A a.length ca,.slice B b.length cb] w fun e w'=>e=.returned (.bool (decide (a=b)))∧St F w0 w' L:=by
 refine eN (fr [.slice A a.length ca,.slice B b.length cb] 24) Try.func24 rfl (sR (pv fv (wE (nS (sR (pv (.slice A a.length ca) (pv (iv (a.length:Nat)) (pv (.slice B b.length cb) (pv (iv (b.length:Nat)) (dN (a.length:Nat) (b.length:Nat) (fun hb1=> ?_) fun hb1=> ?_))))))))))
 ·have hlen:¬a.length=b.length:=fun e=>hb1 (by rw [e])
  exact wE (nCT (sR (pv fv (wE (then_n (rR (bA (.bool false) ⟨by rw [decide_eq_false (fun e=>hlen (by rw [e]))],S⟩)))))))
 ·have hlen:a.length=b.length:=Int.ofNat.inj hb1
  refine wE (nCF (wp_skip (nS (sR (pv (iv 0) (wE (then_n (wp_block (wp_loop_g (G:=Nat) (fun (g_:Nat) (a_:Act) (w_:World)=>∃J:Nat→Value,a_=(fr ([.slice A a.length ca,.slice B b.length cb,ud,ud,J 4,nI_ g_,.slice A a.length ca,iv (a.length:Nat),.slice B b.length cb,iv (b.length:Nat),fv]++jR J 11 15) 0)∧St F w0 w_ (L)∧(g_≤a.length∧∀m,m<g_→((a.getD m 0).toNat:Int)=((b.getD m 0).toNat:Int))) (fun g_=>a.length-g_) 0 (jE_ ⟨S,⟨Nat.zero_le _,fun m h=>absurd h (Nat.not_lt_zero _)⟩⟩) ?_)))))))))
  rintro k a_ w2 ⟨J,rfl,S3,hI4⟩
  skip
  have S3:St F w0 w2 (L):=S3
  have hI4:(k≤a.length∧∀m,m<k→((a.getD m 0).toNat:Int)=((b.getD m 0).toNat:Int)):=hI4
  refine wp_seq (sR (pv (nI_ k) (pv (.slice A a.length ca) (pv (iv (a.length:Nat)) (dC ((((k:Nat):Int):Int)<(a.length:Nat)) (fun hb5=> ?_) fun hb5=> ?_)))))
  ·have hk:k<a.length:=by omega
   obtain ⟨ada,rfl⟩:=(hx.now S3).at hk
   obtain ⟨adb,rfl⟩:=(hy.now S3).at (hlen▸hk)
   refine wE (nCT (wp_skip (nS (wp_block (wp_seq (wp_region_phu (γ:=Unit) 9 [] (fun (c_:Unit) (i_:Nat)=>(match i_ with|0=>.slice (some ada) a.length ca|1=>nI_ k|2=>.pointer (some (ada.add k))|3=>.int .u8 ((a.getD k 0).toNat:Int)|4=>.slice (some adb) b.length cb|5=>nI_ k|6=>.pointer (some (adb.add k))|7=>.int .u8 ((b.getD k 0).toNat:Int)|8=>.bool (((a.getD k 0).toNat:Int) !=((b.getD k 0).toNat:Int))|_=>undef:Value)) (fun (c_:Unit) (p_:Nat) (w_:World)=>(match p_ with|_=>St F w0 w_ (L):Prop)) () kr_ kr_ kr_ kr_ (S3.drew) ?_ ?_ ?_))))))
   ·intro i_ c_ p_ vals_ w1 hi_ hiE_ hp_ hk_ hu_ hPh_ hd_
    rcases i_ with _|_|_|_|_|_|_|_|_|i_
    ·exact tG_ rfl hd_ (gV (.slice (some ada) a.length ca) ⟨rfl,rfl⟩)
    ·exact tG_ rfl hd_ (gV (nI_ k) ⟨rfl,rfl⟩)
    ·exact tG_ rfl hd_ (gv_ixB (e:=5) (sz:=1) (n:=a.length) (c:=ca) (i:=((k:Nat):Int)) (k:=.i64) (ad:=ada) (ad':=(ada.add k)) (j:=k) rfl kr_ kr_ kr_ kr_ rfl hk (by rw [Nat.mul_one]) ⟨rfl,rfl⟩)
    ·have S9:=St.id hPh_
     exact tG_ rfl hd_ (gL (.int .u8 ((a.getD k 0).toNat:Int)) rfl ((hx.now S9).cell hk) ⟨rfl,rfl⟩)
    ·exact tG_ rfl hd_ (gV (.slice (some adb) b.length cb) ⟨rfl,rfl⟩)
    ·exact tG_ rfl hd_ (gV (nI_ k) ⟨rfl,rfl⟩)
    ·exact tG_ rfl hd_ (gv_ixB (e:=5) (sz:=1) (n:=b.length) (c:=cb) (i:=((k:Nat):Int)) (k:=.i64) (ad:=adb) (ad':=(adb.add k)) (j:=k) rfl kr_ kr_ kr_ kr_ rfl (hlen▸hk) (by rw [Nat.mul_one]) ⟨rfl,rfl⟩)
    ·have S13:=St.id hPh_
     exact tG_ rfl hd_ (gL (.int .u8 ((b.getD k 0).toNat:Int)) rfl ((hy.now S13).cell (hlen▸hk)) ⟨rfl,rfl⟩)
    ·exact tG_ rfl hd_ (gV (.bool (((a.getD k 0).toNat:Int) !=((b.getD k 0).toNat:Int))) ⟨rfl,rfl⟩)
    ·exact absurd hi_ om_
   ·intro k_ c_ vals_ w1 hk_ hPh_ hd_
    exact absurd hk_ (Nat.not_lt_zero _)
   ·intro c_ w1 hPh_
    have S15:=St.id hPh_
    refine (wE (then_n (wp_cond_split (t:=((a.getD k 0).toNat:Int) !=((b.getD k 0).toNat:Int)) kr_ (fun hc16=> ?_) (fun hc16=> ?_))))
    ·exact sR (pv fv (wE (then_n (wp_ret (inb_r (then_r (then_r (inb_r (then_r (bA (.bool false) ⟨by rw [decide_eq_false (byte_eq (by simpa using hc16))],S15⟩))))))))))
    ·have heqk:((a.getD k 0).toNat:Int)=((b.getD k 0).toNat:Int):=by simpa using hc16
     exact wp_skip (inb_n (nR (pv (nI_ k) (gI .i64 (IntKind.i64.wrap (((k:Nat):Int)+1)) (((k:Nat):Int)+1) (wr_ok om_ om_) (pv (iv (((k:Nat):Int)+1)) (wE (then_n ⟨k+1,(jE_ ⟨S15,⟨by omega,fun m hm=>(Nat.lt_succ_iff_lt_or_eq.1 hm).elim (hI4.2 m) (fun e=>e▸heqk)⟩⟩),(by show a.length-(k+1)<a.length-k;omega)⟩)))))))
  ·have hke:k=a.length:=by omega
   exact wE (nCF (wp_exit (then_x (then_x (inb_x (nSR (pv tv (wE (then_n (wp_ret (bA (.bool true) ⟨by rw [decide_eq_true (bytes_ext hlen (fun m hm=>hI4.2 m om_))],S3⟩)))))))))))
theorem same_b {A B:Option Addr}{a b:List UInt8}{ca cb:Nat}{t:Bool}(ht:decide (a=b)=t)(S:St F w0 w L)(hx:RoT F w0 L A a)(hy:RoT F w0 L B b)(hm:a.length≤9223372036854775807)(hm2:b.length≤9223372036854775807):
  Calls Try.prog 24 #[.slice A a.length ca,.slice B b.length cb] w fun e w'=>e=.returned (.bool t)∧St F w0 w' L:=ht▸same_spec S hx hy hm hm2
theorem ltwinS {A:Option Addr}{l:List UInt8}{c:Nat}(S:St F w0 w L)(hr:RoT F w0 L A l)(hlm:l.length≤140737488355328):Calls Try.prog 59 #[.slice A l.length c] w fun e w'=>∃go,e=.returned (.slice (some ⟨go,0,none⟩) l.length l.length)∧St F w0 w' (row go (bvs l) 5::L):=by
 refine eN (fr [.slice A l.length c] 10) Try.func59 rfl (sR (pv (.slice none 0 0) (wER (pv (.slice A l.length c) (pv (iv (l.length:Nat)) (g_ (gv_make (e:=5) (u:=(l.length:Nat)) (v:=(l.length:Nat)) (z:=.int .u8 0) (sz:=1) (by_:=1) (n:=l.length) (c:=l.length) (cs:=(bvs (List.replicate l.length 0))) S rfl kr_ ⟨by kernel_rfl⟩ kr_ kr_ rfl rfl (Nat.le_refl _) om_ om_ (mk_bytes _) (fun g1 w2 hg3 S4=>pv (sl g1 0 l.length l.length) (wER (pv (sl g1 0 l.length l.length) (pv (.slice A l.length c) (g_ (gv_copy (e:=5) (off:=0) (dLen:=l.length) (dCap:=l.length) (sLen:=l.length) (sCap:=c) (A:=A) (B:=(List.replicate l.length 0)) (l:=l) S4 0 rfl rfl kr_ kr_ kr_ kr_ rfl (hr.out _ [row g1 (bvs (List.replicate l.length 0)) 5] S4) (by simp) (L':=(row g1 (bvs l) 5::L)) (by rw [copy_all rfl];rfl) (fun w5 m7 S6=>wER (pv (sl g1 0 l.length l.length) ?_)))))))))))))))
 exact pv (sl g1 0 l.length l.length) (wE (then_n (wp_ret (bA (sl g1 0 l.length l.length) ⟨_,rfl,S6⟩))))
structure RoL (F:Nat→Prop)(w0:World)(L:List Ast)(A:Option Addr)(R:List RecV):Prop where
 vs:RoV F w0 L A (R.map (·.1))
 el:∀x∈R,∃B c,x.1=.slice B x.2.length c∧RoT F w0 L B x.2∧x.2.length≤140737488355328
theorem rov_vec {F:Nat→Prop}{w0:World}{L:List Ast}{t:TypeId}{A:Option Addr}{n c:Nat}{vs:List Value}(i:Nat)(hi:L[i]?=some (vec t 1 (.slice A n c) n vs)):RoV F w0 L A vs:=⟨fun w' L' S=>by
 have h1:(L'++L)[L'.length+i]?=some (vec t 1 (.slice A n c) n vs):=by rw [List.getElem?_append_right om_];simpa using hi
 exact St.vec_rd S _ h1⟩
theorem rot_rec {F:Nat→Prop}{w0:World}{L:List Ast}{RV:List RecV}{x:RecV}{A:Option Addr}{c:Nat}(i:Nat)(hi:L[i]?=some (stars (RV.map recD)))(hx:x∈RV)(hv:x.1=.slice A x.2.length c):RoT F w0 L A x.2:=⟨fun w' L' S'=>by
 have h1:(L'++L)[L'.length+i]?=some (stars (RV.map recD)):=by rw [List.getElem?_append_right om_];simpa using hi
 have h2:=(S'.mem _ h1).star_mem (List.mem_map_of_mem hx)
 unfold recD at h2
 rw [hv] at h2
 exact RdV.bytes (St.vec_rd h2 0 rfl)⟩
theorem St.recv {RV:List RecV}{x:RecV}(S:St F w0 w L)(i:Nat)(hi:L[i]?=some (stars (RV.map recD)))(hx:x∈RV):∃A c,x.1=.slice A x.2.length c:=((S.mem i hi).star_mem (List.mem_map_of_mem hx)).vec_val
theorem RoL.more {F:Nat→Prop}{w0:World}{L:List Ast}{A:Option Addr}{R:List RecV}(h:RoL F w0 L A R)(X:Ast):RoL F w0 (X::L) A R:=⟨h.vs.more,fun x hx=>by obtain ⟨B,c,h1,h2,h3⟩:=h.el x hx;exact ⟨B,c,h1,h2.more,h3⟩⟩
theorem RoL.app {F:Nat→Prop}{w0:World}{L:List Ast}{A:Option Addr}{R:List RecV}(h:RoL F w0 L A R):∀LA:List Ast,RoL F w0 (LA++L) A R
 |[]=>h
 |X::r=>(RoL.app h r).more X
theorem rol_own {A:Option Addr}{c:Nat}{RV:List RecV}(S:St F w0 w L)(i j:Nat)(hi:L[i]?=some (vec 31 1 (.slice A RV.length c) RV.length (RV.map (·.1))))(hj:L[j]?=some (stars (RV.map recD)))(hb:∀x∈RV,1≤x.2.length∧x.2.length≤8364):RoL F w0 L A RV:=
 ⟨rov_vec i hi,fun x hx=>by obtain ⟨B,c,h⟩:=St.recv S j hj hx;exact ⟨B,c,h,rot_rec j hj hx h,by have:=hb x hx;omega⟩⟩
theorem take_ext {α β:Type}{f:α→β}{R K:List α}{i:Nat}{x y:α}(h:(R.map f).take i=(K.map f).take i)(hx:R[i]?=some x)(hy:K[i]?=some y)(e:f x=f y):(R.map f).take (i+1)=(K.map f).take (i+1):=by
 rw [List.take_add_one,List.take_add_one,h,List.getElem?_map,List.getElem?_map,hx,hy]
 show _++[f x]=_++[f y]
 rw [e]
theorem take_all {α:Type}{R K:List α}{i:Nat}(h:R.take i=K.take i)(h1:R.length≤i)(h2:K.length≤i):R=K:=by rwa [List.take_of_length_le h1,List.take_of_length_le h2] at h
theorem map_at {α β:Type}{f:α→β}{R K:List α}{i:Nat}{x y:α}(e:R.map f=K.map f)(hx:R[i]?=some x)(hy:K[i]?=some y):f x=f y:=by
 have h9:=congrArg (fun q=>q[i]?) e
 simp only [List.getElem?_map,hx,hy,Option.map_some] at h9
 exact Option.some.inj h9
theorem RoT.app9 {F:Nat→Prop}{w0:World}{L:List Ast}{A:Option Addr}{l:List UInt8}(h:RoT F w0 L A l):∀LA:List Ast,RoT F w0 (LA++L) A l
 |[]=>h
 |_::r=>(RoT.app9 h r).more
theorem w_alikeR {A B:Option Addr}{ca cb:Nat}{RV RK:List RecV}(S:St F w0 w L)(h1:RoL F w0 L A RV)(h2:RoL F w0 L B RK)(hm:RV.length≤9223372036854775807)(hm2:RK.length≤9223372036854775807):Calls Try.prog 66 #[.slice A RV.length ca,.slice B RK.length cb] w fun e w'=>e=.returned (.bool (decide (RV.map (·.2)=RK.map (·.2))))∧St F w0 w' L:=by
 refine eN (fr [.slice A RV.length ca,.slice B RK.length cb] 25) Try.func66 rfl (sR (pv fv (wE (nS (sR (pv (.slice A RV.length ca) (pv (iv (RV.length:Nat)) (pv (.slice B RK.length cb) (pv (iv (RK.length:Nat)) (dN (RV.length:Nat) (RK.length:Nat) (fun hb1=> ?_) fun hb1=> ?_))))))))))
 ·refine wE (nCT (sR (pv fv (wE (then_n (rR (bA (.bool false) ?_)))))))
  have hne:RV.map (·.2)≠RK.map (·.2):=fun e=>by have:=congrArg List.length e;rw [List.length_map,List.length_map] at this;omega
  rw [decide_eq_false hne]
  exact ⟨rfl,S⟩
 ·refine wE (nCF (wp_skip (nS (sR (pv (iv 0) (wE (then_n (wp_block (wp_loop_g (G:=Nat) (fun (g_:Nat) (a_:Act) (w_:World)=>∃J:Nat→Value,a_=(fr ([.slice A RV.length ca,.slice B RK.length cb,ud,ud,J 4,nI_ g_,.slice A RV.length ca,iv (RV.length:Nat),.slice B RK.length cb,iv (RK.length:Nat),fv]++jR J 11 16) 0)∧St F w0 w_ (L)∧(g_≤RV.length∧(RV.map (·.2)).take g_=(RK.map (·.2)).take g_)) (fun g_=>RV.length-g_) 0 (jE_ ⟨S,⟨Nat.zero_le _,rfl⟩⟩) ?_)))))))))
  rintro i a_ w2 ⟨J,rfl,S3,⟨hi1,hi2⟩⟩
  skip
  have S3:St F w0 w2 (L):=S3
  refine wp_seq (sR (pv (nI_ i) (pv (.slice A RV.length ca) (pv (iv (RV.length:Nat)) (dC ((((i:Nat):Int):Int)<(RV.length:Nat)) (fun hb5=> ?_) fun hb5=> ?_)))))
  ·have hi:i<RV.length:=by omega
   have hi9:i<RK.length:=by omega
   obtain ⟨x,hx⟩:∃x,RV[i]?=some x:=⟨_,List.getElem?_eq_getElem hi⟩
   obtain ⟨y,hy⟩:∃y,RK[i]?=some y:=⟨_,List.getElem?_eq_getElem hi9⟩
   have hxm:=List.mem_of_getElem? hx
   have hym:=List.mem_of_getElem? hy
   obtain ⟨Ax,cx,hxv,hxr,hxl⟩:=h1.el x hxm
   obtain ⟨Ay,cy,hyv,hyr,hyl⟩:=h2.el y hym
   obtain ⟨ad,hAd,hrs⟩:=h1.vs.out _ [] S3 (by rw [List.length_map];omega)
   obtain ⟨ad2,hAd2,hrs2⟩:=h2.vs.out _ [] S3 (by rw [List.length_map];omega)
   subst hAd hAd2
   have hcx:(RV.map (·.1))[i]?=some (.slice Ax x.2.length cx):=by rw [List.getElem?_map,hx];exact congrArg some hxv
   have hcy:(RK.map (·.1))[i]?=some (.slice Ay y.2.length cy):=by rw [List.getElem?_map,hy];exact congrArg some hyv
   refine wE (nCT (wp_skip (nS (wp_block (wp_seq (wp_region_phu (γ:=Unit) 10 [8] (fun (c_:Unit) (i_:Nat)=>(match i_ with|0=>.slice (some ad) RV.length ca|1=>nI_ i|2=>.pointer (some (ad.add i))|3=>.slice Ax x.2.length cx|4=>.slice (some ad2) RK.length cb|5=>nI_ i|6=>.pointer (some (ad2.add i))|7=>.slice Ay y.2.length cy|8=>.bool (decide (x.2=y.2))|9=>.bool (!(decide (x.2=y.2)))|_=>undef:Value)) (fun (c_:Unit) (p_:Nat) (w_:World)=>(match p_ with|0=>St F w0 w_ (L)|_=>St F w0 w_ (L):Prop)) () kr_ kr_ kr_ kr_ (S3.drew) ?_ ?_ ?_))))))
   ·intro i_ c_ p_ vals_ w1 hi_ hiE_ hp_ hk_ hu_ hPh_ hd_
    rcases i_ with _|_|_|_|_|_|_|_|_|_|i_
    ·exact tG_ rfl hd_ (gV (.slice (some ad) RV.length ca) ⟨rfl,rfl⟩)
    ·exact tG_ rfl hd_ (gV (nI_ i) ⟨rfl,rfl⟩)
    ·exact tG_ rfl hd_ (gv_ixB (e:=31) (sz:=1) (n:=RV.length) (c:=ca) (i:=((i:Nat):Int)) (k:=.i64) (ad:=ad) (ad':=(ad.add i)) (j:=i) rfl kr_ kr_ kr_ kr_ rfl hi (by rw [Nat.mul_one]) ⟨rfl,rfl⟩)
    ·rcases p_ with _|_|p_
     ·have S9:=St.id hPh_
      exact tG_ rfl hd_ (gL (.slice Ax x.2.length cx) rfl ((h1.vs.out _ [] S9 (by rw [List.length_map];omega)).elim fun a9 h9=>by obtain ⟨e9,h9⟩:=h9;cases e9;exact h9 _ _ hcx) ⟨rfl,rfl⟩)
     ·exact absurd (hu_ 0 dc_ kr_) dc_
     ·exact absurd hp_ (by simp)
    ·exact tG_ rfl hd_ (gV (.slice (some ad2) RK.length cb) ⟨rfl,rfl⟩)
    ·exact tG_ rfl hd_ (gV (nI_ i) ⟨rfl,rfl⟩)
    ·exact tG_ rfl hd_ (gv_ixB (e:=31) (sz:=1) (n:=RK.length) (c:=cb) (i:=((i:Nat):Int)) (k:=.i64) (ad:=ad2) (ad':=(ad2.add i)) (j:=i) rfl kr_ kr_ kr_ kr_ rfl hi9 (by rw [Nat.mul_one]) ⟨rfl,rfl⟩)
    ·rcases p_ with _|_|p_
     ·have S13:=St.id hPh_
      exact tG_ rfl hd_ (gL (.slice Ay y.2.length cy) rfl ((h2.vs.out _ [] S13 (by rw [List.length_map];omega)).elim fun a9 h9=>by obtain ⟨e9,h9⟩:=h9;cases e9;exact h9 _ _ hcy) ⟨rfl,rfl⟩)
     ·exact absurd (hu_ 0 dc_ kr_) dc_
     ·exact absurd hp_ (by simp)
    ·exact absurd hiE_ dc_
    ·exact tG_ rfl hd_ (gV (.bool (!(decide (x.2=y.2)))) ⟨rfl,rfl⟩)
    ·exact absurd hi_ om_
   ·intro k_ c_ vals_ w1 hk_ hPh_ hd_
    rcases k_ with _|k_
    ·have S15:=St.id hPh_
     refine tG_ rfl hd_ (gv_call (args:=#[.slice Ax x.2.length cx,.slice Ay y.2.length cy]) rfl Try.func24 kr_ rfl rfl kr_ (Calls.mono (same_spec S15 (RoT.app9 hxr []) (RoT.app9 hyr []) om_ om_) ?_))
     rintro _ w16 ⟨rfl,S17⟩
     refine ⟨_,rfl,⟨(),rfl, ?_,S17⟩⟩
     intro i_ hi_ hne_ hdp_
     rcases i_ with _|_|_|_|_|_|_|_|_|_|i_
     ·rfl
     ·rfl
     ·rfl
     ·rfl
     ·rfl
     ·rfl
     ·rfl
     ·rfl
     ·exact absurd rfl hne_
     ·exact dN_ hdp_
     ·exact absurd hi_ om_
    ·exact absurd hk_ (by simp)
   ·intro c_ w1 hPh_
    have S18:=St.id hPh_
    refine (wE (then_n (wp_cond_split (t:= !(decide (x.2=y.2))) kr_ (fun hc19=> ?_) (fun hc19=> ?_))))
    ·have hxy:x.2≠y.2:=by simpa using hc19
     refine sR (pv fv (wE (then_n (wp_ret (inb_r (then_r (then_r (inb_r (then_r (bA (.bool false) ?_))))))))))
     have hne:RV.map (·.2)≠RK.map (·.2):=fun e=>hxy (map_at e hx hy)
     rw [decide_eq_false hne]
     exact ⟨rfl,S18⟩
    ·have hxy:x.2=y.2:=by simpa using hc19
     have htk:(RV.map (·.2)).take (i+1)=(RK.map (·.2)).take (i+1):=take_ext hi2 hx hy hxy
     exact wp_skip (inb_n (nR (pv (nI_ i) (gI .i64 (IntKind.i64.wrap (((i:Nat):Int)+1)) ((i+1:Nat):Int) wq_ (pv (nI_ (i+1)) (wE (then_n ⟨i+1,(jE_ ⟨S18,⟨by omega,htk⟩⟩),(by show RV.length-(i+1)<RV.length-i;omega)⟩)))))))
  ·refine wE (nCF (wp_exit (then_x (then_x (inb_x (nSR (pv tv (wE (then_n (wp_ret (bA (.bool true) ?_)))))))))))
   have he:RV.map (·.2)=RK.map (·.2):=take_all hi2 (by rw [List.length_map];omega) (by rw [List.length_map];omega)
   rw [decide_eq_true he]
   exact ⟨rfl,S3⟩
end
end Go.Proofs
end
section
open Go Go.RowKit Go.Proofs.YtgeioealgidkiaaW.PrintWords Go.Proofs.YtgeioealgidkiaaW.PrintMore
namespace Go.Proofs.Cnt
open Go.Vel
set_option linter.unusedVariables false
section
def PN (B g:Nat)(s:Dsk):Ast:=fun h=>∃r:Int,(r≤B∧(B<4611686018427387904→0≤r)∧ -9223372036854775808≤r)∧PDisk g (s.rdd r) h
section
variable {F:Nat→Prop}{w0 w:World}{L:List Ast}{B g:Nat}{s:Dsk}
theorem St.pw (S:St F w0 w (PN B g s::L)):∃r:Int,(r≤B∧(B<4611686018427387904→0≤r)∧ -9223372036854775808≤r)∧St F w0 w (PDisk g (s.rdd r)::L):=by
 obtain ⟨r,S⟩:=Go.Vel.St.ex S
 obtain ⟨h,S⟩:=Go.Vel.St.fact S
 exact ⟨r,h,S⟩
theorem St.wp {r:Int}(h:r≤B∧(B<4611686018427387904→0≤r)∧ -9223372036854775808≤r)(S:St F w0 w (PDisk g (s.rdd r)::L)):St F w0 w (PN B g s::L):=S.map1 fun _ hh=>⟨r,h,hh⟩
theorem St.pnle {B':Nat}(h:B≤B')(S:St F w0 w (PN B g s::L)):St F w0 w (PN B' g s::L):=S.map1 fun _ ⟨r,⟨h1,h2,h3⟩,h4⟩=>⟨r,⟨by omega,fun h5=>h2 om_,h3⟩,h4⟩
theorem St.forget (S:St F w0 w (PN B g s::L)):St F w0 w (PW g s::L):=S.map1 fun _ ⟨r,_,h4⟩=>⟨r,h4⟩
theorem St.pw_ok (S:St F w0 w (PN B g s::L)):DOk s:=Go.Proofs.St.pw_ok (St.forget S)
theorem St.pn0 (S:St F w0 w (PDisk g s::L))(h:s.rd=0):St F w0 w (PN 0 g s::L):=S.map1 fun _ hh=>⟨0,⟨Int.le_refl _,fun _=>Int.le_refl _,by decide⟩,by rw [←h];exact hh⟩
theorem pw_burnt (S:St F w0 w L)(i:Nat)(hi:L[i]?=some (PN B g s)):Calls Try.prog 15 #[.pointer (some ⟨g,0,none⟩)] w fun e w'=>e=.returned (.bool (decide (s.left=0)))∧w=w':=Go.Proofs.pw_burnt (St.forget (S.mem i hi)) 0 rfl
theorem pw_burntT (hz:s.left=0)(S:St F w0 w L)(i:Nat)(hi:L[i]?=some (PN B g s)):Calls Try.prog 15 #[.pointer (some ⟨g,0,none⟩)] w fun e w'=>e=.returned (.bool true)∧w=w':=by
 have h:=pw_burnt S i hi
 rwa [decide_eq_true hz] at h
theorem pw_burntF (hz:¬s.left=0)(S:St F w0 w L)(i:Nat)(hi:L[i]?=some (PN B g s)):Calls Try.prog 15 #[.pointer (some ⟨g,0,none⟩)] w fun e w'=>e=.returned (.bool false)∧w=w':=by
 have h:=pw_burnt S i hi
 rwa [decide_eq_false hz] at h
theorem pw_life (S:St F w0 w L)(i:Nat)(hi:L[i]?=some (PN B g s)):Calls Try.prog 16 #[.pointer (some ⟨g,0,none⟩)] w fun e w'=>e=.returned (.int .i64 s.life)∧w=w':=Go.Proofs.pw_life (St.forget (S.mem i hi)) 0 rfl
theorem pw_sectors (S:St F w0 w L)(i:Nat)(hi:L[i]?=some (PN B g s)):Calls Try.prog 14 #[.pointer (some ⟨g,0,none⟩)] w fun e w'=>e=.returned (.int .i64 (s.last.length:Int))∧w=w':=Go.Proofs.pw_sectors (St.forget (S.mem i hi)) 0 rfl
theorem pw_take (S:St F w0 w (PN B g s::L)):Calls Try.prog 63 #[.pointer (some ⟨g,0,none⟩)] w fun e w'=>e=.returned (.int .i64 (inc s.life))∧St F w0 w' (PN B g s.take::L):=by
 obtain ⟨r,hr,S⟩:=St.pw S
 exact (pd_take S).mono fun e w' h=>⟨h.1,St.wp (r:=r) (s:=s.take) hr h.2⟩
theorem pw_read_dead {at_:Int}(S:St F w0 w (PN B g s::L))(hz:s.left=0):Calls Try.prog 26 #[.pointer (some ⟨g,0,none⟩),.int .i64 at_] w fun e w'=>∃v,e=.returned (.tuple #[v,.int .i64 3])∧St F w0 w' (PN B g s::L):=by
 obtain ⟨r,hr,S⟩:=St.pw S
 refine (pd_read (at_:=at_) S).mono fun e w' h=> ?_
 obtain ⟨v,h1,h2⟩:=h
 have e1:(s.rdd r).readR at_=(s.rdd r,[],3):=by unfold Dsk.readR;rw [if_pos (show (s.rdd r).left=0 from hz)]
 rw [e1] at h1 h2
 exact ⟨v,h1,St.wp hr h2.tail⟩
theorem pw_read {k:Nat}(S:St F w0 w (PN B g s::L))(hz:s.left≠0)(hk:k<s.last.length):Calls Try.prog 26 #[.pointer (some ⟨g,0,none⟩),.int .i64 ((k:Nat):Int)] w fun e w'=>∃A,e=.returned (.tuple #[.slice A 512 512,.int .i64 0])∧St F w0 w' (bytesA (.slice A 512 512) (s.now k)::PN (B+1) g s::L):=by
 have hok:=St.pw_ok S
 obtain ⟨r,hr,S⟩:=St.pw S
 refine (pd_read (at_:=((k:Nat):Int)) S).mono fun e w' h=> ?_
 obtain ⟨v,h1,h2⟩:=h
 rw [Dsk.readR_ok (s:=s.rdd r) (d:=s.now k) hz hk rfl] at h1 h2
 obtain ⟨A,rfl,h3⟩:=St.bytes_eq h2
 have hl:(s.now k).length=512:=hok.now hk
 have h4:St F w0 w' (bytesA (.slice A 512 512) (s.now k)::PDisk g ({s.rdd r with rd:=inc (s.rdd r).rd})::L):=by rw [hl] at h3;exact h3
 refine ⟨A,by rw [h1,hl],(St.wp (r:=inc r) (s:=s) ?_ h4.swap).swap⟩
 obtain ⟨q1,q2,q3⟩:=hr
 have hi:inc r=IntKind.i64.wrap (r+1):=rfl
 rw [IntKind.wrap_i64] at hi
 exact ⟨by omega,fun hb=>by have:=q2 om_;omega,by omega⟩
theorem pw_write {at_:Int}{A:Option Addr}{d:List UInt8}{cd:Nat}(S:St F w0 w (PN B g s::L))(hr:RoT F w0 L A d)(hdm:d.length≤9223372036854775807)(hpn:s.pend.length<4398046511104):
  Calls Try.prog 33 #[.pointer (some ⟨g,0,none⟩),.int .i64 at_,.slice A d.length cd] w fun e w'=>e=.returned (.int .i64 (s.writeR at_ d).2)∧St F w0 w' (PN B g (s.writeR at_ d).1::L):=by
 obtain ⟨r,hb,S⟩:=St.pw S
 refine (pd_write (at_:=at_) S hr hdm hpn).mono fun e w' h=> ?_
 rw [writeR_rd] at h
 exact ⟨h.1,St.wp hb h.2⟩
theorem pw_write_go {k:Nat}{A:Option Addr}{d:List UInt8}{cd n:Nat}(S:St F w0 w (PN B g s::L))(hr:RoT F w0 L A d)(hn:n=d.length)(hd:d.length=512)(hz:s.left≠0)(hk:k<s.last.length)(hpn:s.pend.length<4398046511104):
  Calls Try.prog 33 #[.pointer (some ⟨g,0,none⟩),nI_ k,.slice A n cd] w fun e w'=>e=.returned (.int .i64 0)∧St F w0 w' (PN B g (s.wrote k d)::L):=by
 subst hn
 have h:=pw_write (at_:=((k:Nat):Int)) (cd:=cd) S hr om_ hpn
 rw [writeR_go hz hk hd] at h
 exact h
theorem pw_flush (S:St F w0 w (PN B g s::L)):Calls Try.prog 87 #[.pointer (some ⟨g,0,none⟩)] w fun e w'=>e=.returned (.int .i64 s.flushR.2)∧St F w0 w' (PN B g s.flushR.1::L):=by
 obtain ⟨r,hb,S⟩:=St.pw S
 refine (pd_flush S).mono fun e w' h=> ?_
 rw [flushR_rd] at h
 exact ⟨h.1,St.wp hb h.2⟩
theorem pw_image (S:St F w0 w (PN B g s::L)):Calls Try.prog 18 #[.pointer (some ⟨g,0,none⟩)] w fun e w'=>∃v,e=.returned v∧St F w0 w' (bytesA v s.last.flatten::PN B g s::L):=by
 obtain ⟨r,hb,S⟩:=St.pw S
 refine (pd_image S).mono fun e w' h=> ?_
 obtain ⟨v,h1,h2⟩:=h
 exact ⟨v,h1,(St.wp (r:=r) hb h2.swap).swap⟩
theorem pw_counts (S:St F w0 w (PN B g s::L))(hB:B<4611686018427387904):Calls Try.prog 17 #[.pointer (some ⟨g,0,none⟩)] w fun e w'=>∃r:Nat,r≤B∧e=.returned (.agg #[.int .i64 ((r:Nat):Int),.int .i64 s.wr,.int .i64 s.fl,.int .i64 s.rf,.int .i64 (s.pend.length:Int)])∧St F w0 w' (PN r g s::L):=by
 obtain ⟨r,⟨q1,q2,q3⟩,S⟩:=St.pw S
 obtain ⟨m,rfl⟩:∃m:Nat,r=(m:Int):=⟨r.toNat,by have:=q2 hB;omega⟩
 exact (pd_counts S).mono fun e w' h=>⟨m,by omega,h.1,St.wp (r:=(m:Int)) ⟨Int.le_refl _,fun _=>by omega,by omega⟩ h.2⟩
theorem pw_crash0 (S:St F w0 w (PN B g s::L)):Calls Try.prog 64 #[.pointer (some ⟨g,0,none⟩),.slice none 0 0] w fun e w'=>e=.returned (.tuple #[])∧St F w0 w' (PN B g (s.crashR [])::L):=by
 obtain ⟨r,hb,S⟩:=St.pw S
 exact (pd_crash (A:=none) (ps:=[]) (n:=0) (c:=0) S RoV.nil rfl dc_).mono fun e w' h=>⟨h.1,St.wp (r:=r) (s:=s.crashR []) hb h.2⟩
end
end
end Go.Proofs.Cnt
end
section
open Go Go.RowKit Go.Proofs.YtgeioealgidkiaaW.PrintWords Go.Proofs.YtgeioealgidkiaaW.PrintMore
namespace Go.Proofs.Cnt
open Go.Vel
set_option linter.unusedVariables false
set_option maxRecDepth 100000
set_option maxHeartbeats 4000000
attribute [local irreducible] gives wpList Code.wp
section
variable {F:Nat→Prop} {w0 w:World} {L:List Ast}
theorem w_place {B gd:Nat}{s:Dsk}{first n:Int}(S:St F w0 w L)(i:Nat)(hi:L[i]?=some (PN B gd s)):Calls Try.prog 108 #[.pointer (some ⟨gd,0,none⟩),.int .i64 first,.int .i64 n] w fun e w'=>e=.returned (.int .i64 (argsR s first n))∧w=w':=by
 have hn2:=(St.pw_ok (S.mem i hi)).n2
 by_cases hz:s.left=0
 ·refine eN (fr [pq gd,iv first,iv n] 32) Try.func108 rfl (sR (pv (iv 0) (wE (nS (sR (pv (pq gd) (sO Try.func14 #[pq gd] (pw_sectors S i hi) (pv (iv (s.last.length:Int)) (wE (then_n (wp_block (sR (pv (pq gd) ?_)))))))))))))
  refine sO Try.func15 #[pq gd] (pw_burntT hz S i hi) (pv tv (wE (nCT (sR (pv (iv 3) (wE (then_n (wp_ret (inb_r (then_r (bA (iv 3) ?_)))))))))))
  have e:argsR s first n=3:=by unfold argsR;(repeat' split)<;>first|rfl|omega
  rw [e];exact ⟨rfl,rfl⟩
 refine eN (fr [pq gd,iv first,iv n] 32) Try.func108 rfl (sR (pv (iv 0) (wE (nS (sR (pv (pq gd) (sO Try.func14 #[pq gd] (pw_sectors S i hi) (pv (iv (s.last.length:Int)) (wE (then_n (wp_block (sR (pv (pq gd) ?_)))))))))))))
 refine sO Try.func15 #[pq gd] (pw_burntF hz S i hi) (pv fv (wE (nCF (sR (pv (iv first) (dC ((first:Int)<0) (fun hb1=> ?_) fun hb1=> ?_))))))
 ·refine pv tv (wN (wN (wN (pv tv (pv tv (wE (nCT (sR (pv (iv 11) (wE (then_n (wp_ret (inb_r ?_)))))))))))))
  refine then_r (bA (iv 11) ?_)
  have e:argsR s first n=11:=by unfold argsR;(repeat' split)<;>first|rfl|omega
  rw [e];exact ⟨rfl,rfl⟩
 ·refine pv fv (pW (iv first) (pW (iv (s.last.length:Int)) (wl_when kr_ (gv_dec (p:=(first:Int)≥(s.last.length:Int)) kr_ (fun hb2=> ?_) (fun hb2=> ?_)))))
  ·refine pv tv (pv tv (wE (nCT (sR (pv (iv 11) (wE (then_n (wp_ret (inb_r (then_r (bA (iv 11) ?_)))))))))))
   have e:argsR s first n=11:=by unfold argsR;(repeat' split)<;>first|rfl|omega
   rw [e];exact ⟨rfl,rfl⟩
  ·refine pv fv (pv fv (wE (nCF (sR (pv (iv n) (dC ((n:Int)<18) (fun hb3=> ?_) fun hb3=> ?_))))))
   ·refine pv tv (wN (wN (pv tv (pv tv (wE (nCT (sR (pv (iv 1) (wE (then_n (wp_ret (inb_r (then_r ?_)))))))))))))
    refine bA (iv 1) ?_
    have e:argsR s first n=1:=by unfold argsR;(repeat' split)<;>first|rfl|omega
    rw [e];exact ⟨rfl,rfl⟩
   ·refine pv fv (pW (iv n) (wl_when kr_ (gv_dec (p:=(n:Int)>256) kr_ (fun hb4=> ?_) (fun hb4=> ?_))))
    ·refine pv tv (pv tv (wE (nCT (sR (pv (iv 1) (wE (then_n (wp_ret (inb_r (then_r (bA (iv 1) ?_)))))))))))
     have e:argsR s first n=1:=by unfold argsR;(repeat' split)<;>first|rfl|omega
     rw [e];exact ⟨rfl,rfl⟩
    ·refine pv fv (pv fv (wE (nCF (sR (pv (iv first) (gI .i64 (IntKind.i64.wrap (first+2)) (first+2) (wr_ok om_ om_) (pv (iv n) (gI .i64 (IntKind.i64.wrap ((first+2)+n)) ((first+2)+n) (wr_ok om_ om_) (pv (iv (s.last.length:Int)) (dC (((first+2)+n:Int)>(s.last.length:Int)) (fun hb5=> ?_) fun hb5=> ?_))))))))))
     ·refine pv tv (wE (nCT (sR (pv (iv 11) (wE (then_n (wp_ret (inb_r (then_r (bA (iv 11) ?_))))))))))
      have e:argsR s first n=11:=by unfold argsR;(repeat' split)<;>first|rfl|omega
      rw [e];exact ⟨rfl,rfl⟩
     ·refine pv fv (wE (nCF (wp_skip (inb_n (nSR (pv (iv 0) (wE (then_n (wp_ret (bA (iv 0) ?_))))))))))
      have e:argsR s first n=0:=by unfold argsR;(repeat' split)<;>first|rfl|omega
      rw [e];exact ⟨rfl,rfl⟩
theorem w_alive {B g gd:Nat}{l:Lg}{s:Dsk}(S:St F w0 w (PLog g gd l::PN B gd s::L)):Calls Try.prog 107 #[.pointer (some ⟨g,0,none⟩)] w fun e w'=>e=.returned (.int .i64 (aliveE s l))∧St F w0 w' (PLog g gd l::PN B gd s::L):=by
 by_cases hz:s.left=0
 ·change St F w0 w (row g #[pq gd,nI_ l.first,nI_ l.n,iv l.life,nI_ l.epoch,nI_ l.top,nI_ l.tail,nI_ l.head,.bool l.begun] 161::PN B gd s::L) at S
  refine eN (fr [pq g] 19) Try.func107 rfl (sR (pv (iv 0) (wE (nS (wp_seq (wp_region_phu (γ:=Unit) 17 [] (fun (c_:Unit) (i_:Nat)=>(match i_ with|0=>pq g|1=>pq g|2=>pq g|3=>pq gd|4=>.bool true|5=>.bool true|6=>undef|7=>undef|8=>undef|9=>undef|10=>undef|11=>undef|12=>undef|13=>undef|14=>undef|15=>undef|16=>.bool true|_=>undef:Value)) (fun (c_:Unit) (p_:Nat) (w_:World)=>(match p_ with|_=>St F w0 w_ (row g #[pq gd,nI_ l.first,nI_ l.n,iv l.life,nI_ l.epoch,nI_ l.top,nI_ l.tail,nI_ l.head,.bool l.begun] 161::PN B gd s::L):Prop)) () kr_ kr_ kr_ kr_ (S.drew) ?_ ?_ ?_))))))
  ·intro i_ c_ p_ vals_ w1 hi_ hiE_ hp_ hk_ hu_ hPh_ hd_
   rcases i_ with _|_|_|_|_|_|_|_|_|_|_|_|_|_|_|_|_|i_
   ·exact tG_ rfl hd_ (gV (pq g) ⟨rfl,rfl⟩)
   ·exact tG_ rfl hd_ (gV (pq g) ⟨rfl,rfl⟩)
   ·exact tG_ rfl hd_ (gV (pq g) ⟨rfl,rfl⟩)
   ·have S4:=St.id hPh_
    exact tG_ rfl hd_ (gL (pq gd) rfl (((S4.blk 0 rfl).cell 0).trans rfl) ⟨rfl,rfl⟩)
   ·have S5:=St.id hPh_
    refine tG_ rfl hd_ (gv_call (args:=#[pq gd]) rfl Try.func15 kr_ rfl rfl kr_ (Calls.mono (pw_burntT hz S5 1 rfl) ?_))
    rintro _ _ ⟨rfl,rfl⟩
    exact ⟨_,rfl,⟨rfl,rfl⟩⟩
   ·exact tG_ rfl hd_ (gV (.bool true) ⟨rfl,rfl⟩)
   ·exact tO_ 5 8 5 false true rfl hd_ ⟨rfl,rfl⟩
   ·exact tO_ 5 8 5 false true rfl hd_ ⟨rfl,rfl⟩
   ·exact tO_ 5 8 5 false true rfl hd_ ⟨rfl,rfl⟩
   ·exact tO_ 5 8 5 false true rfl hd_ ⟨rfl,rfl⟩
   ·exact tO_ 5 8 5 false true rfl hd_ ⟨rfl,rfl⟩
   ·exact tO_ 5 8 5 false true rfl hd_ ⟨rfl,rfl⟩
   ·exact tO_ 5 8 5 false true rfl hd_ ⟨rfl,rfl⟩
   ·exact tO_ 5 8 5 false true rfl hd_ ⟨rfl,rfl⟩
   ·exact tO_ 5 8 5 false true rfl hd_ ⟨rfl,rfl⟩
   ·exact tO_ 5 8 5 false true rfl hd_ ⟨rfl,rfl⟩
   ·exact tG_ rfl hd_ (gV (.bool true) ⟨rfl,rfl⟩)
   ·exact absurd hi_ om_
  ·intro k_ c_ vals_ w1 hk_ hPh_ hd_
   exact absurd hk_ (Nat.not_lt_zero _)
  ·intro c_ w1 hPh_
   have S18:=St.id hPh_
   refine (wE (nCT (sR (pv (iv 3) (wE (then_n (rR (bA (iv 3) ?_))))))))
   have e:aliveE s l=3:=by unfold aliveE;rw [alive_burnt hz];rfl
   rw [e]
   exact ⟨rfl,S18⟩
 change St F w0 w (row g #[pq gd,nI_ l.first,nI_ l.n,iv l.life,nI_ l.epoch,nI_ l.top,nI_ l.tail,nI_ l.head,.bool l.begun] 161::PN B gd s::L) at S
 refine eN (fr [pq g] 19) Try.func107 rfl (sR (pv (iv 0) (wE (nS (wp_seq (wp_region_phu (γ:=Unit) 17 [] (fun (c_:Unit) (i_:Nat)=>(match i_ with|0=>pq g|1=>pq g|2=>pq g|3=>pq gd|4=>.bool false|5=>.bool false|6=>pq g|7=>pq g|8=>pq g|9=>pq gd|10=>iv s.life|11=>pq g|12=>pq g|13=>po g 3|14=>iv l.life|15=>.bool (s.life !=l.life)|16=>.bool (s.life !=l.life)|_=>undef:Value)) (fun (c_:Unit) (p_:Nat) (w_:World)=>(match p_ with|_=>St F w0 w_ (row g #[pq gd,nI_ l.first,nI_ l.n,iv l.life,nI_ l.epoch,nI_ l.top,nI_ l.tail,nI_ l.head,.bool l.begun] 161::PN B gd s::L):Prop)) () kr_ kr_ kr_ kr_ (S.drew) ?_ ?_ ?_))))))
 ·intro i_ c_ p_ vals_ w1 hi_ hiE_ hp_ hk_ hu_ hPh_ hd_
  rcases i_ with _|_|_|_|_|_|_|_|_|_|_|_|_|_|_|_|_|i_
  ·exact tG_ rfl hd_ (gV (pq g) ⟨rfl,rfl⟩)
  ·exact tG_ rfl hd_ (gV (pq g) ⟨rfl,rfl⟩)
  ·exact tG_ rfl hd_ (gV (pq g) ⟨rfl,rfl⟩)
  ·have S4:=St.id hPh_
   exact tG_ rfl hd_ (gL (pq gd) rfl (((S4.blk 0 rfl).cell 0).trans rfl) ⟨rfl,rfl⟩)
  ·have S5:=St.id hPh_
   refine tG_ rfl hd_ (gv_call (args:=#[pq gd]) rfl Try.func15 kr_ rfl rfl kr_ (Calls.mono (pw_burntF hz S5 1 rfl) ?_))
   rintro _ _ ⟨rfl,rfl⟩
   exact ⟨_,rfl,⟨rfl,rfl⟩⟩
  ·exact tG_ rfl hd_ (gV (.bool false) ⟨rfl,rfl⟩)
  ·exact tW_ 5 8 5 false rfl hd_ (gv_val (v:=pq g) (w':=w1) kr_ ⟨rfl,rfl⟩)
  ·exact tW_ 5 8 5 false rfl hd_ (gv_val (v:=pq g) (w':=w1) kr_ ⟨rfl,rfl⟩)
  ·exact tW_ 5 8 5 false rfl hd_ (gv_val (v:=pq g) (w':=w1) kr_ ⟨rfl,rfl⟩)
  ·have S10:=St.id hPh_
   exact tW_ 5 8 5 false rfl hd_ (gv_ldR (v:=pq gd) rfl kr_ kr_ (((S10.blk 0 rfl).cell 0).trans rfl) ⟨rfl,rfl⟩)
  ·have S11:=St.id hPh_
   refine tW_ 5 8 5 false rfl hd_ (gv_call (args:=#[pq gd]) rfl Try.func16 kr_ rfl rfl kr_ (Calls.mono (pw_life S11 1 rfl) ?_))
   rintro _ _ ⟨rfl,rfl⟩
   exact ⟨_,rfl,⟨rfl,rfl⟩⟩
  ·exact tW_ 5 8 5 false rfl hd_ (gv_val (v:=pq g) (w':=w1) kr_ ⟨rfl,rfl⟩)
  ·exact tW_ 5 8 5 false rfl hd_ (gv_val (v:=pq g) (w':=w1) kr_ ⟨rfl,rfl⟩)
  ·exact tW_ 5 8 5 false rfl hd_ (gv_val (v:=po g 3) (w':=w1) kr_ ⟨rfl,rfl⟩)
  ·have S15:=St.id hPh_
   exact tW_ 5 8 5 false rfl hd_ (gv_ldR (v:=iv l.life) rfl kr_ kr_ (((S15.blk 0 rfl).cell 3).trans rfl) ⟨rfl,rfl⟩)
  ·exact tW_ 5 8 5 false rfl hd_ (gv_val (v:=.bool (s.life !=l.life)) (w':=w1) kr_ ⟨rfl,rfl⟩)
  ·exact tG_ rfl hd_ (gV (.bool (s.life !=l.life)) ⟨rfl,rfl⟩)
  ·exact absurd hi_ om_
 ·intro k_ c_ vals_ w1 hk_ hPh_ hd_
  exact absurd hk_ (Nat.not_lt_zero _)
 ·intro c_ w1 hPh_
  have S18:=St.id hPh_
  refine (wE (then_n (wp_cond_split (t:=s.life !=l.life) kr_ (fun hc19=> ?_) (fun hc19=> ?_))))
  ·have ha:aliveR s l=false:=by simp [aliveR,hz] at hc19 ⊢;exact hc19
   refine sR (pv (iv 3) (wE (then_n (rR (bA (iv 3) ?_)))))
   have e:aliveE s l=3:=by unfold aliveE;rw [show aliveR s l=false from ha];rfl
   rw [e]
   exact ⟨rfl,S18⟩
  ·have ha:aliveR s l=true:=by simp [aliveR,hz] at hc19 ⊢;exact hc19
   refine wp_skip (nSR (pv (iv 0) (wE (then_n (wp_ret (bA (iv 0) ?_))))))
   have e:aliveE s l=0:=by unfold aliveE;rw [show aliveR s l=true from ha];rfl
   rw [e]
   exact ⟨rfl,S18⟩
theorem w_ready {B g gd:Nat}{l:Lg}{s:Dsk}(S:St F w0 w (PLog g gd l::PN B gd s::L)):Calls Try.prog 104 #[.pointer (some ⟨g,0,none⟩)] w fun e w'=>e=.returned (.int .i64 (readyR s l))∧St F w0 w' (PLog g gd l::PN B gd s::L):=by
 obtain ⟨b,hb⟩:∃b,l.begun=b:=⟨_,rfl⟩
 have er:readyR s l=if aliveE s l=3 then 3 else if l.begun=false then 4 else 0:=by unfold readyR aliveE;cases aliveR s l<;>simp
 change St F w0 w (row g #[pq gd,nI_ l.first,nI_ l.n,iv l.life,nI_ l.epoch,nI_ l.top,nI_ l.tail,nI_ l.head,.bool l.begun] 161::PN B gd s::L) at S
 refine eN (fr [pq g] 13) Try.func104 rfl (sR (pv (iv 0) (wE (nS (sR (pv (pq g) (sP Try.func107 #[pq g] (w_alive S) fun w1 S2=>pv (iv (aliveE s l)) (wER (pv (iv (aliveE s l)) (dN (aliveE s l) 0 (fun hb3=> ?_) fun hb3=> ?_))))))))))
 ·have ha:aliveE s l=3:=by unfold aliveE at hb3 ⊢;split at hb3<;>simp_all
  refine wE (nCT (sR (pv (iv (aliveE s l)) (pv (iv (aliveE s l)) (wE (then_n (rR (bA (iv (aliveE s l)) ?_))))))))
  have e:readyR s l=aliveE s l:=by rw [er];simp_all
  rw [e]
  exact ⟨rfl,S2⟩
 ·refine wE (nCF (wp_skip (nS (sR (pv (pq g) (pv (pq g) (pv (po g 8) (lR (.bool l.begun) S2 0 8 (pv (.bool (!l.begun)) (wE (then_n (wp_cond_split (t:= !l.begun) kr_ (fun hc4=> ?_) (fun hc4=> ?_)))))))))))))
  ·have hbg:l.begun=false:=by simpa using hc4
   refine sR (pv (iv 4) (wE (then_n (rR (bA (iv 4) ?_)))))
   have e:readyR s l=4:=by rw [er];simp_all
   rw [e]
   exact ⟨rfl,S2⟩
  ·have hbg:l.begun=true:=by simpa using hc4
   refine wp_skip (nSR (pv (iv 0) (wE (then_n (wp_ret (bA (iv 0) ?_))))))
   have e:readyR s l=0:=by rw [er];simp_all
   rw [e]
   exact ⟨rfl,S2⟩
theorem w_free {B g gd:Nat}{l:Lg}{s:Dsk}(S:St F w0 w (PLog g gd l::PN B gd s::L))(hl:LOk l)(hh:LHd l):Calls Try.prog 105 #[.pointer (some ⟨g,0,none⟩)] w fun e w'=>e=.returned (.int .i64 ((l.n:Int)-((l.head:Int)-(l.tail:Int))))∧St F w0 w' (PLog g gd l::PN B gd s::L):=by
 obtain ⟨h1,h2,h3,h4,h5,h6⟩:=hl
 obtain ⟨h7,h8⟩:=hh
 change St F w0 w (row g #[pq gd,nI_ l.first,nI_ l.n,iv l.life,nI_ l.epoch,nI_ l.top,nI_ l.tail,nI_ l.head,.bool l.begun] 161::PN B gd s::L) at S
 refine eN (fr [pq g] 16) Try.func105 rfl (sR (pv (iv 0) (wE (nS (wp_region_phu (γ:=Unit) 14 [] (fun (c_:Unit) (i_:Nat)=>(match i_ with|0=>pq g|1=>pq g|2=>po g 2|3=>nI_ l.n|4=>pq g|5=>pq g|6=>po g 7|7=>nI_ l.head|8=>pq g|9=>pq g|10=>po g 6|11=>nI_ l.tail|12=>iv (((l.head:Nat):Int)-((l.tail:Nat):Int))|13=>iv (((l.n:Nat):Int)-(((l.head:Nat):Int)-((l.tail:Nat):Int)))|_=>undef:Value)) (fun (c_:Unit) (p_:Nat) (w_:World)=>(match p_ with|_=>St F w0 w_ (row g #[pq gd,nI_ l.first,nI_ l.n,iv l.life,nI_ l.epoch,nI_ l.top,nI_ l.tail,nI_ l.head,.bool l.begun] 161::PN B gd s::L):Prop)) () kr_ kr_ kr_ kr_ (S.drew) ?_ ?_ ?_)))))
 ·intro i_ c_ p_ vals_ w1 hi_ hiE_ hp_ hk_ hu_ hPh_ hd_
  rcases i_ with _|_|_|_|_|_|_|_|_|_|_|_|_|_|i_
  ·exact tG_ rfl hd_ (gV (pq g) ⟨rfl,rfl⟩)
  ·exact tG_ rfl hd_ (gV (pq g) ⟨rfl,rfl⟩)
  ·exact tG_ rfl hd_ (gV (po g 2) ⟨rfl,rfl⟩)
  ·have S4:=St.id hPh_
   exact tG_ rfl hd_ (gL (nI_ l.n) rfl (((S4.blk 0 rfl).cell 2).trans rfl) ⟨rfl,rfl⟩)
  ·exact tG_ rfl hd_ (gV (pq g) ⟨rfl,rfl⟩)
  ·exact tG_ rfl hd_ (gV (pq g) ⟨rfl,rfl⟩)
  ·exact tG_ rfl hd_ (gV (po g 7) ⟨rfl,rfl⟩)
  ·have S8:=St.id hPh_
   exact tG_ rfl hd_ (gL (nI_ l.head) rfl (((S8.blk 0 rfl).cell 7).trans rfl) ⟨rfl,rfl⟩)
  ·exact tG_ rfl hd_ (gV (pq g) ⟨rfl,rfl⟩)
  ·exact tG_ rfl hd_ (gV (pq g) ⟨rfl,rfl⟩)
  ·exact tG_ rfl hd_ (gV (po g 6) ⟨rfl,rfl⟩)
  ·have S12:=St.id hPh_
   exact tG_ rfl hd_ (gL (nI_ l.tail) rfl (((S12.blk 0 rfl).cell 6).trans rfl) ⟨rfl,rfl⟩)
  ·exact tG_ rfl hd_ (gv_int (k:=.i64) (z:=IntKind.i64.wrap (((l.head:Nat):Int)-((l.tail:Nat):Int))) (z':=((l.head:Nat):Int)-((l.tail:Nat):Int)) kr_ (wr_ok om_ om_) ⟨rfl,rfl⟩)
  ·exact tG_ rfl hd_ (gv_int (k:=.i64) (z:=IntKind.i64.wrap (((l.n:Nat):Int)-(((l.head:Nat):Int)-((l.tail:Nat):Int)))) (z':=((l.n:Nat):Int)-(((l.head:Nat):Int)-((l.tail:Nat):Int))) kr_ (wr_ok om_ om_) ⟨rfl,rfl⟩)
  ·exact absurd hi_ om_
 ·intro k_ c_ vals_ w1 hk_ hPh_ hd_
  exact absurd hk_ (Nat.not_lt_zero _)
 ·intro c_ w1 hPh_
  have S15:=St.id hPh_
  exact (pv (iv (((l.n:Nat):Int)-(((l.head:Nat):Int)-((l.tail:Nat):Int)))) (wE (then_n (wp_ret (bA (iv (((l.n:Nat):Int)-(((l.head:Nat):Int)-((l.tail:Nat):Int)))) ⟨rfl,S15⟩)))))
theorem w_at {B g gd:Nat}{l:Lg}{s:Dsk}(S:St F w0 w (PLog g gd l::PN B gd s::L))(hl:LOk l){p:Nat}(hp:p≤9223372036854775807):Calls Try.prog 138 #[.pointer (some ⟨g,0,none⟩),.int .i64 (p:Nat)] w fun e w'=>e=.returned (.int .i64 ((l.first+2+p%l.n:Nat):Int))∧St F w0 w' (PLog g gd l::PN B gd s::L):=by
 obtain ⟨h1,h2,h3,h4,h5,h6⟩:=hl
 obtain ⟨m,hm⟩:∃m,l.n=m+1:=⟨l.n-1,by omega⟩
 have hpm:p%l.n<l.n:=Nat.mod_lt _ om_
 change St F w0 w (row g #[pq gd,nI_ l.first,nI_ l.n,iv l.life,nI_ l.epoch,nI_ l.top,nI_ l.tail,nI_ l.head,.bool l.begun] 161::PN B gd s::L) at S
 refine eN (fr [pq g,nI_ p] 15) Try.func138 rfl (sR (pv (iv 0) (wE (nS (wp_region_phu (γ:=Unit) 12 [] (fun (c_:Unit) (i_:Nat)=>(match i_ with|0=>pq g|1=>pq g|2=>po g 1|3=>nI_ l.first|4=>nI_ (l.first+2)|5=>nI_ p|6=>pq g|7=>pq g|8=>po g 2|9=>nI_ l.n|10=>nI_ (p%l.n)|11=>nI_ (l.first+2+p%l.n)|_=>undef:Value)) (fun (c_:Unit) (p_:Nat) (w_:World)=>(match p_ with|_=>St F w0 w_ (row g #[pq gd,nI_ l.first,nI_ l.n,iv l.life,nI_ l.epoch,nI_ l.top,nI_ l.tail,nI_ l.head,.bool l.begun] 161::PN B gd s::L):Prop)) () kr_ kr_ kr_ kr_ (S.drew) ?_ ?_ ?_)))))
 ·intro i_ c_ p_ vals_ w1 hi_ hiE_ hp_ hk_ hu_ hPh_ hd_
  rcases i_ with _|_|_|_|_|_|_|_|_|_|_|_|i_
  ·exact tG_ rfl hd_ (gV (pq g) ⟨rfl,rfl⟩)
  ·exact tG_ rfl hd_ (gV (pq g) ⟨rfl,rfl⟩)
  ·exact tG_ rfl hd_ (gV (po g 1) ⟨rfl,rfl⟩)
  ·have S4:=St.id hPh_
   exact tG_ rfl hd_ (gL (nI_ l.first) rfl (((S4.blk 0 rfl).cell 1).trans rfl) ⟨rfl,rfl⟩)
  ·exact tG_ rfl hd_ (gv_int (k:=.i64) (z:=IntKind.i64.wrap (((l.first:Nat):Int)+2)) (z':=((l.first+2:Nat):Int)) kr_ (wr_eq om_ om_ om_) ⟨rfl,rfl⟩)
  ·exact tG_ rfl hd_ (gV (nI_ p) ⟨rfl,rfl⟩)
  ·exact tG_ rfl hd_ (gV (pq g) ⟨rfl,rfl⟩)
  ·exact tG_ rfl hd_ (gV (pq g) ⟨rfl,rfl⟩)
  ·exact tG_ rfl hd_ (gV (po g 2) ⟨rfl,rfl⟩)
  ·have S10:=St.id hPh_
   exact tG_ rfl hd_ (gL (nI_ l.n) rfl (((S10.blk 0 rfl).cell 2).trans rfl) ⟨rfl,rfl⟩)
  ·exact tG_ rfl hd_ (gv_int (k:=.i64) (z:=Int.tmod ((p:Nat):Int) ((l.n:Nat):Int)) (z':=((p%l.n:Nat):Int)) (by rw [hm];kernel_rfl) (tmod_nat rfl rfl) ⟨rfl,rfl⟩)
  ·exact tG_ rfl hd_ (gv_int (k:=.i64) (z:=IntKind.i64.wrap (((l.first+2:Nat):Int)+((p%l.n:Nat):Int))) (z':=((l.first+2+p%l.n:Nat):Int)) kr_ (wr_eq om_ om_ om_) ⟨rfl,rfl⟩)
  ·exact absurd hi_ om_
 ·intro k_ c_ vals_ w1 hk_ hPh_ hd_
  exact absurd hk_ (Nat.not_lt_zero _)
 ·intro c_ w1 hPh_
  have S13:=St.id hPh_
  exact (pv (nI_ (l.first+2+p%l.n)) (wE (then_n (wp_ret (bA (nI_ (l.first+2+p%l.n)) ⟨rfl,S13⟩)))))
end
section
variable {F:Nat→Prop} {w0 w:World} {L:List Ast}
theorem w_pair_dead {B g gd:Nat}{l:Lg}{s:Dsk}(S:St F w0 w (PLog g gd l::PN B gd s::L))(hz:s.left=0):Calls Try.prog 109 #[.pointer (some ⟨g,0,none⟩)] w fun e w'=>e=.returned (.tuple #[.slice none 0 0,.slice none 0 0,.int .i64 3])∧St F w0 w' (PLog g gd l::PN B gd s::L):=by
 change St F w0 w (row g #[pq gd,nI_ l.first,nI_ l.n,iv l.life,nI_ l.epoch,nI_ l.top,nI_ l.tail,nI_ l.head,.bool l.begun] 161::PN B gd s::L) at S
 refine eN (fr [pq g] 38) Try.func109 rfl (sR (pv (.slice none 0 0) (pv (.slice none 0 0) (pv (iv 0) (wE (nS (wp_region_phu (γ:=Value) 13 [8] (fun (c_:Value) (i_:Nat)=>(match i_ with|0=>pq g|1=>pq g|2=>pq g|3=>pq gd|4=>pq g|5=>pq g|6=>po g 1|7=>nI_ l.first|8=>.tuple #[c_,iv 3]|9=>.tuple #[c_,iv 3]|10=>c_|11=>iv 3|12=>c_|_=>undef:Value)) (fun (c_:Value) (p_:Nat) (w_:World)=>(match p_ with|0=>St F w0 w_ (row g #[pq gd,nI_ l.first,nI_ l.n,iv l.life,nI_ l.epoch,nI_ l.top,nI_ l.tail,nI_ l.head,.bool l.begun] 161::PN B gd s::L)|_=>St F w0 w_ (PN B gd s::row g #[pq gd,nI_ l.first,nI_ l.n,iv l.life,nI_ l.epoch,nI_ l.top,nI_ l.tail,nI_ l.head,.bool l.begun] 161::L):Prop)) (undef) kr_ kr_ kr_ kr_ (S.drew) ?_ ?_ ?_)))))))
 ·intro i_ c_ p_ vals_ w1 hi_ hiE_ hp_ hk_ hu_ hPh_ hd_
  rcases i_ with _|_|_|_|_|_|_|_|_|_|_|_|_|i_
  ·exact tG_ rfl hd_ (gV (pq g) ⟨rfl,rfl⟩)
  ·exact tG_ rfl hd_ (gV (pq g) ⟨rfl,rfl⟩)
  ·exact tG_ rfl hd_ (gV (pq g) ⟨rfl,rfl⟩)
  ·rcases p_ with _|_|p_
   ·have S4:=St.id hPh_
    exact tG_ rfl hd_ (gL (pq gd) rfl (((S4.blk 0 rfl).cell 0).trans rfl) ⟨rfl,rfl⟩)
   ·exact absurd (hu_ 0 dc_ kr_) dc_
   ·exact absurd hp_ (by simp)
  ·exact tG_ rfl hd_ (gV (pq g) ⟨rfl,rfl⟩)
  ·exact tG_ rfl hd_ (gV (pq g) ⟨rfl,rfl⟩)
  ·exact tG_ rfl hd_ (gV (po g 1) ⟨rfl,rfl⟩)
  ·rcases p_ with _|_|p_
   ·have S8:=St.id hPh_
    exact tG_ rfl hd_ (gL (nI_ l.first) rfl (((S8.blk 0 rfl).cell 1).trans rfl) ⟨rfl,rfl⟩)
   ·exact absurd (hu_ 0 dc_ kr_) dc_
   ·exact absurd hp_ (by simp)
  ·exact absurd hiE_ dc_
  ·exact tG_ rfl hd_ (gV (.tuple #[c_,iv 3]) ⟨rfl,rfl⟩)
  ·exact tG_ rfl hd_ (gV c_ ⟨rfl,rfl⟩)
  ·exact tG_ rfl hd_ (gV (iv 3) ⟨rfl,rfl⟩)
  ·exact tG_ rfl hd_ (gV c_ ⟨rfl,rfl⟩)
  ·exact absurd hi_ om_
 ·intro k_ c_ vals_ w1 hk_ hPh_ hd_
  rcases k_ with _|k_
  ·have S13:=St.id hPh_
   refine tG_ rfl hd_ (gv_call (args:=#[pq gd,nI_ l.first]) rfl Try.func26 kr_ rfl rfl kr_ ?_)
   have S14:=St.pm 2 [1,0] S13
   refine Calls.mono (pw_read_dead S14 hz) ?_
   rintro _ w15 ⟨v17,rfl,S16⟩
   refine ⟨_,rfl,⟨(v17),rfl, ?_,S16⟩⟩
   intro i_ hi_ hne_ hdp_
   rcases i_ with _|_|_|_|_|_|_|_|_|_|_|_|_|i_
   ·rfl
   ·rfl
   ·rfl
   ·rfl
   ·rfl
   ·rfl
   ·rfl
   ·rfl
   ·exact absurd rfl hne_
   ·exact (dep_no hdp_ kr_).elim
   ·exact (dep_no hdp_ kr_).elim
   ·exact (dep_no hdp_ kr_).elim
   ·exact (dep_no hdp_ kr_).elim
   ·exact absurd hi_ om_
  ·exact absurd hk_ (by simp)
 ·intro c_ w1 hPh_
  have S18:=St.id hPh_
  refine (pv (iv 3) (wE (nS (sR (pv (iv 3) (dN 3 0 (fun _=>wE (nCT (sR (pv (iv 3) (pv (.slice none 0 0) (pv (.slice none 0 0) (pv (iv 3) ?_))))))) fun hd19=>False.elim om_))))))
  refine wE (then_n (rR (bodyPost_ret (v:=.tuple #[.slice none 0 0,.slice none 0 0,iv 3]) (Go.Vel.results_tmp3 rfl _ _ kr_ kr_ kr_) rfl ?_)))
  have S20:=St.pm 2 [1,0] S18
  exact ⟨rfl,S20⟩
theorem w_pair {B g gd:Nat}{l:Lg}{s:Dsk}(S:St F w0 w (PLog g gd l::PN B gd s::L))(hl:LOk l)(hz:s.left≠0)(hin:l.first+1<s.last.length):Calls Try.prog 109 #[.pointer (some ⟨g,0,none⟩)] w fun e w'=>∃A Bx,e=.returned (.tuple #[.slice A 512 512,.slice Bx 512 512,.int .i64 0])∧St F w0 w' (bytesA (.slice A 512 512) (s.now l.first)::bytesA (.slice Bx 512 512) (s.now (l.first+1))::PLog g gd l::PN (B+2) gd s::L):=by
 obtain ⟨h1,h2,h3,h4,h5,h6⟩:=hl
 change St F w0 w (row g #[pq gd,nI_ l.first,nI_ l.n,iv l.life,nI_ l.epoch,nI_ l.top,nI_ l.tail,nI_ l.head,.bool l.begun] 161::PN B gd s::L) at S
 refine eN (fr [pq g] 38) Try.func109 rfl (sR (pv (.slice none 0 0) (pv (.slice none 0 0) (pv (iv 0) (wE (nS (wp_region_phu (γ:=Option Addr) 13 [8] (fun (c_:Option Addr) (i_:Nat)=>(match i_ with|0=>pq g|1=>pq g|2=>pq g|3=>pq gd|4=>pq g|5=>pq g|6=>po g 1|7=>nI_ l.first|8=>.tuple #[.slice c_ 512 512,iv 0]|9=>.tuple #[.slice c_ 512 512,iv 0]|10=>.slice c_ 512 512|11=>iv 0|12=>.slice c_ 512 512|_=>undef:Value)) (fun (c_:Option Addr) (p_:Nat) (w_:World)=>(match p_ with|0=>St F w0 w_ (row g #[pq gd,nI_ l.first,nI_ l.n,iv l.life,nI_ l.epoch,nI_ l.top,nI_ l.tail,nI_ l.head,.bool l.begun] 161::PN B gd s::L)|_=>St F w0 w_ (bytesA (.slice c_ 512 512) (s.now l.first)::PN (B+1) gd s::row g #[pq gd,nI_ l.first,nI_ l.n,iv l.life,nI_ l.epoch,nI_ l.top,nI_ l.tail,nI_ l.head,.bool l.begun] 161::L):Prop)) (none) kr_ kr_ kr_ kr_ (S.drew) ?_ ?_ ?_)))))))
 ·intro i_ c_ p_ vals_ w1 hi_ hiE_ hp_ hk_ hu_ hPh_ hd_
  rcases i_ with _|_|_|_|_|_|_|_|_|_|_|_|_|i_
  ·exact tG_ rfl hd_ (gV (pq g) ⟨rfl,rfl⟩)
  ·exact tG_ rfl hd_ (gV (pq g) ⟨rfl,rfl⟩)
  ·exact tG_ rfl hd_ (gV (pq g) ⟨rfl,rfl⟩)
  ·rcases p_ with _|_|p_
   ·have S4:=St.id hPh_
    exact tG_ rfl hd_ (gL (pq gd) rfl (((S4.blk 0 rfl).cell 0).trans rfl) ⟨rfl,rfl⟩)
   ·exact absurd (hu_ 0 dc_ kr_) dc_
   ·exact absurd hp_ (by simp)
  ·exact tG_ rfl hd_ (gV (pq g) ⟨rfl,rfl⟩)
  ·exact tG_ rfl hd_ (gV (pq g) ⟨rfl,rfl⟩)
  ·exact tG_ rfl hd_ (gV (po g 1) ⟨rfl,rfl⟩)
  ·rcases p_ with _|_|p_
   ·have S8:=St.id hPh_
    exact tG_ rfl hd_ (gL (nI_ l.first) rfl (((S8.blk 0 rfl).cell 1).trans rfl) ⟨rfl,rfl⟩)
   ·exact absurd (hu_ 0 dc_ kr_) dc_
   ·exact absurd hp_ (by simp)
  ·exact absurd hiE_ dc_
  ·exact tG_ rfl hd_ (gV (.tuple #[.slice c_ 512 512,iv 0]) ⟨rfl,rfl⟩)
  ·exact tG_ rfl hd_ (gV (.slice c_ 512 512) ⟨rfl,rfl⟩)
  ·exact tG_ rfl hd_ (gV (iv 0) ⟨rfl,rfl⟩)
  ·exact tG_ rfl hd_ (gV (.slice c_ 512 512) ⟨rfl,rfl⟩)
  ·exact absurd hi_ om_
 ·intro k_ c_ vals_ w1 hk_ hPh_ hd_
  rcases k_ with _|k_
  ·have S13:=St.id hPh_
   refine tG_ rfl hd_ (gv_call (args:=#[pq gd,nI_ l.first]) rfl Try.func26 kr_ rfl rfl kr_ ?_)
   have S14:=St.pm 2 [1,0] S13
   refine Calls.mono (pw_read (k:=l.first) S14 hz om_) ?_
   rintro _ w15 ⟨m17,rfl,S16⟩
   refine ⟨_,rfl,⟨(m17),rfl, ?_,S16⟩⟩
   intro i_ hi_ hne_ hdp_
   rcases i_ with _|_|_|_|_|_|_|_|_|_|_|_|_|i_
   ·rfl
   ·rfl
   ·rfl
   ·rfl
   ·rfl
   ·rfl
   ·rfl
   ·rfl
   ·exact absurd rfl hne_
   ·exact (dep_no hdp_ kr_).elim
   ·exact (dep_no hdp_ kr_).elim
   ·exact (dep_no hdp_ kr_).elim
   ·exact (dep_no hdp_ kr_).elim
   ·exact absurd hi_ om_
  ·exact absurd hk_ (by simp)
 ·intro c_ w1 hPh_
  have S18:=St.id hPh_
  refine (pv (iv 0) (wE (nS (sR (pv (iv 0) (dN 0 0 (fun hd19=>False.elim om_) fun _=>wE (nCF (wp_skip (nS (wp_region_phu (γ:=Option Addr) 14 [9] (fun (c2_:Option Addr) (i_:Nat)=>(match i_ with|0=>pq g|1=>pq g|2=>pq g|3=>pq gd|4=>pq g|5=>pq g|6=>po g 1|7=>nI_ l.first|8=>nI_ (l.first+1)|9=>.tuple #[.slice c2_ 512 512,iv 0]|10=>.tuple #[.slice c2_ 512 512,iv 0]|11=>.slice c2_ 512 512|12=>iv 0|13=>.slice c2_ 512 512|_=>undef:Value)) (fun (c2_:Option Addr) (p_:Nat) (w_:World)=>(match p_ with|0=>St F w0 w_ (bytesA (.slice c_ 512 512) (s.now l.first)::PN (B+1) gd s::row g #[pq gd,nI_ l.first,nI_ l.n,iv l.life,nI_ l.epoch,nI_ l.top,nI_ l.tail,nI_ l.head,.bool l.begun] 161::L)|_=>St F w0 w_ (bytesA (.slice c2_ 512 512) (s.now (l.first+1))::PN (B+2) gd s::bytesA (.slice c_ 512 512) (s.now l.first)::row g #[pq gd,nI_ l.first,nI_ l.n,iv l.life,nI_ l.epoch,nI_ l.top,nI_ l.tail,nI_ l.head,.bool l.begun] 161::L):Prop)) (none) kr_ kr_ kr_ kr_ (S18.drew) ?_ ?_ ?_))))))))))
  ·intro i_ c2_ p_ vals_ w1 hi_ hiE_ hp_ hk_ hu_ hPh_ hd_
   rcases i_ with _|_|_|_|_|_|_|_|_|_|_|_|_|_|i_
   ·exact tG_ rfl hd_ (gV (pq g) ⟨rfl,rfl⟩)
   ·exact tG_ rfl hd_ (gV (pq g) ⟨rfl,rfl⟩)
   ·exact tG_ rfl hd_ (gV (pq g) ⟨rfl,rfl⟩)
   ·rcases p_ with _|_|p_
    ·have S23:=St.id hPh_
     exact tG_ rfl hd_ (gL (pq gd) rfl (((S23.blk 2 rfl).cell 0).trans rfl) ⟨rfl,rfl⟩)
    ·exact absurd (hu_ 0 dc_ kr_) dc_
    ·exact absurd hp_ (by simp)
   ·exact tG_ rfl hd_ (gV (pq g) ⟨rfl,rfl⟩)
   ·exact tG_ rfl hd_ (gV (pq g) ⟨rfl,rfl⟩)
   ·exact tG_ rfl hd_ (gV (po g 1) ⟨rfl,rfl⟩)
   ·rcases p_ with _|_|p_
    ·have S27:=St.id hPh_
     exact tG_ rfl hd_ (gL (nI_ l.first) rfl (((S27.blk 2 rfl).cell 1).trans rfl) ⟨rfl,rfl⟩)
    ·exact absurd (hu_ 0 dc_ kr_) dc_
    ·exact absurd hp_ (by simp)
   ·exact tG_ rfl hd_ (gv_int (k:=.i64) (z:=IntKind.i64.wrap (((l.first:Nat):Int)+1)) (z':=((l.first+1:Nat):Int)) kr_ (wr_eq om_ om_ om_) ⟨rfl,rfl⟩)
   ·exact absurd hiE_ dc_
   ·exact tG_ rfl hd_ (gV (.tuple #[.slice c2_ 512 512,iv 0]) ⟨rfl,rfl⟩)
   ·exact tG_ rfl hd_ (gV (.slice c2_ 512 512) ⟨rfl,rfl⟩)
   ·exact tG_ rfl hd_ (gV (iv 0) ⟨rfl,rfl⟩)
   ·exact tG_ rfl hd_ (gV (.slice c2_ 512 512) ⟨rfl,rfl⟩)
   ·exact absurd hi_ om_
  ·intro k_ c2_ vals_ w1 hk_ hPh_ hd_
   rcases k_ with _|k_
   ·have S33:=St.id hPh_
    refine tG_ rfl hd_ (gv_call (args:=#[pq gd,nI_ (l.first+1)]) rfl Try.func26 kr_ rfl rfl kr_ ?_)
    have S34:=St.pm 3 [1,0,2] S33
    refine Calls.mono (pw_read (k:=l.first+1) S34 hz om_) ?_
    rintro _ w35 ⟨m37,rfl,S36⟩
    refine ⟨_,rfl,⟨(m37),rfl, ?_,S36⟩⟩
    intro i_ hi_ hne_ hdp_
    rcases i_ with _|_|_|_|_|_|_|_|_|_|_|_|_|_|i_
    ·rfl
    ·rfl
    ·rfl
    ·rfl
    ·rfl
    ·rfl
    ·rfl
    ·rfl
    ·rfl
    ·exact absurd rfl hne_
    ·exact (dep_no hdp_ kr_).elim
    ·exact (dep_no hdp_ kr_).elim
    ·exact (dep_no hdp_ kr_).elim
    ·exact (dep_no hdp_ kr_).elim
    ·exact absurd hi_ om_
   ·exact absurd hk_ (by simp)
  ·intro c2_ w1 hPh_
   have S38:=St.id hPh_
   refine (pv (iv 0) (wE (nSR (pv (.slice c_ 512 512) (pv (.slice c2_ 512 512) (pv (iv 0) (pv (.slice c_ 512 512) (pv (.slice c2_ 512 512) (pv (iv 0) (wE (then_n (wp_ret (bodyPost_ret (v:=.tuple #[.slice c_ 512 512,.slice c2_ 512 512,iv 0]) (Go.Vel.results_tmp3 rfl _ _ kr_ kr_ kr_) rfl ?_)))))))))))))
   have S39:=St.pm 4 [2,0,3,1] S38
   exact ⟨_,_,rfl,S39⟩
theorem w_anchor_dead {B g gd:Nat}{l:Lg}{s:Dsk}(S:St F w0 w (PLog g gd l::PN B gd s::L))(hl:LOk l){ep tl:Nat}(hep:ep≤1073741824)(htl:tl<4294967296)(hpn:s.pend.length<4398046511104)(hz:s.left=0):Calls Try.prog 103 #[.pointer (some ⟨g,0,none⟩),.int .i64 (ep:Nat),.int .i64 (tl:Nat)] w fun e w'=>e=.returned (.int .i64 (renewR s l.first (ep*4294967296+tl)).2)∧St F w0 w' (PLog g gd (if (renewR s l.first (ep*4294967296+tl)).2=0 then {l with epoch:=ep,tail:=tl} else l)::PN (B+2) gd ((renewR s l.first (ep*4294967296+tl)).1)::L):=by
 rw [renewR_dead hz]
 change St F w0 w (row g #[pq gd,nI_ l.first,nI_ l.n,iv l.life,nI_ l.epoch,nI_ l.top,nI_ l.tail,nI_ l.head,.bool l.begun] 161::PN B gd s::L) at S
 refine eN (fr [pq g,nI_ ep,nI_ tl] 64) Try.func103 rfl (sR (pv (iv 0) (wER (pv (pq g) (sP Try.func109 #[pq g] (w_pair_dead S hz) fun w1 S2=>pv (.tuple #[.slice none 0 0,.slice none 0 0,iv 3]) (pv (.slice none 0 0) (pv (.slice none 0 0) (pv (iv 3) (pv (.slice none 0 0) (pv (.slice none 0 0) (pv (iv 3) (wE ?_))))))))))))
 refine nS (sR (pv (iv 3) (dN 3 0 (fun _=>wE (nCT (sR (pv (iv 3) (pv (iv 3) (wE (then_n (rR (bA (iv 3) ?_))))))))) fun hd3=>False.elim om_)))
 have S4:=St.pm 2 [1,0] S2
 have S5:St F w0 w1 (PN (B+2) gd s::row g #[pq gd,nI_ l.first,nI_ l.n,iv l.life,nI_ l.epoch,nI_ l.top,nI_ l.tail,nI_ l.head,.bool l.begun] 161::L):=St.pnle om_ S4
 have S6:=St.pm 2 [1,0] S5
 exact ⟨rfl,S6⟩
theorem w_anchor_go {B g gd:Nat}{l:Lg}{s:Dsk}(S:St F w0 w (PLog g gd l::PN B gd s::L))(hl:LOk l){ep tl:Nat}(hep:ep≤1073741824)(htl:tl<4294967296)(hpn:s.pend.length<4398046511104)(hz:s.left≠0)(hin:l.first+1<s.last.length)(hren:(renewF (s.now l.first) (s.now (l.first+1)) ((ep*4294967296+tl:Nat):Int) []).2.2=0):Calls Try.prog 103 #[.pointer (some ⟨g,0,none⟩),.int .i64 (ep:Nat),.int .i64 (tl:Nat)] w fun e w'=>e=.returned (.int .i64 (renewR s l.first (ep*4294967296+tl)).2)∧St F w0 w' (PLog g gd (if (renewR s l.first (ep*4294967296+tl)).2=0 then {l with epoch:=ep,tail:=tl} else l)::PN (B+2) gd ((renewR s l.first (ep*4294967296+tl)).1)::L):=by
 have hok:=St.pw_ok S.tail
 have ha5:=hok.now (k:=l.first) om_
 have hb5:=hok.now (k:=l.first+1) hin
 obtain ⟨hq1,hq5⟩:=renew_ok ha5 hb5 hren
 rw [renewR_go hz hin hq1 hq5]
 unfold Dsk.anch
 obtain ⟨q,hq⟩:∃q,renewF (s.now l.first) (s.now (l.first+1)) ((ep*4294967296+tl:Nat):Int) []=q:=⟨_,rfl⟩
 have hn2:=hok.n2
 rw [hq] at hq1 hq5 hren ⊢
 obtain ⟨s1,hs1⟩:∃s1,s.wrote (l.first+q.1) q.2.1=s1:=⟨_,rfl⟩
 rw [hs1]
 change St F w0 w (row g #[pq gd,nI_ l.first,nI_ l.n,iv l.life,nI_ l.epoch,nI_ l.top,nI_ l.tail,nI_ l.head,.bool l.begun] 161::PN B gd s::L) at S
 refine eN (fr [pq g,nI_ ep,nI_ tl] 64) Try.func103 rfl (sR (pv (iv 0) (wER (pv (pq g) (sP2 Try.func109 #[pq g] (w_pair S hl hz hin) fun A7 B7 w1 S2=>pv (.tuple #[.slice A7 512 512,.slice B7 512 512,iv 0]) (pv (.slice A7 512 512) (pv (.slice B7 512 512) (pv (iv 0) (pv (.slice A7 512 512) (pv (.slice B7 512 512) (pv (iv 0) (wE ?_))))))))))))
 refine nS (sR (pv (iv 0) (dN 0 0 (fun hd3=>False.elim om_) fun _=>wE (nCF (wp_skip (nSR (pv (.slice A7 512 512) (pv (.slice B7 512 512) (pv (nI_ ep) (g_ (gv_shl (k:=.i64) (yk:=.u64) (z:=((ep:Nat):Int)) (i:=32) (j:=32) (z':=((ep*4294967296:Nat):Int)) rfl kr_ kr_ rfl dc_ (wr_eq om_ om_ om_) (pv (nI_ tl) (gI .i64 (IntKind.i64.wrap (((ep*4294967296:Nat):Int)+((tl:Nat):Int))) ((ep*4294967296+tl:Nat):Int) (wr_eq om_ om_ om_) ?_)))))))))))))
 refine g_ (gv_call (args:=#[.slice A7 512 512,.slice B7 512 512,nI_ (ep*4294967296+tl),.slice none 0 0]) rfl Try.func133 kr_ rfl rfl kr_ ?_)
 have hrn:=ps_renew0 (ca:=512) (cb:=512) S2 (a:=s.now l.first) (b:=s.now (l.first+1)) (no:=((ep*4294967296+tl:Nat):Int)) ha5.symm hb5.symm (RoT.bytes 0 rfl rfl) (RoT.bytes 1 rfl rfl) om_ om_ om_ (by rw [hq];exact hren) (by rw [hq];exact hq5)
 rw [hq] at hrn
 refine Calls.mono hrn ?_
 rintro _ w4 ⟨A8,c8,rfl,S5⟩
 refine ⟨_,rfl,(pv (.tuple #[iv (q.1:Int),.slice A8 512 c8,iv 0]) (pv (iv (q.1:Int)) (pv (.slice A8 512 c8) (pv (iv 0) (pv (iv (q.1:Int)) (pv (.slice A8 512 c8) (pv (iv 0) (wE (nS (sR (pv (iv 0) (dN 0 0 (fun hd6=>False.elim om_) fun _=>wE ?_))))))))))))⟩
 refine nCF (wp_skip (nS (wp_seq (wp_region_phu (γ:=Unit) 12 [11] (fun (c_:Unit) (i_:Nat)=>(match i_ with|0=>pq g|1=>pq g|2=>pq g|3=>pq gd|4=>pq g|5=>pq g|6=>po g 1|7=>nI_ l.first|8=>iv (q.1:Int)|9=>nI_ (l.first+q.1)|10=>.slice A8 512 c8|11=>iv 0|_=>undef:Value)) (fun (c_:Unit) (p_:Nat) (w_:World)=>(match p_ with|0=>St F w0 w_ (bytesX (.slice A8 512 c8) q.2.1::bytesA (.slice A7 512 512) (s.now l.first)::bytesA (.slice B7 512 512) (s.now (l.first+1))::row g #[pq gd,nI_ l.first,nI_ l.n,iv l.life,nI_ l.epoch,nI_ l.top,nI_ l.tail,nI_ l.head,.bool l.begun] 161::PN (B+2) gd s::L)|_=>St F w0 w_ (PN (B+2) gd s1::bytesX (.slice A8 512 c8) q.2.1::bytesA (.slice A7 512 512) (s.now l.first)::bytesA (.slice B7 512 512) (s.now (l.first+1))::row g #[pq gd,nI_ l.first,nI_ l.n,iv l.life,nI_ l.epoch,nI_ l.top,nI_ l.tail,nI_ l.head,.bool l.begun] 161::L):Prop)) () kr_ kr_ kr_ kr_ (S5.drew) ?_ ?_ ?_))))
 ·intro i_ c_ p_ vals_ w1 hi_ hiE_ hp_ hk_ hu_ hPh_ hd_
  rcases i_ with _|_|_|_|_|_|_|_|_|_|_|_|i_
  ·exact tG_ rfl hd_ (gV (pq g) ⟨rfl,rfl⟩)
  ·exact tG_ rfl hd_ (gV (pq g) ⟨rfl,rfl⟩)
  ·exact tG_ rfl hd_ (gV (pq g) ⟨rfl,rfl⟩)
  ·rcases p_ with _|_|p_
   ·have S10:=St.id hPh_
    exact tG_ rfl hd_ (gL (pq gd) rfl (((S10.blk 3 rfl).cell 0).trans rfl) ⟨rfl,rfl⟩)
   ·exact absurd (hu_ 0 dc_ kr_) dc_
   ·exact absurd hp_ (by simp)
  ·exact tG_ rfl hd_ (gV (pq g) ⟨rfl,rfl⟩)
  ·exact tG_ rfl hd_ (gV (pq g) ⟨rfl,rfl⟩)
  ·exact tG_ rfl hd_ (gV (po g 1) ⟨rfl,rfl⟩)
  ·rcases p_ with _|_|p_
   ·have S14:=St.id hPh_
    exact tG_ rfl hd_ (gL (nI_ l.first) rfl (((S14.blk 3 rfl).cell 1).trans rfl) ⟨rfl,rfl⟩)
   ·exact absurd (hu_ 0 dc_ kr_) dc_
   ·exact absurd hp_ (by simp)
  ·exact tG_ rfl hd_ (gV (iv (q.1:Int)) ⟨rfl,rfl⟩)
  ·exact tG_ rfl hd_ (gv_int (k:=.i64) (z:=IntKind.i64.wrap (((l.first:Nat):Int)+(q.1:Int))) (z':=((l.first+q.1:Nat):Int)) kr_ (wr_eq om_ om_ om_) ⟨rfl,rfl⟩)
  ·exact tG_ rfl hd_ (gV (.slice A8 512 c8) ⟨rfl,rfl⟩)
  ·exact absurd hiE_ dc_
  ·exact absurd hi_ om_
 ·intro k_ c_ vals_ w1 hk_ hPh_ hd_
  rcases k_ with _|k_
  ·have S18:=St.id hPh_
   refine tG_ rfl hd_ (gv_call (args:=#[pq gd,nI_ (l.first+q.1),.slice A8 512 c8]) rfl Try.func33 kr_ rfl rfl kr_ ?_)
   have S19:St F w0 w1 (PN (B+2) gd s::bytesX (.slice A8 512 c8) q.2.1::bytesA (.slice A7 512 512) (s.now l.first)::bytesA (.slice B7 512 512) (s.now (l.first+1))::row g #[pq gd,nI_ l.first,nI_ l.n,iv l.life,nI_ l.epoch,nI_ l.top,nI_ l.tail,nI_ l.head,.bool l.begun] 161::L):=St.pm 5 [4,0,1,2,3] S18
   refine Calls.mono (pw_write_go (k:=l.first+q.1) S19 (RoT.bytesX 0 rfl rfl) hq5.symm hq5 hz om_ hpn) ?_
   rintro _ w20 ⟨rfl,S21⟩
   refine ⟨_,rfl, ?_⟩
   rw [hs1] at S21
   refine ⟨(),rfl, ?_,S21⟩
   intro i_ hi_ hne_ hdp_
   rcases i_ with _|_|_|_|_|_|_|_|_|_|_|_|i_
   ·rfl
   ·rfl
   ·rfl
   ·rfl
   ·rfl
   ·rfl
   ·rfl
   ·rfl
   ·rfl
   ·rfl
   ·rfl
   ·exact absurd rfl hne_
   ·exact absurd hi_ om_
  ·exact absurd hk_ (by simp)
 ·intro c_ w1 hPh_
  have S22:=St.id hPh_
  refine (pv (iv 0) (wE ?_))
  refine nSR (pv (iv 0) (dN 0 0 (fun hd23=>False.elim om_) fun _=>wE (nCF (wp_skip (nS (sR (pv (pq g) (pv (pq g) (pv (pq g) (lR (pq gd) S22 4 0 (sP Try.func87 #[pq gd] (pw_flush S22) fun w24 S25=>pv (iv s1.flushR.2) ?_)))))))))))
  refine wER (pv (iv s1.flushR.2) (dN s1.flushR.2 0 (fun hfl=> ?_) fun hfl=> ?_))
  ·refine wE (nCT (sR (pv (iv s1.flushR.2) (pv (iv s1.flushR.2) (wE (then_n (rR (bA (iv s1.flushR.2) ?_))))))))
   have S26:=St.pm 5 [4,0] S25
   rw [if_neg hfl]
   exact ⟨rfl,S26⟩
  ·refine wE (nCF (wp_skip (nSR (pv (pq g) (pv (pq g) (pv (nI_ ep) (pv (nI_ tl) (pv (pq g) (pv (po g 4) (sS S25 4 rfl 4 (nI_ ep) fun w27 S28=>pv (pq g) (pv (po g 6) (sS S28 4 rfl 6 (nI_ tl) fun w29 S30=> ?_))))))))))))
   refine wER (pv (iv 0) (wE (then_n (wp_ret (bA (iv 0) ?_)))))
   have S31:=St.pm 5 [4,0] S30
   rw [if_pos hfl,hfl]
   exact ⟨rfl,S31⟩
theorem w_anchor {B g gd:Nat}{l:Lg}{s:Dsk}(S:St F w0 w (PLog g gd l::PN B gd s::L))(hl:LOk l){ep tl:Nat}(hep:ep≤1073741824)(htl:tl<4294967296)(hpn:s.pend.length<4398046511104)(hin:s.left≠0→l.first+1<s.last.length)(hren:s.left≠0→(renewF (s.now l.first) (s.now (l.first+1)) ((ep*4294967296+tl:Nat):Int) []).2.2=0):Calls Try.prog 103 #[.pointer (some ⟨g,0,none⟩),.int .i64 (ep:Nat),.int .i64 (tl:Nat)] w fun e w'=>e=.returned (.int .i64 (renewR s l.first (ep*4294967296+tl)).2)∧St F w0 w' (PLog g gd (if (renewR s l.first (ep*4294967296+tl)).2=0 then {l with epoch:=ep,tail:=tl} else l)::PN (B+2) gd ((renewR s l.first (ep*4294967296+tl)).1)::L):=by
 by_cases hz:s.left=0
 ·exact w_anchor_dead S hl hep htl hpn hz
 ·exact w_anchor_go S hl hep htl hpn hz (hin hz) (hren hz)
end
section
variable {F:Nat→Prop} {w0 w:World} {L:List Ast}
theorem w_sync {B g gd:Nat}{l:Lg}{s:Dsk}(S:St F w0 w (PLog g gd l::PN B gd s::L)):Calls Try.prog 60 #[.pointer (some ⟨g,0,none⟩)] w fun e w'=>e=.returned (.int .i64 (syncR s l).2)∧St F w0 w' (PLog g gd l::PN B gd ((syncR s l).1)::L):=by
 change St F w0 w (row g #[pq gd,nI_ l.first,nI_ l.n,iv l.life,nI_ l.epoch,nI_ l.top,nI_ l.tail,nI_ l.head,.bool l.begun] 161::PN B gd s::L) at S
 refine eN (fr [pq g] 13) Try.func60 rfl (sR (pv (iv 0) (wE (nS (sR (pv (pq g) (sP Try.func104 #[pq g] (w_ready S) fun w1 S2=>pv (iv (readyR s l)) (wER (pv (iv (readyR s l)) (dN (readyR s l) 0 (fun hr=> ?_) fun hr=> ?_))))))))))
 ·refine wE (nCT (sR (pv (iv (readyR s l)) (pv (iv (readyR s l)) (wE (then_n (rR (bA (iv (readyR s l)) ?_))))))))
  have e:syncR s l=(s,readyR s l):=by unfold syncR;rw [if_pos hr]
  rw [e]
  exact ⟨rfl,S2⟩
 ·refine wE (nCF (wp_skip (nSR (pv (pq g) (pv (pq g) (pv (pq g) (lR (pq gd) S2 0 0 (g_ (gv_call (args:=#[pq gd]) rfl Try.func87 kr_ rfl rfl kr_ ?_)))))))))
  have S3:=St.pm 2 [1,0] S2
  refine Calls.mono (pw_flush S3) ?_
  rintro _ w4 ⟨rfl,S5⟩
  refine ⟨_,rfl,(pv (iv s.flushR.2) (wE (then_n (wp_ret (bA (iv s.flushR.2) ?_)))))⟩
  have e:syncR s l=s.flushR:=by unfold syncR;rw [if_neg (fun h=>h hr)]
  rw [e]
  have S6:=St.pm 2 [1,0] S5
  exact ⟨rfl,S6⟩
theorem w_trim {B g gd:Nat}{l:Lg}{s:Dsk}(S:St F w0 w (PLog g gd l::PN B gd s::L))(hl:LOk l)(hh:LHd l)(hpn:s.pend.length<4398046511104)(hin:l.first+1<s.last.length)(hren:readyR s l=0→s.flushR.1.left≠0→l.tail≠l.head→(renewF (s.flushR.1.now l.first) (s.flushR.1.now (l.first+1)) ((l.epoch*4294967296+l.head:Nat):Int) []).2.2=0):Calls Try.prog 55 #[.pointer (some ⟨g,0,none⟩)] w fun e w'=>e=.returned (.int .i64 (trimR s l).2.2)∧St F w0 w' (PLog g gd ((trimR s l).2.1)::PN (B+2) gd ((trimR s l).1)::L):=by
 obtain ⟨hf1,hf2⟩:=flush_facts s
 have hl4:=hl.epoch
 have hl6:=hl.tail
 have hl8:=hh.ht
 have hl3:=hl.n
 by_cases hr:readyR s l≠0
 ·have e:trimR s l=(s,l,readyR s l):=by unfold trimR;rw [if_pos hr]
  have e2:syncR s l=(s,readyR s l):=by unfold syncR;rw [if_pos hr]
  rw [e]
  change St F w0 w (row g #[pq gd,nI_ l.first,nI_ l.n,iv l.life,nI_ l.epoch,nI_ l.top,nI_ l.tail,nI_ l.head,.bool l.begun] 161::PN B gd s::L) at S
  refine eN (fr [pq g] 29) Try.func55 rfl (sR (pv (iv 0) (wE (nS (sR (pv (pq g) (g_ (gv_call (args:=#[pq g]) rfl Try.func60 kr_ rfl rfl kr_ ?_))))))))
  have hsy:=w_sync S
  rw [e2] at hsy
  refine Calls.mono hsy ?_
  rintro _ w1 ⟨rfl,S2⟩
  refine ⟨_,rfl,(pv (iv (readyR s l)) (wE (nS (wp_region_phu (γ:=Unit) 13 [] (fun (c_:Unit) (i_:Nat)=>(match i_ with|0=>iv (readyR s l)|1=>.bool true|2=>.bool true|3=>undef|4=>undef|5=>undef|6=>undef|7=>undef|8=>undef|9=>undef|10=>undef|11=>undef|12=>.bool true|_=>undef:Value)) (fun (c_:Unit) (p_:Nat) (w_:World)=>(match p_ with|_=>St F w0 w_ (row g #[pq gd,nI_ l.first,nI_ l.n,iv l.life,nI_ l.epoch,nI_ l.top,nI_ l.tail,nI_ l.head,.bool l.begun] 161::PN B gd s::L):Prop)) () kr_ kr_ kr_ kr_ (S2.drew) ?_ ?_ ?_))))⟩
  ·intro i_ c_ p_ vals_ w1 hi_ hiE_ hp_ hk_ hu_ hPh_ hd_
   rcases i_ with _|_|_|_|_|_|_|_|_|_|_|_|_|i_
   ·exact tG_ rfl hd_ (gV (iv (readyR s l)) ⟨rfl,rfl⟩)
   ·exact tG_ rfl hd_ (gB_ (b:=(readyR s l) !=0) (b':=true) kr_ (by simp;exact hr) ⟨rfl,rfl⟩)
   ·exact tG_ rfl hd_ (gV (.bool true) ⟨rfl,rfl⟩)
   ·exact tO_ 2 8 2 false true rfl hd_ ⟨rfl,rfl⟩
   ·exact tO_ 2 8 2 false true rfl hd_ ⟨rfl,rfl⟩
   ·exact tO_ 2 8 2 false true rfl hd_ ⟨rfl,rfl⟩
   ·exact tO_ 2 8 2 false true rfl hd_ ⟨rfl,rfl⟩
   ·exact tO_ 2 8 2 false true rfl hd_ ⟨rfl,rfl⟩
   ·exact tO_ 2 8 2 false true rfl hd_ ⟨rfl,rfl⟩
   ·exact tO_ 2 8 2 false true rfl hd_ ⟨rfl,rfl⟩
   ·exact tO_ 2 8 2 false true rfl hd_ ⟨rfl,rfl⟩
   ·exact tO_ 2 8 2 false true rfl hd_ ⟨rfl,rfl⟩
   ·exact tG_ rfl hd_ (gV (.bool true) ⟨rfl,rfl⟩)
   ·exact absurd hi_ om_
  ·intro k_ c_ vals_ w1 hk_ hPh_ hd_
   exact absurd hk_ (Nat.not_lt_zero _)
  ·intro c_ w1 hPh_
   have S16:=St.id hPh_
   refine (wE (nCT (sR (pv (iv (readyR s l)) (pv (iv (readyR s l)) (wE (then_n (rR (bA (iv (readyR s l)) ?_)))))))))
   have S17:=St.pm 2 [1,0] S16
   have S18:St F w0 w1 (PN (B+2) gd s::row g #[pq gd,nI_ l.first,nI_ l.n,iv l.life,nI_ l.epoch,nI_ l.top,nI_ l.tail,nI_ l.head,.bool l.begun] 161::L):=St.pnle om_ S17
   have S19:=St.pm 2 [1,0] S18
   exact ⟨rfl,S19⟩
 have hr:readyR s l=0:=by omega
 have e2:syncR s l=s.flushR:=by unfold syncR;rw [if_neg (fun h=>h hr)]
 by_cases hfl:s.flushR.2≠0
 ·have e:trimR s l=(s.flushR.1,l,s.flushR.2):=by unfold trimR;rw [if_neg (fun h=>h hr),if_pos (.inl hfl)]
  rw [e]
  change St F w0 w (row g #[pq gd,nI_ l.first,nI_ l.n,iv l.life,nI_ l.epoch,nI_ l.top,nI_ l.tail,nI_ l.head,.bool l.begun] 161::PN B gd s::L) at S
  refine eN (fr [pq g] 29) Try.func55 rfl (sR (pv (iv 0) (wE (nS (sR (pv (pq g) (g_ (gv_call (args:=#[pq g]) rfl Try.func60 kr_ rfl rfl kr_ ?_))))))))
  have hsy:=w_sync S
  rw [e2] at hsy
  refine Calls.mono hsy ?_
  rintro _ w1 ⟨rfl,S2⟩
  refine ⟨_,rfl,(pv (iv s.flushR.2) (wE (nS (wp_region_phu (γ:=Unit) 13 [] (fun (c_:Unit) (i_:Nat)=>(match i_ with|0=>iv s.flushR.2|1=>.bool true|2=>.bool true|3=>undef|4=>undef|5=>undef|6=>undef|7=>undef|8=>undef|9=>undef|10=>undef|11=>undef|12=>.bool true|_=>undef:Value)) (fun (c_:Unit) (p_:Nat) (w_:World)=>(match p_ with|_=>St F w0 w_ (row g #[pq gd,nI_ l.first,nI_ l.n,iv l.life,nI_ l.epoch,nI_ l.top,nI_ l.tail,nI_ l.head,.bool l.begun] 161::PN B gd s.flushR.1::L):Prop)) () kr_ kr_ kr_ kr_ (S2.drew) ?_ ?_ ?_))))⟩
  ·intro i_ c_ p_ vals_ w1 hi_ hiE_ hp_ hk_ hu_ hPh_ hd_
   rcases i_ with _|_|_|_|_|_|_|_|_|_|_|_|_|i_
   ·exact tG_ rfl hd_ (gV (iv s.flushR.2) ⟨rfl,rfl⟩)
   ·exact tG_ rfl hd_ (gB_ (b:=s.flushR.2 !=0) (b':=true) kr_ (by simp;exact hfl) ⟨rfl,rfl⟩)
   ·exact tG_ rfl hd_ (gV (.bool true) ⟨rfl,rfl⟩)
   ·exact tO_ 2 8 2 false true rfl hd_ ⟨rfl,rfl⟩
   ·exact tO_ 2 8 2 false true rfl hd_ ⟨rfl,rfl⟩
   ·exact tO_ 2 8 2 false true rfl hd_ ⟨rfl,rfl⟩
   ·exact tO_ 2 8 2 false true rfl hd_ ⟨rfl,rfl⟩
   ·exact tO_ 2 8 2 false true rfl hd_ ⟨rfl,rfl⟩
   ·exact tO_ 2 8 2 false true rfl hd_ ⟨rfl,rfl⟩
   ·exact tO_ 2 8 2 false true rfl hd_ ⟨rfl,rfl⟩
   ·exact tO_ 2 8 2 false true rfl hd_ ⟨rfl,rfl⟩
   ·exact tO_ 2 8 2 false true rfl hd_ ⟨rfl,rfl⟩
   ·exact tG_ rfl hd_ (gV (.bool true) ⟨rfl,rfl⟩)
   ·exact absurd hi_ om_
  ·intro k_ c_ vals_ w1 hk_ hPh_ hd_
   exact absurd hk_ (Nat.not_lt_zero _)
  ·intro c_ w1 hPh_
   have S16:=St.id hPh_
   refine (wE (nCT (sR (pv (iv s.flushR.2) (pv (iv s.flushR.2) (wE (then_n (rR (bA (iv s.flushR.2) ?_)))))))))
   have S17:=St.pm 2 [1,0] S16
   have S18:St F w0 w1 (PN (B+2) gd s.flushR.1::row g #[pq gd,nI_ l.first,nI_ l.n,iv l.life,nI_ l.epoch,nI_ l.top,nI_ l.tail,nI_ l.head,.bool l.begun] 161::L):=St.pnle om_ S17
   have S19:=St.pm 2 [1,0] S18
   exact ⟨rfl,S19⟩
 have hfl0:s.flushR.2=0:=by omega
 by_cases hth:l.tail=l.head
 ·have e:trimR s l=(s.flushR.1,l,s.flushR.2):=by unfold trimR;rw [if_neg (fun h=>h hr),if_pos (.inr hth)]
  rw [e]
  change St F w0 w (row g #[pq gd,nI_ l.first,nI_ l.n,iv l.life,nI_ l.epoch,nI_ l.top,nI_ l.tail,nI_ l.head,.bool l.begun] 161::PN B gd s::L) at S
  refine eN (fr [pq g] 29) Try.func55 rfl (sR (pv (iv 0) (wE (nS (sR (pv (pq g) (g_ (gv_call (args:=#[pq g]) rfl Try.func60 kr_ rfl rfl kr_ ?_))))))))
  have hsy:=w_sync S
  rw [e2] at hsy
  refine Calls.mono hsy ?_
  rintro _ w1 ⟨rfl,S2⟩
  refine ⟨_,rfl,(pv (iv s.flushR.2) (wE (nS (wp_region_phu (γ:=Unit) 13 [] (fun (c_:Unit) (i_:Nat)=>(match i_ with|0=>iv s.flushR.2|1=>.bool false|2=>.bool false|3=>pq g|4=>pq g|5=>po g 6|6=>nI_ l.tail|7=>pq g|8=>pq g|9=>po g 7|10=>nI_ l.head|11=>.bool true|12=>.bool true|_=>undef:Value)) (fun (c_:Unit) (p_:Nat) (w_:World)=>(match p_ with|_=>St F w0 w_ (row g #[pq gd,nI_ l.first,nI_ l.n,iv l.life,nI_ l.epoch,nI_ l.top,nI_ l.tail,nI_ l.head,.bool l.begun] 161::PN B gd s.flushR.1::L):Prop)) () kr_ kr_ kr_ kr_ (S2.drew) ?_ ?_ ?_))))⟩
  ·intro i_ c_ p_ vals_ w1 hi_ hiE_ hp_ hk_ hu_ hPh_ hd_
   rcases i_ with _|_|_|_|_|_|_|_|_|_|_|_|_|i_
   ·exact tG_ rfl hd_ (gV (iv s.flushR.2) ⟨rfl,rfl⟩)
   ·exact tG_ rfl hd_ (gB_ (b:=s.flushR.2 !=0) (b':=false) kr_ (by simp;exact hfl0) ⟨rfl,rfl⟩)
   ·exact tG_ rfl hd_ (gV (.bool false) ⟨rfl,rfl⟩)
   ·exact tW_ 2 8 2 false rfl hd_ (gv_val (v:=pq g) (w':=w1) kr_ ⟨rfl,rfl⟩)
   ·exact tW_ 2 8 2 false rfl hd_ (gv_val (v:=pq g) (w':=w1) kr_ ⟨rfl,rfl⟩)
   ·exact tW_ 2 8 2 false rfl hd_ (gv_val (v:=po g 6) (w':=w1) kr_ ⟨rfl,rfl⟩)
   ·have S9:=St.id hPh_
    exact tW_ 2 8 2 false rfl hd_ (gv_ldR (v:=nI_ l.tail) rfl kr_ kr_ (((S9.blk 0 rfl).cell 6).trans rfl) ⟨rfl,rfl⟩)
   ·exact tW_ 2 8 2 false rfl hd_ (gv_val (v:=pq g) (w':=w1) kr_ ⟨rfl,rfl⟩)
   ·exact tW_ 2 8 2 false rfl hd_ (gv_val (v:=pq g) (w':=w1) kr_ ⟨rfl,rfl⟩)
   ·exact tW_ 2 8 2 false rfl hd_ (gv_val (v:=po g 7) (w':=w1) kr_ ⟨rfl,rfl⟩)
   ·have S13:=St.id hPh_
    exact tW_ 2 8 2 false rfl hd_ (gv_ldR (v:=nI_ l.head) rfl kr_ kr_ (((S13.blk 0 rfl).cell 7).trans rfl) ⟨rfl,rfl⟩)
   ·exact tW_ 2 8 2 false rfl hd_ (gB_ (b:=((l.tail:Nat):Int)==((l.head:Nat):Int)) (b':=true) kr_ (by simp;omega) ⟨rfl,rfl⟩)
   ·exact tG_ rfl hd_ (gV (.bool true) ⟨rfl,rfl⟩)
   ·exact absurd hi_ om_
  ·intro k_ c_ vals_ w1 hk_ hPh_ hd_
   exact absurd hk_ (Nat.not_lt_zero _)
  ·intro c_ w1 hPh_
   have S16:=St.id hPh_
   refine (wE (nCT (sR (pv (iv s.flushR.2) (pv (iv s.flushR.2) (wE (then_n (rR (bA (iv s.flushR.2) ?_)))))))))
   have S17:=St.pm 2 [1,0] S16
   have S18:St F w0 w1 (PN (B+2) gd s.flushR.1::row g #[pq gd,nI_ l.first,nI_ l.n,iv l.life,nI_ l.epoch,nI_ l.top,nI_ l.tail,nI_ l.head,.bool l.begun] 161::L):=St.pnle om_ S17
   have S19:=St.pm 2 [1,0] S18
   exact ⟨rfl,S19⟩
 have e:trimR s l=((renewR s.flushR.1 l.first (l.epoch*4294967296+l.head)).1,(if (renewR s.flushR.1 l.first (l.epoch*4294967296+l.head)).2=0 then {l with epoch:=l.epoch,tail:=l.head} else l),(renewR s.flushR.1 l.first (l.epoch*4294967296+l.head)).2):=by
  unfold trimR;rw [if_neg (fun h=>h hr),if_neg om_]
  by_cases h0:(renewR s.flushR.1 l.first (l.epoch*4294967296+l.head)).2=0
  ·simp only [h0,ne_eq,not_true,if_false,if_true]
  ·simp only [h0,ne_eq,not_false_iff,if_false,if_true]
 rw [e]
 change St F w0 w (row g #[pq gd,nI_ l.first,nI_ l.n,iv l.life,nI_ l.epoch,nI_ l.top,nI_ l.tail,nI_ l.head,.bool l.begun] 161::PN B gd s::L) at S
 refine eN (fr [pq g] 29) Try.func55 rfl (sR (pv (iv 0) (wE (nS (sR (pv (pq g) (g_ (gv_call (args:=#[pq g]) rfl Try.func60 kr_ rfl rfl kr_ ?_))))))))
 have hsy:=w_sync S
 rw [e2] at hsy
 refine Calls.mono hsy ?_
 rintro _ w1 ⟨rfl,S2⟩
 refine ⟨_,rfl,(pv (iv s.flushR.2) (wE (nS (wp_region_phu (γ:=Unit) 13 [] (fun (c_:Unit) (i_:Nat)=>(match i_ with|0=>iv s.flushR.2|1=>.bool false|2=>.bool false|3=>pq g|4=>pq g|5=>po g 6|6=>nI_ l.tail|7=>pq g|8=>pq g|9=>po g 7|10=>nI_ l.head|11=>.bool false|12=>.bool false|_=>undef:Value)) (fun (c_:Unit) (p_:Nat) (w_:World)=>(match p_ with|_=>St F w0 w_ (row g #[pq gd,nI_ l.first,nI_ l.n,iv l.life,nI_ l.epoch,nI_ l.top,nI_ l.tail,nI_ l.head,.bool l.begun] 161::PN B gd s.flushR.1::L):Prop)) () kr_ kr_ kr_ kr_ (S2.drew) ?_ ?_ ?_))))⟩
 ·intro i_ c_ p_ vals_ w1 hi_ hiE_ hp_ hk_ hu_ hPh_ hd_
  rcases i_ with _|_|_|_|_|_|_|_|_|_|_|_|_|i_
  ·exact tG_ rfl hd_ (gV (iv s.flushR.2) ⟨rfl,rfl⟩)
  ·exact tG_ rfl hd_ (gB_ (b:=s.flushR.2 !=0) (b':=false) kr_ (by simp;exact hfl0) ⟨rfl,rfl⟩)
  ·exact tG_ rfl hd_ (gV (.bool false) ⟨rfl,rfl⟩)
  ·exact tW_ 2 8 2 false rfl hd_ (gv_val (v:=pq g) (w':=w1) kr_ ⟨rfl,rfl⟩)
  ·exact tW_ 2 8 2 false rfl hd_ (gv_val (v:=pq g) (w':=w1) kr_ ⟨rfl,rfl⟩)
  ·exact tW_ 2 8 2 false rfl hd_ (gv_val (v:=po g 6) (w':=w1) kr_ ⟨rfl,rfl⟩)
  ·have S9:=St.id hPh_
   exact tW_ 2 8 2 false rfl hd_ (gv_ldR (v:=nI_ l.tail) rfl kr_ kr_ (((S9.blk 0 rfl).cell 6).trans rfl) ⟨rfl,rfl⟩)
  ·exact tW_ 2 8 2 false rfl hd_ (gv_val (v:=pq g) (w':=w1) kr_ ⟨rfl,rfl⟩)
  ·exact tW_ 2 8 2 false rfl hd_ (gv_val (v:=pq g) (w':=w1) kr_ ⟨rfl,rfl⟩)
  ·exact tW_ 2 8 2 false rfl hd_ (gv_val (v:=po g 7) (w':=w1) kr_ ⟨rfl,rfl⟩)
  ·have S13:=St.id hPh_
   exact tW_ 2 8 2 false rfl hd_ (gv_ldR (v:=nI_ l.head) rfl kr_ kr_ (((S13.blk 0 rfl).cell 7).trans rfl) ⟨rfl,rfl⟩)
  ·exact tW_ 2 8 2 false rfl hd_ (gB_ (b:=((l.tail:Nat):Int)==((l.head:Nat):Int)) (b':=false) kr_ (by simp;omega) ⟨rfl,rfl⟩)
  ·exact tG_ rfl hd_ (gV (.bool false) ⟨rfl,rfl⟩)
  ·exact absurd hi_ om_
 ·intro k_ c_ vals_ w1 hk_ hPh_ hd_
  exact absurd hk_ (Nat.not_lt_zero _)
 ·intro c_ w1 hPh_
  have S16:=St.id hPh_
  refine (wE (nCF (wp_skip (nS (wp_region_phu (γ:=Unit) 10 [9] (fun (c2_:Unit) (i_:Nat)=>(match i_ with|0=>pq g|1=>pq g|2=>pq g|3=>po g 4|4=>nI_ l.epoch|5=>pq g|6=>pq g|7=>po g 7|8=>nI_ l.head|9=>iv ((renewR s.flushR.1 l.first (l.epoch*4294967296+l.head)).2)|_=>undef:Value)) (fun (c2_:Unit) (p_:Nat) (w_:World)=>(match p_ with|0=>St F w0 w_ (row g #[pq gd,nI_ l.first,nI_ l.n,iv l.life,nI_ l.epoch,nI_ l.top,nI_ l.tail,nI_ l.head,.bool l.begun] 161::PN B gd s.flushR.1::L)|_=>St F w0 w_ (PLog g gd (if (renewR s.flushR.1 l.first (l.epoch*4294967296+l.head)).2=0 then {l with epoch:=l.epoch,tail:=l.head} else l)::PN (B+2) gd (renewR s.flushR.1 l.first (l.epoch*4294967296+l.head)).1::L):Prop)) () kr_ kr_ kr_ kr_ (S16.drew) ?_ ?_ ?_)))))
  ·intro i_ c2_ p_ vals_ w1 hi_ hiE_ hp_ hk_ hu_ hPh_ hd_
   rcases i_ with _|_|_|_|_|_|_|_|_|_|i_
   ·exact tG_ rfl hd_ (gV (pq g) ⟨rfl,rfl⟩)
   ·exact tG_ rfl hd_ (gV (pq g) ⟨rfl,rfl⟩)
   ·exact tG_ rfl hd_ (gV (pq g) ⟨rfl,rfl⟩)
   ·exact tG_ rfl hd_ (gV (po g 4) ⟨rfl,rfl⟩)
   ·rcases p_ with _|_|p_
    ·have S21:=St.id hPh_
     exact tG_ rfl hd_ (gL (nI_ l.epoch) rfl (((S21.blk 0 rfl).cell 4).trans rfl) ⟨rfl,rfl⟩)
    ·exact absurd (hu_ 0 dc_ kr_) dc_
    ·exact absurd hp_ (by simp)
   ·exact tG_ rfl hd_ (gV (pq g) ⟨rfl,rfl⟩)
   ·exact tG_ rfl hd_ (gV (pq g) ⟨rfl,rfl⟩)
   ·exact tG_ rfl hd_ (gV (po g 7) ⟨rfl,rfl⟩)
   ·rcases p_ with _|_|p_
    ·have S25:=St.id hPh_
     exact tG_ rfl hd_ (gL (nI_ l.head) rfl (((S25.blk 0 rfl).cell 7).trans rfl) ⟨rfl,rfl⟩)
    ·exact absurd (hu_ 0 dc_ kr_) dc_
    ·exact absurd hp_ (by simp)
   ·exact absurd hiE_ dc_
   ·exact absurd hi_ om_
  ·intro k_ c2_ vals_ w1 hk_ hPh_ hd_
   rcases k_ with _|k_
   ·have S26:=St.id hPh_
    refine tG_ rfl hd_ (gv_call (args:=#[pq g,nI_ l.epoch,nI_ l.head]) rfl Try.func103 kr_ rfl rfl kr_ (Calls.mono (w_anchor (ep:=l.epoch) (tl:=l.head) S26 hl om_ om_ om_ (fun _=>by omega) (fun h=>hren hr h hth)) ?_))
    rintro _ w27 ⟨rfl,S28⟩
    refine ⟨_,rfl,⟨(),rfl, ?_,S28⟩⟩
    intro i_ hi_ hne_ hdp_
    rcases i_ with _|_|_|_|_|_|_|_|_|_|i_
    ·rfl
    ·rfl
    ·rfl
    ·rfl
    ·rfl
    ·rfl
    ·rfl
    ·rfl
    ·rfl
    ·exact absurd rfl hne_
    ·exact absurd hi_ om_
   ·exact absurd hk_ (by simp)
  ·intro c2_ w1 hPh_
   have S29:=St.id hPh_
   exact (pv (iv ((renewR s.flushR.1 l.first (l.epoch*4294967296+l.head)).2)) (wE (then_n (wp_ret (bA (iv ((renewR s.flushR.1 l.first (l.epoch*4294967296+l.head)).2)) ⟨rfl,S29⟩)))))
theorem w_start {B g gd:Nat}{l:Lg}{s:Dsk}(S:St F w0 w (PLog g gd l::PN B gd s::L))(hl:LOk l)(hpn:s.pend.length<4398046511104)(hin:l.first+1<s.last.length)(hren:aliveR s l=true→l.begun=false→(renewF (s.now l.first) (s.now (l.first+1)) (((l.top+1)*4294967296+0:Nat):Int) []).2.2=0):Calls Try.prog 71 #[.pointer (some ⟨g,0,none⟩)] w fun e w'=>e=.returned (.int .i64 (startR s l).2.2)∧St F w0 w' (PLog g gd ((startR s l).2.1)::PN (B+2) gd ((startR s l).1)::L):=by
 have hl5:=hl.top
 obtain ⟨b,hb⟩:∃b,l.begun=b:=⟨_,rfl⟩
 obtain ⟨r,hr⟩:∃r,renewR s l.first ((l.top+1)*4294967296+0)=r:=⟨_,rfl⟩
 change St F w0 w (row g #[pq gd,nI_ l.first,nI_ l.n,iv l.life,nI_ l.epoch,nI_ l.top,nI_ l.tail,nI_ l.head,.bool l.begun] 161::PN B gd s::L) at S
 refine eN (fr [pq g] 29) Try.func71 rfl (sR (pv (iv 0) (wE (nS (sR (pv (pq g) (sP Try.func107 #[pq g] (w_alive S) fun w1 S2=>pv (iv (aliveE s l)) (wER (pv (iv (aliveE s l)) (dN (aliveE s l) 0 (fun hb3=> ?_) fun hb3=> ?_))))))))))
 ·obtain ⟨ha,ha3⟩:=aliveE_ne hb3
  refine wE (nCT (sR (pv (iv (aliveE s l)) (pv (iv (aliveE s l)) (wE (then_n (rR (bA (iv (aliveE s l)) ?_))))))))
  have e:startR s l=(s,l,aliveE s l):=by unfold startR;rw [if_pos ha,ha3]
  rw [e]
  have S4:=St.pm 2 [1,0] S2
  have S5:St F w0 w1 (PN (B+2) gd s::row g #[pq gd,nI_ l.first,nI_ l.n,iv l.life,nI_ l.epoch,nI_ l.top,nI_ l.tail,nI_ l.head,.bool l.begun] 161::L):=St.pnle om_ S4
  have S6:=St.pm 2 [1,0] S5
  exact ⟨rfl,S6⟩
 ·have ha:=aliveE_eq hb3
  refine wE (nCF (wp_skip (nS (sR (pv (pq g) (pv (pq g) (pv (po g 8) (lR (.bool l.begun) S2 0 8 (wE (then_n (wp_cond_split (t:=l.begun) kr_ (fun hc7=> ?_) (fun hc7=> ?_))))))))))))
  ·have hbg:l.begun=true:=hc7
   refine sR (pv (iv 5) (wE (then_n (rR (bA (iv 5) ?_)))))
   have e:startR s l=(s,l,5):=by unfold startR;rw [if_neg (by rw [ha];decide),if_pos hbg]
   rw [e]
   have S8:=St.pm 2 [1,0] S2
   have S9:St F w0 w1 (PN (B+2) gd s::row g #[pq gd,nI_ l.first,nI_ l.n,iv l.life,nI_ l.epoch,nI_ l.top,nI_ l.tail,nI_ l.head,.bool l.begun] 161::L):=St.pnle om_ S8
   have S10:=St.pm 2 [1,0] S9
   exact ⟨rfl,S10⟩
  ·have hbg:l.begun=false:=hc7
   refine wp_skip (nS (sR (pv (pq g) (pv (pq g) (pv (pq g) (pv (po g 5) (lR (nI_ l.top) S2 0 5 (gI .i64 (IntKind.i64.wrap (((l.top:Nat):Int)+1)) ((l.top+1:Nat):Int) (wr_eq om_ om_ om_) (g_ (gv_call (args:=#[pq g,nI_ (l.top+1),iv 0]) rfl Try.func103 kr_ rfl rfl kr_ ?_))))))))))
   have hac:=w_anchor (ep:=l.top+1) (tl:=0) S2 hl om_ om_ hpn (fun _=>hin) (fun h=>hren ha hbg)
   rw [hr] at hac
   by_cases hr0:r.2=0
   ·rw [if_pos hr0,hr0] at hac
    refine Calls.mono hac ?_
    rintro _ w13 ⟨rfl,S14⟩
    refine ⟨_,rfl, ?_⟩
    change St F w0 w13 (row g #[pq gd,nI_ l.first,nI_ l.n,iv l.life,nI_ (l.top+1),nI_ l.top,nI_ 0,nI_ l.head,.bool l.begun] 161::PN (B+2) gd r.1::L) at S14
    refine pv (iv 0) (wER (pv (iv 0) (dN 0 0 (fun hb15=> ?_) fun hb15=> ?_)))
    ·exact absurd rfl hb15
    ·refine wE (nCF (wp_skip (nSR (pv (pq g) (pv (pq g) (pv (pq g) (pv (po g 7) (sS S14 0 rfl 7 (iv 0) fun w16 S17=>pv (pq g) (pv (po g 8) (sS S17 0 rfl 8 (.bool true) fun w18 S19=>wER (pv (iv 0) ?_)))))))))))
     refine wE (then_n (wp_ret (bA (iv 0) ?_)))
     have e:startR s l=(r.1,{l with epoch:=l.top+1,tail:=0,head:=0,begun:=true},0):=by unfold startR;rw [if_neg (by rw [ha];decide),if_neg (by rw [hbg];decide)];simp only [hr];rw [if_neg (fun h=>h hr0)]
     rw [e]
     exact ⟨rfl,S19⟩
   ·rw [if_neg hr0] at hac
    refine Calls.mono hac ?_
    rintro _ w20 ⟨rfl,S21⟩
    refine ⟨_,rfl, ?_⟩
    change St F w0 w20 (row g #[pq gd,nI_ l.first,nI_ l.n,iv l.life,nI_ l.epoch,nI_ l.top,nI_ l.tail,nI_ l.head,.bool l.begun] 161::PN (B+2) gd r.1::L) at S21
    refine pv (iv r.2) (wER (pv (iv r.2) (dN r.2 0 (fun hb22=> ?_) fun hb22=> ?_)))
    ·refine wE (nCT (sR (pv (iv r.2) (pv (iv r.2) (wE (then_n (rR (bA (iv r.2) ?_))))))))
     have e:startR s l=(r.1,l,r.2):=by unfold startR;rw [if_neg (by rw [ha];decide),if_neg (by rw [hbg];decide)];simp only [hr];rw [if_pos hr0]
     rw [e]
     exact ⟨rfl,S21⟩
    ·exact absurd hb22 hr0
end
section
variable {F:Nat→Prop} {w0 w:World} {L:List Ast}
theorem w_lay_dead {B g gd:Nat}{l:Lg}{s:Dsk}(S:St F w0 w (PLog g gd l::PN B gd s::L))(hl:LOk l){ep p i c m cd:Nat}{A:Option Addr}{d:List UInt8}(hm:m=d.length)(hd:RoT F w0 L A d)(hd1:1≤d.length)(hd2:d.length≤492)(he:ep≤4294967295)(hp:p≤4294967295)(hi:i≤65535)(hc:c≤65535)(hin:l.first+2+l.n≤s.last.length)(hpn:s.pend.length<4398046511104)(hz:s.left=0):Calls Try.prog 106 #[.pointer (some ⟨g,0,none⟩),.agg #[.int .i64 (ep:Nat),.int .i64 (p:Nat),.int .i64 (i:Nat),.int .i64 (c:Nat),.slice A m cd]] w fun e w'=>e=.returned (.int .i64 3)∧St F w0 w' (PLog g gd l::PN B gd s::L):=by
 obtain ⟨h1,h2,h3,h4,h5,h6⟩:=id hl
 obtain ⟨ad,rfl⟩:=(hd.out _ [_,_] S).at (k:=0) om_
 have hpm:p%l.n<l.n:=Nat.mod_lt _ om_
 change St F w0 w (row g #[pq gd,nI_ l.first,nI_ l.n,iv l.life,nI_ l.epoch,nI_ l.top,nI_ l.tail,nI_ l.head,.bool l.begun] 161::PN B gd s::L) at S
 refine eN (fr [pq g,.agg #[nI_ ep,nI_ p,nI_ i,nI_ c,.slice (some ad) m cd]] 62) Try.func106 rfl (sR (nB rfl (.agg #[nI_ ep,nI_ p,nI_ i,nI_ c,.slice (some ad) m cd]) S fun g1 w2 hg3 S4=>pv (iv 0) (wER (g_ (gv_make (e:=5) (u:=0) (v:=504) (z:=.int .u8 0) (sz:=1) (by_:=1) (n:=0) (c:=504) (cs:=bvs (List.replicate 504 0)) S4 rfl kr_ ⟨by kernel_rfl⟩ kr_ kr_ rfl rfl (Nat.zero_le _) dc_ dc_ (mk_bytes _) (fun g5 w6 hg7 S8=> ?_))))))
 have S9:St F w0 w6 (vec 5 1 (sl g5 0 0 504) 0 ([].map bv)::row g1 #[nI_ ep,nI_ p,nI_ i,nI_ c,.slice (some ad) m cd] 165::row g #[pq gd,nI_ l.first,nI_ l.n,iv l.life,nI_ l.epoch,nI_ l.top,nI_ l.tail,nI_ l.head,.bool l.begun] 161::PN B gd s::L):=St.vec_mk (vals:=[]) (junk:=(List.replicate 504 0).map bv) S8 (Nat.zero_le _) rfl (by simp)
 refine pv (sl g5 0 0 504) (wER (pv (sl g5 0 0 504) (pv (pq g1) (lR (nI_ ep) S9 1 0 (sP2 Try.func137 #[sl g5 0 0 504,nI_ ep,iv 4] (w_put (v:=ep) (m:=4) (n:=0) (l:=[]) S9 om_ dc_ om_) fun A10 c11 w12 S13=>pv (.slice A10 (0+4) c11) (wER (pv (.slice A10 (0+4) c11) (pv (po g1 1) (lR (nI_ p) S13 1 1 (sP2 Try.func137 #[.slice A10 (0+4) c11,nI_ p,iv 4] (w_put (v:=p) (m:=4) (n:=0+4) (l:=([]++leB ep 4)) S13 om_ dc_ om_) fun A14 c15 w16 S17=>pv (.slice A14 (0+4+4) c15) (wER ?_)))))))))))
 refine pv (.slice A14 (0+4+4) c15) (pv (po g1 2) (lR (nI_ i) S17 1 2 (sP2 Try.func137 #[.slice A14 (0+4+4) c15,nI_ i,iv 2] (w_put (v:=i) (m:=2) (n:=0+4+4) (l:=([]++leB ep 4++leB p 4)) S17 om_ dc_ om_) fun A18 c19 w20 S21=>pv (.slice A18 (0+4+4+2) c19) (wER (pv (.slice A18 (0+4+4+2) c19) (pv (po g1 3) (lR (nI_ c) S21 1 3 (sP2 Try.func137 #[.slice A18 (0+4+4+2) c19,nI_ c,iv 2] (w_put (v:=c) (m:=2) (n:=0+4+4+2) (l:=([]++leB ep 4++leB p 4++leB i 2)) S21 om_ dc_ om_) fun A22 c23 w24 S25=>pv (.slice A22 (0+4+4+2+2) c23) (wER (pv (.slice A22 (0+4+4+2+2) c23) (pv (po g1 4) ?_)))))))))))
 refine lR (.slice (some ad) m cd) S25 1 4 ?_
 have hdr:=hd.out _ [vec 5 1 (.slice A22 (0+4+4+2+2) c23) (0+4+4+2+2) ((([]++leB ep 4++leB p 4++leB i 2)++leB c 2).map bv),row g1 #[nI_ ep,nI_ p,nI_ i,nI_ c,.slice (some ad) m cd] 165,row g #[.pointer (some ⟨gd,0,none⟩),nI_ l.first,nI_ l.n,.int .i64 l.life,nI_ l.epoch,nI_ l.top,nI_ l.tail,nI_ l.head,.bool l.begun] 161,PN B gd s] S25
 refine g_ (gv_append (e:=5) (sz:=1) (n:=0+4+4+2+2) (v:=.slice A22 (0+4+4+2+2) c23) (vals:=([]++leB ep 4++leB p 4++leB i 2++leB c 2).map bv) (z:=.int .u8 0) (by_:=1) (m:=m) (c':=cd) (ad:=ad) (news:=d.map bv) S25 rfl kr_ ⟨by kernel_rfl⟩ rfl kr_ kr_ om_ (by rw [List.length_map,hm,Nat.mul_one]) (RdB.cells hdr) (bv_one d) om_ om_ (fun v26 w27 S28=> ?_))
 rw [←List.map_append] at S28
 obtain ⟨A29,c30,rfl⟩:=St.vecV S28 0 rfl
 change St F w0 w27 (vec 5 1 (.slice A29 (0+4+4+2+2+m) c30) (0+4+4+2+2+m) ((bodyR ep p i c d).map bv)::row g1 #[nI_ ep,nI_ p,nI_ i,nI_ c,.slice (some ad) m cd] 165::row g #[pq gd,nI_ l.first,nI_ l.n,iv l.life,nI_ l.epoch,nI_ l.top,nI_ l.tail,nI_ l.head,.bool l.begun] 161::PN B gd s::L) at S28
 refine pv (.slice A29 (0+4+4+2+2+m) c30) (wE (nS (wp_region_phu (γ:=Value) 13 [7,8] (fun (c_:Value) (i_:Nat)=>(match i_ with|0=>pq g|1=>pq g|2=>pq g|3=>pq gd|4=>pq g|5=>po g1 1|6=>nI_ p|7=>nI_ (l.first+2+p%l.n)|8=>.tuple #[c_,iv 3]|9=>.tuple #[c_,iv 3]|10=>c_|11=>iv 3|12=>c_|_=>undef:Value)) (fun (c_:Value) (p_:Nat) (w_:World)=>(match p_ with|0=>St F w0 w_ (vec 5 1 (.slice A29 (0+4+4+2+2+m) c30) (0+4+4+2+2+m) ((bodyR ep p i c d).map bv)::row g1 #[nI_ ep,nI_ p,nI_ i,nI_ c,.slice (some ad) m cd] 165::row g #[pq gd,nI_ l.first,nI_ l.n,iv l.life,nI_ l.epoch,nI_ l.top,nI_ l.tail,nI_ l.head,.bool l.begun] 161::PN B gd s::L)|1=>St F w0 w_ (row g #[pq gd,nI_ l.first,nI_ l.n,iv l.life,nI_ l.epoch,nI_ l.top,nI_ l.tail,nI_ l.head,.bool l.begun] 161::PN B gd s::vec 5 1 (.slice A29 (0+4+4+2+2+m) c30) (0+4+4+2+2+m) ((bodyR ep p i c d).map bv)::row g1 #[nI_ ep,nI_ p,nI_ i,nI_ c,.slice (some ad) m cd] 165::L)|_=>St F w0 w_ (PN B gd s::row g #[pq gd,nI_ l.first,nI_ l.n,iv l.life,nI_ l.epoch,nI_ l.top,nI_ l.tail,nI_ l.head,.bool l.begun] 161::vec 5 1 (.slice A29 (0+4+4+2+2+m) c30) (0+4+4+2+2+m) ((bodyR ep p i c d).map bv)::row g1 #[nI_ ep,nI_ p,nI_ i,nI_ c,.slice (some ad) m cd] 165::L):Prop)) (undef) kr_ kr_ kr_ kr_ (S28.drew) ?_ ?_ ?_)))
 ·intro i_ c_ p_ vals_ w1 hi_ hiE_ hp_ hk_ hu_ hPh_ hd_
  rcases i_ with _|_|_|_|_|_|_|_|_|_|_|_|_|i_
  ·exact tG_ rfl hd_ (gV (pq g) ⟨rfl,rfl⟩)
  ·exact tG_ rfl hd_ (gV (pq g) ⟨rfl,rfl⟩)
  ·exact tG_ rfl hd_ (gV (pq g) ⟨rfl,rfl⟩)
  ·rcases p_ with _|_|_|p_
   ·have S34:=St.id hPh_
    exact tG_ rfl hd_ (gL (pq gd) rfl (((S34.blk 2 rfl).cell 0).trans rfl) ⟨rfl,rfl⟩)
   ·have S35:=St.id hPh_
    exact tG_ rfl hd_ (gL (pq gd) rfl (((S35.blk 0 rfl).cell 0).trans rfl) ⟨rfl,rfl⟩)
   ·exact absurd (hu_ 1 dc_ kr_) dc_
   ·exact absurd hp_ (by simp)
  ·exact tG_ rfl hd_ (gV (pq g) ⟨rfl,rfl⟩)
  ·exact tG_ rfl hd_ (gV (po g1 1) ⟨rfl,rfl⟩)
  ·rcases p_ with _|_|_|p_
   ·have S38:=St.id hPh_
    exact tG_ rfl hd_ (gL (nI_ p) rfl (((S38.blk 1 rfl).cell 1).trans rfl) ⟨rfl,rfl⟩)
   ·exact absurd (hu_ 0 dc_ kr_) dc_
   ·exact absurd (hu_ 0 dc_ kr_) dc_
   ·exact absurd hp_ (by simp)
  ·exact absurd hiE_ dc_
  ·exact absurd hiE_ dc_
  ·exact tG_ rfl hd_ (gV (.tuple #[c_,iv 3]) ⟨rfl,rfl⟩)
  ·exact tG_ rfl hd_ (gV c_ ⟨rfl,rfl⟩)
  ·exact tG_ rfl hd_ (gV (iv 3) ⟨rfl,rfl⟩)
  ·exact tG_ rfl hd_ (gV c_ ⟨rfl,rfl⟩)
  ·exact absurd hi_ om_
 ·intro k_ c_ vals_ w1 hk_ hPh_ hd_
  rcases k_ with _|_|k_
  ·have S43:=St.id hPh_
   refine tG_ rfl hd_ (gv_call (args:=#[pq g,nI_ p]) rfl Try.func138 kr_ rfl rfl kr_ ?_)
   have S44:=St.pm 4 [2,3,0,1] S43
   refine Calls.mono (w_at (p:=p) S44 hl om_) ?_
   rintro _ w45 ⟨rfl,S46⟩
   refine ⟨_,rfl,⟨(c_),rfl, ?_,S46⟩⟩
   intro i_ hi_ hne_ hdp_
   rcases i_ with _|_|_|_|_|_|_|_|_|_|_|_|_|i_
   ·rfl
   ·rfl
   ·rfl
   ·rfl
   ·rfl
   ·rfl
   ·rfl
   ·exact absurd rfl hne_
   ·exact (dep_no hdp_ kr_).elim
   ·exact (dep_no hdp_ kr_).elim
   ·exact (dep_no hdp_ kr_).elim
   ·exact (dep_no hdp_ kr_).elim
   ·exact (dep_no hdp_ kr_).elim
   ·exact absurd hi_ om_
  ·have S47:=St.id hPh_
   refine tG_ rfl hd_ (gv_call (args:=#[pq gd,nI_ (l.first+2+p%l.n)]) rfl Try.func26 kr_ rfl rfl kr_ ?_)
   have S48:=St.pm 4 [1,0,2,3] S47
   refine Calls.mono (pw_read_dead S48 hz) ?_
   rintro _ w49 ⟨v51,rfl,S50⟩
   refine ⟨_,rfl,⟨(v51),rfl, ?_,S50⟩⟩
   intro i_ hi_ hne_ hdp_
   rcases i_ with _|_|_|_|_|_|_|_|_|_|_|_|_|i_
   ·rfl
   ·rfl
   ·rfl
   ·rfl
   ·rfl
   ·rfl
   ·rfl
   ·rfl
   ·exact absurd rfl hne_
   ·exact (dep_no hdp_ kr_).elim
   ·exact (dep_no hdp_ kr_).elim
   ·exact (dep_no hdp_ kr_).elim
   ·exact (dep_no hdp_ kr_).elim
   ·exact absurd hi_ om_
  ·exact absurd hk_ (by simp)
 ·intro c_ w1 hPh_
  have S52:=St.id hPh_
  refine (pv (iv 3) (wE ?_))
  refine nS (sR (pv (iv 3) (dN 3 0 (fun _=>wE (nCT (sR (pv (iv 3) (pv (iv 3) (wE (then_n (rR (bA (iv 3) ?_))))))))) fun hd53=>False.elim om_)))
  have S54:=St.pm 4 [1,0] S52
  exact ⟨rfl,S54⟩
theorem w_lay_go {B g gd:Nat}{l:Lg}{s:Dsk}(S:St F w0 w (PLog g gd l::PN B gd s::L))(hl:LOk l){ep p i c m cd:Nat}{A:Option Addr}{d:List UInt8}(hm:m=d.length)(hd:RoT F w0 L A d)(hd1:1≤d.length)(hd2:d.length≤492)(he:ep≤4294967295)(hp:p≤4294967295)(hi:i≤65535)(hc:c≤65535)(hin:l.first+2+l.n≤s.last.length)(hpn:s.pend.length<4398046511104)(hz:s.left≠0):Calls Try.prog 106 #[.pointer (some ⟨g,0,none⟩),.agg #[.int .i64 (ep:Nat),.int .i64 (p:Nat),.int .i64 (i:Nat),.int .i64 (c:Nat),.slice A m cd]] w fun e w'=>e=.returned (.int .i64 0)∧St F w0 w' (PLog g gd l::PN (B+1) gd (s.wrote (l.first+2+p%l.n) (sealF (s.now (l.first+2+p%l.n)) (bodyR ep p i c d)).1)::L):=by
 obtain ⟨h1,h2,h3,h4,h5,h6⟩:=id hl
 obtain ⟨ad,rfl⟩:=(hd.out _ [_,_] S).at (k:=0) om_
 have hpm:p%l.n<l.n:=Nat.mod_lt _ om_
 have hok:=St.pw_ok S.tail
 have hs5:=hok.now (k:=l.first+2+p%l.n) om_
 have hn2:=hok.n2
 have hbl:=length_bodyR ep p i c d
 have hse:=(sealF_len hs5 (b:=bodyR ep p i c d) om_).1
 change St F w0 w (row g #[pq gd,nI_ l.first,nI_ l.n,iv l.life,nI_ l.epoch,nI_ l.top,nI_ l.tail,nI_ l.head,.bool l.begun] 161::PN B gd s::L) at S
 refine eN (fr [pq g,.agg #[nI_ ep,nI_ p,nI_ i,nI_ c,.slice (some ad) m cd]] 62) Try.func106 rfl (sR (nB rfl (.agg #[nI_ ep,nI_ p,nI_ i,nI_ c,.slice (some ad) m cd]) S fun g1 w2 hg3 S4=>pv (iv 0) (wER (g_ (gv_make (e:=5) (u:=0) (v:=504) (z:=.int .u8 0) (sz:=1) (by_:=1) (n:=0) (c:=504) (cs:=bvs (List.replicate 504 0)) S4 rfl kr_ ⟨by kernel_rfl⟩ kr_ kr_ rfl rfl (Nat.zero_le _) dc_ dc_ (mk_bytes _) (fun g5 w6 hg7 S8=> ?_))))))
 have S9:St F w0 w6 (vec 5 1 (sl g5 0 0 504) 0 ([].map bv)::row g1 #[nI_ ep,nI_ p,nI_ i,nI_ c,.slice (some ad) m cd] 165::row g #[pq gd,nI_ l.first,nI_ l.n,iv l.life,nI_ l.epoch,nI_ l.top,nI_ l.tail,nI_ l.head,.bool l.begun] 161::PN B gd s::L):=St.vec_mk (vals:=[]) (junk:=(List.replicate 504 0).map bv) S8 (Nat.zero_le _) rfl (by simp)
 refine pv (sl g5 0 0 504) (wER (pv (sl g5 0 0 504) (pv (pq g1) (lR (nI_ ep) S9 1 0 (sP2 Try.func137 #[sl g5 0 0 504,nI_ ep,iv 4] (w_put (v:=ep) (m:=4) (n:=0) (l:=[]) S9 om_ dc_ om_) fun A10 c11 w12 S13=>pv (.slice A10 (0+4) c11) (wER (pv (.slice A10 (0+4) c11) (pv (po g1 1) (lR (nI_ p) S13 1 1 (sP2 Try.func137 #[.slice A10 (0+4) c11,nI_ p,iv 4] (w_put (v:=p) (m:=4) (n:=0+4) (l:=([]++leB ep 4)) S13 om_ dc_ om_) fun A14 c15 w16 S17=>pv (.slice A14 (0+4+4) c15) (wER ?_)))))))))))
 refine pv (.slice A14 (0+4+4) c15) (pv (po g1 2) (lR (nI_ i) S17 1 2 (sP2 Try.func137 #[.slice A14 (0+4+4) c15,nI_ i,iv 2] (w_put (v:=i) (m:=2) (n:=0+4+4) (l:=([]++leB ep 4++leB p 4)) S17 om_ dc_ om_) fun A18 c19 w20 S21=>pv (.slice A18 (0+4+4+2) c19) (wER (pv (.slice A18 (0+4+4+2) c19) (pv (po g1 3) (lR (nI_ c) S21 1 3 (sP2 Try.func137 #[.slice A18 (0+4+4+2) c19,nI_ c,iv 2] (w_put (v:=c) (m:=2) (n:=0+4+4+2) (l:=([]++leB ep 4++leB p 4++leB i 2)) S21 om_ dc_ om_) fun A22 c23 w24 S25=>pv (.slice A22 (0+4+4+2+2) c23) (wER (pv (.slice A22 (0+4+4+2+2) c23) (pv (po g1 4) ?_)))))))))))
 refine lR (.slice (some ad) m cd) S25 1 4 ?_
 have hdr:=hd.out _ [vec 5 1 (.slice A22 (0+4+4+2+2) c23) (0+4+4+2+2) ((([]++leB ep 4++leB p 4++leB i 2)++leB c 2).map bv),row g1 #[nI_ ep,nI_ p,nI_ i,nI_ c,.slice (some ad) m cd] 165,row g #[.pointer (some ⟨gd,0,none⟩),nI_ l.first,nI_ l.n,.int .i64 l.life,nI_ l.epoch,nI_ l.top,nI_ l.tail,nI_ l.head,.bool l.begun] 161,PN B gd s] S25
 refine g_ (gv_append (e:=5) (sz:=1) (n:=0+4+4+2+2) (v:=.slice A22 (0+4+4+2+2) c23) (vals:=([]++leB ep 4++leB p 4++leB i 2++leB c 2).map bv) (z:=.int .u8 0) (by_:=1) (m:=m) (c':=cd) (ad:=ad) (news:=d.map bv) S25 rfl kr_ ⟨by kernel_rfl⟩ rfl kr_ kr_ om_ (by rw [List.length_map,hm,Nat.mul_one]) (RdB.cells hdr) (bv_one d) om_ om_ (fun v26 w27 S28=> ?_))
 rw [←List.map_append] at S28
 obtain ⟨A29,c30,rfl⟩:=St.vecV S28 0 rfl
 change St F w0 w27 (vec 5 1 (.slice A29 (0+4+4+2+2+m) c30) (0+4+4+2+2+m) ((bodyR ep p i c d).map bv)::row g1 #[nI_ ep,nI_ p,nI_ i,nI_ c,.slice (some ad) m cd] 165::row g #[pq gd,nI_ l.first,nI_ l.n,iv l.life,nI_ l.epoch,nI_ l.top,nI_ l.tail,nI_ l.head,.bool l.begun] 161::PN B gd s::L) at S28
 refine pv (.slice A29 (0+4+4+2+2+m) c30) (wE (nS (wp_region_phu (γ:=Option Addr) 13 [7,8] (fun (c_:Option Addr) (i_:Nat)=>(match i_ with|0=>pq g|1=>pq g|2=>pq g|3=>pq gd|4=>pq g|5=>po g1 1|6=>nI_ p|7=>nI_ (l.first+2+p%l.n)|8=>.tuple #[.slice c_ 512 512,iv 0]|9=>.tuple #[.slice c_ 512 512,iv 0]|10=>.slice c_ 512 512|11=>iv 0|12=>.slice c_ 512 512|_=>undef:Value)) (fun (c_:Option Addr) (p_:Nat) (w_:World)=>(match p_ with|0=>St F w0 w_ (vec 5 1 (.slice A29 (0+4+4+2+2+m) c30) (0+4+4+2+2+m) ((bodyR ep p i c d).map bv)::row g1 #[nI_ ep,nI_ p,nI_ i,nI_ c,.slice (some ad) m cd] 165::row g #[pq gd,nI_ l.first,nI_ l.n,iv l.life,nI_ l.epoch,nI_ l.top,nI_ l.tail,nI_ l.head,.bool l.begun] 161::PN B gd s::L)|1=>St F w0 w_ (row g #[pq gd,nI_ l.first,nI_ l.n,iv l.life,nI_ l.epoch,nI_ l.top,nI_ l.tail,nI_ l.head,.bool l.begun] 161::PN B gd s::vec 5 1 (.slice A29 (0+4+4+2+2+m) c30) (0+4+4+2+2+m) ((bodyR ep p i c d).map bv)::row g1 #[nI_ ep,nI_ p,nI_ i,nI_ c,.slice (some ad) m cd] 165::L)|_=>St F w0 w_ (bytesA (.slice c_ 512 512) (s.now (l.first+2+p%l.n))::PN (B+1) gd s::row g #[pq gd,nI_ l.first,nI_ l.n,iv l.life,nI_ l.epoch,nI_ l.top,nI_ l.tail,nI_ l.head,.bool l.begun] 161::vec 5 1 (.slice A29 (0+4+4+2+2+m) c30) (0+4+4+2+2+m) ((bodyR ep p i c d).map bv)::row g1 #[nI_ ep,nI_ p,nI_ i,nI_ c,.slice (some ad) m cd] 165::L):Prop)) (none) kr_ kr_ kr_ kr_ (S28.drew) ?_ ?_ ?_)))
 ·intro i_ c_ p_ vals_ w1 hi_ hiE_ hp_ hk_ hu_ hPh_ hd_
  rcases i_ with _|_|_|_|_|_|_|_|_|_|_|_|_|i_
  ·exact tG_ rfl hd_ (gV (pq g) ⟨rfl,rfl⟩)
  ·exact tG_ rfl hd_ (gV (pq g) ⟨rfl,rfl⟩)
  ·exact tG_ rfl hd_ (gV (pq g) ⟨rfl,rfl⟩)
  ·rcases p_ with _|_|_|p_
   ·have S34:=St.id hPh_
    exact tG_ rfl hd_ (gL (pq gd) rfl (((S34.blk 2 rfl).cell 0).trans rfl) ⟨rfl,rfl⟩)
   ·have S35:=St.id hPh_
    exact tG_ rfl hd_ (gL (pq gd) rfl (((S35.blk 0 rfl).cell 0).trans rfl) ⟨rfl,rfl⟩)
   ·exact absurd (hu_ 1 dc_ kr_) dc_
   ·exact absurd hp_ (by simp)
  ·exact tG_ rfl hd_ (gV (pq g) ⟨rfl,rfl⟩)
  ·exact tG_ rfl hd_ (gV (po g1 1) ⟨rfl,rfl⟩)
  ·rcases p_ with _|_|_|p_
   ·have S38:=St.id hPh_
    exact tG_ rfl hd_ (gL (nI_ p) rfl (((S38.blk 1 rfl).cell 1).trans rfl) ⟨rfl,rfl⟩)
   ·exact absurd (hu_ 0 dc_ kr_) dc_
   ·exact absurd (hu_ 0 dc_ kr_) dc_
   ·exact absurd hp_ (by simp)
  ·exact absurd hiE_ dc_
  ·exact absurd hiE_ dc_
  ·exact tG_ rfl hd_ (gV (.tuple #[.slice c_ 512 512,iv 0]) ⟨rfl,rfl⟩)
  ·exact tG_ rfl hd_ (gV (.slice c_ 512 512) ⟨rfl,rfl⟩)
  ·exact tG_ rfl hd_ (gV (iv 0) ⟨rfl,rfl⟩)
  ·exact tG_ rfl hd_ (gV (.slice c_ 512 512) ⟨rfl,rfl⟩)
  ·exact absurd hi_ om_
 ·intro k_ c_ vals_ w1 hk_ hPh_ hd_
  rcases k_ with _|_|k_
  ·have S43:=St.id hPh_
   refine tG_ rfl hd_ (gv_call (args:=#[pq g,nI_ p]) rfl Try.func138 kr_ rfl rfl kr_ ?_)
   have S44:=St.pm 4 [2,3,0,1] S43
   refine Calls.mono (w_at (p:=p) S44 hl om_) ?_
   rintro _ w45 ⟨rfl,S46⟩
   refine ⟨_,rfl,⟨(c_),rfl, ?_,S46⟩⟩
   intro i_ hi_ hne_ hdp_
   rcases i_ with _|_|_|_|_|_|_|_|_|_|_|_|_|i_
   ·rfl
   ·rfl
   ·rfl
   ·rfl
   ·rfl
   ·rfl
   ·rfl
   ·exact absurd rfl hne_
   ·exact (dep_no hdp_ kr_).elim
   ·exact (dep_no hdp_ kr_).elim
   ·exact (dep_no hdp_ kr_).elim
   ·exact (dep_no hdp_ kr_).elim
   ·exact (dep_no hdp_ kr_).elim
   ·exact absurd hi_ om_
  ·have S47:=St.id hPh_
   refine tG_ rfl hd_ (gv_call (args:=#[pq gd,nI_ (l.first+2+p%l.n)]) rfl Try.func26 kr_ rfl rfl kr_ ?_)
   have S48:=St.pm 4 [1,0,2,3] S47
   refine Calls.mono (pw_read (k:=l.first+2+p%l.n) S48 hz om_) ?_
   rintro _ w49 ⟨m51,rfl,S50⟩
   refine ⟨_,rfl,⟨(m51),rfl, ?_,S50⟩⟩
   intro i_ hi_ hne_ hdp_
   rcases i_ with _|_|_|_|_|_|_|_|_|_|_|_|_|i_
   ·rfl
   ·rfl
   ·rfl
   ·rfl
   ·rfl
   ·rfl
   ·rfl
   ·rfl
   ·exact absurd rfl hne_
   ·exact (dep_no hdp_ kr_).elim
   ·exact (dep_no hdp_ kr_).elim
   ·exact (dep_no hdp_ kr_).elim
   ·exact (dep_no hdp_ kr_).elim
   ·exact absurd hi_ om_
  ·exact absurd hk_ (by simp)
 ·intro c_ w1 hPh_
  have S52:=St.id hPh_
  refine (pv (iv 0) (wE ?_))
  refine nS (sR (pv (iv 0) (dN 0 0 (fun hd53=>False.elim om_) fun _=>wE (nCF (wp_skip (nSR (pv (.slice c_ 512 512) (pv (.slice A29 (0+4+4+2+2+m) c30) (sP2 Try.func40 #[.slice c_ 512 512,.slice A29 (0+4+4+2+2+m) c30] (ps_seal0 (a:=s.now (l.first+2+p%l.n)) (b:=bodyR ep p i c d) S52 hs5.symm om_ (RoT.bytes 0 rfl rfl) (RoT.ofVec 3 rfl) hs5 om_) fun A56 c57 w54 S55=>pv (.tuple #[.slice A56 512 c57,iv 0]) (pv (.slice A56 512 c57) (pv (iv 0) ?_)))))))))))
  refine pv (.slice A56 512 c57) (pv (iv 0) (wE (nS (sR (pv (iv 0) (dN 0 0 (fun hd58=>False.elim om_) fun _=>wE (nCF (wp_skip (nS (wp_region_phu (γ:=Unit) 10 [7,9] (fun (c2_:Unit) (i_:Nat)=>(match i_ with|0=>pq g|1=>pq g|2=>pq g|3=>pq gd|4=>pq g|5=>po g1 1|6=>nI_ p|7=>nI_ (l.first+2+p%l.n)|8=>.slice A56 512 c57|9=>iv 0|_=>undef:Value)) (fun (c2_:Unit) (p_:Nat) (w_:World)=>(match p_ with|0=>St F w0 w_ (bytesX (.slice A56 512 c57) (sealF (s.now (l.first+2+p%l.n)) (bodyR ep p i c d)).1::bytesA (.slice c_ 512 512) (s.now (l.first+2+p%l.n))::PN (B+1) gd s::row g #[pq gd,nI_ l.first,nI_ l.n,iv l.life,nI_ l.epoch,nI_ l.top,nI_ l.tail,nI_ l.head,.bool l.begun] 161::vec 5 1 (.slice A29 (0+4+4+2+2+m) c30) (0+4+4+2+2+m) ((bodyR ep p i c d).map bv)::row g1 #[nI_ ep,nI_ p,nI_ i,nI_ c,.slice (some ad) m cd] 165::L)|1=>St F w0 w_ (row g #[pq gd,nI_ l.first,nI_ l.n,iv l.life,nI_ l.epoch,nI_ l.top,nI_ l.tail,nI_ l.head,.bool l.begun] 161::PN (B+1) gd s::bytesX (.slice A56 512 c57) (sealF (s.now (l.first+2+p%l.n)) (bodyR ep p i c d)).1::bytesA (.slice c_ 512 512) (s.now (l.first+2+p%l.n))::vec 5 1 (.slice A29 (0+4+4+2+2+m) c30) (0+4+4+2+2+m) ((bodyR ep p i c d).map bv)::row g1 #[nI_ ep,nI_ p,nI_ i,nI_ c,.slice (some ad) m cd] 165::L)|_=>St F w0 w_ (PN (B+1) gd (s.wrote (l.first+2+p%l.n) (sealF (s.now (l.first+2+p%l.n)) (bodyR ep p i c d)).1)::row g #[pq gd,nI_ l.first,nI_ l.n,iv l.life,nI_ l.epoch,nI_ l.top,nI_ l.tail,nI_ l.head,.bool l.begun] 161::bytesX (.slice A56 512 c57) (sealF (s.now (l.first+2+p%l.n)) (bodyR ep p i c d)).1::bytesA (.slice c_ 512 512) (s.now (l.first+2+p%l.n))::vec 5 1 (.slice A29 (0+4+4+2+2+m) c30) (0+4+4+2+2+m) ((bodyR ep p i c d).map bv)::row g1 #[nI_ ep,nI_ p,nI_ i,nI_ c,.slice (some ad) m cd] 165::L):Prop)) () kr_ kr_ kr_ kr_ (S55.drew) ?_ ?_ ?_))))))))))
  ·intro i_ c2_ p_ vals_ w1 hi_ hiE_ hp_ hk_ hu_ hPh_ hd_
   rcases i_ with _|_|_|_|_|_|_|_|_|_|i_
   ·exact tG_ rfl hd_ (gV (pq g) ⟨rfl,rfl⟩)
   ·exact tG_ rfl hd_ (gV (pq g) ⟨rfl,rfl⟩)
   ·exact tG_ rfl hd_ (gV (pq g) ⟨rfl,rfl⟩)
   ·rcases p_ with _|_|_|p_
    ·have S62:=St.id hPh_
     exact tG_ rfl hd_ (gL (pq gd) rfl (((S62.blk 3 rfl).cell 0).trans rfl) ⟨rfl,rfl⟩)
    ·have S63:=St.id hPh_
     exact tG_ rfl hd_ (gL (pq gd) rfl (((S63.blk 0 rfl).cell 0).trans rfl) ⟨rfl,rfl⟩)
    ·exact absurd (hu_ 1 dc_ kr_) dc_
    ·exact absurd hp_ (by simp)
   ·exact tG_ rfl hd_ (gV (pq g) ⟨rfl,rfl⟩)
   ·exact tG_ rfl hd_ (gV (po g1 1) ⟨rfl,rfl⟩)
   ·rcases p_ with _|_|_|p_
    ·have S66:=St.id hPh_
     exact tG_ rfl hd_ (gL (nI_ p) rfl (((S66.blk 5 rfl).cell 1).trans rfl) ⟨rfl,rfl⟩)
    ·exact absurd (hu_ 0 dc_ kr_) dc_
    ·exact absurd (hu_ 0 dc_ kr_) dc_
    ·exact absurd hp_ (by simp)
   ·exact absurd hiE_ dc_
   ·exact tG_ rfl hd_ (gV (.slice A56 512 c57) ⟨rfl,rfl⟩)
   ·exact absurd hiE_ dc_
   ·exact absurd hi_ om_
  ·intro k_ c2_ vals_ w1 hk_ hPh_ hd_
   rcases k_ with _|_|k_
   ·have S68:=St.id hPh_
    refine tG_ rfl hd_ (gv_call (args:=#[pq g,nI_ p]) rfl Try.func138 kr_ rfl rfl kr_ ?_)
    have S69:=St.pm 6 [3,2,0,1,4,5] S68
    refine Calls.mono (w_at (p:=p) S69 hl om_) ?_
    rintro _ w70 ⟨rfl,S71⟩
    refine ⟨_,rfl,⟨(),rfl, ?_,S71⟩⟩
    intro i_ hi_ hne_ hdp_
    rcases i_ with _|_|_|_|_|_|_|_|_|_|i_
    ·rfl
    ·rfl
    ·rfl
    ·rfl
    ·rfl
    ·rfl
    ·rfl
    ·exact absurd rfl hne_
    ·rfl
    ·exact (dep_no hdp_ kr_).elim
    ·exact absurd hi_ om_
   ·have S72:=St.id hPh_
    refine tG_ rfl hd_ (gv_call (args:=#[pq gd,nI_ (l.first+2+p%l.n),.slice A56 512 c57]) rfl Try.func33 kr_ rfl rfl kr_ ?_)
    have S73:=St.pm 6 [1,0,2,3,4,5] S72
    refine Calls.mono (pw_write_go (k:=l.first+2+p%l.n) S73 (RoT.bytesX 1 rfl rfl) hse.symm hse hz om_ hpn) ?_
    rintro _ w74 ⟨rfl,S75⟩
    refine ⟨_,rfl,⟨(),rfl, ?_,S75⟩⟩
    intro i_ hi_ hne_ hdp_
    rcases i_ with _|_|_|_|_|_|_|_|_|_|i_
    ·rfl
    ·rfl
    ·rfl
    ·rfl
    ·rfl
    ·rfl
    ·rfl
    ·rfl
    ·rfl
    ·exact absurd rfl hne_
    ·exact absurd hi_ om_
   ·exact absurd hk_ (by simp)
  ·intro c2_ w1 hPh_
   have S76:=St.id hPh_
   refine (pv (iv 0) (wE ?_))
   refine then_n (wp_ret (bA (iv 0) ?_))
   have S77:=St.pm 6 [1,0] S76
   exact ⟨rfl,S77⟩
theorem w_lay {B g gd:Nat}{l:Lg}{s:Dsk}(S:St F w0 w (PLog g gd l::PN B gd s::L))(hl:LOk l){ep p i c m cd:Nat}{A:Option Addr}{d:List UInt8}(hm:m=d.length)(hd:RoT F w0 L A d)(hd1:1≤d.length)(hd2:d.length≤492)(he:ep≤4294967295)(hp:p≤4294967295)(hi:i≤65535)(hc:c≤65535)(hin:l.first+2+l.n≤s.last.length)(hpn:s.pend.length<4398046511104):Calls Try.prog 106 #[.pointer (some ⟨g,0,none⟩),.agg #[.int .i64 (ep:Nat),.int .i64 (p:Nat),.int .i64 (i:Nat),.int .i64 (c:Nat),.slice A m cd]] w fun e w'=>e=.returned (.int .i64 (s.writeR ((l.first+2+p%l.n:Nat):Int) (sealF (s.now (l.first+2+p%l.n)) (bodyR ep p i c d)).1).2)∧St F w0 w' (PLog g gd l::PN (B+1) gd ((s.writeR ((l.first+2+p%l.n:Nat):Int) (sealF (s.now (l.first+2+p%l.n)) (bodyR ep p i c d)).1).1)::L):=by
 by_cases hz:s.left=0
 ·rw [writeR_dead hz]
  exact (w_lay_dead S hl hm hd hd1 hd2 he hp hi hc hin hpn hz).mono fun e w' h=>⟨h.1,(St.pnle (Nat.le_succ B) h.2.swap).swap⟩
 ·have hok:=St.pw_ok S.tail
  obtain ⟨h1,h2,h3,h4,h5,h6⟩:=id hl
  have hpm:p%l.n<l.n:=Nat.mod_lt _ om_
  rw [writeR_go hz om_ (sealF_len (hok.now om_) (by rw [length_bodyR];omega)).1]
  exact w_lay_go S hl hm hd hd1 hd2 he hp hi hc hin hpn hz
end
theorem w_append {F:Nat→Prop}{w0 w:World}{L:List Ast}{B g gd:Nat}{l:Lg}{s:Dsk}(S:St F w0 w (PLog g gd l::PN B gd s::L))(hl:LOk l)(hh:LHd l){cd:Nat}{A:Option Addr}{d:List UInt8}(hd:RoT F w0 L A d)(hcap:d.length≤cd)(hdm:d.length≤140737488355328)(hin:readyR s l=0→l.first+2+l.n≤s.last.length)(hpn:s.pend.length+100<4398046511104):Calls Try.prog 57 #[.pointer (some ⟨g,0,none⟩),.slice A d.length cd] w fun e w'=>e=.returned (.int .i64 (appendR s l d).2.2)∧St F w0 w' (PLog g gd ((appendR s l d).2.1)::PN (B+17) gd ((appendR s l d).1)::L):=by
 obtain ⟨h1,h2,h3,h4,h5,h6⟩:=id hl
 obtain ⟨h7,h8⟩:=id hh
 by_cases hr:readyR s l≠0
 ·have e:appendR s l d=(s,l,readyR s l):=by unfold appendR;rw [if_pos hr]
  rw [e]
  change St F w0 w (row g #[pq gd,nI_ l.first,nI_ l.n,iv l.life,nI_ l.epoch,nI_ l.top,nI_ l.tail,nI_ l.head,.bool l.begun] 161::PN B gd s::L) at S
  refine eN (fr [pq g,.slice A d.length cd] 81) Try.func57 rfl (sR (pv (iv 0) (wE (nS (sR (pv (pq g) (g_ (gv_call (args:=#[pq g]) rfl Try.func104 kr_ rfl rfl kr_ ?_))))))))
  have hrd:=w_ready S
  refine Calls.mono hrd ?_
  rintro _ w1 ⟨rfl,S2⟩
  refine ⟨_,rfl,(pv (iv (readyR s l)) (wER (pv (iv (readyR s l)) (dN (readyR s l) 0 (fun _=>wE (nCT (sR (pv (iv (readyR s l)) (pv (iv (readyR s l)) (wE (then_n (rR (bA (iv (readyR s l)) ?_))))))))) fun hd3=>False.elim (hr hd3)))))⟩
  have S4:=St.pm 2 [1,0] S2
  have S5:St F w0 w1 (PN (B+17) gd s::row g #[pq gd,nI_ l.first,nI_ l.n,iv l.life,nI_ l.epoch,nI_ l.top,nI_ l.tail,nI_ l.head,.bool l.begun] 161::L):=St.pnle om_ S4
  have S6:=St.pm 2 [1,0] S5
  exact ⟨rfl,S6⟩
 have hr:readyR s l=0:=by omega
 have hcn:countR d.length=(d.length+491)/492:=rfl
 obtain ⟨c,hc⟩:∃c,countR d.length=c:=⟨_,rfl⟩
 obtain ⟨R,hR⟩:∃R,appendR s l d=R:=⟨_,rfl⟩
 rw [hR]
 unfold appendR at hR
 rw [if_neg (fun h=>h hr)] at hR
 by_cases hd0:d.length=0
 ·rw [if_pos hd0] at hR
  subst hR
  change St F w0 w (row g #[pq gd,nI_ l.first,nI_ l.n,iv l.life,nI_ l.epoch,nI_ l.top,nI_ l.tail,nI_ l.head,.bool l.begun] 161::PN B gd s::L) at S
  refine eN (fr [pq g,.slice A d.length cd] 81) Try.func57 rfl (sR (pv (iv 0) (wE (nS (sR (pv (pq g) (g_ (gv_call (args:=#[pq g]) rfl Try.func104 kr_ rfl rfl kr_ ?_))))))))
  have hrd:=w_ready S
  rw [hr] at hrd
  refine Calls.mono hrd ?_
  rintro _ w1 ⟨rfl,S2⟩
  refine ⟨_,rfl,(pv (iv 0) (wER (pv (iv 0) (dN 0 0 (fun hd3=>False.elim om_) fun _=>wE (nCF (wp_skip (nSR (pv (.slice A d.length cd) (pv (iv (d.length:Nat)) (gI .i64 (IntKind.i64.wrap ((d.length:Nat)+492)) ((d.length:Nat)+492) (wr_ok om_ om_) (gI .i64 (IntKind.i64.wrap (((d.length:Nat)+492)-1)) (((d.length:Nat)+492)-1) (wr_ok om_ om_) (gI .i64 (IntKind.i64.wrap (Int.tdiv (((d.length:Nat)+492)-1) 492)) ((c:Nat):Int) (wr_eq (by rw [Int.tdiv_eq_ediv_of_nonneg om_];omega) om_ om_) ?_))))))))))))⟩
  refine pv (nI_ c) (wE (nS (wp_block (sR (pv (.slice A d.length cd) (pv (iv (d.length:Nat)) (dE (d.length:Nat) 0 (fun _=>pv tv (wE (nCT (sR (pv (iv 2) (wE ?_)))))) fun hd4=>False.elim om_)))))))
  refine then_n (wp_ret (inb_r (then_r (bA (iv 2) ?_))))
  have S5:=St.pm 2 [1,0] S2
  have S6:St F w0 w1 (PN (B+17) gd s::row g #[pq gd,nI_ l.first,nI_ l.n,iv l.life,nI_ l.epoch,nI_ l.top,nI_ l.tail,nI_ l.head,.bool l.begun] 161::L):=St.pnle om_ S5
  have S7:=St.pm 2 [1,0] S6
  exact ⟨rfl,S7⟩
 rw [if_neg hd0] at hR
 have hin:=hin hr
 obtain ⟨ad,rfl⟩:=(hd.out _ [_,_] S).at (k:=0) om_
 have hcd:d.length≤cd:=hcap
 change St F w0 w (row g #[pq gd,nI_ l.first,nI_ l.n,iv l.life,nI_ l.epoch,nI_ l.top,nI_ l.tail,nI_ l.head,.bool l.begun] 161::PN B gd s::L) at S
 refine eN (fr [pq g,.slice (some ad) d.length cd] 81) Try.func57 rfl (sR (pv (iv 0) (wE (nS (sR (pv (pq g) (g_ (gv_call (args:=#[pq g]) rfl Try.func104 kr_ rfl rfl kr_ ?_))))))))
 have hrd:=w_ready S
 rw [hr] at hrd
 refine Calls.mono hrd ?_
 rintro _ w1 ⟨rfl,S2⟩
 refine ⟨_,rfl,(pv (iv 0) (wER (pv (iv 0) (dN 0 0 (fun hd3=>False.elim om_) fun _=>wE (nCF (wp_skip (nSR (pv (.slice (some ad) d.length cd) (pv (iv (d.length:Nat)) (gI .i64 (IntKind.i64.wrap ((d.length:Nat)+492)) ((d.length:Nat)+492) (wr_ok om_ om_) (gI .i64 (IntKind.i64.wrap (((d.length:Nat)+492)-1)) (((d.length:Nat)+492)-1) (wr_ok om_ om_) (gI .i64 (IntKind.i64.wrap (Int.tdiv (((d.length:Nat)+492)-1) 492)) ((c:Nat):Int) (wr_eq (by rw [Int.tdiv_eq_ediv_of_nonneg om_];omega) om_ om_) ?_))))))))))))⟩
 refine pv (nI_ c) (wE (nS (wp_block (sR (pv (.slice (some ad) d.length cd) (pv (iv (d.length:Nat)) (dE (d.length:Nat) 0 (fun hd4=>False.elim om_) fun _=>pv fv (wE (nCF (sR (pv (.slice (some ad) d.length cd) (pv (iv (d.length:Nat)) (dC (((d.length:Nat):Int)>8364) (fun hb5=> ?_) fun hb5=> ?_)))))))))))))
 ·rw [if_pos (show 8364<d.length by omega)] at hR
  subst hR
  refine pv tv (wE (nCT (sR (pv (iv 7) (wE (then_n (wp_ret (inb_r (then_r (bA (iv 7) ?_))))))))))
  have S6:=St.pm 2 [1,0] S2
  have S7:St F w0 w1 (PN (B+17) gd s::row g #[pq gd,nI_ l.first,nI_ l.n,iv l.life,nI_ l.epoch,nI_ l.top,nI_ l.tail,nI_ l.head,.bool l.begun] 161::L):=St.pnle om_ S6
  have S8:=St.pm 2 [1,0] S7
  exact ⟨rfl,S8⟩
 ·rw [if_neg (show¬8364<d.length by omega)] at hR
  refine pv fv (wE (nCF (sR (pv (pq g) (pv (pq g) (pv (po g 7) (lR (nI_ l.head) S2 0 7 (pv (nI_ c) (gI .i64 (IntKind.i64.wrap (((l.head:Nat):Int)+((c:Nat):Int))) ((l.head+c:Nat):Int) (wr_eq om_ om_ om_) (dC ((((l.head+c:Nat):Int):Int)>1073741824) (fun hb9=> ?_) fun hb9=> ?_))))))))))
  ·rw [hc] at hR
   rw [if_pos (show 1073741824<l.head+c by omega)] at hR
   subst hR
   refine pv tv (wE (nCT (sR (pv (iv 41) (wE (then_n (wp_ret (inb_r (then_r (bA (iv 41) ?_))))))))))
   have S10:=St.pm 2 [1,0] S2
   have S11:St F w0 w1 (PN (B+17) gd s::row g #[pq gd,nI_ l.first,nI_ l.n,iv l.life,nI_ l.epoch,nI_ l.top,nI_ l.tail,nI_ l.head,.bool l.begun] 161::L):=St.pnle om_ S10
   have S12:=St.pm 2 [1,0] S11
   exact ⟨rfl,S12⟩
  ·rw [hc,if_neg (show¬1073741824<l.head+c by omega)] at hR
   refine pv fv (wE (nCF (sR (pv (nI_ c) (pv (pq g) (sP Try.func105 #[pq g] (w_free S2 hl hh) fun w13 S14=>dC ((((c:Nat):Int):Int)>((l.n:Int)-((l.head:Int)-(l.tail:Int)))) (fun hb15=> ?_) fun hb15=> ?_))))))
   ·rw [if_pos (show l.n<l.head-l.tail+c by omega)] at hR
    subst hR
    refine pv tv (wE (nCT (sR (pv (iv 40) (wE (then_n (wp_ret (inb_r (then_r (bA (iv 40) ?_))))))))))
    have S16:=St.pm 2 [1,0] S14
    have S17:St F w0 w13 (PN (B+17) gd s::row g #[pq gd,nI_ l.first,nI_ l.n,iv l.life,nI_ l.epoch,nI_ l.top,nI_ l.tail,nI_ l.head,.bool l.begun] 161::L):=St.pnle om_ S16
    have S18:=St.pm 2 [1,0] S17
    exact ⟨rfl,S18⟩
   ·rw [if_neg (show¬l.n<l.head-l.tail+c by omega)] at hR
    refine pv fv (wE (nCF (wp_skip (inb_n (nS (sR (pv (nI_ c) (pv (iv 0) (wE (then_n (wp_block (wp_loop_g (G:=Nat×Dsk) (fun (g_:Nat×Dsk) (a_:Act) (w_:World)=>∃J:Nat→Value,a_=(fr ([pq g,.slice (some ad) d.length cd,ud,ud,J 4,iv 0,nI_ c,J 7,J 8,J 9,pq g,iv 0,iv 0,fv,ud,.slice (some ad) d.length cd,iv (d.length:Nat),iv ((d.length:Nat)+492),iv (((d.length:Nat)+492)-1),nI_ c,fv,.slice (some ad) d.length cd,iv (d.length:Nat),fv,fv,.slice (some ad) d.length cd,iv (d.length:Nat),fv,fv,pq g,pq g,po g 7,nI_ l.head,nI_ c,nI_ (l.head+c),fv,fv,nI_ c,pq g,iv ((l.n:Int)-((l.head:Int)-(l.tail:Int))),fv,nI_ c,nI_ g_.1]++jR J 43 32) 8)∧St F w0 w_ (row g #[pq gd,nI_ l.first,nI_ l.n,iv l.life,nI_ l.epoch,nI_ l.top,nI_ l.tail,nI_ l.head,.bool l.begun] 161::PN (B+g_.1) gd g_.2::L)∧(g_.1≤c∧laysR l d c s 0 c=laysR l d c g_.2 g_.1 (c-g_.1)∧g_.2.last.length=s.last.length∧g_.2.pend.length≤s.pend.length+g_.1)) (fun g_=>c-g_.1) (0,s) (jE_ ⟨S14,⟨Nat.zero_le _,rfl,rfl,Nat.le_refl _⟩⟩) ?_))))))))))))
    rintro ⟨i,si⟩ a_ w19 ⟨J,rfl,S20,⟨hI1,hI2,hI3,hI4⟩⟩
    skip
    have S20:St F w0 w19 (row g #[pq gd,nI_ l.first,nI_ l.n,iv l.life,nI_ l.epoch,nI_ l.top,nI_ l.tail,nI_ l.head,.bool l.begun] 161::PN (B+i) gd si::L):=S20
    refine sR (dC ((((i:Nat):Int):Int)<((c:Nat):Int)) (fun hb22=> ?_) fun hb22=> ?_)
    ·have hI1:i≤c:=hI1
     have hI2:laysR l d c s 0 c=laysR l d c si i (c-i):=hI2
     have hI3:si.last.length=s.last.length:=hI3
     have hI4:si.pend.length≤s.pend.length+i:=hI4
     have hi:i<c:=by omega
     obtain ⟨hp1,hp2,hp3⟩:=partR_len (d:=d) hc.symm hi
     have hst:=hI2.trans (laysR_step hi)
     obtain ⟨hlen1,hlen2⟩:=writeR_len (s:=si) (at_:=((l.first+2+(l.head+i)%l.n:Nat):Int)) (d:=(sealF (si.now (l.first+2+(l.head+i)%l.n)) (bodyR l.epoch (l.head+i) i c (partR d i))).1)
     have hly0:layR si l d i c=si.writeR ((l.first+2+(l.head+i)%l.n:Nat):Int) (sealF (si.now (l.first+2+(l.head+i)%l.n)) (bodyR l.epoch (l.head+i) i c (partR d i))).1:=rfl
     rw [←hly0] at hlen1 hlen2
     refine wE (nS (cT (wp_skip (nS (wp_block (sR (pv (nI_ i) (pv (nI_ i) (wER (pv (.slice (some ad) d.length cd) (pv (nI_ i) (gI .i64 (IntKind.i64.wrap (((i:Nat):Int)*492)) ((i*492:Nat):Int) (wr_eq om_ om_ om_) (pv (.slice (some ad) d.length cd) ?_)))))))))))))
     refine pv (iv (d.length:Nat)) (pv (nI_ i) (gI .i64 (IntKind.i64.wrap (((i:Nat):Int)+1)) ((i+1:Nat):Int) (wr_eq om_ om_ om_) (gI .i64 (IntKind.i64.wrap (((i+1:Nat):Int)*492)) (((i+1)*492:Nat):Int) (wr_eq om_ om_ om_) (gI .i64 (if (((i+1)*492:Nat):Int)<(d.length:Nat) then (((i+1)*492:Nat):Int) else (d.length:Nat)) ((min d.length ((i+1)*492):Nat):Int) (by split<;>omega) (g_ (gv_cutA (e:=5) (sz:=1) (ad:=ad) (n:=d.length) (c:=cd) (kl:=.i64) (kh:=.i64) (u:=((i*492:Nat):Int)) (v:=((min d.length ((i+1)*492):Nat):Int)) (lo:=(i*492)) (hi:=(min d.length ((i+1)*492))) (ad':=(ad.add (i*492))) (n':=(min d.length ((i+1)*492)-i*492)) (c':=(cd-i*492)) rfl kr_ kr_ kr_ kr_ kr_ rfl rfl om_ om_ om_ (by rw [Nat.mul_one]) om_ om_ (pv (.slice (some (ad.add (i*492))) (min d.length ((i+1)*492)-i*492) (cd-i*492)) (wE ?_))))))))
     refine nS (wp_region_phu (γ:=Unit) 16 [15] (fun (c_:Unit) (i_:Nat)=>(match i_ with|0=>pq g|1=>pq g|2=>pq g|3=>po g 4|4=>nI_ l.epoch|5=>pq g|6=>pq g|7=>po g 7|8=>nI_ l.head|9=>nI_ i|10=>nI_ (l.head+i)|11=>nI_ i|12=>nI_ c|13=>.slice (some (ad.add (i*492))) (min d.length ((i+1)*492)-i*492) (cd-i*492)|14=>.agg #[nI_ l.epoch,nI_ (l.head+i),nI_ i,nI_ c,.slice (some (ad.add (i*492))) (min d.length ((i+1)*492)-i*492) (cd-i*492)]|15=>iv ((layR si l d i c).2)|_=>undef:Value)) (fun (c_:Unit) (p_:Nat) (w_:World)=>(match p_ with|0=>St F w0 w_ (row g #[pq gd,nI_ l.first,nI_ l.n,iv l.life,nI_ l.epoch,nI_ l.top,nI_ l.tail,nI_ l.head,.bool l.begun] 161::PN (B+i) gd si::L)|_=>St F w0 w_ (row g #[pq gd,nI_ l.first,nI_ l.n,iv l.life,nI_ l.epoch,nI_ l.top,nI_ l.tail,nI_ l.head,.bool l.begun] 161::PN (B+i+1) gd (layR si l d i c).1::L):Prop)) () kr_ kr_ kr_ kr_ (S20.drew) ?_ ?_ ?_)
     ·intro i_ c_ p_ vals_ w1 hi_ hiE_ hp_ hk_ hu_ hPh_ hd_
      rcases i_ with _|_|_|_|_|_|_|_|_|_|_|_|_|_|_|_|i_
      ·exact tG_ rfl hd_ (gV (pq g) ⟨rfl,rfl⟩)
      ·exact tG_ rfl hd_ (gV (pq g) ⟨rfl,rfl⟩)
      ·exact tG_ rfl hd_ (gV (pq g) ⟨rfl,rfl⟩)
      ·exact tG_ rfl hd_ (gV (po g 4) ⟨rfl,rfl⟩)
      ·rcases p_ with _|_|p_
       ·have S27:=St.id hPh_
        exact tG_ rfl hd_ (gL (nI_ l.epoch) rfl (((S27.blk 0 rfl).cell 4).trans rfl) ⟨rfl,rfl⟩)
       ·exact absurd (hu_ 0 dc_ kr_) dc_
       ·exact absurd hp_ (by simp)
      ·exact tG_ rfl hd_ (gV (pq g) ⟨rfl,rfl⟩)
      ·exact tG_ rfl hd_ (gV (pq g) ⟨rfl,rfl⟩)
      ·exact tG_ rfl hd_ (gV (po g 7) ⟨rfl,rfl⟩)
      ·rcases p_ with _|_|p_
       ·have S31:=St.id hPh_
        exact tG_ rfl hd_ (gL (nI_ l.head) rfl (((S31.blk 0 rfl).cell 7).trans rfl) ⟨rfl,rfl⟩)
       ·exact absurd (hu_ 0 dc_ kr_) dc_
       ·exact absurd hp_ (by simp)
      ·exact tG_ rfl hd_ (gV (nI_ i) ⟨rfl,rfl⟩)
      ·exact tG_ rfl hd_ (gv_int (k:=.i64) (z:=IntKind.i64.wrap (((l.head:Nat):Int)+((i:Nat):Int))) (z':=((l.head+i:Nat):Int)) kr_ (wr_eq om_ om_ om_) ⟨rfl,rfl⟩)
      ·exact tG_ rfl hd_ (gV (nI_ i) ⟨rfl,rfl⟩)
      ·exact tG_ rfl hd_ (gV (nI_ c) ⟨rfl,rfl⟩)
      ·exact tG_ rfl hd_ (gV (.slice (some (ad.add (i*492))) (min d.length ((i+1)*492)-i*492) (cd-i*492)) ⟨rfl,rfl⟩)
      ·exact tG_ rfl hd_ (gV (.agg #[nI_ l.epoch,nI_ (l.head+i),nI_ i,nI_ c,.slice (some (ad.add (i*492))) (min d.length ((i+1)*492)-i*492) (cd-i*492)]) ⟨rfl,rfl⟩)
      ·exact absurd hiE_ dc_
      ·exact absurd hi_ om_
     ·intro k_ c_ vals_ w1 hk_ hPh_ hd_
      rcases k_ with _|k_
      ·have S38:=St.id hPh_
       refine tG_ rfl hd_ (gv_call (args:=#[pq g,.agg #[nI_ l.epoch,nI_ (l.head+i),nI_ i,nI_ c,.slice (some (ad.add (i*492))) (min d.length ((i+1)*492)-i*492) (cd-i*492)]]) rfl Try.func106 kr_ rfl rfl kr_ ?_)
       have hlc:=w_lay (ep:=l.epoch) (p:=l.head+i) (i:=i) (c:=c) (d:=partR d i) (cd:=cd-i*492) S38 hl hp1.symm (hd.sub (i*492) 492) hp2 hp3 om_ om_ om_ om_ (by rw [hI3];omega) om_
       rw [←hly0] at hlc
       refine Calls.mono hlc ?_
       rintro _ w39 ⟨rfl,S40⟩
       refine ⟨_,rfl,⟨(),rfl, ?_,S40⟩⟩
       intro i_ hi_ hne_ hdp_
       rcases i_ with _|_|_|_|_|_|_|_|_|_|_|_|_|_|_|_|i_
       ·rfl
       ·rfl
       ·rfl
       ·rfl
       ·rfl
       ·rfl
       ·rfl
       ·rfl
       ·rfl
       ·rfl
       ·rfl
       ·rfl
       ·rfl
       ·rfl
       ·rfl
       ·exact absurd rfl hne_
       ·exact absurd hi_ om_
      ·exact absurd hk_ (by simp)
     ·intro c_ w1 hPh_
      have S41:=St.id hPh_
      refine pv (iv ((layR si l d i c).2)) (wE ?_)
      refine nSR (pv (iv ((layR si l d i c).2)) (dN ((layR si l d i c).2) 0 (fun hly=> ?_) fun hly=> ?_))
      ·have hfin:laysR l d c s 0 c=layR si l d i c:=hst.trans (if_pos hly)
       rw [hfin] at hR
       rw [if_pos hly] at hR
       subst hR
       refine wE (nCT (sR (pv (iv ((layR si l d i c).2)) (pv (iv ((layR si l d i c).2)) (wE (then_n (wp_ret (inb_r (then_r (then_r (inb_r (then_r (bA (iv ((layR si l d i c).2)) ?_)))))))))))))
       have S42:=St.pm 2 [1,0] S41
       have S43:St F w0 w1 (PN (B+17) gd (layR si l d i c).1::row g #[pq gd,nI_ l.first,nI_ l.n,iv l.life,nI_ l.epoch,nI_ l.top,nI_ l.tail,nI_ l.head,.bool l.begun] 161::L):=St.pnle om_ S42
       have S44:=St.pm 2 [1,0] S43
       exact ⟨rfl,S44⟩
      ·exact wE (nCF (wp_skip (inb_n (nR (gI .i64 (IntKind.i64.wrap (((i:Nat):Int)+1)) ((i+1:Nat):Int) (wr_eq om_ om_ om_) (pv (nI_ (i+1)) (wE (then_n ⟨(i+1,(layR si l d i c).1),(jE_ ⟨S41,⟨by omega,hst.trans (by rw [if_neg (fun h=>h hly)]),by show (layR si l d i c).1.last.length=s.last.length;omega,by show (layR si l d i c).1.pend.length≤s.pend.length+(i+1);omega⟩⟩),(by show c-(i+1)<c-i;omega)⟩))))))))
    ·have hI1:i≤c:=hI1
     have hI2:laysR l d c s 0 c=laysR l d c si i (c-i):=hI2
     have hI3:si.last.length=s.last.length:=hI3
     have hI4:si.pend.length≤s.pend.length+i:=hI4
     have hic:i=c:=by omega
     have hfin:laysR l d c s 0 c=(si,0):=by rw [hI2,hic,Nat.sub_self];rfl
     rw [hfin] at hR
     subst hR
     refine wE (nS (cF (wp_exit (then_x (then_x (inb_x (nSR (pv (pq g) (pv (pq g) (pv (po g 7) (lR (nI_ l.head) S20 0 7 (pv (nI_ c) (gI .i64 (IntKind.i64.wrap (((l.head:Nat):Int)+((c:Nat):Int))) ((l.head+c:Nat):Int) (wr_eq om_ om_ om_) ?_)))))))))))))
     refine pv (pq g) (pv (po g 7) (sS S20 0 rfl 7 (nI_ (l.head+c)) fun w45 S46=>wE (nSR (pv (iv 0) (wE (then_n (wp_ret (bA (iv 0) ?_))))))))
     have S47:=St.pm 2 [1,0] S46
     have S48:St F w0 w45 (PN (B+17) gd si::row g #[pq gd,nI_ l.first,nI_ l.n,iv l.life,nI_ l.epoch,nI_ l.top,nI_ l.tail,nI_ (l.head+c),.bool l.begun] 161::L):=St.pnle om_ S47
     have S49:=St.pm 2 [1,0] S48
     exact ⟨rfl,S49⟩
theorem w_ring {F:Nat→Prop}{w0 w:World}{L:List Ast}{B g gd:Nat}{l:Lg}{s:Dsk}(S:St F w0 w (PLog g gd l::PN B gd s::L))(hl:LOk l)(hz:s.left≠0)(hin:l.first+2+l.n≤s.last.length):Calls Try.prog 110 #[.pointer (some ⟨g,0,none⟩)] w fun e w'=>∃gr M,e=.returned (.tuple #[.slice (some ⟨gr,0,none⟩) l.n l.n,.int .i64 0])∧RingOk s l.first l.n M∧St F w0 w' (row gr (pcRow M) 165::stars (M.map pcD)::PLog g gd l::PN (B+l.n) gd s::L):=by
 have hok:=St.pw_ok S.tail
 obtain ⟨h1,h2,h3,h4,h5,h6⟩:=id hl
 change St F w0 w (row g #[pq gd,nI_ l.first,nI_ l.n,iv l.life,nI_ l.epoch,nI_ l.top,nI_ l.tail,nI_ l.head,.bool l.begun] 161::PN B gd s::L) at S
 refine eN (fr [pq g] 64) Try.func110 rfl (sR (pv (.slice none 0 0) (pv (iv 0) (wER (pv (pq g) (pv (pq g) (pv (po g 2) (lR (nI_ l.n) S 0 2 (g_ (gv_make (e:=165) (u:=((l.n:Nat):Int)) (v:=((l.n:Nat):Int)) (z:=.agg #[iv 0,iv 0,iv 0,iv 0,.slice none 0 0]) (sz:=5) (by_:=56) (n:=l.n) (c:=l.n) (cs:=pcRow (List.replicate l.n pc0)) S rfl kr_ ⟨by kernel_rfl⟩ kr_ kr_ rfl rfl (Nat.le_refl _) om_ om_ (pc_made _) (fun g1 w2 hg3 S4=>pv (sl g1 0 l.n l.n) (wE (nS (sR ?_))))))))))))))
 refine pv (sl g1 0 l.n l.n) (pv (iv (l.n:Nat)) (pv (iv 0) (wE (then_n (wp_block ?_)))))
 have S5:St F w0 w2 (stars ((List.replicate l.n pc0).map pcD)::row g1 (pcRow (List.replicate l.n pc0)) 165::row g #[pq gd,nI_ l.first,nI_ l.n,iv l.life,nI_ l.epoch,nI_ l.top,nI_ l.tail,nI_ l.head,.bool l.begun] 161::PN B gd s::L):=St.stars_rep S4 l.n
 have S6:=St.pm 4 [1,0,2,3] S5
 refine wp_loop_g (G:=Nat×List PcV) (fun (g_:Nat×List PcV) (a_:Act) (w_:World)=>∃J:Nat→Value,a_=(fr ([pq g,ud,J 2,J 3,sl g1 0 l.n l.n]++jR J 5 5++[pq g,pq g,po g 2,nI_ l.n,sl g1 0 l.n l.n,sl g1 0 l.n l.n,iv (l.n:Nat),nI_ g_.1]++jR J 18 46) 1)∧St F w0 w_ (row g1 (pcRow g_.2) 165::stars (g_.2.map pcD)::row g #[pq gd,nI_ l.first,nI_ l.n,iv l.life,nI_ l.epoch,nI_ l.top,nI_ l.tail,nI_ l.head,.bool l.begun] 161::PN (B+g_.1) gd s::L)∧(g_.1≤l.n∧RingTo s l.first l.n g_.1 g_.2)) (fun g_=>l.n-g_.1) (0,List.replicate l.n pc0) (jE_ ⟨S6,⟨Nat.zero_le _,RingTo.start s l.first l.n⟩⟩) ?_
 rintro ⟨i,M⟩ a_ w7 ⟨J,rfl,S8,⟨hI1,hI2⟩⟩
 skip
 have S8:St F w0 w7 (row g1 (pcRow M) 165::stars (M.map pcD)::row g #[pq gd,nI_ l.first,nI_ l.n,iv l.life,nI_ l.epoch,nI_ l.top,nI_ l.tail,nI_ l.head,.bool l.begun] 161::PN (B+i) gd s::L):=S8
 refine sR (dC ((((i:Nat):Int):Int)<(l.n:Nat)) (fun hb10=> ?_) fun hb10=> ?_)
 ·have hI1:i≤l.n:=hI1
  have hI2:RingTo s l.first l.n i M:=hI2
  have hml:=hI2.len
  have hi:i<l.n:=by omega
  have him:i%l.n=i:=Nat.mod_eq_of_lt hi
  have hs5:=hok.now (k:=l.first+2+i%l.n) om_
  refine wE (nS (cT (wp_skip (nS (wp_block (sR (pv (nI_ i) (pv (nI_ i) (wE (nS (wp_region_phu (γ:=Option Addr) 12 [6,7] (fun (c_:Option Addr) (i_:Nat)=>(match i_ with|0=>pq g|1=>pq g|2=>pq g|3=>pq gd|4=>pq g|5=>nI_ i|6=>nI_ (l.first+2+i%l.n)|7=>.tuple #[.slice c_ 512 512,iv 0]|8=>.tuple #[.slice c_ 512 512,iv 0]|9=>.slice c_ 512 512|10=>iv 0|11=>.slice c_ 512 512|_=>undef:Value)) (fun (c_:Option Addr) (p_:Nat) (w_:World)=>(match p_ with|0=>St F w0 w_ (row g1 (pcRow M) 165::stars (M.map pcD)::row g #[pq gd,nI_ l.first,nI_ l.n,iv l.life,nI_ l.epoch,nI_ l.top,nI_ l.tail,nI_ l.head,.bool l.begun] 161::PN (B+i) gd s::L)|1=>St F w0 w_ (row g #[pq gd,nI_ l.first,nI_ l.n,iv l.life,nI_ l.epoch,nI_ l.top,nI_ l.tail,nI_ l.head,.bool l.begun] 161::PN (B+i) gd s::row g1 (pcRow M) 165::stars (M.map pcD)::L)|_=>St F w0 w_ (bytesA (.slice c_ 512 512) (s.now (l.first+2+i%l.n))::PN (B+i+1) gd s::row g #[pq gd,nI_ l.first,nI_ l.n,iv l.life,nI_ l.epoch,nI_ l.top,nI_ l.tail,nI_ l.head,.bool l.begun] 161::row g1 (pcRow M) 165::stars (M.map pcD)::L):Prop)) (none) kr_ kr_ kr_ kr_ (S8.drew) ?_ ?_ ?_)))))))))))
  ·intro i_ c_ p_ vals_ w1 hi_ hiE_ hp_ hk_ hu_ hPh_ hd_
   rcases i_ with _|_|_|_|_|_|_|_|_|_|_|_|i_
   ·exact tG_ rfl hd_ (gV (pq g) ⟨rfl,rfl⟩)
   ·exact tG_ rfl hd_ (gV (pq g) ⟨rfl,rfl⟩)
   ·exact tG_ rfl hd_ (gV (pq g) ⟨rfl,rfl⟩)
   ·rcases p_ with _|_|_|p_
    ·have S14:=St.id hPh_
     exact tG_ rfl hd_ (gL (pq gd) rfl (((S14.blk 2 rfl).cell 0).trans rfl) ⟨rfl,rfl⟩)
    ·have S15:=St.id hPh_
     exact tG_ rfl hd_ (gL (pq gd) rfl (((S15.blk 0 rfl).cell 0).trans rfl) ⟨rfl,rfl⟩)
    ·exact absurd (hu_ 1 dc_ kr_) dc_
    ·exact absurd hp_ (by simp)
   ·exact tG_ rfl hd_ (gV (pq g) ⟨rfl,rfl⟩)
   ·exact tG_ rfl hd_ (gV (nI_ i) ⟨rfl,rfl⟩)
   ·exact absurd hiE_ dc_
   ·exact absurd hiE_ dc_
   ·exact tG_ rfl hd_ (gV (.tuple #[.slice c_ 512 512,iv 0]) ⟨rfl,rfl⟩)
   ·exact tG_ rfl hd_ (gV (.slice c_ 512 512) ⟨rfl,rfl⟩)
   ·exact tG_ rfl hd_ (gV (iv 0) ⟨rfl,rfl⟩)
   ·exact tG_ rfl hd_ (gV (.slice c_ 512 512) ⟨rfl,rfl⟩)
   ·exact absurd hi_ om_
  ·intro k_ c_ vals_ w1 hk_ hPh_ hd_
   rcases k_ with _|_|k_
   ·have S22:=St.id hPh_
    refine tG_ rfl hd_ (gv_call (args:=#[pq g,nI_ i]) rfl Try.func138 kr_ rfl rfl kr_ ?_)
    have S23:=St.pm 4 [2,3,0,1] S22
    refine Calls.mono (w_at (p:=i) S23 hl om_) ?_
    rintro _ w24 ⟨rfl,S25⟩
    refine ⟨_,rfl,⟨(c_),rfl, ?_,S25⟩⟩
    intro i_ hi_ hne_ hdp_
    rcases i_ with _|_|_|_|_|_|_|_|_|_|_|_|i_
    ·rfl
    ·rfl
    ·rfl
    ·rfl
    ·rfl
    ·rfl
    ·exact absurd rfl hne_
    ·exact (dep_no hdp_ kr_).elim
    ·exact (dep_no hdp_ kr_).elim
    ·exact (dep_no hdp_ kr_).elim
    ·exact (dep_no hdp_ kr_).elim
    ·exact (dep_no hdp_ kr_).elim
    ·exact absurd hi_ om_
   ·have S26:=St.id hPh_
    refine tG_ rfl hd_ (gv_call (args:=#[pq gd,nI_ (l.first+2+i%l.n)]) rfl Try.func26 kr_ rfl rfl kr_ ?_)
    have S27:=St.pm 4 [1,0,2,3] S26
    refine Calls.mono (pw_read (k:=l.first+2+i%l.n) S27 hz om_) ?_
    rintro _ w28 ⟨m30,rfl,S29⟩
    refine ⟨_,rfl,⟨(m30),rfl, ?_,S29⟩⟩
    intro i_ hi_ hne_ hdp_
    rcases i_ with _|_|_|_|_|_|_|_|_|_|_|_|i_
    ·rfl
    ·rfl
    ·rfl
    ·rfl
    ·rfl
    ·rfl
    ·rfl
    ·exact absurd rfl hne_
    ·exact (dep_no hdp_ kr_).elim
    ·exact (dep_no hdp_ kr_).elim
    ·exact (dep_no hdp_ kr_).elim
    ·exact (dep_no hdp_ kr_).elim
    ·exact absurd hi_ om_
   ·exact absurd hk_ (by simp)
  ·intro c_ w1 hPh_
   have S31:=St.id hPh_
   refine (pv (iv 0) (wE (nS (sR (pv (iv 0) (dN 0 0 (fun hd32=>False.elim om_) fun _=>wE (nCF (wp_skip (nSR (pv (.slice c_ 512 512) (g_ (gv_call (args:=#[.slice c_ 512 512]) rfl Try.func129 kr_ rfl rfl kr_ ?_))))))))))))
   have hop:=ps_open (a:=s.now (l.first+2+i%l.n)) (ca:=512) S31 (RoT.bytes 0 rfl rfl) om_
   rw [hs5] at hop
   refine Calls.mono hop ?_
   rintro _ w33 ⟨v9,rfl,S34⟩
   obtain ⟨A9,c9,rfl,hc9⟩:=St.bytesX_v S34
   refine ⟨_,rfl,(pv (.tuple #[.slice A9 ((openF (s.now (l.first+2+i%l.n))).1.length) c9,iv ((openF (s.now (l.first+2+i%l.n))).2:Int)]) (pv (.slice A9 ((openF (s.now (l.first+2+i%l.n))).1.length) c9) (pv (iv ((openF (s.now (l.first+2+i%l.n))).2:Int)) (pv (.slice A9 ((openF (s.now (l.first+2+i%l.n))).1.length) c9) (pv (iv ((openF (s.now (l.first+2+i%l.n))).2:Int)) (wER (pv (iv ((openF (s.now (l.first+2+i%l.n))).2:Int)) (dE ((openF (s.now (l.first+2+i%l.n))).2:Int) 0 (fun hb35=> ?_) fun hb35=> ?_))))))))⟩
   ·have ho0:(openF (s.now (l.first+2+i%l.n))).2=0:=by omega
    refine pv tv (pW (.slice A9 ((openF (s.now (l.first+2+i%l.n))).1.length) c9) (pW (iv ((openF (s.now (l.first+2+i%l.n))).1.length:Nat)) (wl_when kr_ (gv_dec (p:=(((openF (s.now (l.first+2+i%l.n))).1.length:Nat):Int)≥12) kr_ (fun hb36=> ?_) (fun hb36=> ?_)))))
    ·have hpy:pcAt s l.first l.n i=pcOf (openF (s.now (l.first+2+i%l.n))).1:=by unfold pcAt pcF;rw [if_pos ⟨ho0,by omega⟩]
     have hol:=openF_len (s.now (l.first+2+i%l.n))
     obtain ⟨ad,rfl⟩:=(St.rdX S34 0 rfl).at (k:=0) om_
     refine pv tv (wE (nCT (wp_region_phu (γ:=Unit) 16 [] (fun (c2_:Unit) (i_:Nat)=>(match i_ with|0=>sl g1 0 l.n l.n|1=>nI_ i|2=>.slice (some ad) ((openF (s.now (l.first+2+i%l.n))).1.length) c9|3=>nI_ (numN (openF (s.now (l.first+2+i%l.n))).1 0 4)|4=>.slice (some ad) ((openF (s.now (l.first+2+i%l.n))).1.length) c9|5=>.slice (some (cutA c9 4 ad)) (((openF (s.now (l.first+2+i%l.n))).1.length)-4) (c9-4)|6=>nI_ (numN (openF (s.now (l.first+2+i%l.n))).1 4 4)|7=>.slice (some ad) ((openF (s.now (l.first+2+i%l.n))).1.length) c9|8=>.slice (some (cutA c9 8 ad)) (((openF (s.now (l.first+2+i%l.n))).1.length)-8) (c9-8)|9=>nI_ (numN (openF (s.now (l.first+2+i%l.n))).1 8 2)|10=>.slice (some ad) ((openF (s.now (l.first+2+i%l.n))).1.length) c9|11=>.slice (some (cutA c9 10 ad)) (((openF (s.now (l.first+2+i%l.n))).1.length)-10) (c9-10)|12=>nI_ (numN (openF (s.now (l.first+2+i%l.n))).1 10 2)|13=>.slice (some ad) ((openF (s.now (l.first+2+i%l.n))).1.length) c9|14=>.slice (some (cutA c9 12 ad)) (((openF (s.now (l.first+2+i%l.n))).1.length)-12) (c9-12)|15=>.agg #[nI_ (numN (openF (s.now (l.first+2+i%l.n))).1 0 4),nI_ (numN (openF (s.now (l.first+2+i%l.n))).1 4 4),nI_ (numN (openF (s.now (l.first+2+i%l.n))).1 8 2),nI_ (numN (openF (s.now (l.first+2+i%l.n))).1 10 2),.slice (some (cutA c9 12 ad)) (((openF (s.now (l.first+2+i%l.n))).1.length)-12) (c9-12)]|_=>undef:Value)) (fun (c2_:Unit) (p_:Nat) (w_:World)=>(match p_ with|_=>St F w0 w_ (bytesX (.slice (some ad) (openF (s.now (l.first+2+i%l.n))).1.length c9) (openF (s.now (l.first+2+i%l.n))).1::bytesA (.slice c_ 512 512) (s.now (l.first+2+i%l.n))::PN (B+i+1) gd s::row g #[pq gd,nI_ l.first,nI_ l.n,iv l.life,nI_ l.epoch,nI_ l.top,nI_ l.tail,nI_ l.head,.bool l.begun] 161::row g1 (pcRow M) 165::stars (M.map pcD)::L):Prop)) () kr_ kr_ kr_ kr_ (S34.drew) ?_ ?_ ?_)))
     ·intro i_ c2_ p_ vals_ w1 hi_ hiE_ hp_ hk_ hu_ hPh_ hd_
      rcases i_ with _|_|_|_|_|_|_|_|_|_|_|_|_|_|_|_|i_
      ·exact tG_ rfl hd_ (gV (sl g1 0 l.n l.n) ⟨rfl,rfl⟩)
      ·exact tG_ rfl hd_ (gV (nI_ i) ⟨rfl,rfl⟩)
      ·exact tG_ rfl hd_ (gV (.slice (some ad) ((openF (s.now (l.first+2+i%l.n))).1.length) c9) ⟨rfl,rfl⟩)
      ·have S40:=St.id hPh_
       refine tG_ rfl hd_ (gv_call (args:=#[.slice (some ad) ((openF (s.now (l.first+2+i%l.n))).1.length) c9,iv 4]) rfl Try.func139 kr_ rfl rfl kr_ (Calls.mono (w_number (n:=4) (b:=(openF (s.now (l.first+2+i%l.n))).1) rfl (St.rdX S40 0 rfl) om_ dc_ om_) ?_))
       rintro _ _ ⟨rfl,rfl⟩
       exact ⟨_,rfl,⟨rfl,rfl⟩⟩
      ·exact tG_ rfl hd_ (gV (.slice (some ad) ((openF (s.now (l.first+2+i%l.n))).1.length) c9) ⟨rfl,rfl⟩)
      ·exact tG_ rfl hd_ (gv_from (e:=5) (ad:=ad) (n:=((openF (s.now (l.first+2+i%l.n))).1.length)) (c:=c9) (lo:=4) (kl:=.i64) (u:=4) (n':=(((openF (s.now (l.first+2+i%l.n))).1.length)-4)) (c':=(c9-4)) rfl kr_ kr_ kr_ kr_ rfl om_ hc9 rfl rfl ⟨rfl,rfl⟩)
      ·have S43:=St.id hPh_
       refine tG_ rfl hd_ (gv_call (args:=#[.slice (some (cutA c9 4 ad)) (((openF (s.now (l.first+2+i%l.n))).1.length)-4) (c9-4),iv 4]) rfl Try.func139 kr_ rfl rfl kr_ (Calls.mono (w_number (n:=4) (b:=List.drop 4 (openF (s.now (l.first+2+i%l.n))).1) List.length_drop.symm (RdB.cut (c:=c9) (lo:=4) (St.rdX S43 0 rfl) hc9) (by rw [List.length_drop];omega) dc_ om_) ?_))
       rintro _ _ ⟨rfl,rfl⟩
       exact ⟨_,rfl,⟨rfl,rfl⟩⟩
      ·exact tG_ rfl hd_ (gV (.slice (some ad) ((openF (s.now (l.first+2+i%l.n))).1.length) c9) ⟨rfl,rfl⟩)
      ·exact tG_ rfl hd_ (gv_from (e:=5) (ad:=ad) (n:=((openF (s.now (l.first+2+i%l.n))).1.length)) (c:=c9) (lo:=8) (kl:=.i64) (u:=8) (n':=(((openF (s.now (l.first+2+i%l.n))).1.length)-8)) (c':=(c9-8)) rfl kr_ kr_ kr_ kr_ rfl om_ hc9 rfl rfl ⟨rfl,rfl⟩)
      ·have S46:=St.id hPh_
       refine tG_ rfl hd_ (gv_call (args:=#[.slice (some (cutA c9 8 ad)) (((openF (s.now (l.first+2+i%l.n))).1.length)-8) (c9-8),iv 2]) rfl Try.func139 kr_ rfl rfl kr_ (Calls.mono (w_number (n:=2) (b:=List.drop 8 (openF (s.now (l.first+2+i%l.n))).1) List.length_drop.symm (RdB.cut (c:=c9) (lo:=8) (St.rdX S46 0 rfl) hc9) (by rw [List.length_drop];omega) dc_ om_) ?_))
       rintro _ _ ⟨rfl,rfl⟩
       exact ⟨_,rfl,⟨rfl,rfl⟩⟩
      ·exact tG_ rfl hd_ (gV (.slice (some ad) ((openF (s.now (l.first+2+i%l.n))).1.length) c9) ⟨rfl,rfl⟩)
      ·exact tG_ rfl hd_ (gv_from (e:=5) (ad:=ad) (n:=((openF (s.now (l.first+2+i%l.n))).1.length)) (c:=c9) (lo:=10) (kl:=.i64) (u:=10) (n':=(((openF (s.now (l.first+2+i%l.n))).1.length)-10)) (c':=(c9-10)) rfl kr_ kr_ kr_ kr_ rfl om_ hc9 rfl rfl ⟨rfl,rfl⟩)
      ·have S49:=St.id hPh_
       refine tG_ rfl hd_ (gv_call (args:=#[.slice (some (cutA c9 10 ad)) (((openF (s.now (l.first+2+i%l.n))).1.length)-10) (c9-10),iv 2]) rfl Try.func139 kr_ rfl rfl kr_ (Calls.mono (w_number (n:=2) (b:=List.drop 10 (openF (s.now (l.first+2+i%l.n))).1) List.length_drop.symm (RdB.cut (c:=c9) (lo:=10) (St.rdX S49 0 rfl) hc9) (by rw [List.length_drop];omega) dc_ om_) ?_))
       rintro _ _ ⟨rfl,rfl⟩
       exact ⟨_,rfl,⟨rfl,rfl⟩⟩
      ·exact tG_ rfl hd_ (gV (.slice (some ad) ((openF (s.now (l.first+2+i%l.n))).1.length) c9) ⟨rfl,rfl⟩)
      ·exact tG_ rfl hd_ (gv_from (e:=5) (ad:=ad) (n:=((openF (s.now (l.first+2+i%l.n))).1.length)) (c:=c9) (lo:=12) (kl:=.i64) (u:=12) (n':=(((openF (s.now (l.first+2+i%l.n))).1.length)-12)) (c':=(c9-12)) rfl kr_ kr_ kr_ kr_ rfl om_ hc9 rfl rfl ⟨rfl,rfl⟩)
      ·exact tG_ rfl hd_ (gV (.agg #[nI_ (numN (openF (s.now (l.first+2+i%l.n))).1 0 4),nI_ (numN (openF (s.now (l.first+2+i%l.n))).1 4 4),nI_ (numN (openF (s.now (l.first+2+i%l.n))).1 8 2),nI_ (numN (openF (s.now (l.first+2+i%l.n))).1 10 2),.slice (some (cutA c9 12 ad)) (((openF (s.now (l.first+2+i%l.n))).1.length)-12) (c9-12)]) ⟨rfl,rfl⟩)
      ·exact absurd hi_ om_
     ·intro k_ c2_ vals_ w1 hk_ hPh_ hd_
      exact absurd hk_ (Nat.not_lt_zero _)
     ·intro c2_ w1 hPh_
      have S53:=St.id hPh_
      refine g_ (gv_ixE (e:=165) (sz:=5) (g:=g1) (off:=0) (n:=l.n) (c:=l.n) (i:=((i:Nat):Int)) (k:=.i64) (j:=i) (off':=(0+i*5)) rfl kr_ kr_ kr_ kr_ rfl om_ om_ ?_)
      obtain ⟨x9,hx9⟩:∃x9:PcV,x9=((pcOf (openF (s.now (l.first+2+i%l.n))).1,.slice (some (cutA c9 12 ad)) ((openF (s.now (l.first+2+i%l.n))).1.length-12) (c9-12)):PcV):=⟨_,rfl⟩
      have hpd:pcD x9=bytesX (.slice (some (cutA c9 12 ad)) ((openF (s.now (l.first+2+i%l.n))).1.length-12) (c9-12)) ((openF (s.now (l.first+2+i%l.n))).1.drop 12):=by rw [hx9];rfl
      have hpx:[nI_ (numN (openF (s.now (l.first+2+i%l.n))).1 0 4),nI_ (numN (openF (s.now (l.first+2+i%l.n))).1 4 4),nI_ (numN (openF (s.now (l.first+2+i%l.n))).1 8 2),nI_ (numN (openF (s.now (l.first+2+i%l.n))).1 10 2),.slice (some (cutA c9 12 ad)) (((openF (s.now (l.first+2+i%l.n))).1.length)-12) (c9-12)]=pcells x9:=by rw [hx9];rfl
      refine g_ (gv_stA (k:=0+i*5) (vs:=[nI_ (numN (openF (s.now (l.first+2+i%l.n))).1 0 4),nI_ (numN (openF (s.now (l.first+2+i%l.n))).1 4 4),nI_ (numN (openF (s.now (l.first+2+i%l.n))).1 8 2),nI_ (numN (openF (s.now (l.first+2+i%l.n))).1 10 2),.slice (some (cutA c9 12 ad)) (((openF (s.now (l.first+2+i%l.n))).1.length)-12) (c9-12)]) S53 4 rfl rfl kr_ kr_ kr_ rfl (by simp [Value.oneCell']) (by show 0+i*5+5≤_;unfold pcRow;rw [List.size_toArray,pcs_len];omega) (L':=(bytesX (.slice (some ad) (openF (s.now (l.first+2+i%l.n))).1.length c9) (openF (s.now (l.first+2+i%l.n))).1::bytesA (.slice c_ 512 512) (s.now (l.first+2+i%l.n))::PN (B+i+1) gd s::row g #[pq gd,nI_ l.first,nI_ l.n,iv l.life,nI_ l.epoch,nI_ l.top,nI_ l.tail,nI_ l.head,.bool l.begun] 161::row g1 (pcRow (M.set i x9)) 165::stars (M.map pcD)::L)) (by rw [hpx];unfold pcRow;rw [Nat.zero_add,List.toList_toArray,pcs_set om_];rfl) (fun w54 S55=> ?_))
      have S56:=St.pm 6 [0,5,1,2,3,4] S55
      have S57:St F w0 w54 (bytesX (.slice (some (cutA c9 12 ad)) ((openF (s.now (l.first+2+i%l.n))).1.length-12) (c9-12)) ((openF (s.now (l.first+2+i%l.n))).1.drop 12)::stars (M.map pcD)::bytesA (.slice c_ 512 512) (s.now (l.first+2+i%l.n))::PN (B+i+1) gd s::row g #[pq gd,nI_ l.first,nI_ l.n,iv l.life,nI_ l.epoch,nI_ l.top,nI_ l.tail,nI_ l.head,.bool l.begun] 161::row g1 (pcRow (M.set i x9)) 165::L):=St.cutX rfl hc9 S56
      have S58:St F w0 w54 (stars ((M.set i x9).map pcD)::bytesA (.slice c_ 512 512) (s.now (l.first+2+i%l.n))::PN (B+i+1) gd s::row g #[pq gd,nI_ l.first,nI_ l.n,iv l.life,nI_ l.epoch,nI_ l.top,nI_ l.tail,nI_ l.head,.bool l.begun] 161::row g1 (pcRow (M.set i x9)) 165::L):=St.pc_put i om_ (by rw [hpd];exact S57)
      have hset:=hI2.put (x:=x9) (by rw [hx9,hpy]) ⟨some (cutA c9 12 ad),c9-12,by rw [hx9];show Value.slice _ _ _=.slice _ (List.length (List.drop 12 _)) _;rw [List.length_drop]⟩
      refine wE ?_
      refine inb_n (nR (gI .i64 (IntKind.i64.wrap (((i:Nat):Int)+1)) ((i+1:Nat):Int) (wr_eq om_ om_ om_) (pv (nI_ (i+1)) (wE (then_n ?_)))))
      have S59:=St.pm 5 [4,0,3,2] S58
      exact ⟨(i+1,M.set i x9),(jE_ ⟨S59,⟨by omega,hset⟩⟩),(by show l.n-(i+1)<l.n-i;omega)⟩
    ·have hpn9:pcAt s l.first l.n i=pcNo:=by unfold pcAt pcF;rw [if_neg (fun hh=>by omega)]
     refine pv fv (wE (nCF (wp_skip (inb_n (nR (gI .i64 (IntKind.i64.wrap (((i:Nat):Int)+1)) ((i+1:Nat):Int) (wr_eq om_ om_ om_) (pv (nI_ (i+1)) (wE (then_n ?_)))))))))
     have S60:=St.pm 6 [4,5,3,2] S34
     exact ⟨(i+1,M),(jE_ ⟨S60,⟨by omega,hI2.skip hpn9⟩⟩),(by show l.n-(i+1)<l.n-i;omega)⟩
   ·have hpn9:pcAt s l.first l.n i=pcNo:=by unfold pcAt pcF;rw [if_neg (fun hh=>by omega)]
    refine pv fv (wN (wN (wN (pv fv (wE (nCF (wp_skip (inb_n (nR (gI .i64 (IntKind.i64.wrap (((i:Nat):Int)+1)) ((i+1:Nat):Int) (wr_eq om_ om_ om_) (pv (nI_ (i+1)) (wE (then_n ?_)))))))))))))
    have S61:=St.pm 6 [4,5,3,2] S34
    exact ⟨(i+1,M),(jE_ ⟨S61,⟨by omega,hI2.skip hpn9⟩⟩),(by show l.n-(i+1)<l.n-i;omega)⟩
 ·have hI1:i≤l.n:=hI1
  have hI2:RingTo s l.first l.n i M:=hI2
  have hml:=hI2.len
  have hin0:i=l.n:=by omega
  rw [hin0] at hI2
  refine wE (nS (cF (wp_exit (then_x (then_x (inb_x (nSR (pv (sl g1 0 l.n l.n) (pv (sl g1 0 l.n l.n) (pv (iv 0) (wE (then_n (wp_ret ?_)))))))))))))
  refine bB (sl g1 0 l.n l.n) (iv 0) ?_
  have S62:=St.pm 4 [3,0,1,2] S8
  have S63:St F w0 w7 (PN (B+l.n) gd s::row g1 (pcRow M) 165::stars (M.map pcD)::row g #[pq gd,nI_ l.first,nI_ l.n,iv l.life,nI_ l.epoch,nI_ l.top,nI_ l.tail,nI_ l.head,.bool l.begun] 161::L):=St.pnle om_ S62
  have S64:=St.pm 4 [1,2,3,0] S63
  exact ⟨_,M,rfl,hI2.ok,S64⟩
theorem w_open_args {F:Nat→Prop}{w0 w:World}{L:List Ast}{B gd:Nat}{s:Dsk}{first n:Int}(S:St F w0 w (PN B gd s::L))(ha:argsR s first n≠0):Calls Try.prog 61 #[.pointer (some ⟨gd,0,none⟩),.int .i64 first,.int .i64 n] w fun e w'=>e=.returned (.tuple #[.pointer none,.slice none 0 0,.int .i64 (argsR s first n)])∧St F w0 w' (PN B gd s::L):=by
 refine eN (fr [pq gd,iv first,iv n] 116) Try.func61 rfl (sR (pv pn (pv (.slice none 0 0) (pv (iv 0) (wE (nS (sR (pv (pq gd) (pv (iv first) (pv (iv n) (sO Try.func108 #[pq gd,iv first,iv n] (w_place S 0 rfl) (pv (iv (argsR s first n)) (wER ?_)))))))))))))
 exact pv (iv (argsR s first n)) (dN (argsR s first n) 0 (fun _=>wE (nCT (sR (pv (iv (argsR s first n)) (pv pn (pv (.slice none 0 0) (pv (iv (argsR s first n)) (wE (then_n (rR (bodyPost_ret (v:=.tuple #[pn,.slice none 0 0,iv (argsR s first n)]) (Go.Vel.results_tmp3 rfl _ _ kr_ kr_ kr_) rfl ⟨rfl,S⟩))))))))))) fun hd1=>False.elim (ha hd1))
theorem w_open_go {F:Nat→Prop}{w0 w:World}{L:List Ast}{B gd:Nat}{s:Dsk}{first n:Int}(S:St F w0 w (PN B gd s::L))(ha0:argsR s first n=0):Calls Try.prog 61 #[.pointer (some ⟨gd,0,none⟩),.int .i64 first,.int .i64 n] w fun e w'=>(newR s.take first.toNat=none∧e=.returned (.tuple #[.pointer none,.slice none 0 0,.int .i64 6])∧St F w0 w' (PN (B+(n.toNat+2)) gd s.take::L))∨
  (∃(ep tl:Nat),newR s.take first.toNat=some (ep,tl)∧topTo (pcAt s.take first.toNat n.toNat) ep n.toNat=1073741824∧e=.returned (.tuple #[.pointer none,.slice none 0 0,.int .i64 41])∧St F w0 w' (PN (B+(n.toNat+2)) gd s.take::L))∨
  (∃(ep tl gl:Nat) (v:Value) (RV:List RecV) (h:Nat),newR s.take first.toNat=some (ep,tl)∧topTo (pcAt s.take first.toNat n.toNat) ep n.toNat≠1073741824∧Recs (pcAt s.take first.toNat n.toNat) ep tl (RV.map (·.2)) h∧NoRec (pcAt s.take first.toNat n.toNat) ep h∧e=.returned (.tuple #[.pointer (some ⟨gl,0,none⟩),v,.int .i64 0])∧St F w0 w' (vec 31 1 v RV.length (RV.map (·.1))::stars (RV.map recD)::PLog gl gd ⟨first.toNat,n.toNat,inc s.life,ep,topTo (pcAt s.take first.toNat n.toNat) ep n.toNat,tl,h,false⟩::PN (B+(n.toNat+2)) gd s.take.flushR.1::L)):=by
 have hok:=St.pw_ok S
 have hn2:=hok.n2
 obtain ⟨hz,hf0,hm18,hm256,hin⟩:=argsR_ok ha0
 obtain ⟨f,rfl⟩:∃f:Nat,first=(f:Int):=⟨first.toNat,by omega⟩
 obtain ⟨m,rfl⟩:∃m:Nat,n=(m:Int):=⟨n.toNat,by omega⟩
 simp only [Int.toNat_natCast]
 obtain ⟨s1,hs1⟩:∃s1,s.take=s1:=⟨_,rfl⟩
 have hz1:s1.left≠0:=by rw [←hs1];exact hz
 have hl1:s1.last=s.last:=by rw [←hs1];rfl
 have hok1:DOk s1:=by rw [←hs1];exact ⟨hok.len,hok.plen,hok.n1,hok.n2,hok.lb⟩
 rw [hs1]
 have ha5:=hok1.now (k:=f) (by rw [hl1];omega)
 have hb5:=hok1.now (k:=f+1) (by rw [hl1];omega)
 have hq63:=newest_lt (s1.now f) (s1.now (f+1))
 have hsome:=newR_some (s:=s1) (f:=f)
 have hnone:=newR_none (s:=s1) (f:=f)
 obtain ⟨q,hq⟩:∃q,newestF (s1.now f) (s1.now (f+1))=q:=⟨_,rfl⟩
 rw [hq] at hq63 hsome hnone
 refine eN (fr [pq gd,nI_ f,nI_ m] 116) Try.func61 rfl (sR (pv pn (pv (.slice none 0 0) (pv (iv 0) (wE (nS (sR (pv (pq gd) (pv (nI_ f) (pv (nI_ m) (g_ (gv_call (args:=#[pq gd,nI_ f,nI_ m]) rfl Try.func108 kr_ rfl rfl kr_ ?_))))))))))))
 have hpl:=w_place (first:=((f:Nat):Int)) (n:=((m:Nat):Int)) S 0 rfl
 rw [ha0] at hpl
 refine Calls.mono hpl ?_
 rintro _ _ ⟨rfl,rfl⟩
 refine ⟨_,rfl,(pv (iv 0) (wER (pv (iv 0) (dN 0 0 (fun hd1=>False.elim om_) fun _=>wE (nCF (wp_skip (nSR (pv (pq gd) (pv (nI_ f) (pv (nI_ m) (pv (pq gd) (sP Try.func63 #[pq gd] (pw_take S) fun w2 S3=> ?_))))))))))))⟩
 rw [hs1] at S3
 refine pv (.agg #[pq gd,nI_ f,nI_ m,iv (inc s.life),iv 0,iv 0,iv 0,iv 0,fv]) (nB rfl (.agg #[pq gd,nI_ f,nI_ m,iv (inc s.life),iv 0,iv 0,iv 0,iv 0,.bool false]) S3 fun g4 w5 hg6 S7=>pv (pq g4) (wER (pv (pq g4) (sP2 Try.func109 #[pq g4] (w_pair (l:=⟨f,m,inc s.life,0,0,0,0,false⟩) S7 ⟨by show f≤2048;omega,by show 18≤m;omega,by show m≤256;omega,Nat.zero_le _,Nat.zero_lt_succ _,Nat.zero_le _⟩ hz1 (by show f+1<_;rw [hl1];omega)) fun A7 B7 w8 S9=> ?_))))
 change St F w0 w8 (bytesA (.slice A7 512 512) (s1.now f)::bytesA (.slice B7 512 512) (s1.now (f+1))::row g4 #[pq gd,nI_ f,nI_ m,iv (inc s.life),nI_ 0,nI_ 0,nI_ 0,nI_ 0,.bool false] 161::PN (B+2) gd s1::L) at S9
 refine pv (.tuple #[.slice A7 512 512,.slice B7 512 512,iv 0]) (pv (.slice A7 512 512) (pv (.slice B7 512 512) (pv (iv 0) (pv (.slice A7 512 512) (pv (.slice B7 512 512) (pv (iv 0) (wE (nS (sR (pv (iv 0) (dN 0 0 (fun hd10=>False.elim om_) fun _=>wE (nCF ?_))))))))))))
 refine wp_skip (nSR (pv (.slice A7 512 512) (pv (.slice B7 512 512) (g_ (gv_call (args:=#[.slice A7 512 512,.slice B7 512 512]) rfl Try.func98 kr_ rfl rfl kr_ ?_)))))
 have hnw:=ps_newest0 (ca:=512) (cb:=512) S9 (a:=s1.now f) (b:=s1.now (f+1)) ha5.symm hb5.symm (RoT.bytes 0 rfl rfl) (RoT.bytes 1 rfl rfl) om_ om_
 rw [hq] at hnw
 refine Calls.mono hnw ?_
 rintro _ w11 ⟨A8,c8,rfl,S12⟩
 refine ⟨_,rfl,(pv (.tuple #[iv (q.1:Int),iv (q.2.1:Int),.slice A8 q.2.2.1.length c8,iv (q.2.2.2:Int)]) (pv (iv (q.1:Int)) (pv (iv (q.2.1:Int)) (pv (.slice A8 q.2.2.1.length c8) (pv (iv (q.2.2.2:Int)) (pv (iv (q.1:Int)) (pv (iv (q.2.1:Int)) (pv (.slice A8 q.2.2.1.length c8) (pv (iv (q.2.2.2:Int)) (wE (nS (sR (pv (iv (q.2.2.2:Int)) (dN (q.2.2.2:Int) 0 (fun hb13=> ?_) fun hb13=> ?_))))))))))))))⟩
 ·have hno:=hnone (.inl om_)
  refine pv tv (wN (wN (wN (pv tv (wE (nCT (sR (pv pn (pv (.slice none 0 0) (pv (iv 6) (wE (then_n (rR ?_)))))))))))))
  refine bodyPost_ret (v:=.tuple #[pn,.slice none 0 0,iv 6]) (Go.Vel.results_tmp3 rfl _ _ kr_ kr_ kr_) rfl ?_
  have S14:=St.pm 5 [4,0,1,2,3] S12
  have S15:St F w0 w11 (PN (B+(m+2)) gd s1::bytesX (.slice A8 q.2.2.1.length c8) q.2.2.1::bytesA (.slice A7 512 512) (s1.now f)::bytesA (.slice B7 512 512) (s1.now (f+1))::row g4 #[pq gd,nI_ f,nI_ m,iv (inc s.life),nI_ 0,nI_ 0,nI_ 0,nI_ 0,.bool false] 161::L):=St.pnle om_ S14
  have S16:=St.pm 5 [0] S15
  exact .inl ⟨hno,rfl,S16⟩
 ·refine pv fv (pW (.slice A8 q.2.2.1.length c8) (pW (iv (q.2.2.1.length:Nat)) (wl_when kr_ (gv_dec (p:=((q.2.2.1.length:Nat):Int)>0) kr_ (fun hb17=> ?_) (fun hb17=> ?_)))))
  ·have hno:=hnone (.inr (.inl (List.ne_nil_of_length_pos om_)))
   refine pv tv (wE (nCT (sR (pv pn (pv (.slice none 0 0) (pv (iv 6) (wE (then_n (rR (bodyPost_ret (v:=.tuple #[pn,.slice none 0 0,iv 6]) (Go.Vel.results_tmp3 rfl _ _ kr_ kr_ kr_) rfl ?_))))))))))
   have S18:=St.pm 5 [4,0,1,2,3] S12
   have S19:St F w0 w11 (PN (B+(m+2)) gd s1::bytesX (.slice A8 q.2.2.1.length c8) q.2.2.1::bytesA (.slice A7 512 512) (s1.now f)::bytesA (.slice B7 512 512) (s1.now (f+1))::row g4 #[pq gd,nI_ f,nI_ m,iv (inc s.life),nI_ 0,nI_ 0,nI_ 0,nI_ 0,.bool false] 161::L):=St.pnle om_ S18
   have S20:=St.pm 5 [0] S19
   exact .inl ⟨hno,rfl,S20⟩
  ·refine pv fv (wE (nCF (wp_skip (nSR (pv (pq g4) (pv (pq g4) (pv (iv (q.2.1:Int)) (g_ (gv_shr (k:=.i64) (yk:=.u64) (z:=(q.2.1:Int)) (i:=32) (j:=32) (z':=((q.2.1/4294967296:Nat):Int)) rfl kr_ kr_ rfl dc_ rfl (pv (iv (q.2.1:Int)) (gI .i64 (bits .and .i64 (q.2.1:Int) 4294967295) ((q.2.1%4294967296:Nat):Int) (bits_and_low _ hq63) (pv (pq g4) (pv (po g4 4) (sS S12 3 rfl 4 (nI_ (q.2.1/4294967296)) fun w21 S22=> ?_))))))))))))))
   refine pv (pq g4) (pv (po g4 6) (sS S22 3 rfl 6 (nI_ (q.2.1%4294967296)) fun w23 S24=>wE (nS (sR (pv (pq g4) (pv (pq g4) (pv (po g4 4) (lR (nI_ (q.2.1/4294967296)) S24 3 4 (dC ((((q.2.1/4294967296:Nat):Int):Int)<1) (fun hb25=> ?_) fun hb25=> ?_)))))))))
   ·have hno:=hnone (.inr (.inr (.inl om_)))
    refine pv tv (wN (wN (wN (wN (wN (pv tv (pv tv (wN (wN (wN (wN (wN (pv tv ?_)))))))))))))
    refine wE (nCT (sR (pv pn (pv (.slice none 0 0) (pv (iv 6) (wE (then_n (rR (bodyPost_ret (v:=.tuple #[pn,.slice none 0 0,iv 6]) (Go.Vel.results_tmp3 rfl _ _ kr_ kr_ kr_) rfl ?_)))))))))
    have S26:=St.pm 5 [4,0,1,2,3] S24
    have S27:St F w0 w23 (PN (B+(m+2)) gd s1::bytesX (.slice A8 q.2.2.1.length c8) q.2.2.1::bytesA (.slice A7 512 512) (s1.now f)::bytesA (.slice B7 512 512) (s1.now (f+1))::row g4 #[pq gd,nI_ f,nI_ m,iv (inc s.life),nI_ (q.2.1/4294967296),nI_ 0,nI_ (q.2.1%4294967296),nI_ 0,.bool false] 161::L):=St.pnle om_ S26
    have S28:=St.pm 5 [0] S27
    exact .inl ⟨hno,rfl,S28⟩
   ·refine pv fv (pW (pq g4) (pW (pq g4) (pW (po g4 4) (wl_when kr_ (gv_ldR (v:=nI_ (q.2.1/4294967296)) rfl kr_ kr_ (((S24.blk 3 rfl).cell 4).trans rfl) (wl_when kr_ (gv_dec (p:=(((q.2.1/4294967296:Nat):Int):Int)>1073741824) kr_ (fun hb29=> ?_) (fun hb29=> ?_))))))))
    ·have hno:=hnone (.inr (.inr (.inr (.inl om_))))
     refine pv tv (pv tv (wN (wN (wN (wN (wN (pv tv (wE (nCT (sR (pv pn (pv (.slice none 0 0) (pv (iv 6) ?_)))))))))))))
     refine wE (then_n (rR (bodyPost_ret (v:=.tuple #[pn,.slice none 0 0,iv 6]) (Go.Vel.results_tmp3 rfl _ _ kr_ kr_ kr_) rfl ?_)))
     have S30:=St.pm 5 [4,0,1,2,3] S24
     have S31:St F w0 w23 (PN (B+(m+2)) gd s1::bytesX (.slice A8 q.2.2.1.length c8) q.2.2.1::bytesA (.slice A7 512 512) (s1.now f)::bytesA (.slice B7 512 512) (s1.now (f+1))::row g4 #[pq gd,nI_ f,nI_ m,iv (inc s.life),nI_ (q.2.1/4294967296),nI_ 0,nI_ (q.2.1%4294967296),nI_ 0,.bool false] 161::L):=St.pnle om_ S30
     have S32:=St.pm 5 [0] S31
     exact .inl ⟨hno,rfl,S32⟩
    ·refine pv fv (pv fv (pW (pq g4) (pW (pq g4) (pW (po g4 6) (wl_when kr_ (gv_ldR (v:=nI_ (q.2.1%4294967296)) rfl kr_ kr_ (((S24.blk 3 rfl).cell 6).trans rfl) (wl_when kr_ (gv_dec (p:=(((q.2.1%4294967296:Nat):Int):Int)>1073741824) kr_ (fun hb33=> ?_) (fun hb33=> ?_)))))))))
     ·have hno:=hnone (.inr (.inr (.inr (.inr om_))))
      refine pv tv (wE (nCT (sR (pv pn (pv (.slice none 0 0) (pv (iv 6) (wE ?_)))))))
      refine then_n (rR (bodyPost_ret (v:=.tuple #[pn,.slice none 0 0,iv 6]) (Go.Vel.results_tmp3 rfl _ _ kr_ kr_ kr_) rfl ?_))
      have S34:=St.pm 5 [4,0,1,2,3] S24
      have S35:St F w0 w23 (PN (B+(m+2)) gd s1::bytesX (.slice A8 q.2.2.1.length c8) q.2.2.1::bytesA (.slice A7 512 512) (s1.now f)::bytesA (.slice B7 512 512) (s1.now (f+1))::row g4 #[pq gd,nI_ f,nI_ m,iv (inc s.life),nI_ (q.2.1/4294967296),nI_ 0,nI_ (q.2.1%4294967296),nI_ 0,.bool false] 161::L):=St.pnle om_ S34
      have S36:=St.pm 5 [0] S35
      exact .inl ⟨hno,rfl,S36⟩
     ·refine pv fv (wE (nCF (wp_skip (nSR (pv (pq g4) (g_ (gv_call (args:=#[pq g4]) rfl Try.func110 kr_ rfl rfl kr_ ?_)))))))
      have S37:=St.pm 5 [3,4,0,1,2] S24
      have hgood:=hsome (fun hh=>by rcases hh with h|h|h|h|h<;>first|omega|exact h (List.length_eq_zero_iff.1 om_))
      have hlk:LOk ⟨f,m,inc s.life,q.2.1/4294967296,0,q.2.1%4294967296,0,false⟩:=⟨by show f≤2048;omega,by show 18≤m;omega,by show m≤256;omega,by show q.2.1/4294967296≤_;omega,Nat.zero_lt_succ _,by show q.2.1%4294967296≤_;omega⟩
      refine Calls.mono (w_ring (l:=⟨f,m,inc s.life,q.2.1/4294967296,0,q.2.1%4294967296,0,false⟩) S37 hlk hz1 (by show f+2+m≤_;rw [hl1];omega)) ?_
      rintro _ w38 ⟨gr,M,rfl,hM,S39⟩
      refine ⟨_,rfl, ?_⟩
      change St F w0 w38 (row gr (pcRow M) 165::stars (M.map pcD)::row g4 #[pq gd,nI_ f,nI_ m,iv (inc s.life),nI_ (q.2.1/4294967296),nI_ 0,nI_ (q.2.1%4294967296),nI_ 0,.bool false] 161::PN (B+2+m) gd s1::bytesX (.slice A8 q.2.2.1.length c8) q.2.2.1::bytesA (.slice A7 512 512) (s1.now f)::bytesA (.slice B7 512 512) (s1.now (f+1))::L) at S39
      refine pv (.tuple #[sl gr 0 m m,iv 0]) (pv (sl gr 0 m m) (pv (iv 0) (pv (sl gr 0 m m) (pv (iv 0) (wE ?_)))))
      refine nS (sR (pv (iv 0) (dN 0 0 (fun hd40=>False.elim om_) fun _=>wE (nCF (wp_skip (nS (sR (pv (pq g4) (pv (pq g4) (pv (pq g4) (pv (po g4 4) (lR (nI_ (q.2.1/4294967296)) S39 2 4 ?_))))))))))))
      refine pv (sl gr 0 m m) (sP Try.func111 #[nI_ (q.2.1/4294967296),sl gr 0 m m] (w_top (n:=m) (ep:=q.2.1/4294967296) (pc:=pcAt s1 f m) S39 hM.len (fun j x hx=>hM.pc j x hx) (fun j=>(pcAt_lt s1 f m j).1) om_ om_) fun w41 S42=> ?_)
      obtain ⟨tp,htp⟩:∃tp,topTo (pcAt s1 f m) (q.2.1/4294967296) m=tp:=⟨_,rfl⟩
      have htl:=topTo_le (pcAt s1 f m) (q.2.1/4294967296) om_ m
      rw [htp] at htl
      rw [htp]
      refine pv (pq g4) (pv (po g4 5) (sS S42 2 rfl 5 (nI_ tp) fun w43 S44=>wER (pv (pq g4) (pv (pq g4) (pv (po g4 5) (lR (nI_ tp) S44 2 5 (dE ((tp:Nat):Int) 1073741824 (fun hb45=> ?_) fun hb45=> ?_)))))))
      ·refine wE (nCT (sR (pv pn (pv (.slice none 0 0) (pv (iv 41) (wE (then_n (rR (bodyPost_ret (v:=.tuple #[pn,.slice none 0 0,iv 41]) (Go.Vel.results_tmp3 rfl _ _ kr_ kr_ kr_) rfl ?_)))))))))
       have S46:=St.pm 7 [3,0,1,2,4,5,6] S44
       have S47:St F w0 w43 (PN (B+(m+2)) gd s1::row gr (pcRow M) 165::stars (M.map pcD)::row g4 #[pq gd,nI_ f,nI_ m,iv (inc s.life),nI_ (q.2.1/4294967296),nI_ tp,nI_ (q.2.1%4294967296),nI_ 0,.bool false] 161::bytesX (.slice A8 q.2.2.1.length c8) q.2.2.1::bytesA (.slice A7 512 512) (s1.now f)::bytesA (.slice B7 512 512) (s1.now (f+1))::L):=St.pnle om_ S46
       have S48:=St.pm 7 [0] S47
       exact .inr (.inl ⟨_,_,hgood,by rw [htp];omega,rfl,S48⟩)
      ·refine wE (nCF (wp_skip (nSR (pv (pq g4) (pv (sl gr 0 m m) (g_ (gv_call (args:=#[pq g4,sl gr 0 m m]) rfl Try.func112 kr_ rfl rfl kr_ ?_)))))))
       have S49:=St.pm 7 [2,0,1,3,4,5,6] S44
       refine Calls.mono (w_scan (l:=⟨f,m,inc s.life,q.2.1/4294967296,tp,q.2.1%4294967296,0,false⟩) (pc:=pcAt s1 f m) S49 ⟨by show f≤2048;omega,by show 18≤m;omega,by show m≤256;omega,by show q.2.1/4294967296≤_;omega,by show tp<_;omega,by show q.2.1%4294967296≤_;omega⟩ hM.len (fun j x hx=>hM.pc j x hx) (pcAt_round s1 f m) (pcAt_lt s1 f m) (fun p=>pcF_data _)) ?_
       rintro _ w50 ⟨v52,RV,hd9,rfl,hR1,hR2,S51⟩
       refine ⟨_,rfl,(pv v52 (wE (nS (sR (pv (pq gd) (g_ (gv_call (args:=#[pq gd]) rfl Try.func87 kr_ rfl rfl kr_ ?_)))))))⟩
       have S53:=St.pm 9 [5,0,1,2,3,4,6,7,8] S51
       have hfl:=pw_flush S53
       rw [flush_live hz1] at hfl
       refine Calls.mono hfl ?_
       rintro _ w54 ⟨rfl,S55⟩
       refine ⟨_,rfl,(pv (iv 0) (wER (pv (iv 0) (dN 0 0 (fun hd56=>False.elim om_) fun _=>wE (nCF (wp_skip (nSR (pv (pq g4) (pv v52 (pv (pq g4) (pv v52 (pv (iv 0) ?_))))))))))))⟩
       refine wE (then_n (wp_ret (bodyPost_ret (v:=.tuple #[pq g4,v52,iv 0]) (Go.Vel.results_tmp3 rfl _ _ kr_ kr_ kr_) rfl ?_)))
       have S57:St F w0 w54 (PN (B+(m+2)) gd s1.flushR.1::vec 31 1 v52 RV.length (RV.map (·.1))::stars (RV.map recD)::PLog g4 gd ⟨f,m,inc s.life,q.2.1/4294967296,tp,q.2.1%4294967296,hd9,false⟩::row gr (pcRow M) 165::stars (M.map pcD)::bytesX (.slice A8 q.2.2.1.length c8) q.2.2.1::bytesA (.slice A7 512 512) (s1.now f)::bytesA (.slice B7 512 512) (s1.now (f+1))::L):=St.pnle om_ S55
       have S58:=St.pm 9 [1,2,3,0] S57
       exact .inr (.inr ⟨_,_,_,_,RV,hd9,hgood,by rw [htp];omega,hR1,hR2,rfl,by rw [htp];exact S58⟩)
end Go.Proofs.Cnt
end
section
open Go Go.RowKit Go.Proofs.YtgeioealgidkiaaW.PrintWords Go.Proofs.YtgeioealgidkiaaW.PrintMore
namespace Go.Proofs
open Go.Vel
set_option linter.unusedVariables false
section
theorem flushR_rf (s:Dsk):s.flushR.1.rf=s.rf:=by rcases flushR_cases s with ⟨_,e⟩|⟨_,e⟩<;>rw [e]
theorem writeR_rf {s:Dsk}{a:Int}{d:List UInt8}(h1:0≤a)(h2:a<s.last.length)(h3:d.length=512):(s.writeR a d).1.rf=s.rf:=by
 unfold Dsk.writeR
 split
 ·rfl
 ·rw [if_neg om_,if_neg (fun h=>h h3)]
theorem renewR_rf {s:Dsk}(hok:DOk s){f no:Nat}(hf:f+1<s.last.length)(hren:(renewF (s.now f) (s.now (f+1)) (no:Int) []).2.2=0):(renewR s f no).1.rf=s.rf:=by
 by_cases hz:s.left=0
 ·rw [renewR_dead hz]
 ·obtain ⟨q1,q5⟩:=renew_ok (hok.now (k:=f) om_) (hok.now (k:=f+1) hf) hren
  rw [renewR_go hz hf q1 q5,flushR_rf];rfl
theorem startR_rf {s:Dsk}{l:Lg}(hok:DOk s)(hf:l.first+1<s.last.length)(hren:aliveR s l=true→l.begun=false→(renewF (s.now l.first) (s.now (l.first+1)) (((l.top+1)*4294967296+0:Nat):Int) []).2.2=0):(startR s l).1.rf=s.rf:=by
 unfold startR
 split
 ·rfl
 ·rename_i ha
  split
  ·rfl
  ·rename_i hb
   have h:=renewR_rf hok hf (hren (by simpa using ha) (by simpa using hb))
   simp only []
   split
   ·exact h
   ·exact h
theorem trimR_rf {s:Dsk}{l:Lg}(hok:DOk s)(hf:l.first+1<s.last.length)(hren:readyR s l=0→s.flushR.1.left≠0→l.tail≠l.head→(renewF (s.flushR.1.now l.first) (s.flushR.1.now (l.first+1)) ((l.epoch*4294967296+l.head:Nat):Int) []).2.2=0):(trimR s l).1.rf=s.rf:=by
 unfold trimR
 split
 ·rfl
 ·rename_i hr
  split
  ·exact flushR_rf s
  ·rename_i hb
   have hlen:=(Did.flush s).len
   by_cases hz:s.flushR.1.left=0
   ·rw [renewR_dead hz]
    simp only []
    rw [if_pos dc_];exact flushR_rf s
   ·have h:=renewR_rf hok.flush om_ (hren om_ hz om_)
    simp only []
    split
    ·exact h.trans (flushR_rf s)
    ·exact h.trans (flushR_rf s)
theorem laysR_rf {l:Lg}{d:List UInt8}{c:Nat}(hc:c=countR d.length)(hn:1≤l.n):∀(k i:Nat) (s:Dsk),i+k=c→DOk s→l.first+2+l.n≤s.last.length→(laysR l d c s i k).1.rf=s.rf
 |0,i,s,_,_,_=>rfl
 |k+1,i,s,hk,hok,hin=>by
  have hp:=partR_len (d:=d) (i:=i) hc om_
  have hmod:(l.head+i)%l.n<l.n:=Nat.mod_lt _ om_
  have h5:(sealF (s.now (l.first+2+(l.head+i)%l.n)) (bodyR l.epoch (l.head+i) i c (partR d i))).1.length=512:=(sealF_len (hok.now om_) (by rw [length_bodyR];omega)).1
  have hlay:layR s l d i c=s.writeR ((l.first+2+(l.head+i)%l.n:Nat):Int) (sealF (s.now (l.first+2+(l.head+i)%l.n)) (bodyR l.epoch (l.head+i) i c (partR d i))).1:=rfl
  have hw:=writeR_rf (s:=s) (a:=((l.first+2+(l.head+i)%l.n:Nat):Int)) om_ om_ h5
  have hd:=Did.write s ((l.first+2+(l.head+i)%l.n:Nat):Int) (sealF (s.now (l.first+2+(l.head+i)%l.n)) (bodyR l.epoch (l.head+i) i c (partR d i))).1
  have hk2:=hok.write ((l.first+2+(l.head+i)%l.n:Nat):Int) (sealF (s.now (l.first+2+(l.head+i)%l.n)) (bodyR l.epoch (l.head+i) i c (partR d i))).1
  rw [←hlay] at hw hd hk2
  have hdl:=hd.len
  unfold laysR
  split
  ·exact hw
  ·exact (laysR_rf hc hn k (i+1) _ om_ hk2 om_).trans hw
theorem appendR_rf {s:Dsk}{l:Lg}{d:List UInt8}(hok:DOk s)(hn:1≤l.n)(hin:l.first+2+l.n≤s.last.length):(appendR s l d).1.rf=s.rf:=by
 have h:=laysR_rf (l:=l) (d:=d) rfl hn (countR d.length) 0 s (Nat.zero_add _) hok hin
 unfold appendR
 split
 ·rfl
 ·split
  ·rfl
  ·split
   ·rfl
   ·split
    ·rfl
    ·split
     ·rfl
     ·simp only []
      split
      ·exact h
      ·exact h
structure NInv (k:Nat)(s:Dsk)(l:Lg)(rf:Int):Prop where
 inv:WInv k s [l]
 ok:DOk s
 rf:s.rf=rf
section
variable {k:Nat}{s:Dsk}{l:Lg}{rf:Int}
theorem NInv.lg (h:NInv k s l rf):LgOk s.last.length l:=h.inv.ok l (List.mem_singleton.2 rfl)
theorem NInv.next (h:NInv k s l rf):NInv (k+1) s l rf:=⟨h.inv.next,h.ok,h.rf⟩
theorem NInv.hstart (h:NInv k s l rf):aliveR s l=true→l.begun=false→(renewF (s.now l.first) (s.now (l.first+1)) (((l.top+1)*4294967296+0:Nat):Int) []).2.2=0:=h.inv.hstart h.ok (i:=0) rfl
theorem NInv.htrim (h:NInv k s l rf):readyR s l=0→s.flushR.1.left≠0→l.tail≠l.head→(renewF (s.flushR.1.now l.first) (s.flushR.1.now (l.first+1)) ((l.epoch*4294967296+l.head:Nat):Int) []).2.2=0:=h.inv.htrim h.ok (i:=0) rfl
theorem NInv.start (h:NInv k s l rf)(hok:DOk (startR s l).1):NInv (k+1) (startR s l).1 (startR s l).2.1 rf:=by
 have hf:=h.lg.fit
 have hn:=h.lg.ok.n0
 exact ⟨h.inv.log (i:=0) rfl (h.inv.start1 (i:=0) h.ok rfl),hok,(startR_rf h.ok om_ h.hstart).trans h.rf⟩
theorem NInv.trim (h:NInv k s l rf)(hok:DOk (trimR s l).1):NInv (k+1) (trimR s l).1 (trimR s l).2.1 rf:=by
 have hf:=h.lg.fit
 have hn:=h.lg.ok.n0
 exact ⟨h.inv.log (i:=0) rfl (h.inv.trim1 (i:=0) h.ok rfl),hok,(trimR_rf h.ok om_ h.htrim).trans h.rf⟩
theorem NInv.append (h:NInv k s l rf)(d:List UInt8)(hok:DOk (appendR s l d).1):NInv (k+1) (appendR s l d).1 (appendR s l d).2.1 rf:=by
 have hf:=h.lg.fit
 have hn:=h.lg.ok.n0
 exact ⟨h.inv.log (i:=0) rfl (h.inv.append1 (i:=0) h.ok rfl d),hok,(appendR_rf h.ok om_ hf).trans h.rf⟩
end
structure Calm (s:Dsk)(last:List (List UInt8))(life:Int):Prop where
 ok:DOk s
 pend:s.pend=[]
 left:s.left= -1
 last:s.last=last
 life:s.life=life
 wr:s.wr=0
 rf:s.rf=0
section
variable {s:Dsk}{last:List (List UInt8)}{life:Int}
theorem Calm.mk0 {l:List (List UInt8)}(h:DOk (Dsk.mk0 l)):Calm (Dsk.mk0 l) l 1:=⟨h,rfl,rfl,rfl,rfl,rfl,rfl⟩
theorem Calm.take (h:Calm s last life)(h0:0≤life∧life<1000):Calm s.take last (life+1):=by
 obtain ⟨a,b,c,d,e,f,g⟩:=h
 exact ⟨⟨a.len,a.plen,a.n1,a.n2,a.lb⟩,b,c,d,by show inc s.life=_;rw [e];exact inc_ok h0.1 om_,f,g⟩
theorem Calm.flush (h:Calm s last life):Calm s.flushR.1 last life:=by
 have hok:=h.ok.flush
 obtain ⟨a,b,c,d,e,f,g⟩:=h
 rcases flushR_cases s with ⟨q,_⟩|⟨_,q⟩
 ·omega
 ·rw [q] at hok ⊢
  exact ⟨hok,rfl,by show spent s.left= -1;rw [c];rfl,by show applyP s.last s.pend=last;rw [b];exact d,e,f,g⟩
theorem Calm.crash (h:Calm s last life)(h0:0≤life∧life<1000)(hok:DOk (s.crashR [])):Calm (s.crashR []) last (life+1):=
 ⟨hok,rfl,rfl,(crash_nil' s).trans h.last,by show inc s.life=_;rw [h.life];exact inc_ok h0.1 om_,h.wr,h.rf⟩
theorem Calm.now {s':Dsk}{life':Int}(h:Calm s last life)(h':Calm s' last life')(k:Nat):s'.now k=s.now k:=by rw [now_nil h'.pend,now_nil h.pend,h'.last,h.last]
theorem Calm.newR {s':Dsk}{life':Int}(h:Calm s last life)(h':Calm s' last life')(f:Nat):newR s' f=newR s f:=by unfold Go.Proofs.newR;rw [h.now h',h.now h']
theorem Calm.pcAt {s':Dsk}{life':Int}(h:Calm s last life)(h':Calm s' last life')(f n:Nat):pcAt s' f n=pcAt s f n:=by funext p;unfold Go.Proofs.pcAt;rw [h.now h']
theorem Calm.args {s':Dsk}{life':Int}(h:Calm s last life)(h':Calm s' last life')(f n:Int):argsR s' f n=argsR s f n:=by unfold argsR;rw [h.left,h'.left,h.last,h'.last]
theorem Calm.fl (h:Calm s last life):s.flushR.1.fl=inc s.fl:=by
 rcases flushR_cases s with ⟨q,_⟩|⟨_,q⟩
 ·have:=h.left;omega
 ·rw [q]
theorem Calm.log (h:Calm s last life)(h0:0≤life∧life<1000){first n:Int}(ha:argsR s first n=0){ep tl hd:Nat}{R:List (List UInt8)}(hn:Go.Proofs.newR s.take first.toNat=some (ep,tl))(ht:topTo (Go.Proofs.pcAt s.take first.toNat n.toNat) ep n.toNat≠1073741824)(hr:Recs (Go.Proofs.pcAt s.take first.toNat n.toNat) ep tl R hd):
  NInv 1001 s.take.flushR.1 ⟨first.toNat,n.toNat,inc s.life,ep,topTo (Go.Proofs.pcAt s.take first.toNat n.toNat) ep n.toNat,tl,hd,false⟩ 0:=by
 have hw:WInv 1000 s []:=⟨by rw [h.pend];exact Nat.zero_le _,fun _=>by rw [h.pend];exact Nat.zero_le _,by rw [h.life];omega,fun i j a b h=>by simp at h,fun a h=>by simp at h,fun a h=>by simp at h,fun a h=>by simp at h⟩
 exact ⟨hw.open_ h.ok dc_ ha hn ht hr,(h.take h0).flush.ok,(h.take h0).flush.rf⟩
end
end
end Go.Proofs
end
