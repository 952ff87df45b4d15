/- Part 3 of 5 of what the proof stands on: the words, the laws of the walk, the walks, the plain laws; each section is one text. -/
import Derived.Test.YtgeioealgidkiaaM2
import Derived.OrdersIn
import Derived.RangeFuncNested
import Derived.RangeFuncBound
import Derived.RangeFuncCalls
import Derived.RangeFuncLeaves
import Derived.Scope
section
open Go Go.RowKit Go.Proofs.YtgeioealgidkiaaW.PrintWords Go.Proofs.YtgeioealgidkiaaW.PrintMore
namespace Go.Proofs
open Go.Vel
set_option linter.unusedVariables false
set_option maxRecDepth 100000
set_option maxHeartbeats 4000000
attribute [local irreducible] gives wpList Code.wp
section
variable {F:Nat→Prop} {w0 w:World} {L:List Ast}
theorem w_pair_dead {g gd:Nat}{l:Lg}{s:Dsk}(S:St F w0 w (PLog g gd l::PW gd s::L))(hz:s.left=0):Calls Try.prog 109 #[.pointer (some ⟨g,0,none⟩)] w fun e w'=>e=.returned (.tuple #[.slice none 0 0,.slice none 0 0,.int .i64 3])∧St F w0 w' (PLog g gd l::PW gd s::L):=by
 change St F w0 w (row g (wC_ gd l l.head) 161::PW gd s::L) at S
 refine eN (fr [pq g] 38) Try.func109 rfl (sR (pv (nS_) (pv (nS_) (pv (iv 0) (wE (nS (wp_region_phu (γ:=Value) 13 [8] (fun (c_:Value) (i_:Nat)=>(match i_ with|0=>pq g|1=>pq g|2=>pq g|3=>pq gd|4=>pq g|5=>pq g|6=>po g 1|7=>nI_ l.first|8=>.tuple #[c_,iv 3]|9=>.tuple #[c_,iv 3]|10=>c_|11=>iv 3|12=>c_|_=>undef:Value)) (fun (c_:Value) (p_:Nat) (w_:World)=>(match p_ with|0=>St F w0 w_ (row g (wC_ gd l l.head) 161::PW gd s::L)|_=>St F w0 w_ (PW gd s::row g (wC_ gd l l.head) 161::L):Prop)) (undef) kr_ kr_ kr_ kr_ (S.drew) ?_ ?_ ?_)))))))
 ·intro i_ c_ p_ vals_ w1 hi_ hiE_ hp_ hk_ hu_ hPh_ hd_
  rcases i_ with _|_|_|_|_|_|_|_|_|_|_|_|_|i_
  ·exact tG_ rfl hd_ (gV (pq g) ⟨rfl,rfl⟩)
  ·exact tG_ rfl hd_ (gV (pq g) ⟨rfl,rfl⟩)
  ·exact tG_ rfl hd_ (gV (pq g) ⟨rfl,rfl⟩)
  ·rcases p_ with _|_|p_
   ·have S4:=St.id hPh_
    exact tG_ rfl hd_ (gL (pq gd) rfl (((S4.blk 0 rfl).cell 0).trans rfl) ⟨rfl,rfl⟩)
   ·exact absurd (hu_ 0 dc_ kr_) dc_
   ·exact absurd hp_ (by simp)
  ·exact tG_ rfl hd_ (gV (pq g) ⟨rfl,rfl⟩)
  ·exact tG_ rfl hd_ (gV (pq g) ⟨rfl,rfl⟩)
  ·exact tG_ rfl hd_ (gV (po g 1) ⟨rfl,rfl⟩)
  ·rcases p_ with _|_|p_
   ·have S8:=St.id hPh_
    exact tG_ rfl hd_ (gL (nI_ l.first) rfl (((S8.blk 0 rfl).cell 1).trans rfl) ⟨rfl,rfl⟩)
   ·exact absurd (hu_ 0 dc_ kr_) dc_
   ·exact absurd hp_ (by simp)
  ·exact absurd hiE_ dc_
  ·exact tG_ rfl hd_ (gV (.tuple #[c_,iv 3]) ⟨rfl,rfl⟩)
  ·exact tG_ rfl hd_ (gV c_ ⟨rfl,rfl⟩)
  ·exact tG_ rfl hd_ (gV (iv 3) ⟨rfl,rfl⟩)
  ·exact tG_ rfl hd_ (gV c_ ⟨rfl,rfl⟩)
  ·exact absurd hi_ om_
 ·intro k_ c_ vals_ w1 hk_ hPh_ hd_
  rcases k_ with _|k_
  ·have S13:=St.id hPh_
   refine tG_ rfl hd_ (gv_call (args:=#[pq gd,nI_ l.first]) rfl Try.func26 kr_ rfl rfl kr_ ?_)
   have S14:=St.pm 2 [1,0] S13
   refine Calls.mono (pw_read_dead S14 hz) ?_
   rintro _ w15 ⟨v17,rfl,S16⟩
   refine ⟨_,rfl,⟨(v17),rfl, ?_,S16⟩⟩
   intro i_ hi_ hne_ hdp_
   rcases i_ with _|_|_|_|_|_|_|_|_|_|_|_|_|i_
   ·rfl
   ·rfl
   ·rfl
   ·rfl
   ·rfl
   ·rfl
   ·rfl
   ·rfl
   ·exact absurd rfl hne_
   ·exact dN_ hdp_
   ·exact dN_ hdp_
   ·exact dN_ hdp_
   ·exact dN_ hdp_
   ·exact absurd hi_ om_
  ·exact absurd hk_ (by simp)
 ·intro c_ w1 hPh_
  have S18:=St.id hPh_
  refine (pv (iv 3) (wE (nS (sR (pv (iv 3) (dN 3 0 (fun _=>wE (nCT (sR (pv (iv 3) (pv (nS_) (pv (nS_) (pv (iv 3) ?_))))))) fun hd19=>False.elim om_))))))
  refine wE (then_n (rR (bodyPost_ret (v:=.tuple #[nS_,nS_,iv 3]) (Go.Vel.results_tmp3 rfl _ _ kr_ kr_ kr_) rfl ?_)))
  have S20:=St.pm 2 [1,0] S18
  exact ⟨rfl,S20⟩
theorem w_pair {g gd:Nat}{l:Lg}{s:Dsk}(S:St F w0 w (PLog g gd l::PW gd s::L))(hl:LOk l)(hz:s.left≠0)(hin:l.first+1<s.last.length):Calls Try.prog 109 #[.pointer (some ⟨g,0,none⟩)] w fun e w'=>∃A B,e=.returned (.tuple #[.slice A 512 512,.slice B 512 512,.int .i64 0])∧St F w0 w' (bytesA (.slice A 512 512) (s.now l.first)::bytesA (.slice B 512 512) (s.now (l.first+1))::PLog g gd l::PW gd s::L):=by
 obtain ⟨h1,h2,h3,h4,h5,h6⟩:=hl
 change St F w0 w (row g (wC_ gd l l.head) 161::PW gd s::L) at S
 refine eN (fr [pq g] 38) Try.func109 rfl (sR (pv (nS_) (pv (nS_) (pv (iv 0) (wE (nS (wp_region_phu (γ:=Option Addr) 13 [8] (fun (c_:Option Addr) (i_:Nat)=>(match i_ with|0=>pq g|1=>pq g|2=>pq g|3=>pq gd|4=>pq g|5=>pq g|6=>po g 1|7=>nI_ l.first|8=>.tuple #[.slice c_ 512 512,iv 0]|9=>.tuple #[.slice c_ 512 512,iv 0]|10=>.slice c_ 512 512|11=>iv 0|12=>.slice c_ 512 512|_=>undef:Value)) (fun (c_:Option Addr) (p_:Nat) (w_:World)=>(match p_ with|0=>St F w0 w_ (row g (wC_ gd l l.head) 161::PW gd s::L)|_=>St F w0 w_ (bytesA (.slice c_ 512 512) (s.now l.first)::PW gd s::row g (wC_ gd l l.head) 161::L):Prop)) (none) kr_ kr_ kr_ kr_ (S.drew) ?_ ?_ ?_)))))))
 ·intro i_ c_ p_ vals_ w1 hi_ hiE_ hp_ hk_ hu_ hPh_ hd_
  rcases i_ with _|_|_|_|_|_|_|_|_|_|_|_|_|i_
  ·exact tG_ rfl hd_ (gV (pq g) ⟨rfl,rfl⟩)
  ·exact tG_ rfl hd_ (gV (pq g) ⟨rfl,rfl⟩)
  ·exact tG_ rfl hd_ (gV (pq g) ⟨rfl,rfl⟩)
  ·rcases p_ with _|_|p_
   ·have S4:=St.id hPh_
    exact tG_ rfl hd_ (gL (pq gd) rfl (((S4.blk 0 rfl).cell 0).trans rfl) ⟨rfl,rfl⟩)
   ·exact absurd (hu_ 0 dc_ kr_) dc_
   ·exact absurd hp_ (by simp)
  ·exact tG_ rfl hd_ (gV (pq g) ⟨rfl,rfl⟩)
  ·exact tG_ rfl hd_ (gV (pq g) ⟨rfl,rfl⟩)
  ·exact tG_ rfl hd_ (gV (po g 1) ⟨rfl,rfl⟩)
  ·rcases p_ with _|_|p_
   ·have S8:=St.id hPh_
    exact tG_ rfl hd_ (gL (nI_ l.first) rfl (((S8.blk 0 rfl).cell 1).trans rfl) ⟨rfl,rfl⟩)
   ·exact absurd (hu_ 0 dc_ kr_) dc_
   ·exact absurd hp_ (by simp)
  ·exact absurd hiE_ dc_
  ·exact tG_ rfl hd_ (gV (.tuple #[.slice c_ 512 512,iv 0]) ⟨rfl,rfl⟩)
  ·exact tG_ rfl hd_ (gV (.slice c_ 512 512) ⟨rfl,rfl⟩)
  ·exact tG_ rfl hd_ (gV (iv 0) ⟨rfl,rfl⟩)
  ·exact tG_ rfl hd_ (gV (.slice c_ 512 512) ⟨rfl,rfl⟩)
  ·exact absurd hi_ om_
 ·intro k_ c_ vals_ w1 hk_ hPh_ hd_
  rcases k_ with _|k_
  ·have S13:=St.id hPh_
   refine tG_ rfl hd_ (gv_call (args:=#[pq gd,nI_ l.first]) rfl Try.func26 kr_ rfl rfl kr_ ?_)
   have S14:=St.pm 2 [1,0] S13
   refine Calls.mono (pw_read (k:=l.first) S14 hz om_) ?_
   rintro _ w15 ⟨m17,rfl,S16⟩
   refine ⟨_,rfl,⟨(m17),rfl, ?_,S16⟩⟩
   intro i_ hi_ hne_ hdp_
   rcases i_ with _|_|_|_|_|_|_|_|_|_|_|_|_|i_
   ·rfl
   ·rfl
   ·rfl
   ·rfl
   ·rfl
   ·rfl
   ·rfl
   ·rfl
   ·exact absurd rfl hne_
   ·exact dN_ hdp_
   ·exact dN_ hdp_
   ·exact dN_ hdp_
   ·exact dN_ hdp_
   ·exact absurd hi_ om_
  ·exact absurd hk_ (by simp)
 ·intro c_ w1 hPh_
  have S18:=St.id hPh_
  refine (pv (iv 0) (wE (nS (sR (pv (iv 0) (dN 0 0 (fun hd19=>False.elim om_) fun _=>wE (nCF (wp_skip (nS (wp_region_phu (γ:=Option Addr) 14 [9] (fun (c2_:Option Addr) (i_:Nat)=>(match i_ with|0=>pq g|1=>pq g|2=>pq g|3=>pq gd|4=>pq g|5=>pq g|6=>po g 1|7=>nI_ l.first|8=>nI_ (l.first+1)|9=>.tuple #[.slice c2_ 512 512,iv 0]|10=>.tuple #[.slice c2_ 512 512,iv 0]|11=>.slice c2_ 512 512|12=>iv 0|13=>.slice c2_ 512 512|_=>undef:Value)) (fun (c2_:Option Addr) (p_:Nat) (w_:World)=>(match p_ with|0=>St F w0 w_ (bytesA (.slice c_ 512 512) (s.now l.first)::PW gd s::row g (wC_ gd l l.head) 161::L)|_=>St F w0 w_ (bytesA (.slice c2_ 512 512) (s.now (l.first+1))::PW gd s::bytesA (.slice c_ 512 512) (s.now l.first)::row g (wC_ gd l l.head) 161::L):Prop)) (none) kr_ kr_ kr_ kr_ (S18.drew) ?_ ?_ ?_))))))))))
  ·intro i_ c2_ p_ vals_ w1 hi_ hiE_ hp_ hk_ hu_ hPh_ hd_
   rcases i_ with _|_|_|_|_|_|_|_|_|_|_|_|_|_|i_
   ·exact tG_ rfl hd_ (gV (pq g) ⟨rfl,rfl⟩)
   ·exact tG_ rfl hd_ (gV (pq g) ⟨rfl,rfl⟩)
   ·exact tG_ rfl hd_ (gV (pq g) ⟨rfl,rfl⟩)
   ·rcases p_ with _|_|p_
    ·have S23:=St.id hPh_
     exact tG_ rfl hd_ (gL (pq gd) rfl (((S23.blk 2 rfl).cell 0).trans rfl) ⟨rfl,rfl⟩)
    ·exact absurd (hu_ 0 dc_ kr_) dc_
    ·exact absurd hp_ (by simp)
   ·exact tG_ rfl hd_ (gV (pq g) ⟨rfl,rfl⟩)
   ·exact tG_ rfl hd_ (gV (pq g) ⟨rfl,rfl⟩)
   ·exact tG_ rfl hd_ (gV (po g 1) ⟨rfl,rfl⟩)
   ·rcases p_ with _|_|p_
    ·have S27:=St.id hPh_
     exact tG_ rfl hd_ (gL (nI_ l.first) rfl (((S27.blk 2 rfl).cell 1).trans rfl) ⟨rfl,rfl⟩)
    ·exact absurd (hu_ 0 dc_ kr_) dc_
    ·exact absurd hp_ (by simp)
   ·exact tG_ rfl hd_ (gv_int (k:=.i64) (z:=IntKind.i64.wrap (((l.first:Nat):Int)+1)) (z':=((l.first+1:Nat):Int)) kr_ wq_ ⟨rfl,rfl⟩)
   ·exact absurd hiE_ dc_
   ·exact tG_ rfl hd_ (gV (.tuple #[.slice c2_ 512 512,iv 0]) ⟨rfl,rfl⟩)
   ·exact tG_ rfl hd_ (gV (.slice c2_ 512 512) ⟨rfl,rfl⟩)
   ·exact tG_ rfl hd_ (gV (iv 0) ⟨rfl,rfl⟩)
   ·exact tG_ rfl hd_ (gV (.slice c2_ 512 512) ⟨rfl,rfl⟩)
   ·exact absurd hi_ om_
  ·intro k_ c2_ vals_ w1 hk_ hPh_ hd_
   rcases k_ with _|k_
   ·have S33:=St.id hPh_
    refine tG_ rfl hd_ (gv_call (args:=#[pq gd,nI_ (l.first+1)]) rfl Try.func26 kr_ rfl rfl kr_ ?_)
    have S34:=St.pm 3 [1,0,2] S33
    refine Calls.mono (pw_read (k:=l.first+1) S34 hz om_) ?_
    rintro _ w35 ⟨m37,rfl,S36⟩
    refine ⟨_,rfl,⟨(m37),rfl, ?_,S36⟩⟩
    intro i_ hi_ hne_ hdp_
    rcases i_ with _|_|_|_|_|_|_|_|_|_|_|_|_|_|i_
    ·rfl
    ·rfl
    ·rfl
    ·rfl
    ·rfl
    ·rfl
    ·rfl
    ·rfl
    ·rfl
    ·exact absurd rfl hne_
    ·exact dN_ hdp_
    ·exact dN_ hdp_
    ·exact dN_ hdp_
    ·exact dN_ hdp_
    ·exact absurd hi_ om_
   ·exact absurd hk_ (by simp)
  ·intro c2_ w1 hPh_
   have S38:=St.id hPh_
   refine (pv (iv 0) (wE (nSR (pv (.slice c_ 512 512) (pv (.slice c2_ 512 512) (pv (iv 0) (pv (.slice c_ 512 512) (pv (.slice c2_ 512 512) (pv (iv 0) (wE (then_n (wp_ret (bodyPost_ret (v:=.tuple #[.slice c_ 512 512,.slice c2_ 512 512,iv 0]) (Go.Vel.results_tmp3 rfl _ _ kr_ kr_ kr_) rfl ?_)))))))))))))
   have S39:=St.pm 4 [2,0,3,1] S38
   exact ⟨_,_,rfl,S39⟩
theorem w_anchor_dead {g gd:Nat}{l:Lg}{s:Dsk}(S:St F w0 w (PLog g gd l::PW gd s::L))(hl:LOk l){ep tl:Nat}(hep:ep≤1073741824)(htl:tl<4294967296)(hpn:s.pend.length<4398046511104)(hz:s.left=0):Calls Try.prog 103 #[.pointer (some ⟨g,0,none⟩),.int .i64 (ep:Nat),.int .i64 (tl:Nat)] w fun e w'=>e=.returned (.int .i64 (renewR s l.first (ep*4294967296+tl)).2)∧St F w0 w' (PLog g gd (if (renewR s l.first (ep*4294967296+tl)).2=0 then {l with epoch:=ep,tail:=tl} else l)::PW gd ((renewR s l.first (ep*4294967296+tl)).1)::L):=by
 rw [renewR_dead hz]
 change St F w0 w (row g (wC_ gd l l.head) 161::PW gd s::L) at S
 refine eN (fr [pq g,nI_ ep,nI_ tl] 64) Try.func103 rfl (sR (pv (iv 0) (wER (pv (pq g) (sP Try.func109 #[pq g] (w_pair_dead S hz) fun w1 S2=>pv (.tuple #[nS_,nS_,iv 3]) (pv (nS_) (pv (nS_) (pv (iv 3) (pv (nS_) (pv (nS_) (pv (iv 3) (wE ?_))))))))))))
 exact nS (sR (pv (iv 3) (dN 3 0 (fun _=>wE (nCT (sR (pv (iv 3) (pv (iv 3) (wE (then_n (rR (bA (iv 3) ⟨rfl,S2⟩))))))))) fun hd3=>False.elim om_)))
theorem w_anchor_go {g gd:Nat}{l:Lg}{s:Dsk}(S:St F w0 w (PLog g gd l::PW gd s::L))(hl:LOk l){ep tl:Nat}(hep:ep≤1073741824)(htl:tl<4294967296)(hpn:s.pend.length<4398046511104)(hz:s.left≠0)(hin:l.first+1<s.last.length)(hren:(renewF (s.now l.first) (s.now (l.first+1)) ((ep*4294967296+tl:Nat):Int) []).2.2=0):Calls Try.prog 103 #[.pointer (some ⟨g,0,none⟩),.int .i64 (ep:Nat),.int .i64 (tl:Nat)] w fun e w'=>e=.returned (.int .i64 (renewR s l.first (ep*4294967296+tl)).2)∧St F w0 w' (PLog g gd (if (renewR s l.first (ep*4294967296+tl)).2=0 then {l with epoch:=ep,tail:=tl} else l)::PW gd ((renewR s l.first (ep*4294967296+tl)).1)::L):=by
 have hok:=St.pw_ok S.tail
 have ha5:=hok.now (k:=l.first) om_
 have hb5:=hok.now (k:=l.first+1) hin
 obtain ⟨hq1,hq5⟩:=renew_ok ha5 hb5 hren
 rw [renewR_go hz hin hq1 hq5]
 unfold Dsk.anch
 obtain ⟨q,hq⟩:∃q,renewF (s.now l.first) (s.now (l.first+1)) ((ep*4294967296+tl:Nat):Int) []=q:=⟨_,rfl⟩
 have hn2:=hok.n2
 rw [hq] at hq1 hq5 hren ⊢
 obtain ⟨s1,hs1⟩:∃s1,s.wrote (l.first+q.1) q.2.1=s1:=⟨_,rfl⟩
 rw [hs1]
 change St F w0 w (row g (wC_ gd l l.head) 161::PW gd s::L) at S
 refine eN (fr [pq g,nI_ ep,nI_ tl] 64) Try.func103 rfl (sR (pv (iv 0) (wER (pv (pq g) (sP2 Try.func109 #[pq g] (w_pair S hl hz hin) fun A7 B7 w1 S2=>pv (.tuple #[.slice A7 512 512,.slice B7 512 512,iv 0]) (pv (.slice A7 512 512) (pv (.slice B7 512 512) (pv (iv 0) (pv (.slice A7 512 512) (pv (.slice B7 512 512) (pv (iv 0) (wE ?_))))))))))))
 refine nS (sR (pv (iv 0) (dN 0 0 (fun hd3=>False.elim om_) fun _=>wE (nCF (wp_skip (nSR (pv (.slice A7 512 512) (pv (.slice B7 512 512) (pv (nI_ ep) (g_ (gv_shl (k:=.i64) (yk:=.u64) (z:=((ep:Nat):Int)) (i:=32) (j:=32) (z':=((ep*4294967296:Nat):Int)) rfl kr_ kr_ rfl dc_ wq_ (pv (nI_ tl) (gI .i64 (IntKind.i64.wrap (((ep*4294967296:Nat):Int)+((tl:Nat):Int))) ((ep*4294967296+tl:Nat):Int) wq_ ?_)))))))))))))
 refine g_ (gv_call (args:=#[.slice A7 512 512,.slice B7 512 512,nI_ (ep*4294967296+tl),nS_]) rfl Try.func133 kr_ rfl rfl kr_ ?_)
 have hrn:=ps_renew0 (ca:=512) (cb:=512) S2 (a:=s.now l.first) (b:=s.now (l.first+1)) (no:=((ep*4294967296+tl:Nat):Int)) ha5.symm hb5.symm (RoT.bytes 0 rfl rfl) (RoT.bytes 1 rfl rfl) om_ om_ om_ (by rw [hq];exact hren) (by rw [hq];exact hq5)
 rw [hq] at hrn
 refine Calls.mono hrn ?_
 rintro _ w4 ⟨A8,c8,rfl,S5⟩
 refine ⟨_,rfl,(pv (.tuple #[iv (q.1:Int),.slice A8 512 c8,iv 0]) (pv (iv (q.1:Int)) (pv (.slice A8 512 c8) (pv (iv 0) (pv (iv (q.1:Int)) (pv (.slice A8 512 c8) (pv (iv 0) (wE (nS (sR (pv (iv 0) (dN 0 0 (fun hd6=>False.elim om_) fun _=>wE ?_))))))))))))⟩
 refine nCF (wp_skip (nS (wp_seq (wp_region_phu (γ:=Unit) 12 [11] (fun (c_:Unit) (i_:Nat)=>(match i_ with|0=>pq g|1=>pq g|2=>pq g|3=>pq gd|4=>pq g|5=>pq g|6=>po g 1|7=>nI_ l.first|8=>iv (q.1:Int)|9=>nI_ (l.first+q.1)|10=>.slice A8 512 c8|11=>iv 0|_=>undef:Value)) (fun (c_:Unit) (p_:Nat) (w_:World)=>(match p_ with|0=>St F w0 w_ (bytesX (.slice A8 512 c8) q.2.1::bytesA (.slice A7 512 512) (s.now l.first)::bytesA (.slice B7 512 512) (s.now (l.first+1))::row g (wC_ gd l l.head) 161::PW gd s::L)|_=>St F w0 w_ (PW gd s1::bytesX (.slice A8 512 c8) q.2.1::bytesA (.slice A7 512 512) (s.now l.first)::bytesA (.slice B7 512 512) (s.now (l.first+1))::row g (wC_ gd l l.head) 161::L):Prop)) () kr_ kr_ kr_ kr_ (S5.drew) ?_ ?_ ?_))))
 ·intro i_ c_ p_ vals_ w1 hi_ hiE_ hp_ hk_ hu_ hPh_ hd_
  rcases i_ with _|_|_|_|_|_|_|_|_|_|_|_|i_
  ·exact tG_ rfl hd_ (gV (pq g) ⟨rfl,rfl⟩)
  ·exact tG_ rfl hd_ (gV (pq g) ⟨rfl,rfl⟩)
  ·exact tG_ rfl hd_ (gV (pq g) ⟨rfl,rfl⟩)
  ·rcases p_ with _|_|p_
   ·have S10:=St.id hPh_
    exact tG_ rfl hd_ (gL (pq gd) rfl (((S10.blk 3 rfl).cell 0).trans rfl) ⟨rfl,rfl⟩)
   ·exact absurd (hu_ 0 dc_ kr_) dc_
   ·exact absurd hp_ (by simp)
  ·exact tG_ rfl hd_ (gV (pq g) ⟨rfl,rfl⟩)
  ·exact tG_ rfl hd_ (gV (pq g) ⟨rfl,rfl⟩)
  ·exact tG_ rfl hd_ (gV (po g 1) ⟨rfl,rfl⟩)
  ·rcases p_ with _|_|p_
   ·have S14:=St.id hPh_
    exact tG_ rfl hd_ (gL (nI_ l.first) rfl (((S14.blk 3 rfl).cell 1).trans rfl) ⟨rfl,rfl⟩)
   ·exact absurd (hu_ 0 dc_ kr_) dc_
   ·exact absurd hp_ (by simp)
  ·exact tG_ rfl hd_ (gV (iv (q.1:Int)) ⟨rfl,rfl⟩)
  ·exact tG_ rfl hd_ (gv_int (k:=.i64) (z:=IntKind.i64.wrap (((l.first:Nat):Int)+(q.1:Int))) (z':=((l.first+q.1:Nat):Int)) kr_ wq_ ⟨rfl,rfl⟩)
  ·exact tG_ rfl hd_ (gV (.slice A8 512 c8) ⟨rfl,rfl⟩)
  ·exact absurd hiE_ dc_
  ·exact absurd hi_ om_
 ·intro k_ c_ vals_ w1 hk_ hPh_ hd_
  rcases k_ with _|k_
  ·have S18:=St.id hPh_
   refine tG_ rfl hd_ (gv_call (args:=#[pq gd,nI_ (l.first+q.1),.slice A8 512 c8]) rfl Try.func33 kr_ rfl rfl kr_ ?_)
   have S19:St F w0 w1 (PW gd s::bytesX (.slice A8 512 c8) q.2.1::bytesA (.slice A7 512 512) (s.now l.first)::bytesA (.slice B7 512 512) (s.now (l.first+1))::row g (wC_ gd l l.head) 161::L):=St.pm 5 [4,0,1,2,3] S18
   refine Calls.mono (pw_write_go (k:=l.first+q.1) S19 (RoT.bytesX 0 rfl rfl) hq5.symm hq5 hz om_ hpn) ?_
   rintro _ w20 ⟨rfl,S21⟩
   refine ⟨_,rfl, ?_⟩
   rw [hs1] at S21
   refine ⟨(),rfl, ?_,S21⟩
   intro i_ hi_ hne_ hdp_
   rcases i_ with _|_|_|_|_|_|_|_|_|_|_|_|i_
   ·rfl
   ·rfl
   ·rfl
   ·rfl
   ·rfl
   ·rfl
   ·rfl
   ·rfl
   ·rfl
   ·rfl
   ·rfl
   ·exact absurd rfl hne_
   ·exact absurd hi_ om_
  ·exact absurd hk_ (by simp)
 ·intro c_ w1 hPh_
  have S22:=St.id hPh_
  refine (pv (iv 0) (wE ?_))
  refine nSR (pv (iv 0) (dN 0 0 (fun hd23=>False.elim om_) fun _=>wE (nCF (wp_skip (nS (sR (pv (pq g) (pv (pq g) (pv (pq g) (lR (pq gd) S22 4 0 (sP Try.func87 #[pq gd] (pw_flush S22) fun w24 S25=>pv (iv s1.flushR.2) ?_)))))))))))
  refine wER (pv (iv s1.flushR.2) (dN s1.flushR.2 0 (fun hfl=> ?_) fun hfl=> ?_))
  ·refine wE (nCT (sR (pv (iv s1.flushR.2) (pv (iv s1.flushR.2) (wE (then_n (rR (bA (iv s1.flushR.2) ?_))))))))
   have S26:=St.pm 5 [4,0] S25
   rw [if_neg hfl]
   exact ⟨rfl,S26⟩
  ·refine wE (nCF (wp_skip (nSR (pv (pq g) (pv (pq g) (pv (nI_ ep) (pv (nI_ tl) (pv (pq g) (pv (po g 4) (sS S25 4 rfl 4 (nI_ ep) fun w27 S28=>pv (pq g) (pv (po g 6) (sS S28 4 rfl 6 (nI_ tl) fun w29 S30=> ?_))))))))))))
   refine wER (pv (iv 0) (wE (then_n (wp_ret (bA (iv 0) ?_)))))
   have S31:=St.pm 5 [4,0] S30
   rw [if_pos hfl,hfl]
   exact ⟨rfl,S31⟩
theorem w_anchor {g gd:Nat}{l:Lg}{s:Dsk}(S:St F w0 w (PLog g gd l::PW gd s::L))(hl:LOk l){ep tl:Nat}(hep:ep≤1073741824)(htl:tl<4294967296)(hpn:s.pend.length<4398046511104)(hin:s.left≠0→l.first+1<s.last.length)(hren:s.left≠0→(renewF (s.now l.first) (s.now (l.first+1)) ((ep*4294967296+tl:Nat):Int) []).2.2=0):Calls Try.prog 103 #[.pointer (some ⟨g,0,none⟩),.int .i64 (ep:Nat),.int .i64 (tl:Nat)] w fun e w'=>e=.returned (.int .i64 (renewR s l.first (ep*4294967296+tl)).2)∧St F w0 w' (PLog g gd (if (renewR s l.first (ep*4294967296+tl)).2=0 then {l with epoch:=ep,tail:=tl} else l)::PW gd ((renewR s l.first (ep*4294967296+tl)).1)::L):=by
 by_cases hz:s.left=0
 ·exact w_anchor_dead S hl hep htl hpn hz
 ·exact w_anchor_go S hl hep htl hpn hz (hin hz) (hren hz)
end
section
variable {F:Nat→Prop} {w0 w:World} {L:List Ast}
theorem aliveE_ne {s:Dsk}{l:Lg}(h:¬aliveE s l=0):aliveR s l=false∧aliveE s l=3:=by
 unfold aliveE at h ⊢
 cases e:aliveR s l with
 |true=>rw [e] at h;exact absurd rfl h
 |false=>exact ⟨rfl,rfl⟩
theorem aliveE_eq {s:Dsk}{l:Lg}(h:aliveE s l=0):aliveR s l=true:=by
 unfold aliveE at h
 cases e:aliveR s l with
 |true=>rfl
 |false=>rw [e] at h;cases h
theorem flush_facts (s:Dsk):s.flushR.1.last.length=s.last.length∧s.flushR.1.pend.length≤s.pend.length:=by
 rcases flushR_cases s with ⟨h,e⟩|⟨h,e⟩
 ·rw [e];exact ⟨rfl,Nat.le_refl _⟩
 ·rw [e];exact ⟨length_applyP _ _,Nat.zero_le _⟩
theorem w_sync {g gd:Nat}{l:Lg}{s:Dsk}(S:St F w0 w (PLog g gd l::PW gd s::L)):Calls Try.prog 60 #[.pointer (some ⟨g,0,none⟩)] w fun e w'=>e=.returned (.int .i64 (syncR s l).2)∧St F w0 w' (PLog g gd l::PW gd ((syncR s l).1)::L):=by
 change St F w0 w (row g (wC_ gd l l.head) 161::PW gd s::L) at S
 refine eN (fr [pq g] 13) Try.func60 rfl (sR (pv (iv 0) (wE (nS (sR (pv (pq g) (sP Try.func104 #[pq g] (w_ready S) fun w1 S2=>pv (iv (readyR s l)) (wER (pv (iv (readyR s l)) (dN (readyR s l) 0 (fun hr=> ?_) fun hr=> ?_))))))))))
 ·refine wE (nCT (sR (pv (iv (readyR s l)) (pv (iv (readyR s l)) (wE (then_n (rR (bA (iv (readyR s l)) ?_))))))))
  have e:syncR s l=(s,readyR s l):=by unfold syncR;rw [if_pos hr]
  rw [e]
  exact ⟨rfl,S2⟩
 ·refine wE (nCF (wp_skip (nSR (pv (pq g) (pv (pq g) (pv (pq g) (lR (pq gd) S2 0 0 (g_ (gv_call (args:=#[pq gd]) rfl Try.func87 kr_ rfl rfl kr_ ?_)))))))))
  have S3:=St.pm 2 [1,0] S2
  refine Calls.mono (pw_flush S3) ?_
  rintro _ w4 ⟨rfl,S5⟩
  refine ⟨_,rfl,(pv (iv s.flushR.2) (wE (then_n (wp_ret (bA (iv s.flushR.2) ?_)))))⟩
  have e:syncR s l=s.flushR:=by unfold syncR;rw [if_neg (fun h=>h hr)]
  rw [e]
  have S6:=St.pm 2 [1,0] S5
  exact ⟨rfl,S6⟩
theorem w_trim {g gd:Nat}{l:Lg}{s:Dsk}(S:St F w0 w (PLog g gd l::PW gd s::L))(hl:LOk l)(hh:LHd l)(hpn:s.pend.length<4398046511104)(hin:l.first+1<s.last.length)(hren:readyR s l=0→s.flushR.1.left≠0→l.tail≠l.head→(renewF (s.flushR.1.now l.first) (s.flushR.1.now (l.first+1)) ((l.epoch*4294967296+l.head:Nat):Int) []).2.2=0):Calls Try.prog 55 #[.pointer (some ⟨g,0,none⟩)] w fun e w'=>e=.returned (.int .i64 (trimR s l).2.2)∧St F w0 w' (PLog g gd ((trimR s l).2.1)::PW gd ((trimR s l).1)::L):=by
 obtain ⟨hf1,hf2⟩:=flush_facts s
 have hl4:=hl.epoch
 have hl6:=hl.tail
 have hl8:=hh.ht
 have hl3:=hl.n
 by_cases hr:readyR s l≠0
 ·have e:trimR s l=(s,l,readyR s l):=by unfold trimR;rw [if_pos hr]
  have e2:syncR s l=(s,readyR s l):=by unfold syncR;rw [if_pos hr]
  rw [e]
  change St F w0 w (row g (wC_ gd l l.head) 161::PW gd s::L) at S
  refine eN (fr [pq g] 29) Try.func55 rfl (sR (pv (iv 0) (wE (nS (sR (pv (pq g) (g_ (gv_call (args:=#[pq g]) rfl Try.func60 kr_ rfl rfl kr_ ?_))))))))
  have hsy:=w_sync S
  rw [e2] at hsy
  refine Calls.mono hsy ?_
  rintro _ w1 ⟨rfl,S2⟩
  refine ⟨_,rfl,(pv (iv (readyR s l)) (wE (nS (wp_region_phu (γ:=Unit) 13 [] (fun (c_:Unit) (i_:Nat)=>(match i_ with|0=>iv (readyR s l)|1=>.bool true|2=>.bool true|3=>undef|4=>undef|5=>undef|6=>undef|7=>undef|8=>undef|9=>undef|10=>undef|11=>undef|12=>.bool true|_=>undef:Value)) (fun (c_:Unit) (p_:Nat) (w_:World)=>(match p_ with|_=>St F w0 w_ (row g (wC_ gd l l.head) 161::PW gd s::L):Prop)) () kr_ kr_ kr_ kr_ (S2.drew) ?_ ?_ ?_))))⟩
  ·intro i_ c_ p_ vals_ w1 hi_ hiE_ hp_ hk_ hu_ hPh_ hd_
   rcases i_ with _|_|_|_|_|_|_|_|_|_|_|_|_|i_
   ·exact tG_ rfl hd_ (gV (iv (readyR s l)) ⟨rfl,rfl⟩)
   ·exact tG_ rfl hd_ (gB_ (b:=(readyR s l) !=0) (b':=true) kr_ (by simp;exact hr) ⟨rfl,rfl⟩)
   ·exact tG_ rfl hd_ (gV (.bool true) ⟨rfl,rfl⟩)
   ·exact tO_ 2 8 2 false true rfl hd_ ⟨rfl,rfl⟩
   ·exact tO_ 2 8 2 false true rfl hd_ ⟨rfl,rfl⟩
   ·exact tO_ 2 8 2 false true rfl hd_ ⟨rfl,rfl⟩
   ·exact tO_ 2 8 2 false true rfl hd_ ⟨rfl,rfl⟩
   ·exact tO_ 2 8 2 false true rfl hd_ ⟨rfl,rfl⟩
   ·exact tO_ 2 8 2 false true rfl hd_ ⟨rfl,rfl⟩
   ·exact tO_ 2 8 2 false true rfl hd_ ⟨rfl,rfl⟩
   ·exact tO_ 2 8 2 false true rfl hd_ ⟨rfl,rfl⟩
   ·exact tO_ 2 8 2 false true rfl hd_ ⟨rfl,rfl⟩
   ·exact tG_ rfl hd_ (gV (.bool true) ⟨rfl,rfl⟩)
   ·exact absurd hi_ om_
  ·intro k_ c_ vals_ w1 hk_ hPh_ hd_
   exact absurd hk_ (Nat.not_lt_zero _)
  ·intro c_ w1 hPh_
   have S16:=St.id hPh_
   exact (wE (nCT (sR (pv (iv (readyR s l)) (pv (iv (readyR s l)) (wE (then_n (rR (bA (iv (readyR s l)) ⟨rfl,S16⟩)))))))))
 have hr:readyR s l=0:=by omega
 have e2:syncR s l=s.flushR:=by unfold syncR;rw [if_neg (fun h=>h hr)]
 by_cases hfl:s.flushR.2≠0
 ·have e:trimR s l=(s.flushR.1,l,s.flushR.2):=by unfold trimR;rw [if_neg (fun h=>h hr),if_pos (.inl hfl)]
  rw [e]
  change St F w0 w (row g (wC_ gd l l.head) 161::PW gd s::L) at S
  refine eN (fr [pq g] 29) Try.func55 rfl (sR (pv (iv 0) (wE (nS (sR (pv (pq g) (g_ (gv_call (args:=#[pq g]) rfl Try.func60 kr_ rfl rfl kr_ ?_))))))))
  have hsy:=w_sync S
  rw [e2] at hsy
  refine Calls.mono hsy ?_
  rintro _ w1 ⟨rfl,S2⟩
  refine ⟨_,rfl,(pv (iv s.flushR.2) (wE (nS (wp_region_phu (γ:=Unit) 13 [] (fun (c_:Unit) (i_:Nat)=>(match i_ with|0=>iv s.flushR.2|1=>.bool true|2=>.bool true|3=>undef|4=>undef|5=>undef|6=>undef|7=>undef|8=>undef|9=>undef|10=>undef|11=>undef|12=>.bool true|_=>undef:Value)) (fun (c_:Unit) (p_:Nat) (w_:World)=>(match p_ with|_=>St F w0 w_ (row g (wC_ gd l l.head) 161::PW gd s.flushR.1::L):Prop)) () kr_ kr_ kr_ kr_ (S2.drew) ?_ ?_ ?_))))⟩
  ·intro i_ c_ p_ vals_ w1 hi_ hiE_ hp_ hk_ hu_ hPh_ hd_
   rcases i_ with _|_|_|_|_|_|_|_|_|_|_|_|_|i_
   ·exact tG_ rfl hd_ (gV (iv s.flushR.2) ⟨rfl,rfl⟩)
   ·exact tG_ rfl hd_ (gB_ (b:=s.flushR.2 !=0) (b':=true) kr_ (by simp;exact hfl) ⟨rfl,rfl⟩)
   ·exact tG_ rfl hd_ (gV (.bool true) ⟨rfl,rfl⟩)
   ·exact tO_ 2 8 2 false true rfl hd_ ⟨rfl,rfl⟩
   ·exact tO_ 2 8 2 false true rfl hd_ ⟨rfl,rfl⟩
   ·exact tO_ 2 8 2 false true rfl hd_ ⟨rfl,rfl⟩
   ·exact tO_ 2 8 2 false true rfl hd_ ⟨rfl,rfl⟩
   ·exact tO_ 2 8 2 false true rfl hd_ ⟨rfl,rfl⟩
   ·exact tO_ 2 8 2 false true rfl hd_ ⟨rfl,rfl⟩
   ·exact tO_ 2 8 2 false true rfl hd_ ⟨rfl,rfl⟩
   ·exact tO_ 2 8 2 false true rfl hd_ ⟨rfl,rfl⟩
   ·exact tO_ 2 8 2 false true rfl hd_ ⟨rfl,rfl⟩
   ·exact tG_ rfl hd_ (gV (.bool true) ⟨rfl,rfl⟩)
   ·exact absurd hi_ om_
  ·intro k_ c_ vals_ w1 hk_ hPh_ hd_
   exact absurd hk_ (Nat.not_lt_zero _)
  ·intro c_ w1 hPh_
   have S16:=St.id hPh_
   exact (wE (nCT (sR (pv (iv s.flushR.2) (pv (iv s.flushR.2) (wE (then_n (rR (bA (iv s.flushR.2) ⟨rfl,S16⟩)))))))))
 have hfl0:s.flushR.2=0:=by omega
 by_cases hth:l.tail=l.head
 ·have e:trimR s l=(s.flushR.1,l,s.flushR.2):=by unfold trimR;rw [if_neg (fun h=>h hr),if_pos (.inr hth)]
  rw [e]
  change St F w0 w (row g (wC_ gd l l.head) 161::PW gd s::L) at S
  refine eN (fr [pq g] 29) Try.func55 rfl (sR (pv (iv 0) (wE (nS (sR (pv (pq g) (g_ (gv_call (args:=#[pq g]) rfl Try.func60 kr_ rfl rfl kr_ ?_))))))))
  have hsy:=w_sync S
  rw [e2] at hsy
  refine Calls.mono hsy ?_
  rintro _ w1 ⟨rfl,S2⟩
  refine ⟨_,rfl,(pv (iv s.flushR.2) (wE (nS (wp_region_phu (γ:=Unit) 13 [] (fun (c_:Unit) (i_:Nat)=>(match i_ with|0=>iv s.flushR.2|1=>.bool false|2=>.bool false|3=>pq g|4=>pq g|5=>po g 6|6=>nI_ l.tail|7=>pq g|8=>pq g|9=>po g 7|10=>nI_ l.head|11=>.bool true|12=>.bool true|_=>undef:Value)) (fun (c_:Unit) (p_:Nat) (w_:World)=>(match p_ with|_=>St F w0 w_ (row g (wC_ gd l l.head) 161::PW gd s.flushR.1::L):Prop)) () kr_ kr_ kr_ kr_ (S2.drew) ?_ ?_ ?_))))⟩
  ·intro i_ c_ p_ vals_ w1 hi_ hiE_ hp_ hk_ hu_ hPh_ hd_
   rcases i_ with _|_|_|_|_|_|_|_|_|_|_|_|_|i_
   ·exact tG_ rfl hd_ (gV (iv s.flushR.2) ⟨rfl,rfl⟩)
   ·exact tG_ rfl hd_ (gB_ (b:=s.flushR.2 !=0) (b':=false) kr_ (by simp;exact hfl0) ⟨rfl,rfl⟩)
   ·exact tG_ rfl hd_ (gV (.bool false) ⟨rfl,rfl⟩)
   ·exact tW_ 2 8 2 false rfl hd_ (gv_val (v:=pq g) (w':=w1) kr_ ⟨rfl,rfl⟩)
   ·exact tW_ 2 8 2 false rfl hd_ (gv_val (v:=pq g) (w':=w1) kr_ ⟨rfl,rfl⟩)
   ·exact tW_ 2 8 2 false rfl hd_ (gv_val (v:=po g 6) (w':=w1) kr_ ⟨rfl,rfl⟩)
   ·have S9:=St.id hPh_
    exact tW_ 2 8 2 false rfl hd_ (gv_ldR (v:=nI_ l.tail) rfl kr_ kr_ (((S9.blk 0 rfl).cell 6).trans rfl) ⟨rfl,rfl⟩)
   ·exact tW_ 2 8 2 false rfl hd_ (gv_val (v:=pq g) (w':=w1) kr_ ⟨rfl,rfl⟩)
   ·exact tW_ 2 8 2 false rfl hd_ (gv_val (v:=pq g) (w':=w1) kr_ ⟨rfl,rfl⟩)
   ·exact tW_ 2 8 2 false rfl hd_ (gv_val (v:=po g 7) (w':=w1) kr_ ⟨rfl,rfl⟩)
   ·have S13:=St.id hPh_
    exact tW_ 2 8 2 false rfl hd_ (gv_ldR (v:=nI_ l.head) rfl kr_ kr_ (((S13.blk 0 rfl).cell 7).trans rfl) ⟨rfl,rfl⟩)
   ·exact tW_ 2 8 2 false rfl hd_ (gB_ (b:=((l.tail:Nat):Int)==((l.head:Nat):Int)) (b':=true) kr_ (by simp;omega) ⟨rfl,rfl⟩)
   ·exact tG_ rfl hd_ (gV (.bool true) ⟨rfl,rfl⟩)
   ·exact absurd hi_ om_
  ·intro k_ c_ vals_ w1 hk_ hPh_ hd_
   exact absurd hk_ (Nat.not_lt_zero _)
  ·intro c_ w1 hPh_
   have S16:=St.id hPh_
   exact (wE (nCT (sR (pv (iv s.flushR.2) (pv (iv s.flushR.2) (wE (then_n (rR (bA (iv s.flushR.2) ⟨rfl,S16⟩)))))))))
 have e:trimR s l=((renewR s.flushR.1 l.first (l.epoch*4294967296+l.head)).1,(if (renewR s.flushR.1 l.first (l.epoch*4294967296+l.head)).2=0 then {l with epoch:=l.epoch,tail:=l.head} else l),(renewR s.flushR.1 l.first (l.epoch*4294967296+l.head)).2):=by
  unfold trimR;rw [if_neg (fun h=>h hr),if_neg om_]
  by_cases h0:(renewR s.flushR.1 l.first (l.epoch*4294967296+l.head)).2=0
  ·simp only [h0,ne_eq,not_true,if_false,if_true]
  ·simp only [h0,ne_eq,not_false_iff,if_false,if_true]
 rw [e]
 change St F w0 w (row g (wC_ gd l l.head) 161::PW gd s::L) at S
 refine eN (fr [pq g] 29) Try.func55 rfl (sR (pv (iv 0) (wE (nS (sR (pv (pq g) (g_ (gv_call (args:=#[pq g]) rfl Try.func60 kr_ rfl rfl kr_ ?_))))))))
 have hsy:=w_sync S
 rw [e2] at hsy
 refine Calls.mono hsy ?_
 rintro _ w1 ⟨rfl,S2⟩
 refine ⟨_,rfl,(pv (iv s.flushR.2) (wE (nS (wp_region_phu (γ:=Unit) 13 [] (fun (c_:Unit) (i_:Nat)=>(match i_ with|0=>iv s.flushR.2|1=>.bool false|2=>.bool false|3=>pq g|4=>pq g|5=>po g 6|6=>nI_ l.tail|7=>pq g|8=>pq g|9=>po g 7|10=>nI_ l.head|11=>.bool false|12=>.bool false|_=>undef:Value)) (fun (c_:Unit) (p_:Nat) (w_:World)=>(match p_ with|_=>St F w0 w_ (row g (wC_ gd l l.head) 161::PW gd s.flushR.1::L):Prop)) () kr_ kr_ kr_ kr_ (S2.drew) ?_ ?_ ?_))))⟩
 ·intro i_ c_ p_ vals_ w1 hi_ hiE_ hp_ hk_ hu_ hPh_ hd_
  rcases i_ with _|_|_|_|_|_|_|_|_|_|_|_|_|i_
  ·exact tG_ rfl hd_ (gV (iv s.flushR.2) ⟨rfl,rfl⟩)
  ·exact tG_ rfl hd_ (gB_ (b:=s.flushR.2 !=0) (b':=false) kr_ (by simp;exact hfl0) ⟨rfl,rfl⟩)
  ·exact tG_ rfl hd_ (gV (.bool false) ⟨rfl,rfl⟩)
  ·exact tW_ 2 8 2 false rfl hd_ (gv_val (v:=pq g) (w':=w1) kr_ ⟨rfl,rfl⟩)
  ·exact tW_ 2 8 2 false rfl hd_ (gv_val (v:=pq g) (w':=w1) kr_ ⟨rfl,rfl⟩)
  ·exact tW_ 2 8 2 false rfl hd_ (gv_val (v:=po g 6) (w':=w1) kr_ ⟨rfl,rfl⟩)
  ·have S9:=St.id hPh_
   exact tW_ 2 8 2 false rfl hd_ (gv_ldR (v:=nI_ l.tail) rfl kr_ kr_ (((S9.blk 0 rfl).cell 6).trans rfl) ⟨rfl,rfl⟩)
  ·exact tW_ 2 8 2 false rfl hd_ (gv_val (v:=pq g) (w':=w1) kr_ ⟨rfl,rfl⟩)
  ·exact tW_ 2 8 2 false rfl hd_ (gv_val (v:=pq g) (w':=w1) kr_ ⟨rfl,rfl⟩)
  ·exact tW_ 2 8 2 false rfl hd_ (gv_val (v:=po g 7) (w':=w1) kr_ ⟨rfl,rfl⟩)
  ·have S13:=St.id hPh_
   exact tW_ 2 8 2 false rfl hd_ (gv_ldR (v:=nI_ l.head) rfl kr_ kr_ (((S13.blk 0 rfl).cell 7).trans rfl) ⟨rfl,rfl⟩)
  ·exact tW_ 2 8 2 false rfl hd_ (gB_ (b:=((l.tail:Nat):Int)==((l.head:Nat):Int)) (b':=false) kr_ (by simp;omega) ⟨rfl,rfl⟩)
  ·exact tG_ rfl hd_ (gV (.bool false) ⟨rfl,rfl⟩)
  ·exact absurd hi_ om_
 ·intro k_ c_ vals_ w1 hk_ hPh_ hd_
  exact absurd hk_ (Nat.not_lt_zero _)
 ·intro c_ w1 hPh_
  have S16:=St.id hPh_
  refine (wE (nCF (wp_skip (nS (wp_region_phu (γ:=Unit) 10 [9] (fun (c2_:Unit) (i_:Nat)=>(match i_ with|0=>pq g|1=>pq g|2=>pq g|3=>po g 4|4=>nI_ l.epoch|5=>pq g|6=>pq g|7=>po g 7|8=>nI_ l.head|9=>iv ((renewR s.flushR.1 l.first (l.epoch*4294967296+l.head)).2)|_=>undef:Value)) (fun (c2_:Unit) (p_:Nat) (w_:World)=>(match p_ with|0=>St F w0 w_ (row g (wC_ gd l l.head) 161::PW gd s.flushR.1::L)|_=>St F w0 w_ (PLog g gd (if (renewR s.flushR.1 l.first (l.epoch*4294967296+l.head)).2=0 then {l with epoch:=l.epoch,tail:=l.head} else l)::PW gd (renewR s.flushR.1 l.first (l.epoch*4294967296+l.head)).1::L):Prop)) () kr_ kr_ kr_ kr_ (S16.drew) ?_ ?_ ?_)))))
  ·intro i_ c2_ p_ vals_ w1 hi_ hiE_ hp_ hk_ hu_ hPh_ hd_
   rcases i_ with _|_|_|_|_|_|_|_|_|_|i_
   ·exact tG_ rfl hd_ (gV (pq g) ⟨rfl,rfl⟩)
   ·exact tG_ rfl hd_ (gV (pq g) ⟨rfl,rfl⟩)
   ·exact tG_ rfl hd_ (gV (pq g) ⟨rfl,rfl⟩)
   ·exact tG_ rfl hd_ (gV (po g 4) ⟨rfl,rfl⟩)
   ·rcases p_ with _|_|p_
    ·have S21:=St.id hPh_
     exact tG_ rfl hd_ (gL (nI_ l.epoch) rfl (((S21.blk 0 rfl).cell 4).trans rfl) ⟨rfl,rfl⟩)
    ·exact absurd (hu_ 0 dc_ kr_) dc_
    ·exact absurd hp_ (by simp)
   ·exact tG_ rfl hd_ (gV (pq g) ⟨rfl,rfl⟩)
   ·exact tG_ rfl hd_ (gV (pq g) ⟨rfl,rfl⟩)
   ·exact tG_ rfl hd_ (gV (po g 7) ⟨rfl,rfl⟩)
   ·rcases p_ with _|_|p_
    ·have S25:=St.id hPh_
     exact tG_ rfl hd_ (gL (nI_ l.head) rfl (((S25.blk 0 rfl).cell 7).trans rfl) ⟨rfl,rfl⟩)
    ·exact absurd (hu_ 0 dc_ kr_) dc_
    ·exact absurd hp_ (by simp)
   ·exact absurd hiE_ dc_
   ·exact absurd hi_ om_
  ·intro k_ c2_ vals_ w1 hk_ hPh_ hd_
   rcases k_ with _|k_
   ·have S26:=St.id hPh_
    refine tG_ rfl hd_ (gv_call (args:=#[pq g,nI_ l.epoch,nI_ l.head]) rfl Try.func103 kr_ rfl rfl kr_ (Calls.mono (w_anchor (ep:=l.epoch) (tl:=l.head) S26 hl om_ om_ om_ (fun _=>by omega) (fun h=>hren hr h hth)) ?_))
    rintro _ w27 ⟨rfl,S28⟩
    refine ⟨_,rfl,⟨(),rfl, ?_,S28⟩⟩
    intro i_ hi_ hne_ hdp_
    rcases i_ with _|_|_|_|_|_|_|_|_|_|i_
    ·rfl
    ·rfl
    ·rfl
    ·rfl
    ·rfl
    ·rfl
    ·rfl
    ·rfl
    ·rfl
    ·exact absurd rfl hne_
    ·exact absurd hi_ om_
   ·exact absurd hk_ (by simp)
  ·intro c2_ w1 hPh_
   have S29:=St.id hPh_
   exact (pv (iv ((renewR s.flushR.1 l.first (l.epoch*4294967296+l.head)).2)) (wE (then_n (wp_ret (bA (iv ((renewR s.flushR.1 l.first (l.epoch*4294967296+l.head)).2)) ⟨rfl,S29⟩)))))
theorem w_start {g gd:Nat}{l:Lg}{s:Dsk}(S:St F w0 w (PLog g gd l::PW gd s::L))(hl:LOk l)(hpn:s.pend.length<4398046511104)(hin:l.first+1<s.last.length)(hren:aliveR s l=true→l.begun=false→(renewF (s.now l.first) (s.now (l.first+1)) (((l.top+1)*4294967296+0:Nat):Int) []).2.2=0):Calls Try.prog 71 #[.pointer (some ⟨g,0,none⟩)] w fun e w'=>e=.returned (.int .i64 (startR s l).2.2)∧St F w0 w' (PLog g gd ((startR s l).2.1)::PW gd ((startR s l).1)::L):=by
 have hl5:=hl.top
 obtain ⟨b,hb⟩:∃b,l.begun=b:=⟨_,rfl⟩
 obtain ⟨r,hr⟩:∃r,renewR s l.first ((l.top+1)*4294967296+0)=r:=⟨_,rfl⟩
 change St F w0 w (row g (wC_ gd l l.head) 161::PW gd s::L) at S
 refine eN (fr [pq g] 29) Try.func71 rfl (sR (pv (iv 0) (wE (nS (sR (pv (pq g) (sP Try.func107 #[pq g] (w_alive S) fun w1 S2=>pv (iv (aliveE s l)) (wER (pv (iv (aliveE s l)) (dN (aliveE s l) 0 (fun hb3=> ?_) fun hb3=> ?_))))))))))
 ·obtain ⟨ha,ha3⟩:=aliveE_ne hb3
  refine wE (nCT (sR (pv (iv (aliveE s l)) (pv (iv (aliveE s l)) (wE (then_n (rR (bA (iv (aliveE s l)) ?_))))))))
  have e:startR s l=(s,l,aliveE s l):=by unfold startR;rw [if_pos ha,ha3]
  rw [e]
  exact ⟨rfl,S2⟩
 ·have ha:=aliveE_eq hb3
  refine wE (nCF (wp_skip (nS (sR (pv (pq g) (pv (pq g) (pv (po g 8) (lR (.bool l.begun) S2 0 8 (wE (then_n (wp_cond_split (t:=l.begun) kr_ (fun hc4=> ?_) (fun hc4=> ?_))))))))))))
  ·have hbg:l.begun=true:=hc4
   refine sR (pv (iv 5) (wE (then_n (rR (bA (iv 5) ?_)))))
   have e:startR s l=(s,l,5):=by unfold startR;rw [if_neg (by rw [ha];decide),if_pos hbg]
   rw [e]
   exact ⟨rfl,S2⟩
  ·have hbg:l.begun=false:=hc4
   refine wp_skip (nS (sR (pv (pq g) (pv (pq g) (pv (pq g) (pv (po g 5) (lR (nI_ l.top) S2 0 5 (gI .i64 (IntKind.i64.wrap (((l.top:Nat):Int)+1)) ((l.top+1:Nat):Int) wq_ (g_ (gv_call (args:=#[pq g,nI_ (l.top+1),iv 0]) rfl Try.func103 kr_ rfl rfl kr_ ?_))))))))))
   have hac:=w_anchor (ep:=l.top+1) (tl:=0) S2 hl om_ om_ hpn (fun _=>hin) (fun h=>hren ha hbg)
   rw [hr] at hac
   by_cases hr0:r.2=0
   ·rw [if_pos hr0,hr0] at hac
    refine Calls.mono hac ?_
    rintro _ w7 ⟨rfl,S8⟩
    refine ⟨_,rfl, ?_⟩
    change St F w0 w7 (row g #[pq gd,nI_ l.first,nI_ l.n,iv l.life,nI_ (l.top+1),nI_ l.top,nI_ 0,nI_ l.head,.bool l.begun] 161::PW gd r.1::L) at S8
    refine pv (iv 0) (wER (pv (iv 0) (dN 0 0 (fun hb9=> ?_) fun hb9=> ?_)))
    ·exact absurd rfl hb9
    ·refine wE (nCF (wp_skip (nSR (pv (pq g) (pv (pq g) (pv (pq g) (pv (po g 7) (sS S8 0 rfl 7 (iv 0) fun w10 S11=>pv (pq g) (pv (po g 8) (sS S11 0 rfl 8 (.bool true) fun w12 S13=>wER (pv (iv 0) ?_)))))))))))
     refine wE (then_n (wp_ret (bA (iv 0) ?_)))
     have e:startR s l=(r.1,{l with epoch:=l.top+1,tail:=0,head:=0,begun:=true},0):=by unfold startR;rw [if_neg (by rw [ha];decide),if_neg (by rw [hbg];decide)];simp only [hr];rw [if_neg (fun h=>h hr0)]
     rw [e]
     exact ⟨rfl,S13⟩
   ·rw [if_neg hr0] at hac
    refine Calls.mono hac ?_
    rintro _ w14 ⟨rfl,S15⟩
    refine ⟨_,rfl, ?_⟩
    change St F w0 w14 (row g (wC_ gd l l.head) 161::PW gd r.1::L) at S15
    refine pv (iv r.2) (wER (pv (iv r.2) (dN r.2 0 (fun hb16=> ?_) fun hb16=> ?_)))
    ·refine wE (nCT (sR (pv (iv r.2) (pv (iv r.2) (wE (then_n (rR (bA (iv r.2) ?_))))))))
     have e:startR s l=(r.1,l,r.2):=by unfold startR;rw [if_neg (by rw [ha];decide),if_neg (by rw [hbg];decide)];simp only [hr];rw [if_pos hr0]
     rw [e]
     exact ⟨rfl,S15⟩
    ·exact absurd hb16 hr0
end
end Go.Proofs
end
section
open Go Go.RowKit Go.Proofs.YtgeioealgidkiaaW.PrintWords Go.Proofs.YtgeioealgidkiaaW.PrintMore
namespace Go.Proofs
open Go.Vel
set_option linter.unusedVariables false
section
theorem bits_or_i64 (n:Nat)(x:UInt8)(hn:n<36028797018963968):bits .or .i64 ((n*256:Nat):Int) ((x.toNat:Nat):Int)=((x.toNat+256*n:Nat):Int):=by
 have hx:=x.toNat_lt
 show IntKind.i64.wrap ((BitVec.ofInt 64 ((n*256:Nat):Int)|||BitVec.ofInt 64 ((x.toNat:Nat):Int)).toNat:Int)=_
 rw [BitVec.toNat_or]
 have f1:(BitVec.ofInt 64 ((x.toNat:Nat):Int)).toNat=x.toNat:=by simp
 have f2:(BitVec.ofInt 64 ((n*256:Nat):Int)).toNat=n*256:=by
  rw [BitVec.toNat_ofInt];omega
 rw [f1,f2,Nat.mul_comm]
 have:=Nat.two_pow_add_eq_or_of_lt (i:=8) hx n
 rw [show (256:Nat)=2^8 from rfl,←this,IntKind.wrap_i64]
 omega
theorem leB_snoc (v n:Nat):leB v (n+1)=leB v n++[UInt8.ofNat (v/256^n%256)]:=by
 unfold leB
 rw [List.range_succ,List.map_append];rfl
theorem length_leB (v n:Nat):(leB v n).length=n:=by simp [leB]
theorem put_snoc (l:List UInt8)(v i:Nat):(l++leB v i).map bv++[Value.int .u8 ((UInt8.ofNat (v/256^i%256)).toNat:Int)]=(l++leB v (i+1)).map bv:=by
 rw [leB_snoc,←List.append_assoc,List.map_append (l₁:=l++leB v i)];rfl
theorem put_byte (v i:Nat):IntKind.u8.wrap ((v/256^i:Nat):Int)=((UInt8.ofNat (v/256^i%256)).toNat:Int):=by
 rw [IntKind.wrap_u8,UInt8.toNat_ofNat']
 have:v/256^i%256%2^8=v/256^i%256:=Nat.mod_eq_of_lt om_
 rw [this];omega
theorem put_shr (v i:Nat):(((v/256^(i+1):Nat):Int))=((v/256^i:Nat):Int)/2^8:=by
 rw [Nat.pow_succ,←Nat.div_div_eq_div_mul];rfl
theorem length_bodyR (e p i c:Nat)(d:List UInt8):(bodyR e p i c d).length=12+d.length:=by
 simp only [bodyR,List.length_append,length_leB]
theorem num_step {b:List UInt8}{n k:Nat}(hk:k<n)(hn:n≤b.length):leN ((b.take n).drop k)=(b.getD k 0).toNat+256*leN ((b.take n).drop (k+1)):=by
 rw [leN_drop _ _ (by rw [List.length_take];omega)]
 have:(b.take n).getD k 0=b.getD k 0:=by
  rw [List.getD_eq_getElem?_getD,List.getD_eq_getElem?_getD,List.getElem?_take,if_pos hk]
 rw [this]
theorem num_lt (b:List UInt8){n k m:Nat}(hm:n≤k+m):leN ((b.take n).drop k)<256^m:=by
 have h1:=leN_lt ((b.take n).drop k)
 have h2:((b.take n).drop k).length≤m:=by rw [List.length_drop,List.length_take];omega
 exact Nat.lt_of_lt_of_le h1 (Nat.pow_le_pow_right dc_ h2)
theorem num_nil (b:List UInt8)(n:Nat):leN ((b.take n).drop n)=0:=by
 rw [List.drop_of_length_le (by rw [List.length_take];omega)];rfl
theorem RdB.cells {w:World}{ad:Addr}{l:List UInt8}(h:RdB w (some ad) l):∀j u,(l.map bv)[j]?=some u→w.cell? (ad.add j)=some u:=fun j u hu=>by
 have hl:0<l.length:=by
  have:=(List.getElem?_eq_some_iff.1 hu).1
  rw [List.length_map] at this;omega
 obtain ⟨ad',e,hc⟩:=h hl
 cases e;exact hc j u hu
theorem bv_one (l:List UInt8):∀u∈l.map bv,u.oneCell'=true:=fun u hu=>by
 obtain ⟨x,_,rfl⟩:=List.mem_map.1 hu;rfl
section
variable {F:Nat→Prop}{w0 w:World}{L:List Ast}
theorem ps_seal0 (S:St F w0 w L){A B:Option Addr}{a b:List UInt8}{m n ca cb:Nat}(hm0:m=a.length)(hn0:n=b.length)(ha:RoT F w0 L A a)(hb:RoT F w0 L B b)(hma:a.length=512)(hmb:b.length≤504):Calls Try.prog 40 #[.slice A m ca,.slice B n cb] w fun e w'=>∃A c,e=.returned (.tuple #[.slice A 512 c,.int .i64 0])∧St F w0 w' (bytesX (.slice A 512 c) (sealF a b).1::L):=by
 refine (ps_seal' S hm0 hn0 ha hb om_ om_).mono fun e w' h=> ?_
 obtain ⟨A,c,h1,h2⟩:=h
 obtain ⟨h5,h0⟩:=sealF_len hma hmb
 rw [h5,h0] at h1
 rw [h5] at h2
 exact ⟨A,c,h1,h2⟩
end
end
end Go.Proofs
end
section
open Go Go.RowKit Go.Proofs.YtgeioealgidkiaaW.PrintWords Go.Proofs.YtgeioealgidkiaaW.PrintMore
namespace Go.Proofs
open Go.Vel
set_option linter.unusedVariables false
set_option maxRecDepth 100000
set_option maxHeartbeats 4000000
attribute [local irreducible] gives wpList Code.wp
theorem w_put {F:Nat→Prop}{w0 w:World}{L:List Ast}{A:Option Addr}{l:List UInt8}{n c v m:Nat}(S:St F w0 w (vec 5 1 (.slice A n c) n (l.map bv)::L))(hv:v≤9223372036854775807)(hm:m≤4)(hn:n≤1000):Calls Try.prog 137 #[.slice A n c,.int .i64 (v:Nat),.int .i64 (m:Nat)] w fun e w'=>∃A c,e=.returned (.slice A (n+m) c)∧St F w0 w' (vec 5 1 (.slice A (n+m) c) (n+m) ((l++leB v m).map bv)::L):=by
 obtain ⟨u,hu⟩:∃u:Nat,u=v/256^0:=⟨_,rfl⟩
 have hu0:v=u:=by rw [hu,Nat.pow_zero,Nat.div_one]
 rw [show ((v:Nat):Int)=((v/256^0:Nat):Int) by rw [←hu,←hu0]]
 refine eN (fr [.slice A n c,nI_ (v/256^0),nI_ m] 16) Try.func137 rfl (sR (pv (nS_) (wE (nS (sR (pv (nI_ m) (pv (iv 0) (wE (then_n (wp_block ?_))))))))))
 have S1:St F w0 w (vec 5 1 (.slice A (n+0) c) (n+0) ((l++leB v 0).map bv)::L):=(by rw [show leB v 0=[] from rfl,List.append_nil];exact S)
 have hv0:((v:Nat):Int)=((v/256^0:Nat):Int):=by rw [Nat.pow_zero,Nat.div_one]
 refine wp_loop_g (G:=Nat×Option Addr×Nat) (fun (g_:Nat×Option Addr×Nat) (a_:Act) (w_:World)=>∃J:Nat→Value,a_=(fr ([.slice g_.2.1 (n+g_.1) g_.2.2,nI_ (v/256^g_.1),nI_ m,ud,ud,ud,nS_,nI_ m,nI_ g_.1]++jR J 9 9) 1)∧St F w0 w_ (vec 5 1 (.slice g_.2.1 (n+g_.1) g_.2.2) (n+g_.1) ((l++leB v g_.1).map bv)::L)∧(g_.1≤m)) (fun g_=>m-g_.1) (0,A,c) (jE_ ⟨S1,Nat.zero_le _⟩) ?_
 rintro ⟨i,A5,c5⟩ a_ w2 ⟨J,rfl,S3,hI4⟩
 skip
 have S3:St F w0 w2 (vec 5 1 (.slice A5 (n+i) c5) (n+i) ((l++leB v i).map bv)::L):=S3
 have hI4:(i≤m):=hI4
 refine sR (dC ((((i:Nat):Int):Int)<((m:Nat):Int)) (fun hb5=> ?_) fun hb5=> ?_)
 ·have hi:i<m:=by omega
  have hvi:v/256^i≤v:=Nat.div_le_self _ _
  refine wE (nS (cT (wp_skip (nS (wp_block (sR (pv (.slice A5 (n+i) c5) (pv (nI_ (v/256^i)) (gI .u8 (IntKind.u8.wrap ((v/256^i:Nat):Int)) ((UInt8.ofNat (v/256^i%256)).toNat:Int) (put_byte v i) (g_ (gv_slit (e:=5) (sz:=1) (z:=.int .u8 0) (by_:=1) (vs:=#[(0,.int .u8 ((UInt8.ofNat (v/256^i%256)).toNat:Int))]) (cells:=#[.int .u8 ((UInt8.ofNat (v/256^i%256)).toNat:Int)]) S3 rfl kr_ ⟨by kernel_rfl⟩ kr_ kr_ kr_ kr_ (fun g6 w7 hg8 S9=> ?_))))))))))))
  have S10:St F w0 w7 (row g6 #[.int .u8 ((UInt8.ofNat (v/256^i%256)).toNat:Int)] 5::vec 5 1 (.slice A5 (n+i) c5) (n+i) ((l++leB v i).map bv)::L):=St.pm 2 [0,1] S9
  refine g_ (gv_append (e:=5) (sz:=1) (n:=(n+i)) (v:=(.slice A5 (n+i) c5)) (vals:=((l++leB v i).map bv)) (z:=.int .u8 0) (by_:=1) (m:=1) (c':=1) (ad:=⟨g6,0,none⟩) (news:=[.int .u8 ((UInt8.ofNat (v/256^i%256)).toNat:Int)]) (St.swap S10) rfl kr_ ⟨by kernel_rfl⟩ rfl kr_ kr_ dc_ rfl (row_news (S10.blk 0 rfl)) (by intro u hu;simp at hu;subst hu;rfl) om_ om_ (fun v12 w11 S13=> ?_))
  have S14:St F w0 w11 (vec 5 1 v12 (n+i+1) ((l++leB v i).map bv++[.int .u8 ((UInt8.ofNat (v/256^i%256)).toNat:Int)])::L):=St.pm 2 [0] S13
  rw [put_snoc] at S14
  obtain ⟨A15,c16,rfl⟩:=St.vecV S14 0 rfl
  change St F w0 w11 (vec 5 1 (.slice A15 (n+i+1) c16) (n+i+1) ((l++leB v (i+1)).map bv)::L) at S14
  exact pv (.slice A15 (n+i+1) c16) (wE (nR (pv (nI_ (v/256^i)) (g_ (gv_shr (k:=.i64) (yk:=.u64) (z:=((v/256^i:Nat):Int)) (i:=8) (j:=8) (z':=((v/256^(i+1):Nat):Int)) rfl kr_ kr_ rfl dc_ (put_shr v i) (pv (nI_ (v/256^(i+1))) (wE (inb_n (nR (gI .i64 (IntKind.i64.wrap (((i:Nat):Int)+1)) ((i+1:Nat):Int) wq_ (pv (nI_ (i+1)) (wE (then_n ⟨(i+1,A15,c16),(jE_ ⟨S14,om_⟩),(by show m-(i+1)<m-i;omega)⟩)))))))))))))
 ·have him:i=m:=by omega
  rw [him] at S3
  rw [him]
  exact wE (nS (cF (wp_exit (then_x (then_x (inb_x (nSR (pv (.slice A5 (n+m) c5) (pv (.slice A5 (n+m) c5) (wE (then_n (wp_ret (bA (.slice A5 (n+m) c5) ⟨_,_,rfl,S3⟩)))))))))))))
theorem w_number {w:World}{A:Option Addr}{b:List UInt8}{m n ca:Nat}(hm:m=b.length)(hr:RdB w A b)(hn:n≤b.length)(hn4:n≤4)(hmm:m≤9223372036854775807):Calls Try.prog 139 #[.slice A m ca,.int .i64 (n:Nat)] w fun e w'=>e=.returned (.int .i64 ((leN (b.take n):Nat):Int))∧w=w':=by
 have hs0:((0:Nat):Int)=((leN ((b.take n).drop n):Nat):Int):=by rw [num_nil]
 refine eN (fr [.slice A m ca,nI_ n] 20) Try.func139 rfl (sR (pv (iv 0) (wER (gI .i64 0 ((leN ((b.take n).drop n):Nat):Int) (hs0▸rfl) (wE (nS (sR (pv (nI_ n) (gI .i64 (IntKind.i64.wrap (((n:Nat):Int)-1)) (((n:Nat):Int)-1) (wr_ok om_ om_) (pv (iv (((n:Nat):Int)-1)) (wE (then_n (wp_block ?_)))))))))))))
 refine wp_loop_g (G:=Nat) (fun (g_:Nat) (a_:Act) (w_:World)=>∃J:Nat→Value,a_=(fr ([.slice A m ca,nI_ n,ud,ud,iv 0,nI_ (leN ((b.take n).drop g_)),iv (((g_:Nat):Int)-1),nI_ n,iv (((n:Nat):Int)-1)]++jR J 9 12) 1)∧w_=w∧(g_≤n)) (fun g_=>g_) n (jE_ ⟨rfl,Nat.le_refl _⟩) ?_
 rintro k a_ _ ⟨J,rfl,rfl,hI3⟩
 skip
 have hI3:(k≤n):=hI3
 refine wp_seq (sR (pv (iv (((k:Nat):Int)-1)) (dC ((((k:Nat):Int)-1:Int)≥0) (fun hb4=> ?_) fun hb4=> ?_)))
 ·have hk1:1≤k:=by omega
  obtain ⟨ad,rfl⟩:=hr.at (k:=k-1) om_
  have hlt:leN ((b.take n).drop k)<36028797018963968:=Nat.lt_of_lt_of_le (num_lt b (m:=4) om_) dc_
  have hst:leN ((b.take n).drop (k-1))=(b.getD (k-1) 0).toNat+256*leN ((b.take n).drop k):=by have:=num_step (b:=b) (n:=n) (k:=k-1) om_ hn;rwa [show k-1+1=k by omega] at this
  refine wE (nCT (wp_skip (nS (wp_block (wp_region_lit (pv (nI_ (leN ((b.take n).drop k))) (g_ (gv_shl (k:=.i64) (yk:=.u64) (z:=((leN ((b.take n).drop k):Nat):Int)) (i:=8) (j:=8) (z':=((leN ((b.take n).drop k)*256:Nat):Int)) rfl kr_ kr_ rfl dc_ (wr_eq om_ om_ om_) (pv (.slice (some ad) m ca) (pv (iv (((k:Nat):Int)-1)) (g_ (gv_ixB (e:=5) (sz:=1) (n:=m) (c:=ca) (i:=(((k:Nat):Int)-1)) (k:=.i64) (ad:=ad) (ad':=(ad.add (k-1))) (j:=(k-1)) rfl kr_ kr_ kr_ kr_ om_ om_ (by rw [Nat.mul_one]) (lQ (.int .u8 ((b.getD (k-1) 0).toNat:Int)) (hr.cell om_) (gI .i64 (IntKind.i64.wrap ((b.getD (k-1) 0).toNat:Int)) ((b.getD (k-1) 0).toNat:Int) (wr_u8 _) (gI .i64 (bits .or .i64 ((leN ((b.take n).drop k)*256:Nat):Int) ((b.getD (k-1) 0).toNat:Int)) ((leN ((b.take n).drop (k-1)):Nat):Int) (by rw [bits_or_i64 _ _ hlt,hst]) ?_)))))))))))))))
  exact pv (nI_ (leN ((b.take n).drop (k-1)))) (wE (inb_n (nR (pv (iv (((k:Nat):Int)-1)) (gI .i64 (IntKind.i64.wrap ((((k:Nat):Int)-1)-1)) (((k-1:Nat):Int)-1) wq_ (pv (iv (((k-1:Nat):Int)-1)) (wE (then_n ⟨k-1,(jE_ ⟨rfl,om_⟩),(by show k-1<k;omega)⟩))))))))
 ·have hk0:k=0:=by omega
  subst hk0
  exact wE (nCF (wp_exit (then_x (then_x (inb_x (nSR (pv (nI_ (leN ((b.take n).drop 0))) (pv (nI_ (leN ((b.take n).drop 0))) (wE (then_n (wp_ret (bA (nI_ (leN ((b.take n).drop 0))) ⟨rfl,rfl⟩))))))))))))
section
variable {F:Nat→Prop} {w0 w:World} {L:List Ast}
theorem w_lay_dead {g gd:Nat}{l:Lg}{s:Dsk}(S:St F w0 w (PLog g gd l::PW gd s::L))(hl:LOk l){ep p i c m cd:Nat}{A:Option Addr}{d:List UInt8}(hm:m=d.length)(hd:RoT F w0 L A d)(hd1:1≤d.length)(hd2:d.length≤492)(he:ep≤4294967295)(hp:p≤4294967295)(hi:i≤65535)(hc:c≤65535)(hin:l.first+2+l.n≤s.last.length)(hpn:s.pend.length<4398046511104)(hz:s.left=0):Calls Try.prog 106 #[.pointer (some ⟨g,0,none⟩),.agg #[.int .i64 (ep:Nat),.int .i64 (p:Nat),.int .i64 (i:Nat),.int .i64 (c:Nat),.slice A m cd]] w fun e w'=>e=.returned (.int .i64 3)∧St F w0 w' (PLog g gd l::PW gd s::L):=by
 obtain ⟨h1,h2,h3,h4,h5,h6⟩:=id hl
 obtain ⟨ad,rfl⟩:=(hd.out _ [_,_] S).at (k:=0) om_
 have hpm:p%l.n<l.n:=Nat.mod_lt _ om_
 change St F w0 w (row g (wC_ gd l l.head) 161::PW gd s::L) at S
 refine eN (fr [pq g,.agg #[nI_ ep,nI_ p,nI_ i,nI_ c,.slice (some ad) m cd]] 62) Try.func106 rfl (sR (nB rfl (.agg #[nI_ ep,nI_ p,nI_ i,nI_ c,.slice (some ad) m cd]) S fun g1 w2 hg3 S4=>pv (iv 0) (wER (g_ (gv_make (e:=5) (u:=0) (v:=504) (z:=.int .u8 0) (sz:=1) (by_:=1) (n:=0) (c:=504) (cs:=bvs (List.replicate 504 0)) S4 rfl kr_ ⟨by kernel_rfl⟩ kr_ kr_ rfl rfl (Nat.zero_le _) dc_ dc_ (mk_bytes _) (fun g5 w6 hg7 S8=> ?_))))))
 have S9:St F w0 w6 (vec 5 1 (sl g5 0 0 504) 0 ([].map bv)::row g1 #[nI_ ep,nI_ p,nI_ i,nI_ c,.slice (some ad) m cd] 165::row g (wC_ gd l l.head) 161::PW gd s::L):=St.vec_mk (vals:=[]) (junk:=(List.replicate 504 0).map bv) S8 (Nat.zero_le _) rfl (by simp)
 refine pv (sl g5 0 0 504) (wER (pv (sl g5 0 0 504) (pv (pq g1) (lR (nI_ ep) S9 1 0 (sP2 Try.func137 #[sl g5 0 0 504,nI_ ep,iv 4] (w_put (v:=ep) (m:=4) (n:=0) (l:=[]) S9 om_ dc_ om_) fun A10 c11 w12 S13=>pv (.slice A10 (0+4) c11) (wER (pv (.slice A10 (0+4) c11) (pv (po g1 1) (lR (nI_ p) S13 1 1 (sP2 Try.func137 #[.slice A10 (0+4) c11,nI_ p,iv 4] (w_put (v:=p) (m:=4) (n:=0+4) (l:=([]++leB ep 4)) S13 om_ dc_ om_) fun A14 c15 w16 S17=>pv (.slice A14 (0+4+4) c15) (wER ?_)))))))))))
 refine pv (.slice A14 (0+4+4) c15) (pv (po g1 2) (lR (nI_ i) S17 1 2 (sP2 Try.func137 #[.slice A14 (0+4+4) c15,nI_ i,iv 2] (w_put (v:=i) (m:=2) (n:=0+4+4) (l:=([]++leB ep 4++leB p 4)) S17 om_ dc_ om_) fun A18 c19 w20 S21=>pv (.slice A18 (0+4+4+2) c19) (wER (pv (.slice A18 (0+4+4+2) c19) (pv (po g1 3) (lR (nI_ c) S21 1 3 (sP2 Try.func137 #[.slice A18 (0+4+4+2) c19,nI_ c,iv 2] (w_put (v:=c) (m:=2) (n:=0+4+4+2) (l:=([]++leB ep 4++leB p 4++leB i 2)) S21 om_ dc_ om_) fun A22 c23 w24 S25=>pv (.slice A22 (0+4+4+2+2) c23) (wER (pv (.slice A22 (0+4+4+2+2) c23) (pv (po g1 4) ?_)))))))))))
 refine lR (.slice (some ad) m cd) S25 1 4 ?_
 have hdr:=hd.out _ [vec 5 1 (.slice A22 (0+4+4+2+2) c23) (0+4+4+2+2) ((([]++leB ep 4++leB p 4++leB i 2)++leB c 2).map bv),row g1 #[nI_ ep,nI_ p,nI_ i,nI_ c,.slice (some ad) m cd] 165,row g (wC_ gd l l.head) 161,PW gd s] S25
 refine g_ (gv_append (e:=5) (sz:=1) (n:=0+4+4+2+2) (v:=.slice A22 (0+4+4+2+2) c23) (vals:=([]++leB ep 4++leB p 4++leB i 2++leB c 2).map bv) (z:=.int .u8 0) (by_:=1) (m:=m) (c':=cd) (ad:=ad) (news:=d.map bv) S25 rfl kr_ ⟨by kernel_rfl⟩ rfl kr_ kr_ om_ (by rw [List.length_map,hm,Nat.mul_one]) (RdB.cells hdr) (bv_one d) om_ om_ (fun v26 w27 S28=> ?_))
 rw [←List.map_append] at S28
 obtain ⟨A29,c30,rfl⟩:=St.vecV S28 0 rfl
 change St F w0 w27 (vec 5 1 (.slice A29 (0+4+4+2+2+m) c30) (0+4+4+2+2+m) ((bodyR ep p i c d).map bv)::row g1 #[nI_ ep,nI_ p,nI_ i,nI_ c,.slice (some ad) m cd] 165::row g (wC_ gd l l.head) 161::PW gd s::L) at S28
 refine pv (.slice A29 (0+4+4+2+2+m) c30) (wE (nS (wp_region_phu (γ:=Value) 13 [7,8] (fun (c_:Value) (i_:Nat)=>(match i_ with|0=>pq g|1=>pq g|2=>pq g|3=>pq gd|4=>pq g|5=>po g1 1|6=>nI_ p|7=>nI_ (l.first+2+p%l.n)|8=>.tuple #[c_,iv 3]|9=>.tuple #[c_,iv 3]|10=>c_|11=>iv 3|12=>c_|_=>undef:Value)) (fun (c_:Value) (p_:Nat) (w_:World)=>(match p_ with|0=>St F w0 w_ (vec 5 1 (.slice A29 (0+4+4+2+2+m) c30) (0+4+4+2+2+m) ((bodyR ep p i c d).map bv)::row g1 #[nI_ ep,nI_ p,nI_ i,nI_ c,.slice (some ad) m cd] 165::row g (wC_ gd l l.head) 161::PW gd s::L)|1=>St F w0 w_ (row g (wC_ gd l l.head) 161::PW gd s::vec 5 1 (.slice A29 (0+4+4+2+2+m) c30) (0+4+4+2+2+m) ((bodyR ep p i c d).map bv)::row g1 #[nI_ ep,nI_ p,nI_ i,nI_ c,.slice (some ad) m cd] 165::L)|_=>St F w0 w_ (PW gd s::row g (wC_ gd l l.head) 161::vec 5 1 (.slice A29 (0+4+4+2+2+m) c30) (0+4+4+2+2+m) ((bodyR ep p i c d).map bv)::row g1 #[nI_ ep,nI_ p,nI_ i,nI_ c,.slice (some ad) m cd] 165::L):Prop)) (undef) kr_ kr_ kr_ kr_ (S28.drew) ?_ ?_ ?_)))
 ·intro i_ c_ p_ vals_ w1 hi_ hiE_ hp_ hk_ hu_ hPh_ hd_
  rcases i_ with _|_|_|_|_|_|_|_|_|_|_|_|_|i_
  ·exact tG_ rfl hd_ (gV (pq g) ⟨rfl,rfl⟩)
  ·exact tG_ rfl hd_ (gV (pq g) ⟨rfl,rfl⟩)
  ·exact tG_ rfl hd_ (gV (pq g) ⟨rfl,rfl⟩)
  ·rcases p_ with _|_|_|p_
   ·have S34:=St.id hPh_
    exact tG_ rfl hd_ (gL (pq gd) rfl (((S34.blk 2 rfl).cell 0).trans rfl) ⟨rfl,rfl⟩)
   ·have S35:=St.id hPh_
    exact tG_ rfl hd_ (gL (pq gd) rfl (((S35.blk 0 rfl).cell 0).trans rfl) ⟨rfl,rfl⟩)
   ·exact absurd (hu_ 1 dc_ kr_) dc_
   ·exact absurd hp_ (by simp)
  ·exact tG_ rfl hd_ (gV (pq g) ⟨rfl,rfl⟩)
  ·exact tG_ rfl hd_ (gV (po g1 1) ⟨rfl,rfl⟩)
  ·rcases p_ with _|_|_|p_
   ·have S38:=St.id hPh_
    exact tG_ rfl hd_ (gL (nI_ p) rfl (((S38.blk 1 rfl).cell 1).trans rfl) ⟨rfl,rfl⟩)
   ·exact absurd (hu_ 0 dc_ kr_) dc_
   ·exact absurd (hu_ 0 dc_ kr_) dc_
   ·exact absurd hp_ (by simp)
  ·exact absurd hiE_ dc_
  ·exact absurd hiE_ dc_
  ·exact tG_ rfl hd_ (gV (.tuple #[c_,iv 3]) ⟨rfl,rfl⟩)
  ·exact tG_ rfl hd_ (gV c_ ⟨rfl,rfl⟩)
  ·exact tG_ rfl hd_ (gV (iv 3) ⟨rfl,rfl⟩)
  ·exact tG_ rfl hd_ (gV c_ ⟨rfl,rfl⟩)
  ·exact absurd hi_ om_
 ·intro k_ c_ vals_ w1 hk_ hPh_ hd_
  rcases k_ with _|_|k_
  ·have S43:=St.id hPh_
   refine tG_ rfl hd_ (gv_call (args:=#[pq g,nI_ p]) rfl Try.func138 kr_ rfl rfl kr_ ?_)
   have S44:=St.pm 4 [2,3,0,1] S43
   refine Calls.mono (w_at (p:=p) S44 hl om_) ?_
   rintro _ w45 ⟨rfl,S46⟩
   refine ⟨_,rfl,⟨(c_),rfl, ?_,S46⟩⟩
   intro i_ hi_ hne_ hdp_
   rcases i_ with _|_|_|_|_|_|_|_|_|_|_|_|_|i_
   ·rfl
   ·rfl
   ·rfl
   ·rfl
   ·rfl
   ·rfl
   ·rfl
   ·exact absurd rfl hne_
   ·exact dN_ hdp_
   ·exact dN_ hdp_
   ·exact dN_ hdp_
   ·exact dN_ hdp_
   ·exact dN_ hdp_
   ·exact absurd hi_ om_
  ·have S47:=St.id hPh_
   refine tG_ rfl hd_ (gv_call (args:=#[pq gd,nI_ (l.first+2+p%l.n)]) rfl Try.func26 kr_ rfl rfl kr_ ?_)
   have S48:=St.pm 4 [1,0,2,3] S47
   refine Calls.mono (pw_read_dead S48 hz) ?_
   rintro _ w49 ⟨v51,rfl,S50⟩
   refine ⟨_,rfl,⟨(v51),rfl, ?_,S50⟩⟩
   intro i_ hi_ hne_ hdp_
   rcases i_ with _|_|_|_|_|_|_|_|_|_|_|_|_|i_
   ·rfl
   ·rfl
   ·rfl
   ·rfl
   ·rfl
   ·rfl
   ·rfl
   ·rfl
   ·exact absurd rfl hne_
   ·exact dN_ hdp_
   ·exact dN_ hdp_
   ·exact dN_ hdp_
   ·exact dN_ hdp_
   ·exact absurd hi_ om_
  ·exact absurd hk_ (by simp)
 ·intro c_ w1 hPh_
  have S52:=St.id hPh_
  refine (pv (iv 3) (wE ?_))
  refine nS (sR (pv (iv 3) (dN 3 0 (fun _=>wE (nCT (sR (pv (iv 3) (pv (iv 3) (wE (then_n (rR (bA (iv 3) ?_))))))))) fun hd53=>False.elim om_)))
  have S54:=St.pm 4 [1,0] S52
  exact ⟨rfl,S54⟩
theorem w_lay_go {g gd:Nat}{l:Lg}{s:Dsk}(S:St F w0 w (PLog g gd l::PW gd s::L))(hl:LOk l){ep p i c m cd:Nat}{A:Option Addr}{d:List UInt8}(hm:m=d.length)(hd:RoT F w0 L A d)(hd1:1≤d.length)(hd2:d.length≤492)(he:ep≤4294967295)(hp:p≤4294967295)(hi:i≤65535)(hc:c≤65535)(hin:l.first+2+l.n≤s.last.length)(hpn:s.pend.length<4398046511104)(hz:s.left≠0):Calls Try.prog 106 #[.pointer (some ⟨g,0,none⟩),.agg #[.int .i64 (ep:Nat),.int .i64 (p:Nat),.int .i64 (i:Nat),.int .i64 (c:Nat),.slice A m cd]] w fun e w'=>e=.returned (.int .i64 0)∧St F w0 w' (PLog g gd l::PW gd (s.wrote (l.first+2+p%l.n) (sealF (s.now (l.first+2+p%l.n)) (bodyR ep p i c d)).1)::L):=by
 obtain ⟨h1,h2,h3,h4,h5,h6⟩:=id hl
 obtain ⟨ad,rfl⟩:=(hd.out _ [_,_] S).at (k:=0) om_
 have hpm:p%l.n<l.n:=Nat.mod_lt _ om_
 have hok:=St.pw_ok S.tail
 have hs5:=hok.now (k:=l.first+2+p%l.n) om_
 have hn2:=hok.n2
 have hbl:=length_bodyR ep p i c d
 have hse:=(sealF_len hs5 (b:=bodyR ep p i c d) om_).1
 change St F w0 w (row g (wC_ gd l l.head) 161::PW gd s::L) at S
 refine eN (fr [pq g,.agg #[nI_ ep,nI_ p,nI_ i,nI_ c,.slice (some ad) m cd]] 62) Try.func106 rfl (sR (nB rfl (.agg #[nI_ ep,nI_ p,nI_ i,nI_ c,.slice (some ad) m cd]) S fun g1 w2 hg3 S4=>pv (iv 0) (wER (g_ (gv_make (e:=5) (u:=0) (v:=504) (z:=.int .u8 0) (sz:=1) (by_:=1) (n:=0) (c:=504) (cs:=bvs (List.replicate 504 0)) S4 rfl kr_ ⟨by kernel_rfl⟩ kr_ kr_ rfl rfl (Nat.zero_le _) dc_ dc_ (mk_bytes _) (fun g5 w6 hg7 S8=> ?_))))))
 have S9:St F w0 w6 (vec 5 1 (sl g5 0 0 504) 0 ([].map bv)::row g1 #[nI_ ep,nI_ p,nI_ i,nI_ c,.slice (some ad) m cd] 165::row g (wC_ gd l l.head) 161::PW gd s::L):=St.vec_mk (vals:=[]) (junk:=(List.replicate 504 0).map bv) S8 (Nat.zero_le _) rfl (by simp)
 refine pv (sl g5 0 0 504) (wER (pv (sl g5 0 0 504) (pv (pq g1) (lR (nI_ ep) S9 1 0 (sP2 Try.func137 #[sl g5 0 0 504,nI_ ep,iv 4] (w_put (v:=ep) (m:=4) (n:=0) (l:=[]) S9 om_ dc_ om_) fun A10 c11 w12 S13=>pv (.slice A10 (0+4) c11) (wER (pv (.slice A10 (0+4) c11) (pv (po g1 1) (lR (nI_ p) S13 1 1 (sP2 Try.func137 #[.slice A10 (0+4) c11,nI_ p,iv 4] (w_put (v:=p) (m:=4) (n:=0+4) (l:=([]++leB ep 4)) S13 om_ dc_ om_) fun A14 c15 w16 S17=>pv (.slice A14 (0+4+4) c15) (wER ?_)))))))))))
 refine pv (.slice A14 (0+4+4) c15) (pv (po g1 2) (lR (nI_ i) S17 1 2 (sP2 Try.func137 #[.slice A14 (0+4+4) c15,nI_ i,iv 2] (w_put (v:=i) (m:=2) (n:=0+4+4) (l:=([]++leB ep 4++leB p 4)) S17 om_ dc_ om_) fun A18 c19 w20 S21=>pv (.slice A18 (0+4+4+2) c19) (wER (pv (.slice A18 (0+4+4+2) c19) (pv (po g1 3) (lR (nI_ c) S21 1 3 (sP2 Try.func137 #[.slice A18 (0+4+4+2) c19,nI_ c,iv 2] (w_put (v:=c) (m:=2) (n:=0+4+4+2) (l:=([]++leB ep 4++leB p 4++leB i 2)) S21 om_ dc_ om_) fun A22 c23 w24 S25=>pv (.slice A22 (0+4+4+2+2) c23) (wER (pv (.slice A22 (0+4+4+2+2) c23) (pv (po g1 4) ?_)))))))))))
 refine lR (.slice (some ad) m cd) S25 1 4 ?_
 have hdr:=hd.out _ [vec 5 1 (.slice A22 (0+4+4+2+2) c23) (0+4+4+2+2) ((([]++leB ep 4++leB p 4++leB i 2)++leB c 2).map bv),row g1 #[nI_ ep,nI_ p,nI_ i,nI_ c,.slice (some ad) m cd] 165,row g (wC_ gd l l.head) 161,PW gd s] S25
 refine g_ (gv_append (e:=5) (sz:=1) (n:=0+4+4+2+2) (v:=.slice A22 (0+4+4+2+2) c23) (vals:=([]++leB ep 4++leB p 4++leB i 2++leB c 2).map bv) (z:=.int .u8 0) (by_:=1) (m:=m) (c':=cd) (ad:=ad) (news:=d.map bv) S25 rfl kr_ ⟨by kernel_rfl⟩ rfl kr_ kr_ om_ (by rw [List.length_map,hm,Nat.mul_one]) (RdB.cells hdr) (bv_one d) om_ om_ (fun v26 w27 S28=> ?_))
 rw [←List.map_append] at S28
 obtain ⟨A29,c30,rfl⟩:=St.vecV S28 0 rfl
 change St F w0 w27 (vec 5 1 (.slice A29 (0+4+4+2+2+m) c30) (0+4+4+2+2+m) ((bodyR ep p i c d).map bv)::row g1 #[nI_ ep,nI_ p,nI_ i,nI_ c,.slice (some ad) m cd] 165::row g (wC_ gd l l.head) 161::PW gd s::L) at S28
 refine pv (.slice A29 (0+4+4+2+2+m) c30) (wE (nS (wp_region_phu (γ:=Option Addr) 13 [7,8] (fun (c_:Option Addr) (i_:Nat)=>(match i_ with|0=>pq g|1=>pq g|2=>pq g|3=>pq gd|4=>pq g|5=>po g1 1|6=>nI_ p|7=>nI_ (l.first+2+p%l.n)|8=>.tuple #[.slice c_ 512 512,iv 0]|9=>.tuple #[.slice c_ 512 512,iv 0]|10=>.slice c_ 512 512|11=>iv 0|12=>.slice c_ 512 512|_=>undef:Value)) (fun (c_:Option Addr) (p_:Nat) (w_:World)=>(match p_ with|0=>St F w0 w_ (vec 5 1 (.slice A29 (0+4+4+2+2+m) c30) (0+4+4+2+2+m) ((bodyR ep p i c d).map bv)::row g1 #[nI_ ep,nI_ p,nI_ i,nI_ c,.slice (some ad) m cd] 165::row g (wC_ gd l l.head) 161::PW gd s::L)|1=>St F w0 w_ (row g (wC_ gd l l.head) 161::PW gd s::vec 5 1 (.slice A29 (0+4+4+2+2+m) c30) (0+4+4+2+2+m) ((bodyR ep p i c d).map bv)::row g1 #[nI_ ep,nI_ p,nI_ i,nI_ c,.slice (some ad) m cd] 165::L)|_=>St F w0 w_ (bytesA (.slice c_ 512 512) (s.now (l.first+2+p%l.n))::PW gd s::row g (wC_ gd l l.head) 161::vec 5 1 (.slice A29 (0+4+4+2+2+m) c30) (0+4+4+2+2+m) ((bodyR ep p i c d).map bv)::row g1 #[nI_ ep,nI_ p,nI_ i,nI_ c,.slice (some ad) m cd] 165::L):Prop)) (none) kr_ kr_ kr_ kr_ (S28.drew) ?_ ?_ ?_)))
 ·intro i_ c_ p_ vals_ w1 hi_ hiE_ hp_ hk_ hu_ hPh_ hd_
  rcases i_ with _|_|_|_|_|_|_|_|_|_|_|_|_|i_
  ·exact tG_ rfl hd_ (gV (pq g) ⟨rfl,rfl⟩)
  ·exact tG_ rfl hd_ (gV (pq g) ⟨rfl,rfl⟩)
  ·exact tG_ rfl hd_ (gV (pq g) ⟨rfl,rfl⟩)
  ·rcases p_ with _|_|_|p_
   ·have S34:=St.id hPh_
    exact tG_ rfl hd_ (gL (pq gd) rfl (((S34.blk 2 rfl).cell 0).trans rfl) ⟨rfl,rfl⟩)
   ·have S35:=St.id hPh_
    exact tG_ rfl hd_ (gL (pq gd) rfl (((S35.blk 0 rfl).cell 0).trans rfl) ⟨rfl,rfl⟩)
   ·exact absurd (hu_ 1 dc_ kr_) dc_
   ·exact absurd hp_ (by simp)
  ·exact tG_ rfl hd_ (gV (pq g) ⟨rfl,rfl⟩)
  ·exact tG_ rfl hd_ (gV (po g1 1) ⟨rfl,rfl⟩)
  ·rcases p_ with _|_|_|p_
   ·have S38:=St.id hPh_
    exact tG_ rfl hd_ (gL (nI_ p) rfl (((S38.blk 1 rfl).cell 1).trans rfl) ⟨rfl,rfl⟩)
   ·exact absurd (hu_ 0 dc_ kr_) dc_
   ·exact absurd (hu_ 0 dc_ kr_) dc_
   ·exact absurd hp_ (by simp)
  ·exact absurd hiE_ dc_
  ·exact absurd hiE_ dc_
  ·exact tG_ rfl hd_ (gV (.tuple #[.slice c_ 512 512,iv 0]) ⟨rfl,rfl⟩)
  ·exact tG_ rfl hd_ (gV (.slice c_ 512 512) ⟨rfl,rfl⟩)
  ·exact tG_ rfl hd_ (gV (iv 0) ⟨rfl,rfl⟩)
  ·exact tG_ rfl hd_ (gV (.slice c_ 512 512) ⟨rfl,rfl⟩)
  ·exact absurd hi_ om_
 ·intro k_ c_ vals_ w1 hk_ hPh_ hd_
  rcases k_ with _|_|k_
  ·have S43:=St.id hPh_
   refine tG_ rfl hd_ (gv_call (args:=#[pq g,nI_ p]) rfl Try.func138 kr_ rfl rfl kr_ ?_)
   have S44:=St.pm 4 [2,3,0,1] S43
   refine Calls.mono (w_at (p:=p) S44 hl om_) ?_
   rintro _ w45 ⟨rfl,S46⟩
   refine ⟨_,rfl,⟨(c_),rfl, ?_,S46⟩⟩
   intro i_ hi_ hne_ hdp_
   rcases i_ with _|_|_|_|_|_|_|_|_|_|_|_|_|i_
   ·rfl
   ·rfl
   ·rfl
   ·rfl
   ·rfl
   ·rfl
   ·rfl
   ·exact absurd rfl hne_
   ·exact dN_ hdp_
   ·exact dN_ hdp_
   ·exact dN_ hdp_
   ·exact dN_ hdp_
   ·exact dN_ hdp_
   ·exact absurd hi_ om_
  ·have S47:=St.id hPh_
   refine tG_ rfl hd_ (gv_call (args:=#[pq gd,nI_ (l.first+2+p%l.n)]) rfl Try.func26 kr_ rfl rfl kr_ ?_)
   have S48:=St.pm 4 [1,0,2,3] S47
   refine Calls.mono (pw_read (k:=l.first+2+p%l.n) S48 hz om_) ?_
   rintro _ w49 ⟨m51,rfl,S50⟩
   refine ⟨_,rfl,⟨(m51),rfl, ?_,S50⟩⟩
   intro i_ hi_ hne_ hdp_
   rcases i_ with _|_|_|_|_|_|_|_|_|_|_|_|_|i_
   ·rfl
   ·rfl
   ·rfl
   ·rfl
   ·rfl
   ·rfl
   ·rfl
   ·rfl
   ·exact absurd rfl hne_
   ·exact dN_ hdp_
   ·exact dN_ hdp_
   ·exact dN_ hdp_
   ·exact dN_ hdp_
   ·exact absurd hi_ om_
  ·exact absurd hk_ (by simp)
 ·intro c_ w1 hPh_
  have S52:=St.id hPh_
  refine (pv (iv 0) (wE ?_))
  refine nS (sR (pv (iv 0) (dN 0 0 (fun hd53=>False.elim om_) fun _=>wE (nCF (wp_skip (nSR (pv (.slice c_ 512 512) (pv (.slice A29 (0+4+4+2+2+m) c30) (sP2 Try.func40 #[.slice c_ 512 512,.slice A29 (0+4+4+2+2+m) c30] (ps_seal0 (a:=s.now (l.first+2+p%l.n)) (b:=bodyR ep p i c d) S52 hs5.symm om_ (RoT.bytes 0 rfl rfl) (RoT.ofVec 3 rfl) hs5 om_) fun A56 c57 w54 S55=>pv (.tuple #[.slice A56 512 c57,iv 0]) (pv (.slice A56 512 c57) (pv (iv 0) ?_)))))))))))
  refine pv (.slice A56 512 c57) (pv (iv 0) (wE (nS (sR (pv (iv 0) (dN 0 0 (fun hd58=>False.elim om_) fun _=>wE (nCF (wp_skip (nS (wp_region_phu (γ:=Unit) 10 [7,9] (fun (c2_:Unit) (i_:Nat)=>(match i_ with|0=>pq g|1=>pq g|2=>pq g|3=>pq gd|4=>pq g|5=>po g1 1|6=>nI_ p|7=>nI_ (l.first+2+p%l.n)|8=>.slice A56 512 c57|9=>iv 0|_=>undef:Value)) (fun (c2_:Unit) (p_:Nat) (w_:World)=>(match p_ with|0=>St F w0 w_ (bytesX (.slice A56 512 c57) (sealF (s.now (l.first+2+p%l.n)) (bodyR ep p i c d)).1::bytesA (.slice c_ 512 512) (s.now (l.first+2+p%l.n))::PW gd s::row g (wC_ gd l l.head) 161::vec 5 1 (.slice A29 (0+4+4+2+2+m) c30) (0+4+4+2+2+m) ((bodyR ep p i c d).map bv)::row g1 #[nI_ ep,nI_ p,nI_ i,nI_ c,.slice (some ad) m cd] 165::L)|1=>St F w0 w_ (row g (wC_ gd l l.head) 161::PW gd s::bytesX (.slice A56 512 c57) (sealF (s.now (l.first+2+p%l.n)) (bodyR ep p i c d)).1::bytesA (.slice c_ 512 512) (s.now (l.first+2+p%l.n))::vec 5 1 (.slice A29 (0+4+4+2+2+m) c30) (0+4+4+2+2+m) ((bodyR ep p i c d).map bv)::row g1 #[nI_ ep,nI_ p,nI_ i,nI_ c,.slice (some ad) m cd] 165::L)|_=>St F w0 w_ (PW gd (s.wrote (l.first+2+p%l.n) (sealF (s.now (l.first+2+p%l.n)) (bodyR ep p i c d)).1)::row g (wC_ gd l l.head) 161::bytesX (.slice A56 512 c57) (sealF (s.now (l.first+2+p%l.n)) (bodyR ep p i c d)).1::bytesA (.slice c_ 512 512) (s.now (l.first+2+p%l.n))::vec 5 1 (.slice A29 (0+4+4+2+2+m) c30) (0+4+4+2+2+m) ((bodyR ep p i c d).map bv)::row g1 #[nI_ ep,nI_ p,nI_ i,nI_ c,.slice (some ad) m cd] 165::L):Prop)) () kr_ kr_ kr_ kr_ (S55.drew) ?_ ?_ ?_))))))))))
  ·intro i_ c2_ p_ vals_ w1 hi_ hiE_ hp_ hk_ hu_ hPh_ hd_
   rcases i_ with _|_|_|_|_|_|_|_|_|_|i_
   ·exact tG_ rfl hd_ (gV (pq g) ⟨rfl,rfl⟩)
   ·exact tG_ rfl hd_ (gV (pq g) ⟨rfl,rfl⟩)
   ·exact tG_ rfl hd_ (gV (pq g) ⟨rfl,rfl⟩)
   ·rcases p_ with _|_|_|p_
    ·have S62:=St.id hPh_
     exact tG_ rfl hd_ (gL (pq gd) rfl (((S62.blk 3 rfl).cell 0).trans rfl) ⟨rfl,rfl⟩)
    ·have S63:=St.id hPh_
     exact tG_ rfl hd_ (gL (pq gd) rfl (((S63.blk 0 rfl).cell 0).trans rfl) ⟨rfl,rfl⟩)
    ·exact absurd (hu_ 1 dc_ kr_) dc_
    ·exact absurd hp_ (by simp)
   ·exact tG_ rfl hd_ (gV (pq g) ⟨rfl,rfl⟩)
   ·exact tG_ rfl hd_ (gV (po g1 1) ⟨rfl,rfl⟩)
   ·rcases p_ with _|_|_|p_
    ·have S66:=St.id hPh_
     exact tG_ rfl hd_ (gL (nI_ p) rfl (((S66.blk 5 rfl).cell 1).trans rfl) ⟨rfl,rfl⟩)
    ·exact absurd (hu_ 0 dc_ kr_) dc_
    ·exact absurd (hu_ 0 dc_ kr_) dc_
    ·exact absurd hp_ (by simp)
   ·exact absurd hiE_ dc_
   ·exact tG_ rfl hd_ (gV (.slice A56 512 c57) ⟨rfl,rfl⟩)
   ·exact absurd hiE_ dc_
   ·exact absurd hi_ om_
  ·intro k_ c2_ vals_ w1 hk_ hPh_ hd_
   rcases k_ with _|_|k_
   ·have S68:=St.id hPh_
    refine tG_ rfl hd_ (gv_call (args:=#[pq g,nI_ p]) rfl Try.func138 kr_ rfl rfl kr_ ?_)
    have S69:=St.pm 6 [3,2,0,1,4,5] S68
    refine Calls.mono (w_at (p:=p) S69 hl om_) ?_
    rintro _ w70 ⟨rfl,S71⟩
    refine ⟨_,rfl,⟨(),rfl, ?_,S71⟩⟩
    intro i_ hi_ hne_ hdp_
    rcases i_ with _|_|_|_|_|_|_|_|_|_|i_
    ·rfl
    ·rfl
    ·rfl
    ·rfl
    ·rfl
    ·rfl
    ·rfl
    ·exact absurd rfl hne_
    ·rfl
    ·exact dN_ hdp_
    ·exact absurd hi_ om_
   ·have S72:=St.id hPh_
    refine tG_ rfl hd_ (gv_call (args:=#[pq gd,nI_ (l.first+2+p%l.n),.slice A56 512 c57]) rfl Try.func33 kr_ rfl rfl kr_ ?_)
    have S73:=St.pm 6 [1,0,2,3,4,5] S72
    refine Calls.mono (pw_write_go (k:=l.first+2+p%l.n) S73 (RoT.bytesX 1 rfl rfl) hse.symm hse hz om_ hpn) ?_
    rintro _ w74 ⟨rfl,S75⟩
    refine ⟨_,rfl,⟨(),rfl, ?_,S75⟩⟩
    intro i_ hi_ hne_ hdp_
    rcases i_ with _|_|_|_|_|_|_|_|_|_|i_
    ·rfl
    ·rfl
    ·rfl
    ·rfl
    ·rfl
    ·rfl
    ·rfl
    ·rfl
    ·rfl
    ·exact absurd rfl hne_
    ·exact absurd hi_ om_
   ·exact absurd hk_ (by simp)
  ·intro c2_ w1 hPh_
   have S76:=St.id hPh_
   refine (pv (iv 0) (wE ?_))
   refine then_n (wp_ret (bA (iv 0) ?_))
   have S77:=St.pm 6 [1,0] S76
   exact ⟨rfl,S77⟩
theorem w_lay {g gd:Nat}{l:Lg}{s:Dsk}(S:St F w0 w (PLog g gd l::PW gd s::L))(hl:LOk l){ep p i c m cd:Nat}{A:Option Addr}{d:List UInt8}(hm:m=d.length)(hd:RoT F w0 L A d)(hd1:1≤d.length)(hd2:d.length≤492)(he:ep≤4294967295)(hp:p≤4294967295)(hi:i≤65535)(hc:c≤65535)(hin:l.first+2+l.n≤s.last.length)(hpn:s.pend.length<4398046511104):Calls Try.prog 106 #[.pointer (some ⟨g,0,none⟩),.agg #[.int .i64 (ep:Nat),.int .i64 (p:Nat),.int .i64 (i:Nat),.int .i64 (c:Nat),.slice A m cd]] w fun e w'=>e=.returned (.int .i64 (s.writeR ((l.first+2+p%l.n:Nat):Int) (sealF (s.now (l.first+2+p%l.n)) (bodyR ep p i c d)).1).2)∧St F w0 w' (PLog g gd l::PW gd ((s.writeR ((l.first+2+p%l.n:Nat):Int) (sealF (s.now (l.first+2+p%l.n)) (bodyR ep p i c d)).1).1)::L):=by
 by_cases hz:s.left=0
 ·rw [writeR_dead hz]
  exact w_lay_dead S hl hm hd hd1 hd2 he hp hi hc hin hpn hz
 ·have hok:=St.pw_ok S.tail
  obtain ⟨h1,h2,h3,h4,h5,h6⟩:=id hl
  have hpm:p%l.n<l.n:=Nat.mod_lt _ om_
  rw [writeR_go hz om_ (sealF_len (hok.now om_) (by rw [length_bodyR];omega)).1]
  exact w_lay_go S hl hm hd hd1 hd2 he hp hi hc hin hpn hz
end
theorem writeR_len {s:Dsk}{at_:Int}{d:List UInt8}:(s.writeR at_ d).1.last.length=s.last.length∧(s.writeR at_ d).1.pend.length≤s.pend.length+1:=by
 by_cases h:(s.writeR at_ d).2=0
 ·obtain ⟨_,_,_,_,e⟩:=writeR_ok h
  rw [e];exact ⟨rfl,by simp⟩
 ·obtain ⟨e1,e2,_⟩:=writeR_no h
  rw [e1,e2];exact ⟨rfl,Nat.le_succ _⟩
theorem laysR_step {l:Lg}{d:List UInt8}{c i:Nat}{s:Dsk}(hi:i<c):laysR l d c s i (c-i)=if (layR s l d i c).2≠0 then layR s l d i c else laysR l d c (layR s l d i c).1 (i+1) (c-(i+1)):=by
 rw [show c-i=(c-(i+1))+1 from by omega];rfl
theorem partR_len {d:List UInt8}{i c:Nat}(hc:c=countR d.length)(hi:i<c):(partR d i).length=min d.length ((i+1)*492)-i*492∧1≤(partR d i).length∧(partR d i).length≤492:=by
 unfold partR countR at*
 rw [List.length_take,List.length_drop]
 omega
theorem w_append {F:Nat→Prop}{w0 w:World}{L:List Ast}{g gd:Nat}{l:Lg}{s:Dsk}(S:St F w0 w (PLog g gd l::PW gd s::L))(hl:LOk l)(hh:LHd l){cd:Nat}{A:Option Addr}{d:List UInt8}(hd:RoT F w0 L A d)(hcap:d.length≤cd)(hdm:d.length≤140737488355328)(hin:readyR s l=0→l.first+2+l.n≤s.last.length)(hpn:s.pend.length+100<4398046511104):Calls Try.prog 57 #[.pointer (some ⟨g,0,none⟩),.slice A d.length cd] w fun e w'=>e=.returned (.int .i64 (appendR s l d).2.2)∧St F w0 w' (PLog g gd ((appendR s l d).2.1)::PW gd ((appendR s l d).1)::L):=by
 obtain ⟨h1,h2,h3,h4,h5,h6⟩:=id hl
 obtain ⟨h7,h8⟩:=id hh
 by_cases hr:readyR s l≠0
 ·have e:appendR s l d=(s,l,readyR s l):=by unfold appendR;rw [if_pos hr]
  rw [e]
  change St F w0 w (row g (wC_ gd l l.head) 161::PW gd s::L) at S
  refine eN (fr [pq g,.slice A d.length cd] 81) Try.func57 rfl (sR (pv (iv 0) (wE (nS (sR (pv (pq g) (g_ (gv_call (args:=#[pq g]) rfl Try.func104 kr_ rfl rfl kr_ ?_))))))))
  have hrd:=w_ready S
  refine Calls.mono hrd ?_
  rintro _ w1 ⟨rfl,S2⟩
  exact ⟨_,rfl,(pv (iv (readyR s l)) (wER (pv (iv (readyR s l)) (dN (readyR s l) 0 (fun _=>wE (nCT (sR (pv (iv (readyR s l)) (pv (iv (readyR s l)) (wE (then_n (rR (bA (iv (readyR s l)) ⟨rfl,S2⟩))))))))) fun hd3=>False.elim (hr hd3)))))⟩
 have hr:readyR s l=0:=by omega
 have hcn:countR d.length=(d.length+491)/492:=rfl
 obtain ⟨c,hc⟩:∃c,countR d.length=c:=⟨_,rfl⟩
 obtain ⟨R,hR⟩:∃R,appendR s l d=R:=⟨_,rfl⟩
 rw [hR]
 unfold appendR at hR
 rw [if_neg (fun h=>h hr)] at hR
 by_cases hd0:d.length=0
 ·rw [if_pos hd0] at hR
  subst hR
  change St F w0 w (row g (wC_ gd l l.head) 161::PW gd s::L) at S
  refine eN (fr [pq g,.slice A d.length cd] 81) Try.func57 rfl (sR (pv (iv 0) (wE (nS (sR (pv (pq g) (g_ (gv_call (args:=#[pq g]) rfl Try.func104 kr_ rfl rfl kr_ ?_))))))))
  have hrd:=w_ready S
  rw [hr] at hrd
  refine Calls.mono hrd ?_
  rintro _ w1 ⟨rfl,S2⟩
  refine ⟨_,rfl,(pv (iv 0) (wER (pv (iv 0) (dN 0 0 (fun hd3=>False.elim om_) fun _=>wE (nCF (wp_skip (nSR (pv (.slice A d.length cd) (pv (iv (d.length:Nat)) (gI .i64 (IntKind.i64.wrap ((d.length:Nat)+492)) ((d.length:Nat)+492) (wr_ok om_ om_) (gI .i64 (IntKind.i64.wrap (((d.length:Nat)+492)-1)) (((d.length:Nat)+492)-1) (wr_ok om_ om_) (gI .i64 (IntKind.i64.wrap (Int.tdiv (((d.length:Nat)+492)-1) 492)) ((c:Nat):Int) (wr_eq (by rw [Int.tdiv_eq_ediv_of_nonneg om_];omega) om_ om_) ?_))))))))))))⟩
  refine pv (nI_ c) (wE (nS (wp_block (sR (pv (.slice A d.length cd) (pv (iv (d.length:Nat)) (dE (d.length:Nat) 0 (fun _=>pv tv (wE (nCT (sR (pv (iv 2) (wE ?_)))))) fun hd4=>False.elim om_)))))))
  exact then_n (wp_ret (inb_r (then_r (bA (iv 2) ⟨rfl,S2⟩))))
 rw [if_neg hd0] at hR
 have hin:=hin hr
 obtain ⟨ad,rfl⟩:=(hd.out _ [_,_] S).at (k:=0) om_
 have hcd:d.length≤cd:=hcap
 change St F w0 w (row g (wC_ gd l l.head) 161::PW gd s::L) at S
 refine eN (fr [pq g,.slice (some ad) d.length cd] 81) Try.func57 rfl (sR (pv (iv 0) (wE (nS (sR (pv (pq g) (g_ (gv_call (args:=#[pq g]) rfl Try.func104 kr_ rfl rfl kr_ ?_))))))))
 have hrd:=w_ready S
 rw [hr] at hrd
 refine Calls.mono hrd ?_
 rintro _ w1 ⟨rfl,S2⟩
 refine ⟨_,rfl,(pv (iv 0) (wER (pv (iv 0) (dN 0 0 (fun hd3=>False.elim om_) fun _=>wE (nCF (wp_skip (nSR (pv (.slice (some ad) d.length cd) (pv (iv (d.length:Nat)) (gI .i64 (IntKind.i64.wrap ((d.length:Nat)+492)) ((d.length:Nat)+492) (wr_ok om_ om_) (gI .i64 (IntKind.i64.wrap (((d.length:Nat)+492)-1)) (((d.length:Nat)+492)-1) (wr_ok om_ om_) (gI .i64 (IntKind.i64.wrap (Int.tdiv (((d.length:Nat)+492)-1) 492)) ((c:Nat):Int) (wr_eq (by rw [Int.tdiv_eq_ediv_of_nonneg om_];omega) om_ om_) ?_))))))))))))⟩
 refine pv (nI_ c) (wE (nS (wp_block (sR (pv (.slice (some ad) d.length cd) (pv (iv (d.length:Nat)) (dE (d.length:Nat) 0 (fun hd4=>False.elim om_) fun _=>pv fv (wE (nCF (sR (pv (.slice (some ad) d.length cd) (pv (iv (d.length:Nat)) (dC (((d.length:Nat):Int)>8364) (fun hb5=> ?_) fun hb5=> ?_)))))))))))))
 ·rw [if_pos (show 8364<d.length by omega)] at hR
  subst hR
  exact pv tv (wE (nCT (sR (pv (iv 7) (wE (then_n (wp_ret (inb_r (then_r (bA (iv 7) ⟨rfl,S2⟩))))))))))
 ·rw [if_neg (show¬8364<d.length by omega)] at hR
  refine pv fv (wE (nCF (sR (pv (pq g) (pv (pq g) (pv (po g 7) (lR (nI_ l.head) S2 0 7 (pv (nI_ c) (gI .i64 (IntKind.i64.wrap (((l.head:Nat):Int)+((c:Nat):Int))) ((l.head+c:Nat):Int) wq_ (dC ((((l.head+c:Nat):Int):Int)>1073741824) (fun hb6=> ?_) fun hb6=> ?_))))))))))
  ·rw [hc] at hR
   rw [if_pos (show 1073741824<l.head+c by omega)] at hR
   subst hR
   exact pv tv (wE (nCT (sR (pv (iv 41) (wE (then_n (wp_ret (inb_r (then_r (bA (iv 41) ⟨rfl,S2⟩))))))))))
  ·rw [hc,if_neg (show¬1073741824<l.head+c by omega)] at hR
   refine pv fv (wE (nCF (sR (pv (nI_ c) (pv (pq g) (sP Try.func105 #[pq g] (w_free S2 hl hh) fun w7 S8=>dC ((((c:Nat):Int):Int)>((l.n:Int)-((l.head:Int)-(l.tail:Int)))) (fun hb9=> ?_) fun hb9=> ?_))))))
   ·rw [if_pos (show l.n<l.head-l.tail+c by omega)] at hR
    subst hR
    exact pv tv (wE (nCT (sR (pv (iv 40) (wE (then_n (wp_ret (inb_r (then_r (bA (iv 40) ⟨rfl,S8⟩))))))))))
   ·rw [if_neg (show¬l.n<l.head-l.tail+c by omega)] at hR
    refine pv fv (wE (nCF (wp_skip (inb_n (nS (sR (pv (nI_ c) (pv (iv 0) (wE (then_n (wp_block (wp_loop_g (G:=Nat×Dsk) (fun (g_:Nat×Dsk) (a_:Act) (w_:World)=>∃J:Nat→Value,a_=(fr ([pq g,.slice (some ad) d.length cd,ud,ud,J 4,iv 0,nI_ c,J 7,J 8,J 9,pq g,iv 0,iv 0,fv,ud,.slice (some ad) d.length cd,iv (d.length:Nat),iv ((d.length:Nat)+492),iv (((d.length:Nat)+492)-1),nI_ c,fv,.slice (some ad) d.length cd,iv (d.length:Nat),fv,fv,.slice (some ad) d.length cd,iv (d.length:Nat),fv,fv,pq g,pq g,po g 7,nI_ l.head,nI_ c,nI_ (l.head+c),fv,fv,nI_ c,pq g,iv ((l.n:Int)-((l.head:Int)-(l.tail:Int))),fv,nI_ c,nI_ g_.1]++jR J 43 32) 8)∧St F w0 w_ (row g (wC_ gd l l.head) 161::PW gd g_.2::L)∧(g_.1≤c∧laysR l d c s 0 c=laysR l d c g_.2 g_.1 (c-g_.1)∧g_.2.last.length=s.last.length∧g_.2.pend.length≤s.pend.length+g_.1)) (fun g_=>c-g_.1) (0,s) (jE_ ⟨S8,⟨Nat.zero_le _,rfl,rfl,Nat.le_refl _⟩⟩) ?_))))))))))))
    rintro ⟨i,si⟩ a_ w10 ⟨J,rfl,S11,⟨hI1,hI2,hI3,hI4⟩⟩
    skip
    have S11:St F w0 w10 (row g (wC_ gd l l.head) 161::PW gd si::L):=S11
    refine sR (dC ((((i:Nat):Int):Int)<((c:Nat):Int)) (fun hb13=> ?_) fun hb13=> ?_)
    ·have hI1:i≤c:=hI1
     have hI2:laysR l d c s 0 c=laysR l d c si i (c-i):=hI2
     have hI3:si.last.length=s.last.length:=hI3
     have hI4:si.pend.length≤s.pend.length+i:=hI4
     have hi:i<c:=by omega
     obtain ⟨hp1,hp2,hp3⟩:=partR_len (d:=d) hc.symm hi
     have hst:=hI2.trans (laysR_step hi)
     obtain ⟨hlen1,hlen2⟩:=writeR_len (s:=si) (at_:=((l.first+2+(l.head+i)%l.n:Nat):Int)) (d:=(sealF (si.now (l.first+2+(l.head+i)%l.n)) (bodyR l.epoch (l.head+i) i c (partR d i))).1)
     have hly0:layR si l d i c=si.writeR ((l.first+2+(l.head+i)%l.n:Nat):Int) (sealF (si.now (l.first+2+(l.head+i)%l.n)) (bodyR l.epoch (l.head+i) i c (partR d i))).1:=rfl
     rw [←hly0] at hlen1 hlen2
     refine wE (nS (cT (wp_skip (nS (wp_block (sR (pv (nI_ i) (pv (nI_ i) (wER (pv (.slice (some ad) d.length cd) (pv (nI_ i) (gI .i64 (IntKind.i64.wrap (((i:Nat):Int)*492)) ((i*492:Nat):Int) wq_ (pv (.slice (some ad) d.length cd) ?_)))))))))))))
     refine pv (iv (d.length:Nat)) (pv (nI_ i) (gI .i64 (IntKind.i64.wrap (((i:Nat):Int)+1)) ((i+1:Nat):Int) (wr_eq om_ om_ om_) (gI .i64 (IntKind.i64.wrap (((i+1:Nat):Int)*492)) (((i+1)*492:Nat):Int) (wr_eq om_ om_ om_) (gI .i64 (if (((i+1)*492:Nat):Int)<(d.length:Nat) then (((i+1)*492:Nat):Int) else (d.length:Nat)) ((min d.length ((i+1)*492):Nat):Int) (by split<;>omega) (g_ (gv_cutA (e:=5) (sz:=1) (ad:=ad) (n:=d.length) (c:=cd) (kl:=.i64) (kh:=.i64) (u:=((i*492:Nat):Int)) (v:=((min d.length ((i+1)*492):Nat):Int)) (lo:=(i*492)) (hi:=(min d.length ((i+1)*492))) (ad':=(ad.add (i*492))) (n':=(min d.length ((i+1)*492)-i*492)) (c':=(cd-i*492)) rfl kr_ kr_ kr_ kr_ kr_ rfl rfl om_ om_ om_ (by rw [Nat.mul_one]) om_ om_ (pv (.slice (some (ad.add (i*492))) (min d.length ((i+1)*492)-i*492) (cd-i*492)) (wE ?_))))))))
     refine nS (wp_region_phu (γ:=Unit) 16 [15] (fun (c_:Unit) (i_:Nat)=>(match i_ with|0=>pq g|1=>pq g|2=>pq g|3=>po g 4|4=>nI_ l.epoch|5=>pq g|6=>pq g|7=>po g 7|8=>nI_ l.head|9=>nI_ i|10=>nI_ (l.head+i)|11=>nI_ i|12=>nI_ c|13=>.slice (some (ad.add (i*492))) (min d.length ((i+1)*492)-i*492) (cd-i*492)|14=>.agg #[nI_ l.epoch,nI_ (l.head+i),nI_ i,nI_ c,.slice (some (ad.add (i*492))) (min d.length ((i+1)*492)-i*492) (cd-i*492)]|15=>iv ((layR si l d i c).2)|_=>undef:Value)) (fun (c_:Unit) (p_:Nat) (w_:World)=>(match p_ with|0=>St F w0 w_ (row g (wC_ gd l l.head) 161::PW gd si::L)|_=>St F w0 w_ (row g (wC_ gd l l.head) 161::PW gd (layR si l d i c).1::L):Prop)) () kr_ kr_ kr_ kr_ (S11.drew) ?_ ?_ ?_)
     ·intro i_ c_ p_ vals_ w1 hi_ hiE_ hp_ hk_ hu_ hPh_ hd_
      rcases i_ with _|_|_|_|_|_|_|_|_|_|_|_|_|_|_|_|i_
      ·exact tG_ rfl hd_ (gV (pq g) ⟨rfl,rfl⟩)
      ·exact tG_ rfl hd_ (gV (pq g) ⟨rfl,rfl⟩)
      ·exact tG_ rfl hd_ (gV (pq g) ⟨rfl,rfl⟩)
      ·exact tG_ rfl hd_ (gV (po g 4) ⟨rfl,rfl⟩)
      ·rcases p_ with _|_|p_
       ·have S18:=St.id hPh_
        exact tG_ rfl hd_ (gL (nI_ l.epoch) rfl (((S18.blk 0 rfl).cell 4).trans rfl) ⟨rfl,rfl⟩)
       ·exact absurd (hu_ 0 dc_ kr_) dc_
       ·exact absurd hp_ (by simp)
      ·exact tG_ rfl hd_ (gV (pq g) ⟨rfl,rfl⟩)
      ·exact tG_ rfl hd_ (gV (pq g) ⟨rfl,rfl⟩)
      ·exact tG_ rfl hd_ (gV (po g 7) ⟨rfl,rfl⟩)
      ·rcases p_ with _|_|p_
       ·have S22:=St.id hPh_
        exact tG_ rfl hd_ (gL (nI_ l.head) rfl (((S22.blk 0 rfl).cell 7).trans rfl) ⟨rfl,rfl⟩)
       ·exact absurd (hu_ 0 dc_ kr_) dc_
       ·exact absurd hp_ (by simp)
      ·exact tG_ rfl hd_ (gV (nI_ i) ⟨rfl,rfl⟩)
      ·exact tG_ rfl hd_ (gv_int (k:=.i64) (z:=IntKind.i64.wrap (((l.head:Nat):Int)+((i:Nat):Int))) (z':=((l.head+i:Nat):Int)) kr_ wq_ ⟨rfl,rfl⟩)
      ·exact tG_ rfl hd_ (gV (nI_ i) ⟨rfl,rfl⟩)
      ·exact tG_ rfl hd_ (gV (nI_ c) ⟨rfl,rfl⟩)
      ·exact tG_ rfl hd_ (gV (.slice (some (ad.add (i*492))) (min d.length ((i+1)*492)-i*492) (cd-i*492)) ⟨rfl,rfl⟩)
      ·exact tG_ rfl hd_ (gV (.agg #[nI_ l.epoch,nI_ (l.head+i),nI_ i,nI_ c,.slice (some (ad.add (i*492))) (min d.length ((i+1)*492)-i*492) (cd-i*492)]) ⟨rfl,rfl⟩)
      ·exact absurd hiE_ dc_
      ·exact absurd hi_ om_
     ·intro k_ c_ vals_ w1 hk_ hPh_ hd_
      rcases k_ with _|k_
      ·have S29:=St.id hPh_
       refine tG_ rfl hd_ (gv_call (args:=#[pq g,.agg #[nI_ l.epoch,nI_ (l.head+i),nI_ i,nI_ c,.slice (some (ad.add (i*492))) (min d.length ((i+1)*492)-i*492) (cd-i*492)]]) rfl Try.func106 kr_ rfl rfl kr_ ?_)
       have hlc:=w_lay (ep:=l.epoch) (p:=l.head+i) (i:=i) (c:=c) (d:=partR d i) (cd:=cd-i*492) S29 hl hp1.symm (hd.sub (i*492) 492) hp2 hp3 om_ om_ om_ om_ (by rw [hI3];omega) om_
       rw [←hly0] at hlc
       refine Calls.mono hlc ?_
       rintro _ w30 ⟨rfl,S31⟩
       refine ⟨_,rfl,⟨(),rfl, ?_,S31⟩⟩
       intro i_ hi_ hne_ hdp_
       rcases i_ with _|_|_|_|_|_|_|_|_|_|_|_|_|_|_|_|i_
       ·rfl
       ·rfl
       ·rfl
       ·rfl
       ·rfl
       ·rfl
       ·rfl
       ·rfl
       ·rfl
       ·rfl
       ·rfl
       ·rfl
       ·rfl
       ·rfl
       ·rfl
       ·exact absurd rfl hne_
       ·exact absurd hi_ om_
      ·exact absurd hk_ (by simp)
     ·intro c_ w1 hPh_
      have S32:=St.id hPh_
      refine pv (iv ((layR si l d i c).2)) (wE ?_)
      refine nSR (pv (iv ((layR si l d i c).2)) (dN ((layR si l d i c).2) 0 (fun hly=> ?_) fun hly=> ?_))
      ·have hfin:laysR l d c s 0 c=layR si l d i c:=hst.trans (if_pos hly)
       rw [hfin] at hR
       rw [if_pos hly] at hR
       subst hR
       exact wE (nCT (sR (pv (iv ((layR si l d i c).2)) (pv (iv ((layR si l d i c).2)) (wE (then_n (wp_ret (inb_r (then_r (then_r (inb_r (then_r (bA (iv ((layR si l d i c).2)) ⟨rfl,S32⟩)))))))))))))
      ·exact wE (nCF (wp_skip (inb_n (nR (gI .i64 (IntKind.i64.wrap (((i:Nat):Int)+1)) ((i+1:Nat):Int) (wr_eq om_ om_ om_) (pv (nI_ (i+1)) (wE (then_n ⟨(i+1,(layR si l d i c).1),(jE_ ⟨S32,⟨by omega,hst.trans (by rw [if_neg (fun h=>h hly)]),by show (layR si l d i c).1.last.length=s.last.length;omega,by show (layR si l d i c).1.pend.length≤s.pend.length+(i+1);omega⟩⟩),(by show c-(i+1)<c-i;omega)⟩))))))))
    ·have hI1:i≤c:=hI1
     have hI2:laysR l d c s 0 c=laysR l d c si i (c-i):=hI2
     have hI3:si.last.length=s.last.length:=hI3
     have hI4:si.pend.length≤s.pend.length+i:=hI4
     have hic:i=c:=by omega
     have hfin:laysR l d c s 0 c=(si,0):=by rw [hI2,hic,Nat.sub_self];rfl
     rw [hfin] at hR
     subst hR
     refine wE (nS (cF (wp_exit (then_x (then_x (inb_x (nSR (pv (pq g) (pv (pq g) (pv (po g 7) (lR (nI_ l.head) S11 0 7 (pv (nI_ c) (gI .i64 (IntKind.i64.wrap (((l.head:Nat):Int)+((c:Nat):Int))) ((l.head+c:Nat):Int) wq_ ?_)))))))))))))
     exact pv (pq g) (pv (po g 7) (sS S11 0 rfl 7 (nI_ (l.head+c)) fun w33 S34=>wE (nSR (pv (iv 0) (wE (then_n (wp_ret (bA (iv 0) ⟨rfl,S34⟩))))))))
theorem now_flushR {s:Dsk}{k:Nat}(hk:k<s.last.length):s.flushR.1.now k=s.now k:=by
 rcases flushR_cases s with ⟨h,e⟩|⟨h,e⟩
 ·rw [e]
 ·rw [e];exact now_flush rfl rfl hk
end Go.Proofs
end
section
open Go Go.RowKit Go.Proofs.YtgeioealgidkiaaW.PrintWords Go.Proofs.YtgeioealgidkiaaW.PrintMore
namespace Go.Proofs
open Go.Vel
set_option linter.unusedVariables false
set_option linter.unusedSimpArgs false
section
abbrev PcV:=Pc×Value
def pcells (x:PcV):List Value:=[.int .i64 (x.1.epoch:Nat),.int .i64 (x.1.pos:Nat),.int .i64 (x.1.idx:Nat),.int .i64 (x.1.cnt:Nat),x.2]
def pc0:PcV:=(pcNo,.slice none 0 0)
def pcRow (M:List PcV):Array Value:=(M.flatMap pcells).toArray
def pcD (x:PcV):Ast:=bytesX x.2 x.1.data
theorem pcs_len:∀M:List PcV,(M.flatMap pcells).length=M.length*5
 |[]=>rfl
 |x::M=>by rw [List.flatMap_cons,List.length_append,pcs_len M,List.length_cons];simp only [pcells,List.length_cons,List.length_nil];omega
theorem pcs_at:∀{M:List PcV} {i:Nat} {x:PcV},M[i]?=some x→((M.flatMap pcells).drop (i*5)).take 5=pcells x
 |[],i,x,h=>by simp at h
 |y::M,0,x,h=>by
  simp at h;subst h
  rw [Nat.zero_mul,List.drop_zero,List.flatMap_cons];rfl
 |y::M,i+1,x,h=>by
  rw [List.flatMap_cons,show (i+1)*5=(pcells y).length+i*5 from by simp [pcells];omega,List.drop_append,List.drop_of_length_le om_,List.nil_append,Nat.add_sub_cancel_left]
  exact pcs_at (by simpa using h)
theorem pcs_set:∀{M:List PcV} {i:Nat} {x:PcV},i<M.length→splice (M.flatMap pcells) (i*5) (pcells x)=(M.set i x).flatMap pcells
 |[],i,x,h=>by simp at h
 |y::M,0,x,h=>by
  simp only [splice,Nat.zero_mul,List.take_zero,List.nil_append,Nat.zero_add,List.flatMap_cons,List.set_cons_zero]
  congr 1
 |y::M,i+1,x,h=>by
  have ih:=pcs_set (M:=M) (i:=i) (x:=x) (by simpa using h)
  have hy:(pcells y).length=5:=rfl
  have hx:(pcells x).length=5:=rfl
  simp only [splice,List.flatMap_cons,List.set_cons_succ] at ih ⊢
  rw [←ih,List.take_append,List.take_of_length_le om_,List.drop_append,List.drop_of_length_le om_,hy,show (i+1)*5-5=i*5 from by omega,show (i+1)*5+(pcells x).length-5=i*5+(pcells x).length from by omega]
  simp
theorem pc_made (n:Nat):madeCells (Value.agg #[.int .i64 0,.int .i64 0,.int .i64 0,.int .i64 0,.slice none 0 0]).cells (n*5)=pcRow (List.replicate n pc0):=by
 apply Array.ext'
 unfold pcRow
 simp only [madeCells,Array.toList_map,Array.toList_range]
 induction n with
 |zero=>rfl
 |succ n ih=>
  rw [show (n+1)*5=n*5+5 from by omega,List.range_add,List.map_append,ih,List.replicate_succ',List.flatMap_append]
  congr 1
  have hm:∀j,(n*5+j)%5=j%5:=fun j=>by omega
  simp only [List.map_map]
  show [_,_,_,_,_]=[_,_,_,_,_]
  simp only [Function.comp,Value.cells,List.size_toArray,List.length_cons,List.length_nil,Nat.zero_add,Nat.reduceAdd,hm]
  rfl
def cutA (c lo:Nat)(ad:Addr):Addr:=if c=lo then ad else ad.add lo
theorem gv_from {P:Program}{o:Oper}{w:World}{ρ:Operand→Value}{K:Value→World→Prop}{e T:TypeId}{x p:Operand}{ad:Addr}{n c lo n' c':Nat}{kl:IntKind}{u:Int}(ho:o.op=.slice T x (some p) none none)(hT:P.underlying T=some (.slice e))(hsz:(P.info? e).map (·.size)=some 1)(hx:ρ x=.slice (some ad) n c)(hp:ρ p=.int kl u)(hu:u=(lo:Int))(h1:lo≤n)(h2:n≤c)(hn:n-lo=n')(hc:c-lo=c')(h:K (.slice (some (cutA c lo ad)) n' c') w):gives P K ((execOp ρ o).run P w):=by
 subst hu hn hc
 refine gv_val (w':=w) ?_ h
 cases hq2:P.info? e with
 |none=>simp [hq2] at hsz
 |some ie=>
  have he:ie.size=1:=by simpa [hq2] using hsz
  simp only [execOp,ho,hx,hp,Option.map_some,Option.map_none]
  by_cases hcl:c=lo
  ·simp [Instr.sliceAt,Instr.slice,Instr.sliceBounds,Instr.sliceBound,asIntOf,run_underlying hT,sizeOf,typeInfo,hq2,he,h1,h2,hcl,cutA]
  ·simp [Instr.sliceAt,Instr.slice,Instr.sliceBounds,Instr.sliceBound,asIntOf,run_underlying hT,sizeOf,typeInfo,hq2,he,h1,h2,hcl,cutA]
theorem RdB.cut {w:World}{ad:Addr}{l:List UInt8}{c lo:Nat}(h:RdB w (some ad) l)(hc:l.length≤c):RdB w (some (cutA c lo ad)) (l.drop lo):=by
 intro h0
 rw [List.length_drop] at h0
 have h1:=RdB.sub h lo (l.length-lo)
 rw [show (l.drop lo).take (l.length-lo)=l.drop lo from List.take_of_length_le (by rw [List.length_drop];exact Nat.le_refl _)] at h1
 unfold cutA
 rw [if_neg om_]
 exact h1 (by rw [List.length_drop];omega)
section
variable {F:Nat→Prop}{w0 w:World}{L:List Ast}
theorem St.cutX {ad:Addr}{n c:Nat}{l:List UInt8}{lo:Nat}(hn:n=l.length)(hc:n≤c)(S:St F w0 w (bytesX (.slice (some ad) n c) l::L)):St F w0 w (bytesX (.slice (some (cutA c lo ad)) (n-lo) (c-lo)) (l.drop lo)::L):=by
 subst hn
 refine S.map1 fun h hb=> ?_
 obtain ⟨A,c',e,_,hR⟩:=hb
 simp at e
 obtain ⟨rfl,rfl⟩:=e
 exact ⟨some (cutA c lo ad),c-lo,by rw [List.length_drop],by rw [List.length_drop];omega,fun w hw=>RdB.cut (hR w hw) hc⟩
theorem St.stars_rep (S:St F w0 w L):∀n,St F w0 w (stars ((List.replicate n pc0).map pcD)::L)
 |0=>S.star_nil
 |n+1=>by
  have h:=St.stars_rep S n
  rw [List.replicate_succ,List.map_cons]
  exact St.star_join (LA:=[pcD pc0]) (St.one_star (St.bytesX_nil h))
end
structure RingOk (s:Dsk)(first n:Nat)(M:List PcV):Prop where
 len:M.length=n
 pc:∀j x,M[j]?=some x→x.1=pcAt s first n j∧∃A c,x.2=.slice A x.1.data.length c
structure RingTo (s:Dsk)(first n i:Nat)(M:List PcV):Prop where
 len:M.length=n
 pc:∀j x,M[j]?=some x→(j<i→x.1=pcAt s first n j)∧(i≤j→x=pc0)∧∃A c,x.2=.slice A x.1.data.length c
theorem RingTo.start (s:Dsk)(first n:Nat):RingTo s first n 0 (List.replicate n pc0):=⟨List.length_replicate,fun j x hx=>by
 have h:=List.eq_of_mem_replicate (List.mem_of_getElem? hx)
 exact ⟨fun h=>absurd h (Nat.not_lt_zero j),fun _=>h,none,0,by rw [h];rfl⟩⟩
theorem RingTo.skip {s:Dsk}{first n i:Nat}{M:List PcV}(h:RingTo s first n i M)(hp:pcAt s first n i=pcNo):RingTo s first n (i+1) M:=⟨h.len,fun j x hx=>by
 obtain ⟨h1,h2,h3⟩:=h.pc j x hx
 refine ⟨fun hj=> ?_,fun hj=>h2 om_,h3⟩
 by_cases hji:j=i
 ·subst hji;rw [hp,h2 (Nat.le_refl _)];rfl
 ·exact h1 om_⟩
theorem RingTo.put {s:Dsk}{first n i:Nat}{M:List PcV}(h:RingTo s first n i M){x:PcV}(hx:x.1=pcAt s first n i)(hv:∃A c,x.2=.slice A x.1.data.length c):RingTo s first n (i+1) (M.set i x):=⟨by rw [List.length_set];exact h.len,fun j y hy=>by
 by_cases hji:i=j
 ·subst hji
  have hl:=(List.getElem?_eq_some_iff.1 hy).1
  rw [List.length_set] at hl
  rw [List.getElem?_set_self hl] at hy
  cases hy
  exact ⟨fun _=>hx,fun h=>by omega,hv⟩
 ·rw [List.getElem?_set_ne hji] at hy
  obtain ⟨h1,h2,h3⟩:=h.pc j y hy
  exact ⟨fun hj=>h1 om_,fun hj=>h2 om_,h3⟩⟩
theorem RingTo.ok {s:Dsk}{first n:Nat}{M:List PcV}(h:RingTo s first n n M):RingOk s first n M:=⟨h.len,fun j x hx=>by
 obtain ⟨h1,_,h3⟩:=h.pc j x hx
 exact ⟨h1 (by have:=(List.getElem?_eq_some_iff.1 hx).1;rw [h.len] at this;exact this),h3⟩⟩
theorem St.rdX {F:Nat→Prop}{w0 w:World}{L:List Ast}{A:Option Addr}{n c:Nat}{l:List UInt8}(S:St F w0 w L)(i:Nat)(hi:L[i]?=some (bytesX (.slice A n c) l)):RdB w A l:=(RoT.bytesX i hi rfl).now S
theorem St.pc_put {F:Nat→Prop}{w0 w:World}{L:List Ast}{M:List PcV}{x:PcV}(i:Nat)(hi:i<M.length)(S:St F w0 w (pcD x::stars (M.map pcD)::L)):St F w0 w (stars ((M.set i x).map pcD)::L):=by
 have h:=St.nth S.swap i (List.getElem?_eq_getElem hi)
 exact St.fill i hi (St.permT (L:=L) [pcD M[i],stars ((M.take i).map pcD),stars ((M.drop (i+1)).map pcD),pcD x] [3,1,2] dc_ rfl h)
theorem numN_lt (b:List UInt8)(a n:Nat)(h:n≤4):numN b a n<4294967296:=by
 have h1:=leN_lt ((b.drop a).take n)
 have h2:((b.drop a).take n).length≤4:=by rw [List.length_take];omega
 exact Nat.lt_of_lt_of_le h1 (Nat.le_trans (Nat.pow_le_pow_right dc_ h2) dc_)
theorem pcF_lt (sec:List UInt8):(pcF sec).epoch<4294967296∧(pcF sec).pos<4294967296∧(pcF sec).idx<4294967296∧(pcF sec).cnt<4294967296:=by
 unfold pcF
 split
 ·exact ⟨numN_lt _ _ _ dc_,numN_lt _ _ _ dc_,numN_lt _ _ _ dc_,numN_lt _ _ _ dc_⟩
 ·exact ⟨by decide,by decide,by decide,by decide⟩
end
end Go.Proofs
end
section
open Go Go.RowKit Go.Proofs.YtgeioealgidkiaaW.PrintWords Go.Proofs.YtgeioealgidkiaaW.PrintMore
namespace Go.Proofs
open Go.Vel
set_option linter.unusedVariables false
set_option maxRecDepth 100000
set_option maxHeartbeats 4000000
attribute [local irreducible] gives wpList Code.wp
theorem w_ring {F:Nat→Prop}{w0 w:World}{L:List Ast}{g gd:Nat}{l:Lg}{s:Dsk}(S:St F w0 w (PLog g gd l::PW gd s::L))(hl:LOk l)(hz:s.left≠0)(hin:l.first+2+l.n≤s.last.length):Calls Try.prog 110 #[.pointer (some ⟨g,0,none⟩)] w fun e w'=>∃gr M,e=.returned (.tuple #[.slice (some ⟨gr,0,none⟩) l.n l.n,.int .i64 0])∧RingOk s l.first l.n M∧St F w0 w' (row gr (pcRow M) 165::stars (M.map pcD)::PLog g gd l::PW gd s::L):=by
 have hok:=St.pw_ok S.tail
 obtain ⟨h1,h2,h3,h4,h5,h6⟩:=id hl
 change St F w0 w (row g (wC_ gd l l.head) 161::PW gd s::L) at S
 refine eN (fr [pq g] 64) Try.func110 rfl (sR (pv (nS_) (pv (iv 0) (wER (pv (pq g) (pv (pq g) (pv (po g 2) (lR (nI_ l.n) S 0 2 (g_ (gv_make (e:=165) (u:=((l.n:Nat):Int)) (v:=((l.n:Nat):Int)) (z:=.agg #[iv 0,iv 0,iv 0,iv 0,nS_]) (sz:=5) (by_:=56) (n:=l.n) (c:=l.n) (cs:=pcRow (List.replicate l.n pc0)) S rfl kr_ ⟨by kernel_rfl⟩ kr_ kr_ rfl rfl (Nat.le_refl _) om_ om_ (pc_made _) (fun g1 w2 hg3 S4=>pv (sl g1 0 l.n l.n) (wE (nS (sR ?_))))))))))))))
 refine pv (sl g1 0 l.n l.n) (pv (iv (l.n:Nat)) (pv (iv 0) (wE (then_n (wp_block ?_)))))
 have S5:St F w0 w2 (stars ((List.replicate l.n pc0).map pcD)::row g1 (pcRow (List.replicate l.n pc0)) 165::row g (wC_ gd l l.head) 161::PW gd s::L):=St.stars_rep S4 l.n
 have S6:=St.pm 4 [1,0,2,3] S5
 refine wp_loop_g (G:=Nat×List PcV) (fun (g_:Nat×List PcV) (a_:Act) (w_:World)=>∃J:Nat→Value,a_=(fr ([pq g,ud,J 2,J 3,sl g1 0 l.n l.n]++jR J 5 5++[pq g,pq g,po g 2,nI_ l.n,sl g1 0 l.n l.n,sl g1 0 l.n l.n,iv (l.n:Nat),nI_ g_.1]++jR J 18 46) 1)∧St F w0 w_ (row g1 (pcRow g_.2) 165::stars (g_.2.map pcD)::row g (wC_ gd l l.head) 161::PW gd s::L)∧(g_.1≤l.n∧RingTo s l.first l.n g_.1 g_.2)) (fun g_=>l.n-g_.1) (0,List.replicate l.n pc0) (jE_ ⟨S6,⟨Nat.zero_le _,RingTo.start s l.first l.n⟩⟩) ?_
 rintro ⟨i,M⟩ a_ w7 ⟨J,rfl,S8,⟨hI1,hI2⟩⟩
 skip
 have S8:St F w0 w7 (row g1 (pcRow M) 165::stars (M.map pcD)::row g (wC_ gd l l.head) 161::PW gd s::L):=S8
 refine sR (dC ((((i:Nat):Int):Int)<(l.n:Nat)) (fun hb10=> ?_) fun hb10=> ?_)
 ·have hI1:i≤l.n:=hI1
  have hI2:RingTo s l.first l.n i M:=hI2
  have hml:=hI2.len
  have hi:i<l.n:=by omega
  have him:i%l.n=i:=Nat.mod_eq_of_lt hi
  have hs5:=hok.now (k:=l.first+2+i%l.n) om_
  refine wE (nS (cT (wp_skip (nS (wp_block (sR (pv (nI_ i) (pv (nI_ i) (wE (nS (wp_region_phu (γ:=Option Addr) 12 [6,7] (fun (c_:Option Addr) (i_:Nat)=>(match i_ with|0=>pq g|1=>pq g|2=>pq g|3=>pq gd|4=>pq g|5=>nI_ i|6=>nI_ (l.first+2+i%l.n)|7=>.tuple #[.slice c_ 512 512,iv 0]|8=>.tuple #[.slice c_ 512 512,iv 0]|9=>.slice c_ 512 512|10=>iv 0|11=>.slice c_ 512 512|_=>undef:Value)) (fun (c_:Option Addr) (p_:Nat) (w_:World)=>(match p_ with|0=>St F w0 w_ (row g1 (pcRow M) 165::stars (M.map pcD)::row g (wC_ gd l l.head) 161::PW gd s::L)|1=>St F w0 w_ (row g (wC_ gd l l.head) 161::PW gd s::row g1 (pcRow M) 165::stars (M.map pcD)::L)|_=>St F w0 w_ (bytesA (.slice c_ 512 512) (s.now (l.first+2+i%l.n))::PW gd s::row g (wC_ gd l l.head) 161::row g1 (pcRow M) 165::stars (M.map pcD)::L):Prop)) (none) kr_ kr_ kr_ kr_ (S8.drew) ?_ ?_ ?_)))))))))))
  ·intro i_ c_ p_ vals_ w1 hi_ hiE_ hp_ hk_ hu_ hPh_ hd_
   rcases i_ with _|_|_|_|_|_|_|_|_|_|_|_|i_
   ·exact tG_ rfl hd_ (gV (pq g) ⟨rfl,rfl⟩)
   ·exact tG_ rfl hd_ (gV (pq g) ⟨rfl,rfl⟩)
   ·exact tG_ rfl hd_ (gV (pq g) ⟨rfl,rfl⟩)
   ·rcases p_ with _|_|_|p_
    ·have S14:=St.id hPh_
     exact tG_ rfl hd_ (gL (pq gd) rfl (((S14.blk 2 rfl).cell 0).trans rfl) ⟨rfl,rfl⟩)
    ·have S15:=St.id hPh_
     exact tG_ rfl hd_ (gL (pq gd) rfl (((S15.blk 0 rfl).cell 0).trans rfl) ⟨rfl,rfl⟩)
    ·exact absurd (hu_ 1 dc_ kr_) dc_
    ·exact absurd hp_ (by simp)
   ·exact tG_ rfl hd_ (gV (pq g) ⟨rfl,rfl⟩)
   ·exact tG_ rfl hd_ (gV (nI_ i) ⟨rfl,rfl⟩)
   ·exact absurd hiE_ dc_
   ·exact absurd hiE_ dc_
   ·exact tG_ rfl hd_ (gV (.tuple #[.slice c_ 512 512,iv 0]) ⟨rfl,rfl⟩)
   ·exact tG_ rfl hd_ (gV (.slice c_ 512 512) ⟨rfl,rfl⟩)
   ·exact tG_ rfl hd_ (gV (iv 0) ⟨rfl,rfl⟩)
   ·exact tG_ rfl hd_ (gV (.slice c_ 512 512) ⟨rfl,rfl⟩)
   ·exact absurd hi_ om_
  ·intro k_ c_ vals_ w1 hk_ hPh_ hd_
   rcases k_ with _|_|k_
   ·have S22:=St.id hPh_
    refine tG_ rfl hd_ (gv_call (args:=#[pq g,nI_ i]) rfl Try.func138 kr_ rfl rfl kr_ ?_)
    have S23:=St.pm 4 [2,3,0,1] S22
    refine Calls.mono (w_at (p:=i) S23 hl om_) ?_
    rintro _ w24 ⟨rfl,S25⟩
    refine ⟨_,rfl,⟨(c_),rfl, ?_,S25⟩⟩
    intro i_ hi_ hne_ hdp_
    rcases i_ with _|_|_|_|_|_|_|_|_|_|_|_|i_
    ·rfl
    ·rfl
    ·rfl
    ·rfl
    ·rfl
    ·rfl
    ·exact absurd rfl hne_
    ·exact dN_ hdp_
    ·exact dN_ hdp_
    ·exact dN_ hdp_
    ·exact dN_ hdp_
    ·exact dN_ hdp_
    ·exact absurd hi_ om_
   ·have S26:=St.id hPh_
    refine tG_ rfl hd_ (gv_call (args:=#[pq gd,nI_ (l.first+2+i%l.n)]) rfl Try.func26 kr_ rfl rfl kr_ ?_)
    have S27:=St.pm 4 [1,0,2,3] S26
    refine Calls.mono (pw_read (k:=l.first+2+i%l.n) S27 hz om_) ?_
    rintro _ w28 ⟨m30,rfl,S29⟩
    refine ⟨_,rfl,⟨(m30),rfl, ?_,S29⟩⟩
    intro i_ hi_ hne_ hdp_
    rcases i_ with _|_|_|_|_|_|_|_|_|_|_|_|i_
    ·rfl
    ·rfl
    ·rfl
    ·rfl
    ·rfl
    ·rfl
    ·rfl
    ·exact absurd rfl hne_
    ·exact dN_ hdp_
    ·exact dN_ hdp_
    ·exact dN_ hdp_
    ·exact dN_ hdp_
    ·exact absurd hi_ om_
   ·exact absurd hk_ (by simp)
  ·intro c_ w1 hPh_
   have S31:=St.id hPh_
   refine (pv (iv 0) (wE (nS (sR (pv (iv 0) (dN 0 0 (fun hd32=>False.elim om_) fun _=>wE (nCF (wp_skip (nSR (pv (.slice c_ 512 512) (g_ (gv_call (args:=#[.slice c_ 512 512]) rfl Try.func129 kr_ rfl rfl kr_ ?_))))))))))))
   have hop:=ps_open (a:=s.now (l.first+2+i%l.n)) (ca:=512) S31 (RoT.bytes 0 rfl rfl) om_
   rw [hs5] at hop
   refine Calls.mono hop ?_
   rintro _ w33 ⟨v9,rfl,S34⟩
   obtain ⟨A9,c9,rfl,hc9⟩:=St.bytesX_v S34
   refine ⟨_,rfl,(pv (.tuple #[.slice A9 ((openF (s.now (l.first+2+i%l.n))).1.length) c9,iv ((openF (s.now (l.first+2+i%l.n))).2:Int)]) (pv (.slice A9 ((openF (s.now (l.first+2+i%l.n))).1.length) c9) (pv (iv ((openF (s.now (l.first+2+i%l.n))).2:Int)) (pv (.slice A9 ((openF (s.now (l.first+2+i%l.n))).1.length) c9) (pv (iv ((openF (s.now (l.first+2+i%l.n))).2:Int)) (wER (pv (iv ((openF (s.now (l.first+2+i%l.n))).2:Int)) (dE ((openF (s.now (l.first+2+i%l.n))).2:Int) 0 (fun hb35=> ?_) fun hb35=> ?_))))))))⟩
   ·have ho0:(openF (s.now (l.first+2+i%l.n))).2=0:=by omega
    refine pv tv (pW (.slice A9 ((openF (s.now (l.first+2+i%l.n))).1.length) c9) (pW (iv ((openF (s.now (l.first+2+i%l.n))).1.length:Nat)) (wl_when kr_ (gv_dec (p:=(((openF (s.now (l.first+2+i%l.n))).1.length:Nat):Int)≥12) kr_ (fun hb36=> ?_) (fun hb36=> ?_)))))
    ·have hpy:pcAt s l.first l.n i=pcOf (openF (s.now (l.first+2+i%l.n))).1:=by unfold pcAt pcF;rw [if_pos ⟨ho0,by omega⟩]
     have hol:=openF_len (s.now (l.first+2+i%l.n))
     obtain ⟨ad,rfl⟩:=(St.rdX S34 0 rfl).at (k:=0) om_
     refine pv tv (wE (nCT (wp_region_phu (γ:=Unit) 16 [] (fun (c2_:Unit) (i_:Nat)=>(match i_ with|0=>sl g1 0 l.n l.n|1=>nI_ i|2=>.slice (some ad) ((openF (s.now (l.first+2+i%l.n))).1.length) c9|3=>nI_ (numN (openF (s.now (l.first+2+i%l.n))).1 0 4)|4=>.slice (some ad) ((openF (s.now (l.first+2+i%l.n))).1.length) c9|5=>.slice (some (cutA c9 4 ad)) (((openF (s.now (l.first+2+i%l.n))).1.length)-4) (c9-4)|6=>nI_ (numN (openF (s.now (l.first+2+i%l.n))).1 4 4)|7=>.slice (some ad) ((openF (s.now (l.first+2+i%l.n))).1.length) c9|8=>.slice (some (cutA c9 8 ad)) (((openF (s.now (l.first+2+i%l.n))).1.length)-8) (c9-8)|9=>nI_ (numN (openF (s.now (l.first+2+i%l.n))).1 8 2)|10=>.slice (some ad) ((openF (s.now (l.first+2+i%l.n))).1.length) c9|11=>.slice (some (cutA c9 10 ad)) (((openF (s.now (l.first+2+i%l.n))).1.length)-10) (c9-10)|12=>nI_ (numN (openF (s.now (l.first+2+i%l.n))).1 10 2)|13=>.slice (some ad) ((openF (s.now (l.first+2+i%l.n))).1.length) c9|14=>.slice (some (cutA c9 12 ad)) (((openF (s.now (l.first+2+i%l.n))).1.length)-12) (c9-12)|15=>.agg #[nI_ (numN (openF (s.now (l.first+2+i%l.n))).1 0 4),nI_ (numN (openF (s.now (l.first+2+i%l.n))).1 4 4),nI_ (numN (openF (s.now (l.first+2+i%l.n))).1 8 2),nI_ (numN (openF (s.now (l.first+2+i%l.n))).1 10 2),.slice (some (cutA c9 12 ad)) (((openF (s.now (l.first+2+i%l.n))).1.length)-12) (c9-12)]|_=>undef:Value)) (fun (c2_:Unit) (p_:Nat) (w_:World)=>(match p_ with|_=>St F w0 w_ (bytesX (.slice (some ad) (openF (s.now (l.first+2+i%l.n))).1.length c9) (openF (s.now (l.first+2+i%l.n))).1::bytesA (.slice c_ 512 512) (s.now (l.first+2+i%l.n))::PW gd s::row g (wC_ gd l l.head) 161::row g1 (pcRow M) 165::stars (M.map pcD)::L):Prop)) () kr_ kr_ kr_ kr_ (S34.drew) ?_ ?_ ?_)))
     ·intro i_ c2_ p_ vals_ w1 hi_ hiE_ hp_ hk_ hu_ hPh_ hd_
      rcases i_ with _|_|_|_|_|_|_|_|_|_|_|_|_|_|_|_|i_
      ·exact tG_ rfl hd_ (gV (sl g1 0 l.n l.n) ⟨rfl,rfl⟩)
      ·exact tG_ rfl hd_ (gV (nI_ i) ⟨rfl,rfl⟩)
      ·exact tG_ rfl hd_ (gV (.slice (some ad) ((openF (s.now (l.first+2+i%l.n))).1.length) c9) ⟨rfl,rfl⟩)
      ·have S40:=St.id hPh_
       refine tG_ rfl hd_ (gv_call (args:=#[.slice (some ad) ((openF (s.now (l.first+2+i%l.n))).1.length) c9,iv 4]) rfl Try.func139 kr_ rfl rfl kr_ (Calls.mono (w_number (n:=4) (b:=(openF (s.now (l.first+2+i%l.n))).1) rfl (St.rdX S40 0 rfl) om_ dc_ om_) ?_))
       rintro _ _ ⟨rfl,rfl⟩
       exact ⟨_,rfl,⟨rfl,rfl⟩⟩
      ·exact tG_ rfl hd_ (gV (.slice (some ad) ((openF (s.now (l.first+2+i%l.n))).1.length) c9) ⟨rfl,rfl⟩)
      ·exact tG_ rfl hd_ (gv_from (e:=5) (ad:=ad) (n:=((openF (s.now (l.first+2+i%l.n))).1.length)) (c:=c9) (lo:=4) (kl:=.i64) (u:=4) (n':=(((openF (s.now (l.first+2+i%l.n))).1.length)-4)) (c':=(c9-4)) rfl kr_ kr_ kr_ kr_ rfl om_ hc9 rfl rfl ⟨rfl,rfl⟩)
      ·have S43:=St.id hPh_
       refine tG_ rfl hd_ (gv_call (args:=#[.slice (some (cutA c9 4 ad)) (((openF (s.now (l.first+2+i%l.n))).1.length)-4) (c9-4),iv 4]) rfl Try.func139 kr_ rfl rfl kr_ (Calls.mono (w_number (n:=4) (b:=List.drop 4 (openF (s.now (l.first+2+i%l.n))).1) List.length_drop.symm (RdB.cut (c:=c9) (lo:=4) (St.rdX S43 0 rfl) hc9) (by rw [List.length_drop];omega) dc_ om_) ?_))
       rintro _ _ ⟨rfl,rfl⟩
       exact ⟨_,rfl,⟨rfl,rfl⟩⟩
      ·exact tG_ rfl hd_ (gV (.slice (some ad) ((openF (s.now (l.first+2+i%l.n))).1.length) c9) ⟨rfl,rfl⟩)
      ·exact tG_ rfl hd_ (gv_from (e:=5) (ad:=ad) (n:=((openF (s.now (l.first+2+i%l.n))).1.length)) (c:=c9) (lo:=8) (kl:=.i64) (u:=8) (n':=(((openF (s.now (l.first+2+i%l.n))).1.length)-8)) (c':=(c9-8)) rfl kr_ kr_ kr_ kr_ rfl om_ hc9 rfl rfl ⟨rfl,rfl⟩)
      ·have S46:=St.id hPh_
       refine tG_ rfl hd_ (gv_call (args:=#[.slice (some (cutA c9 8 ad)) (((openF (s.now (l.first+2+i%l.n))).1.length)-8) (c9-8),iv 2]) rfl Try.func139 kr_ rfl rfl kr_ (Calls.mono (w_number (n:=2) (b:=List.drop 8 (openF (s.now (l.first+2+i%l.n))).1) List.length_drop.symm (RdB.cut (c:=c9) (lo:=8) (St.rdX S46 0 rfl) hc9) (by rw [List.length_drop];omega) dc_ om_) ?_))
       rintro _ _ ⟨rfl,rfl⟩
       exact ⟨_,rfl,⟨rfl,rfl⟩⟩
      ·exact tG_ rfl hd_ (gV (.slice (some ad) ((openF (s.now (l.first+2+i%l.n))).1.length) c9) ⟨rfl,rfl⟩)
      ·exact tG_ rfl hd_ (gv_from (e:=5) (ad:=ad) (n:=((openF (s.now (l.first+2+i%l.n))).1.length)) (c:=c9) (lo:=10) (kl:=.i64) (u:=10) (n':=(((openF (s.now (l.first+2+i%l.n))).1.length)-10)) (c':=(c9-10)) rfl kr_ kr_ kr_ kr_ rfl om_ hc9 rfl rfl ⟨rfl,rfl⟩)
      ·have S49:=St.id hPh_
       refine tG_ rfl hd_ (gv_call (args:=#[.slice (some (cutA c9 10 ad)) (((openF (s.now (l.first+2+i%l.n))).1.length)-10) (c9-10),iv 2]) rfl Try.func139 kr_ rfl rfl kr_ (Calls.mono (w_number (n:=2) (b:=List.drop 10 (openF (s.now (l.first+2+i%l.n))).1) List.length_drop.symm (RdB.cut (c:=c9) (lo:=10) (St.rdX S49 0 rfl) hc9) (by rw [List.length_drop];omega) dc_ om_) ?_))
       rintro _ _ ⟨rfl,rfl⟩
       exact ⟨_,rfl,⟨rfl,rfl⟩⟩
      ·exact tG_ rfl hd_ (gV (.slice (some ad) ((openF (s.now (l.first+2+i%l.n))).1.length) c9) ⟨rfl,rfl⟩)
      ·exact tG_ rfl hd_ (gv_from (e:=5) (ad:=ad) (n:=((openF (s.now (l.first+2+i%l.n))).1.length)) (c:=c9) (lo:=12) (kl:=.i64) (u:=12) (n':=(((openF (s.now (l.first+2+i%l.n))).1.length)-12)) (c':=(c9-12)) rfl kr_ kr_ kr_ kr_ rfl om_ hc9 rfl rfl ⟨rfl,rfl⟩)
      ·exact tG_ rfl hd_ (gV (.agg #[nI_ (numN (openF (s.now (l.first+2+i%l.n))).1 0 4),nI_ (numN (openF (s.now (l.first+2+i%l.n))).1 4 4),nI_ (numN (openF (s.now (l.first+2+i%l.n))).1 8 2),nI_ (numN (openF (s.now (l.first+2+i%l.n))).1 10 2),.slice (some (cutA c9 12 ad)) (((openF (s.now (l.first+2+i%l.n))).1.length)-12) (c9-12)]) ⟨rfl,rfl⟩)
      ·exact absurd hi_ om_
     ·intro k_ c2_ vals_ w1 hk_ hPh_ hd_
      exact absurd hk_ (Nat.not_lt_zero _)
     ·intro c2_ w1 hPh_
      have S53:=St.id hPh_
      refine g_ (gv_ixE (e:=165) (sz:=5) (g:=g1) (off:=0) (n:=l.n) (c:=l.n) (i:=((i:Nat):Int)) (k:=.i64) (j:=i) (off':=(0+i*5)) rfl kr_ kr_ kr_ kr_ rfl om_ om_ ?_)
      obtain ⟨x9,hx9⟩:∃x9:PcV,x9=((pcOf (openF (s.now (l.first+2+i%l.n))).1,.slice (some (cutA c9 12 ad)) ((openF (s.now (l.first+2+i%l.n))).1.length-12) (c9-12)):PcV):=⟨_,rfl⟩
      have hpd:pcD x9=bytesX (.slice (some (cutA c9 12 ad)) ((openF (s.now (l.first+2+i%l.n))).1.length-12) (c9-12)) ((openF (s.now (l.first+2+i%l.n))).1.drop 12):=by rw [hx9];rfl
      have hpx:[nI_ (numN (openF (s.now (l.first+2+i%l.n))).1 0 4),nI_ (numN (openF (s.now (l.first+2+i%l.n))).1 4 4),nI_ (numN (openF (s.now (l.first+2+i%l.n))).1 8 2),nI_ (numN (openF (s.now (l.first+2+i%l.n))).1 10 2),.slice (some (cutA c9 12 ad)) (((openF (s.now (l.first+2+i%l.n))).1.length)-12) (c9-12)]=pcells x9:=by rw [hx9];rfl
      refine g_ (gv_stA (k:=0+i*5) (vs:=[nI_ (numN (openF (s.now (l.first+2+i%l.n))).1 0 4),nI_ (numN (openF (s.now (l.first+2+i%l.n))).1 4 4),nI_ (numN (openF (s.now (l.first+2+i%l.n))).1 8 2),nI_ (numN (openF (s.now (l.first+2+i%l.n))).1 10 2),.slice (some (cutA c9 12 ad)) (((openF (s.now (l.first+2+i%l.n))).1.length)-12) (c9-12)]) S53 4 rfl rfl kr_ kr_ kr_ rfl (by simp [Value.oneCell']) (by show 0+i*5+5≤_;unfold pcRow;rw [List.size_toArray,pcs_len];omega) (L':=(bytesX (.slice (some ad) (openF (s.now (l.first+2+i%l.n))).1.length c9) (openF (s.now (l.first+2+i%l.n))).1::bytesA (.slice c_ 512 512) (s.now (l.first+2+i%l.n))::PW gd s::row g #[pq gd,nI_ l.first,nI_ l.n,iv l.life,nI_ l.epoch,nI_ l.top,nI_ l.tail,nI_ l.head,.bool l.begun] 161::row g1 (pcRow (M.set i x9)) 165::stars (M.map pcD)::L)) (by rw [hpx];unfold pcRow;rw [Nat.zero_add,List.toList_toArray,pcs_set om_];rfl) (fun w54 S55=> ?_))
      have S56:=St.pm 6 [0,5,1,2,3,4] S55
      have S57:St F w0 w54 (bytesX (.slice (some (cutA c9 12 ad)) ((openF (s.now (l.first+2+i%l.n))).1.length-12) (c9-12)) ((openF (s.now (l.first+2+i%l.n))).1.drop 12)::stars (M.map pcD)::bytesA (.slice c_ 512 512) (s.now (l.first+2+i%l.n))::PW gd s::row g (wC_ gd l l.head) 161::row g1 (pcRow (M.set i x9)) 165::L):=St.cutX rfl hc9 S56
      have S58:St F w0 w54 (stars ((M.set i x9).map pcD)::bytesA (.slice c_ 512 512) (s.now (l.first+2+i%l.n))::PW gd s::row g #[pq gd,nI_ l.first,nI_ l.n,iv l.life,nI_ l.epoch,nI_ l.top,nI_ l.tail,nI_ l.head,.bool l.begun] 161::row g1 (pcRow (M.set i x9)) 165::L):=St.pc_put i om_ (by rw [hpd];exact S57)
      have hset:=hI2.put (x:=x9) (by rw [hx9,hpy]) ⟨some (cutA c9 12 ad),c9-12,by rw [hx9];show Value.slice _ _ _=.slice _ (List.length (List.drop 12 _)) _;rw [List.length_drop]⟩
      refine wE ?_
      refine inb_n (nR (gI .i64 (IntKind.i64.wrap (((i:Nat):Int)+1)) ((i+1:Nat):Int) wq_ (pv (nI_ (i+1)) (wE (then_n ?_)))))
      have S59:=St.pm 5 [4,0,3,2] S58
      exact ⟨(i+1,M.set i x9),(jE_ ⟨S59,⟨by omega,hset⟩⟩),(by show l.n-(i+1)<l.n-i;omega)⟩
    ·have hpn9:pcAt s l.first l.n i=pcNo:=by unfold pcAt pcF;rw [if_neg (fun hh=>by omega)]
     refine pv fv (wE (nCF (wp_skip (inb_n (nR (gI .i64 (IntKind.i64.wrap (((i:Nat):Int)+1)) ((i+1:Nat):Int) wq_ (pv (nI_ (i+1)) (wE (then_n ?_)))))))))
     have S60:=St.pm 6 [4,5,3,2] S34
     exact ⟨(i+1,M),(jE_ ⟨S60,⟨by omega,hI2.skip hpn9⟩⟩),(by show l.n-(i+1)<l.n-i;omega)⟩
   ·have hpn9:pcAt s l.first l.n i=pcNo:=by unfold pcAt pcF;rw [if_neg (fun hh=>by omega)]
    refine pv fv (wN (wN (wN (pv fv (wE (nCF (wp_skip (inb_n (nR (gI .i64 (IntKind.i64.wrap (((i:Nat):Int)+1)) ((i+1:Nat):Int) wq_ (pv (nI_ (i+1)) (wE (then_n ?_)))))))))))))
    have S61:=St.pm 6 [4,5,3,2] S34
    exact ⟨(i+1,M),(jE_ ⟨S61,⟨by omega,hI2.skip hpn9⟩⟩),(by show l.n-(i+1)<l.n-i;omega)⟩
 ·have hI1:i≤l.n:=hI1
  have hI2:RingTo s l.first l.n i M:=hI2
  have hml:=hI2.len
  have hin0:i=l.n:=by omega
  rw [hin0] at hI2
  refine wE (nS (cF (wp_exit (then_x (then_x (inb_x (nSR (pv (sl g1 0 l.n l.n) (pv (sl g1 0 l.n l.n) (pv (iv 0) (wE (then_n (wp_ret ?_)))))))))))))
  exact bB (sl g1 0 l.n l.n) (iv 0) ⟨_,M,rfl,hI2.ok,S8⟩
theorem w_top {F:Nat→Prop}{w0 w:World}{L:List Ast}{gr n ep:Nat}{M:List PcV}{pc:Nat→Pc}(S:St F w0 w (row gr (pcRow M) 165::L))(hn:M.length=n)(hpc:∀j x,M[j]?=some x→x.1=pc j∧∃A c,x.2=.slice A x.1.data.length c)(hlt:∀j,(pc j).epoch<4294967296)(hep:ep≤1073741824)(hn2:n≤256):Calls Try.prog 111 #[.int .i64 (ep:Nat),.slice (some ⟨gr,0,none⟩) n n] w fun e w'=>e=.returned (.int .i64 ((topTo pc ep n:Nat):Int))∧St F w0 w' (row gr (pcRow M) 165::L):=by
 obtain ⟨u,hu⟩:∃u,u=topTo pc ep 0:=⟨_,rfl⟩
 refine eN (fr [nI_ ep,sl gr 0 n n] 20) Try.func111 rfl (sR (pv (iv 0) (wE (nS (sR (pv (sl gr 0 n n) (pv (iv (n:Nat)) (pv (iv 0) (wE (then_n (wp_block (wp_loop_g (G:=Nat) (fun (g_:Nat) (a_:Act) (w_:World)=>∃J:Nat→Value,a_=(fr ([nI_ (topTo pc ep g_),sl gr 0 n n,ud,ud,iv 0,ud,J 6,sl gr 0 n n,iv (n:Nat),nI_ g_]++jR J 10 11) 1)∧St F w0 w_ (row gr (pcRow M) 165::L)∧(g_≤n)) (fun g_=>n-g_) 0 (jE_ ⟨S,Nat.zero_le _⟩) ?_))))))))))))
 rintro i a_ w1 ⟨J,rfl,S2,hI3⟩
 skip
 have S2:St F w0 w1 (row gr (pcRow M) 165::L):=S2
 have hI3:(i≤n):=hI3
 refine sR (dC ((((i:Nat):Int):Int)<(n:Nat)) (fun hb4=> ?_) fun hb4=> ?_)
 ·have hi:i<n:=by omega
  obtain ⟨x,hx⟩:∃x,M[i]?=some x:=⟨_,List.getElem?_eq_getElem om_⟩
  obtain ⟨hxp,A8,c8,hx8⟩:=hpc i x hx
  have hlx:=hlt i
  rw [←hxp] at hlx
  have hte:=topTo_le pc ep hep i
  have hts:topTo pc ep (i+1)=if x.1.epoch≤1073741824 then max (topTo pc ep i) x.1.epoch else topTo pc ep i:=by rw [hxp];rfl
  refine wE (nS (cT (wp_skip (nS (wp_block (sR (g_ (gv_ixE (e:=165) (sz:=5) (g:=gr) (off:=0) (n:=n) (c:=n) (i:=((i:Nat):Int)) (k:=.i64) (j:=i) (off':=(0+i*5)) rfl kr_ kr_ kr_ kr_ rfl om_ om_ (g_ (gv_ldA (k:=0+i*5) (n:=5) (vs:=pcells x) S2 0 rfl rfl kr_ kr_ rfl (by unfold pcRow;rw [Nat.zero_add,List.toList_toArray];exact pcs_at hx) (nW rfl (.agg #[iv 0,iv 0,iv 0,iv 0,.slice none 0 0]) S2 fun g5 w6 hg7 S8=>g_ (gv_stA (k:=0) (vs:=[nI_ x.1.epoch,nI_ x.1.pos,nI_ x.1.idx,nI_ x.1.cnt,x.2]) S8 0 rfl rfl kr_ kr_ kr_ rfl (by simp [Value.oneCell',hx8]) (Nat.le_of_ble_eq_true kr_) (L':=(row g5 #[nI_ x.1.epoch,nI_ x.1.pos,nI_ x.1.idx,nI_ x.1.cnt,x.2] 165::row gr (pcRow M) 165::L)) rfl (fun w9 S10=>wER (pv (pq g5) (lR (nI_ x.1.epoch) S10 0 0 (dC ((((x.1.epoch:Nat):Int):Int)≤1073741824) (fun hb11=> ?_) fun hb11=> ?_))))))))))))))))
  ·have hts2:topTo pc ep (i+1)=max (topTo pc ep i) x.1.epoch:=by rw [hts,if_pos om_]
   refine wE (nCT (wp_region_lit (pv (nI_ (topTo pc ep i)) (pv (pq g5) (lR (nI_ x.1.epoch) S10 0 0 (gI .i64 (if ((x.1.epoch:Nat):Int)>((topTo pc ep i:Nat):Int) then ((x.1.epoch:Nat):Int) else ((topTo pc ep i:Nat):Int)) ((max (topTo pc ep i) x.1.epoch:Nat):Int) (by split<;>omega) (pv (nI_ (max (topTo pc ep i) x.1.epoch)) (wE (inb_n (nR (gI .i64 (IntKind.i64.wrap (((i:Nat):Int)+1)) ((i+1:Nat):Int) wq_ (pv (nI_ (i+1)) (wE ?_)))))))))))))
   refine then_n ?_
   have S12:=St.pm 2 [1] S10
   exact ⟨i+1,(jF_ (fun z_:Nat=>(fr [nI_ z_,sl gr 0 n n,ud,ud,iv 0,ud,pq g5,sl gr 0 n n,iv (n:Nat),nI_ (i+1),tv,po gr (0+i*5),.agg #[nI_ x.1.epoch,nI_ x.1.pos,nI_ x.1.idx,nI_ x.1.cnt,x.2],pq g5,nI_ x.1.epoch,tv,nI_ (topTo pc ep i),pq g5,nI_ x.1.epoch,nI_ (max (topTo pc ep i) x.1.epoch),nI_ (i+1)] 1)) (x:=max (topTo pc ep i) x.1.epoch) (y:=topTo pc ep (i+1)) hts2.symm ⟨S12,om_⟩),(by show n-(i+1)<n-i;omega)⟩
  ·have hts2:topTo pc ep (i+1)=topTo pc ep i:=by rw [hts,if_neg om_]
   refine wE (nCF (wp_skip (inb_n (nR (gI .i64 (IntKind.i64.wrap (((i:Nat):Int)+1)) ((i+1:Nat):Int) wq_ (pv (nI_ (i+1)) (wE (then_n ?_))))))))
   have S13:=St.pm 2 [1] S10
   exact ⟨i+1,(jF_ (fun z_:Nat=>(fr ([nI_ z_,sl gr 0 n n,ud,ud,iv 0,ud,pq g5,sl gr 0 n n,iv (n:Nat),nI_ (i+1),tv,po gr (0+i*5),.agg #[nI_ x.1.epoch,nI_ x.1.pos,nI_ x.1.idx,nI_ x.1.cnt,x.2],pq g5,nI_ x.1.epoch,fv]++jR J 16 4++[nI_ (i+1)]) 1)) (x:=topTo pc ep i) (y:=topTo pc ep (i+1)) hts2.symm ⟨S13,om_⟩),(by show n-(i+1)<n-i;omega)⟩
 ·have hin:i=n:=by omega
  rw [←hin]
  exact wE (nS (cF (wp_exit (then_x (then_x (inb_x (nSR (pv (nI_ (topTo pc ep i)) (pv (nI_ (topTo pc ep i)) (wE (then_n (wp_ret (bA (nI_ (topTo pc ep i)) ⟨rfl,S2⟩)))))))))))))
end Go.Proofs
end
section
open Go Go.RowKit Go.Proofs.YtgeioealgidkiaaW.PrintWords Go.Proofs.YtgeioealgidkiaaW.PrintMore
namespace Go.Proofs
open Go.Vel
set_option linter.unusedVariables false
structure ScSt where
 recs:List (List UInt8)
 rcd:List UInt8
 idx:Nat
 cnt:Nat
 head:Nat
def scCnt (σ:ScSt)(x:Pc):Nat:=if σ.idx=0 then x.cnt else σ.cnt
def scStep (σ:ScSt)(x:Pc):Option ScSt:=
 if σ.idx≠0∧x.cnt≠σ.cnt then none
 else if x.idx≠σ.idx∨scCnt σ x<1∨17<scCnt σ x∨(σ.idx+1<scCnt σ x∧x.data.length≠492) then none
 else if σ.idx+1=scCnt σ x then some ⟨σ.recs++[σ.rcd++x.data],[],0,scCnt σ x,σ.head+scCnt σ x⟩
 else some ⟨σ.recs,σ.rcd++x.data,σ.idx+1,scCnt σ x,σ.head⟩
def scRun (σ:ScSt):List Pc→Option ScSt
 |[]=>some σ
 |x::xs=>(scStep σ x).bind fun σ'=>scRun σ' xs
theorem scRun_snoc (x:Pc):∀(xs:List Pc) (σ:ScSt),scRun σ (xs++[x])=(scRun σ xs).bind fun σ'=>scStep σ' x
 |[],σ=>by show (scStep σ x).bind (fun σ'=>some σ')=scStep σ x;cases scStep σ x<;>rfl
 |y::xs,σ=>by
  show (scStep σ y).bind (fun σ'=>scRun σ' (xs++[x]))=((scStep σ y).bind fun σ'=>scRun σ' xs).bind _
  cases scStep σ y with
  |none=>rfl
  |some σ'=>exact scRun_snoc x xs σ'
structure Fits (pc:Nat→Pc)(e p:Nat):Prop where
 epoch:(pc p).epoch=e
 pos:(pc p).pos=p
 data:(pc p).data≠[]
structure ScInv (pc:Nat→Pc)(e tail k:Nat)(σ:ScSt):Prop where
 recs:Recs pc e tail σ.recs σ.head
 pos:σ.head+σ.idx=tail+k
 rcd:σ.rcd=catF pc σ.head σ.idx
 par:0<σ.idx→σ.cnt=(pc σ.head).cnt∧σ.idx<σ.cnt∧σ.cnt≤17∧∀j,j<σ.idx→(pc (σ.head+j)).Part e (σ.head+j) j σ.cnt
theorem ScInv.start (pc:Nat→Pc)(e tail:Nat)(c:Nat):ScInv pc e tail 0 ⟨[],[],0,c,tail⟩:=⟨.nil,rfl,rfl,fun h=>absurd h (Nat.lt_irrefl 0)⟩
theorem ScInv.step {pc:Nat→Pc}{e tail k:Nat}{σ σ':ScSt}(h:ScInv pc e tail k σ)(hm:Fits pc e (tail+k))(hs:scStep σ (pc (tail+k))=some σ'):ScInv pc e tail (k+1) σ':=by
 have hpos:=h.pos
 rw [←hpos] at hm hs
 obtain ⟨c,hc⟩:∃c,scCnt σ (pc (σ.head+σ.idx))=c:=⟨_,rfl⟩
 unfold scStep at hs
 rw [hc] at hs
 split at hs
 ·cases hs
 ·rename_i h1
  split at hs
  ·cases hs
  ·rename_i h2
   have hcnt:(pc (σ.head+σ.idx)).cnt=c:=by
    unfold scCnt at hc
    split at hc
    ·exact hc
    ·rename_i h0
     by_cases h3:(pc (σ.head+σ.idx)).cnt=σ.cnt
     ·rw [h3];exact hc
     ·exact absurd ⟨h0,h3⟩ h1
   have hfull:σ.idx+1=c∨(pc (σ.head+σ.idx)).data.length=492:=by
    by_cases h3:σ.idx+1=c
    ·exact .inl h3
    ·refine .inr ?_
     have h4:σ.idx+1≤c:=by
      by_cases h0:σ.idx=0
      ·omega
      ·obtain ⟨_,h5,_⟩:=h.par om_
       unfold scCnt at hc
       rw [if_neg h0] at hc
       omega
     by_cases h5:(pc (σ.head+σ.idx)).data.length=492
     ·exact h5
     ·exact absurd (.inr (.inr (.inr ⟨by omega,h5⟩))) h2
   have hpart:(pc (σ.head+σ.idx)).Part e (σ.head+σ.idx) σ.idx c:=⟨hm.data,hm.epoch,hm.pos,by omega,hcnt,hfull⟩
   have hall:∀j,j<σ.idx+1→(pc (σ.head+j)).Part e (σ.head+j) j c:=fun j hj=>by
    by_cases hji:j=σ.idx
    ·subst hji;exact hpart
    ·obtain ⟨_,_,_,h5⟩:=h.par om_
     have h6:=h5 j om_
     have h7:c=σ.cnt:=by unfold scCnt at hc;rw [if_neg om_] at hc;exact hc.symm
     rw [h7];exact h6
   have h0c:(pc σ.head).cnt=c:=by
    have:=(hall 0 om_).cnt
    rwa [Nat.add_zero] at this
   split at hs
   ·rename_i h3
    cases hs
    refine ⟨?_,by show σ.head+c+0=_;omega,rfl,fun h=>absurd h (Nat.lt_irrefl 0)⟩
    have e1:σ.rcd++(pc (σ.head+σ.idx)).data=catF pc σ.head c:=by rw [←h3,catF_succ,h.rcd]
    show Recs pc e tail (σ.recs++[σ.rcd++(pc (σ.head+σ.idx)).data]) (σ.head+c)
    rw [e1]
    exact .step h.recs ⟨by omega,by omega,h0c,fun j hj=>hall j om_⟩
   ·rename_i h3
    cases hs
    have hlt:σ.idx+1<c:=by
     by_cases h0:σ.idx=0
     ·omega
     ·obtain ⟨_,h5,_⟩:=h.par om_
      unfold scCnt at hc
      rw [if_neg h0] at hc
      omega
    exact ⟨h.recs,by show σ.head+(σ.idx+1)=_;omega,by show σ.rcd++(pc (σ.head+σ.idx)).data=catF pc σ.head (σ.idx+1);rw [catF_succ,h.rcd],fun _=>⟨h0c.symm,hlt,by show c≤17;omega,hall⟩⟩
theorem ScInv.stop {pc:Nat→Pc}{e tail k:Nat}{σ:ScSt}(h:ScInv pc e tail k σ)(hs:scStep σ (pc (tail+k))=none):NoRec pc e σ.head:=by
 intro c hr
 have hpos:=h.pos
 rw [←hpos] at hs
 have hic:σ.idx<c∧scCnt σ (pc (σ.head+σ.idx))=c:=by
  by_cases h0:σ.idx=0
  ·have:=hr.c1
   have h2:=hr.cnt
   unfold scCnt
   rw [if_pos h0,h0,Nat.add_zero]
   exact ⟨by omega,h2⟩
  ·obtain ⟨h1,h2,_⟩:=h.par om_
   have h3:=hr.cnt
   unfold scCnt
   rw [if_neg h0]
   exact ⟨by omega,by omega⟩
 obtain ⟨hi,hc⟩:=hic
 have hp:=hr.part σ.idx hi
 have h17:=hr.c17
 have h1:=hr.c1
 unfold scStep at hs
 rw [hc] at hs
 rw [if_neg (fun ⟨h0,h2⟩=>by
  obtain ⟨h3,_⟩:=h.par om_
  have:=hp.cnt
  have:=hr.cnt
  omega),if_neg (fun h2=>by
  rcases h2 with h2|h2|h2|⟨h2,h3⟩
  ·exact h2 hp.idx
  ·omega
  ·omega
  ·rcases hp.full with h4|h4
   ·omega
   ·exact h3 h4)] at hs
 split at hs<;>cases hs
theorem ScInv.last {pc:Nat→Pc}{e tail k:Nat}{σ:ScSt}(h:ScInv pc e tail k σ)(hm:¬Fits pc e (tail+k)):NoRec pc e σ.head:=by
 intro c hr
 have hpos:=h.pos
 have hi:σ.idx<c:=by
  by_cases h0:σ.idx=0
  ·have:=hr.c1;omega
  ·obtain ⟨h1,h2,_⟩:=h.par om_
   have h3:=hr.cnt
   omega
 have hp:=hr.part σ.idx hi
 rw [hpos] at hp
 exact hm ⟨hp.epoch,hp.pos,hp.data⟩
def RowOf (pc:Nat→Pc)(e tail:Nat)(xs:List Pc):Prop:=∀j x,xs[j]?=some x→x=pc (tail+j)∧Fits pc e (tail+j)
theorem scRun_inv {pc:Nat→Pc}{e tail c:Nat}:∀(m:Nat) (xs:List Pc) {σ:ScSt},xs.length=m→RowOf pc e tail xs→scRun ⟨[],[],0,c,tail⟩ xs=some σ→ScInv pc e tail m σ
 |0,xs,σ,hm,_,h=>by
  obtain rfl:=List.length_eq_zero_iff.1 hm
  cases h
  exact ScInv.start pc e tail c
 |m+1,xs,σ,hm,hr,h=>by
  obtain ⟨ys,y,rfl⟩:∃ys y,xs=ys++[y]:=⟨xs.dropLast,xs.getLast (by intro h0;rw [h0] at hm;cases hm),(List.dropLast_concat_getLast _).symm⟩
  rw [scRun_snoc] at h
  have hl:ys.length=m:=by simpa using hm
  cases hq:scRun ⟨[],[],0,c,tail⟩ ys with
  |none=>rw [hq] at h;cases h
  |some σ1=>
   rw [hq] at h
   have hr1:RowOf pc e tail ys:=fun j x hx=>hr j x (by rw [List.getElem?_append_left (List.getElem?_eq_some_iff.1 hx).1];exact hx)
   have i1:=scRun_inv m ys hl hr1 hq
   obtain ⟨e1,e2⟩:=hr m y (by rw [←hl,List.getElem?_append_right (Nat.le_refl _)];simp)
   subst e1
   exact i1.step e2 h
end Go.Proofs
end
section
open Go Go.RowKit Go.Proofs.YtgeioealgidkiaaW.PrintWords Go.Proofs.YtgeioealgidkiaaW.PrintMore
namespace Go.Vel
set_option linter.unusedVariables false
set_option linter.unusedSimpArgs false
section
structure Wide (F:Fence):Prop where
 depth:F.depth=none
 fn:∀f,F.fn f
 calls:∀{n:Nat} {P:Program} {f:FuncId} {args:Array Value} {w:World} {R:Ending→World→Prop},Calls P f args w R→CallsIn F n P f args w R
theorem wide_wide:Wide Fence.wide:=⟨rfl,fun _=>trivial,fun h=>callsIn_wide.2 h⟩
theorem wide_in (l:Nat):Wide (Fence.wide.inRound l):=⟨rfl,fun _=>trivial,fun h=>CallsIn.inRound l (callsIn_wide.2 h)⟩
def isDefer (o:Oper):Bool:=match o.op with|.defer _=>true|_=>false
def noDefer (l:List Oper):Bool:=l.all fun o=> !isDefer o
theorem noDefer_at {l:List Oper}{i:Nat}{o:Oper}(h:noDefer l=true)(ho:l.toArray[i]?=some o):isDefer o=false:=by
 have h1:=List.all_eq_true.1 h o (List.mem_of_getElem? (by simpa using ho))
 simpa using h1
theorem semAt_plain (r:Option Nat)(ρ:Operand→Value)(o:Oper)(h:isDefer o=false):o.semAt r ρ=execOp ρ o:=by
 cases r with
 |none=>exact Oper.semAt_none ρ o
 |some l=>exact Oper.semAt_some l ρ o fun c hc=>by unfold isDefer at h;rw [hc] at h;cases h
def givesR (F:Fence)(nF:Nat)(P:Program)(K:Value→World→Prop)(r:Result Next):Prop:=
 gives P K r∨∃l f tmps assign body w',r=.ok (.round l f tmps assign body) w'∧RoundIn F (nF-1) P l f tmps assign body w' fun e w''=>∃v,e=.returned v∧K v w''
section
variable {F:Fence}{nF:Nat}{P:Program}{Q:Exit→Act→World→Prop}
theorem givesR_mono {K K':Value→World→Prop}(h:∀v w,K v w→K' v w){r:Result Next}(hr:givesR F nF P K r):givesR F nF P K' r:=by
 rcases hr with hr|⟨l,f,t,a,b,w',e,hR⟩
 ·exact .inl (gives_mono h hr)
 ·exact .inr ⟨l,f,t,a,b,w',e,hR.mono fun e w'' ⟨v,he,hk⟩=>⟨v,he,h _ _ hk⟩⟩
theorem wpIn_of_givesR (hW:Wide F){o:Oper}{x:Act}{w:World}{K:Act→World→Prop}(hd:isDefer o=false)(h:givesR F nF P (fun v w'=>K (x.put o.dst v) w') ((execOp x.eval o).run P w)):o.wpIn F nF P x w K Q:=by
 refine ⟨fun f _=>hW.fn f, ?_⟩
 rw [semAt_plain _ _ _ hd]
 have hdp:F.depth.isSome=true→1≤nF:=fun hh=>by rw [hW.depth] at hh;cases hh
 rcases h with h|⟨l,f,t,a,b,w',e,hR⟩
 ·generalize (execOp x.eval o).run P w=r at h
  cases r with
  |halt y w'=>exact h.elim
  |ok y w'=>
   cases y<;>first
    |exact h
    |exact h.elim
    |exact ⟨hdp,(hW.calls h).mono (fun e w'' ⟨v,he,hk⟩=>by subst he;exact hk)⟩
 ·rw [e]
  exact ⟨hdp,hR.mono fun e w'' ⟨v,he,hk⟩=>by subst he;exact hk⟩
theorem wpAnyIn_of_seq {ops:Array Oper}{md:Region.Mode}{Q':Exit→Act→World→Prop}:∀(l:List Oper) (k:Nat) (listed:Array Bool) (a:Act) (w:World),(∀j,l[j]?=ops[k+j]?)→
  Region.seqB md ops l.length k listed=true→wpListIn F nF P ops Q' l a w→wpAnyIn F nF P md ops Q' l.length listed a w
 |[],_,_,_,_,_,hB,h=>⟨by simpa [Region.seqB] using hB,h⟩
 |o::l,k,listed,a,w,hl,hB,h=>by
  have h0:ops[k]?=some o:=by simpa using (hl 0).symm
  simp only [List.length_cons,Region.seqB,Bool.and_eq_true,decide_eq_true_eq] at hB
  refine ⟨fun h1=>(by rw [hB.1] at h1;cases h1),fun i hi=> ?_⟩
  rw [hB.1] at hi
  have hik:i=k:=by simpa using hi
  subst hik
  have hw:wpOpIn F nF P ops Q' i (wpListIn F nF P ops Q' l) a w:=by
   unfold wpOpIn
   simp only [h0]
   exact h
  exact wpOpIn_mono (fun a' w' h'=>wpAnyIn_of_seq l (i+1) _ a' w' (fun j=>by have:=hl (j+1);simpa [Nat.add_assoc,Nat.add_comm 1 j] using this) hB.2 h') hw
end
section
variable {F:Fence}{nF:Nat}{P:Program}{l:List Oper}{Q:Exit→Act→World→Prop}{a:Act}{n:Nat}{w:World}
theorem inv_keyI (hW:Wide F)(hnd:noDefer l=true){J:(Nat→Bool)→(Nat→Value)→World→Prop}(hB:relyB l n=true)(hC:relyC l n=true)
  (hstep:∀i o (D:Nat→Bool) (vals:Nat→Value) w1,i<n→l[i]?=some o→D i=false→(∀j,waits o j=true→D j=true)→(∀j o' k,l[j]?=some o'→D j=true→waits o' k=true→D k=true)→J D vals w1→
   if Region.wanted o (yielded l.toArray (fill l (waits o) vals a).tmps)=true then givesR F nF P (fun v w2=>J (fun j=>if j=i then true else D j) (fun j=>if j=i then v else vals j) w2) ((execOp (fill l (waits o) vals a).eval o).run P w1) else J (fun j=>if j=i then true else D j) (fun j=>if j=i then undef else vals j) w1)
  (hend:∀D vals w1,(∀j,j<n→D j=true)→J D vals w1→wpListIn F nF P l.toArray Q (l.drop n) (fill l (fun i=>decide (i<n)) vals a) w1):
  ∀(m:Nat) (vals:Nat→Value) (listed:Array Bool) (x:Act) (w:World),cnt (fun i=>listed.getD i false) n=m→RJ l n a J vals listed x w→wpAnyIn F nF P .any l.toArray Q (m+(l.length-n)) listed x w:=by
 obtain ⟨hsel,hnl,hB'⟩:=relyB_spec hB
 simp only [relyC,Bool.and_eq_true] at hC
 obtain ⟨hback,hseq⟩:=hC
 have back:∀i o k,l[i]?=some o→waits o k=true→k<i:=by
  intro i o k hi hw
  obtain ⟨e,he,hb,hon⟩:=of_waits hw
  have h1:=List.all_eq_true.1 hback i (List.mem_range.2 (List.getElem?_eq_some_iff.1 hi).1)
  simp only [hi] at h1
  have h2:=Array.all_eq_true_iff_forall_mem.1 h1 e he
  simp only [hb,Bool.not_true,Bool.false_or,decide_eq_true_eq] at h2
  omega
 intro m
 induction m with
 |zero=>
  intro vals listed x w hc inv
  have hall:=cnt_zero hc
  have el:listed=((List.range l.length).map fun i=>decide (i<n)).toArray:=by
   apply Array.ext_getElem?
   intro i
   by_cases hi:i<l.length
   ·have h1:listed[i]?=some (listed.getD i false):=by
     simp [inv.size,hi]
    rw [h1]
    simp only [List.getElem?_toArray,List.getElem?_map,List.getElem?_range hi,Option.map_some,Option.some.injEq]
    by_cases hin:i<n
    ·rw [hall i hin];simp [hin]
    ·rw [inv.tail i om_];simp [hin]
   ·rw [Array.getElem?_eq_none (by rw [inv.size];omega),Array.getElem?_eq_none (by simp;omega)]
  have ef:x=fill l (fun i=>decide (i<n)) vals a:=by
   rw [inv.frame]
   unfold fill
   congr 2
   funext t v
   congr 2
   funext i
   by_cases hin:i<n
   ·have:=hall i hin
    simp only [this,hin,decide_true]
   ·have:=inv.tail i om_
    simp only [this,hin,decide_false]
  rw [Nat.zero_add,el,ef]
  have hd:l.length-n=(l.drop n).length:=by simp
  rw [hd]
  refine wpAnyIn_of_seq (l.drop n) n _ _ _ (fun j=>by simp) ?_ (hend _ vals w hall inv.inv)
  rw [←hd]
  exact hseq
 |succ m ih=>
  intro vals listed x w hc inv
  rw [Nat.succ_add]
  obtain ⟨i0,hi0,hf0,hj0⟩:=cnt_pos (f:=fun i=>listed.getD i false) (n:=n) om_
  have hready:i0∈Region.ready .any l.toArray listed:=by
   have hil:i0<l.length:=by omega
   refine mem_ready.2 ⟨?_,l[i0],by simp [hil],fun e he hb=> ?_⟩
   ·have h1:listed.getD i0 false=false:=hf0
    rw [Array.getD_eq_getD_getElem?,Array.getElem?_eq_getElem (by rw [inv.size];exact hil)] at h1 ⊢
    exact h1
   ·exact hj0 e.on (back i0 _ _ (List.getElem?_eq_getElem hil) (waits_of he hb))
  refine ⟨fun h0=>(by rw [h0] at hready;cases hready),fun i hi=> ?_⟩
  obtain ⟨hun,o,ho,hdeps⟩:=mem_ready.1 hi
  have ho':l[i]?=some o:=by simpa using ho
  have hil:i<l.length:=(List.getElem?_eq_some_iff.1 ho').1
  have hun':listed.getD i false=false:=by
   rw [Array.getD_eq_getD_getElem?,Array.getElem?_eq_getElem (by rw [inv.size];exact hil)] at hun ⊢
   exact hun
  have hdep:∀j,waits o j=true→listed.getD j false=true:=fun j hj=>by
   obtain ⟨e,he,hb,hon⟩:=of_waits hj
   exact hon▸hdeps e he hb
  have hin:i<n:=by
   rcases Nat.lt_or_ge i n with h|h
   ·exact h
   ·have:=hdep i0 ((hB' i i0 o _ ho' (List.getElem?_eq_getElem (show i0<l.length by omega))).2.2 h om_)
    have hf0':listed.getD i0 false=false:=hf0
    rw [hf0'] at this
    cases this
  have hdn:∀j,waits o j=true→j<n:=fun j hj=>by have:=back i o j ho' hj;omega
  have agree:∀t:Nat,t∈o.looksAt l.toArray→(fill l (waits o) vals a).tmps[t]?=x.tmps[t]?:=by
   intro t ht
   rw [inv.frame,fill_get,fill_get]
   congr 1
   funext v
   have e:(List.range l.length).find? (fun i=>waits o i&&((l[i]?).bind (·.dst)==some t))=(List.range l.length).find? (fun i=>listed.getD i false&&((l[i]?).bind (·.dst)==some t)):=by
    refine find_congr (fun j hj=> ?_)
    have hjl:=List.mem_range.1 hj
    by_cases hd:(l[j]?).bind (·.dst)=some t
    ·rw [hd]
     simp only [beq_self_eq_true,Bool.and_true]
     have hlj:=List.getElem?_eq_getElem hjl
     rw [hlj] at hd
     have hor:=(hB' i j o _ ho' hlj).2.1 t (by simpa using hd) ht
     cases hw:waits o j with
     |true=>exact (hdep j hw).symm
     |false=>
      rw [hw] at hor
      simp only [Bool.false_eq_true,false_or] at hor
      cases hlj2:listed.getD j false with
      |false=>rfl
      |true=>
       have:=inv.closed j _ i hlj hlj2 hor
       rw [hun'] at this
       cases this
    ·have:((l[j]?).bind (·.dst)==some t)=false:=by simpa using hd
     rw [this];simp
   rw [e]
  obtain ⟨hex,hwant⟩:=run_same (Region.noSelect_spec hsel i o · · ho) agree
  have hst:=hstep i o (fun j=>listed.getD j false) vals w hin ho' hun' hdep inv.closed inv.inv
  rw [hex,hwant] at hst
  have next:∀v w2,J (fun j=>if j=i then true else listed.getD j false) (fun j=>if j=i then v else vals j) w2→wpAnyIn F nF P .any l.toArray Q (m+(l.length-n)) (listed.setIfInBounds i true) (x.put o.dst v) w2:=by
   intro v w2 hJ
   have gd:∀j,(listed.setIfInBounds i true).getD j false=if i=j then true else listed.getD j false:=by
    intro j
    by_cases hj:j<listed.size
    ·exact getD_listed hj
    ·have hij:i≠j:=by rw [inv.size] at hj;omega
     rw [if_neg hij]
     simp only [Array.getD_eq_getD_getElem?]
     rw [Array.getElem?_eq_none (by simpa using hj),Array.getElem?_eq_none (by simpa using hj)]
   refine ih (fun j=>if j=i then v else vals j) (listed.setIfInBounds i true) (x.put o.dst v) w2 ?_ ⟨by simp [inv.size], ?_, ?_,fun t ht=> ?_,fun j o' k hj hl hw=> ?_⟩
   ·have:=cnt_set (f:=fun j=>listed.getD j false) (g:=fun j=>(listed.setIfInBounds i true).getD j false) (i:=i) hun' (by rw [gd,if_pos rfl]) (fun j hj=>by rw [gd,if_neg (fun h=>hj h.symm)]) n
    rw [if_pos hin] at this
    omega
   ·have e:(fun j=>(listed.setIfInBounds i true).getD j false)=fun j=>if j=i then true else listed.getD j false:=by
     funext j
     rw [gd]
     by_cases hji:i=j
     ·subst hji;simp
     ·have:¬j=i:=fun h=>hji h.symm
      simp only [hji,this,if_false]
    rw [e];exact hJ
   ·rw [inv.frame]
    refine act_ext (fun t=> ?_) ?_
    ·rw [fill_get]
     cases hd:o.dst with
     |none=>
      show (fill l _ vals a).tmps[t]?=_
      rw [fill_get]
      congr 1
      funext u
      have e:∀j,j∈List.range l.length→(listed.getD j false&&((l[j]?).bind (·.dst)==some t))=((listed.setIfInBounds i true).getD j false&&((l[j]?).bind (·.dst)==some t)):=by
       intro j _
       by_cases hji:i=j
       ·subst hji
        have:((l[i]?).bind (·.dst)==some t)=false:=by rw [ho'];simp [hd]
        rw [this];simp
       ·rw [gd,if_neg hji]
      rw [find_congr e]
      cases hfi:(List.range l.length).find? (fun i_1=>(listed.setIfInBounds i true).getD i_1 false&&((l[i_1]?).bind (·.dst)==some t)) with
      |none=>rfl
      |some k=>
       have hk:=find_sel hfi
       simp only [Bool.and_eq_true,beq_iff_eq] at hk
       have hki:k≠i:=by
        rintro rfl
        rw [ho'] at hk
        simp [hd] at hk
       simp [hki]
     |some d=>
      show ((fill l _ vals a).tmps.setIfInBounds d v)[t]?=_
      rw [Array.getElem?_setIfInBounds]
      by_cases hdt:d=t
      ·subst hdt
       rw [if_pos rfl]
       have hfi:(List.range l.length).find? (fun i_1=>(listed.setIfInBounds i true).getD i_1 false&&((l[i_1]?).bind (·.dst)==some d))=some i:=by
        rw [List.find?_eq_some_iff_getElem]
        refine ⟨by rw [gd,if_pos rfl,ho'];simp [hd],i,by simp [hil],by simp,fun j hj=> ?_⟩
        have hjl:j<l.length:=by omega
        have hlj:=List.getElem?_eq_getElem hjl
        have hne:=(hB' i j o _ ho' hlj).1 om_ d hd
        simp only [List.getElem_range,hlj,Option.bind_some]
        have:(l[j].dst==some d)=false:=by simpa using hne
        rw [this];simp
       rw [hfi,fill_size]
       by_cases hsz:d<a.tmps.size
       ·simp [hsz]
       ·simp [hsz]
      ·rw [if_neg hdt,fill_get]
       congr 1
       funext u
       have e:∀j,j∈List.range l.length→(listed.getD j false&&((l[j]?).bind (·.dst)==some t))=((listed.setIfInBounds i true).getD j false&&((l[j]?).bind (·.dst)==some t)):=by
        intro j _
        by_cases hji:i=j
        ·subst hji
         have:((l[i]?).bind (·.dst)==some t)=false:=by rw [ho'];simp [hd,hdt]
         rw [this];simp
        ·rw [gd,if_neg hji]
       rw [find_congr e]
       cases hfi:(List.range l.length).find? (fun i_1=>(listed.setIfInBounds i true).getD i_1 false&&((l[i_1]?).bind (·.dst)==some t)) with
       |none=>rfl
       |some k=>
        have hk:=find_sel hfi
        simp only [Bool.and_eq_true,beq_iff_eq] at hk
        have hki:k≠i:=by
         rintro rfl
         rw [ho'] at hk
         simp [hd,hdt] at hk
        simp [hki]
    ·cases o.dst<;>rfl
   ·rw [gd,if_neg om_];exact inv.tail t ht
   ·by_cases hji:i=j
    ·subst hji
     have hoo:o'=o:=Option.some.inj (hj.symm.trans ho')
     subst hoo
     rw [gd]
     split
     ·rfl
     ·exact hdep k hw
    ·rw [gd,if_neg hji] at hl
     rw [gd]
     split
     ·rfl
     ·exact inv.closed j o' k hj hl hw
  unfold wpOpIn
  simp only [ho]
  split
  ·rename_i hw
   rw [if_pos hw] at hst
   exact (wpIn_of_givesR hW (noDefer_at hnd ho) (givesR_mono (fun v w2 h=>next v w2 h) hst))
  ·rename_i hw
   rw [if_neg hw] at hst
   exact ⟨fun f _=>hW.fn f,next undef w hst⟩
theorem wp_region_invI (hW:Wide F)(hnd:noDefer l=true){id:Nat}(n:Nat)(J:(Nat→Bool)→(Nat→Value)→World→Prop)(hm:P.follows .mixedOrders=true)(hB:relyB l n=true)(hC:relyC l n=true)
  (h0:J (fun _=>false) (fun _=>undef) w.drew)
  (hstep:∀i o (D:Nat→Bool) (vals:Nat→Value) w1,i<n→l[i]?=some o→D i=false→(∀j,waits o j=true→D j=true)→(∀j o' k,l[j]?=some o'→D j=true→waits o' k=true→D k=true)→J D vals w1→
   if Region.wanted o (yielded l.toArray (fill l (waits o) vals a).tmps)=true then givesR F nF P (fun v w2=>J (fun j=>if j=i then true else D j) (fun j=>if j=i then v else vals j) w2) ((execOp (fill l (waits o) vals a).eval o).run P w1) else J (fun j=>if j=i then true else D j) (fun j=>if j=i then undef else vals j) w1)
  (hend:∀D vals w1,(∀j,j<n→D j=true)→J D vals w1→wpListIn F nF P l.toArray Q (l.drop n) (fill l (fun i=>decide (i<n)) vals a) w1):
  (Code.region id l.toArray true).wpIn F nF P Q a w:=by
 refine wpIn_region_any hm ?_
 obtain ⟨_,hnl,_⟩:=relyB_spec hB
 have gd:∀j,(Array.replicate l.toArray.size false).getD j false=false:=fun j=>getD_replicate_false _ _
 have hc:cnt (fun i=>(Array.replicate l.toArray.size false).getD i false) n=n:=by
  have:∀m,cnt (fun i=>(Array.replicate l.toArray.size false).getD i false) m=m:=by
   intro m
   induction m with
   |zero=>rfl
   |succ m ih=>
    show cnt _ m+(if (Array.replicate l.toArray.size false).getD m false=true then 0 else 1)=m+1
    rw [ih,gd,if_neg dc_]
  exact this n
 have h:=inv_keyI (Q:=Q) (nF:=nF) hW hnd hB hC hstep hend n (fun _=>undef) (Array.replicate l.toArray.size false) a w.drew hc
  ⟨by simp, ?_, ?_,fun t _=>gd t,fun j o k _ hl=>(by rw [gd] at hl;cases hl)⟩
 ·have e:n+(l.length-n)=l.toArray.size:=by simp;omega
  rw [e] at h
  exact h
 ·have e:(fun j=>(Array.replicate l.toArray.size false).getD j false)=fun _=>false:=funext gd
  rw [e];exact h0
 ·refine act_ext (fun t=> ?_) rfl
  rw [fill_get]
  have e:(List.range l.length).find? (fun i=>(Array.replicate l.toArray.size false).getD i false&&((l[i]?).bind (·.dst)==some t))=none:=by
   rw [List.find?_eq_none]
   intro j _
   rw [gd];simp
  rw [e]
  simp
structure ToldI (F:Fence)(nF:Nat)(P:Program)(l:List Oper)(a:Act)(i:Nat)(vals:Nat→Value)(K:Value→World→Prop)(w:World):Prop where
 out:∀o,l[i]?=some o→if Region.wanted o (yielded l.toArray (fill l (waits o) vals a).tmps)=true then givesR F nF P K ((execOp (fill l (waits o) vals a).eval o).run P w) else K undef w
theorem wp_region_phuI (hW:Wide F)(hnd:noDefer l=true){γ:Type}{id:Nat}(n:Nat)(E:List Nat)(V:γ→Nat→Value)(Ph:γ→Nat→World→Prop)(c0:γ)(hm:P.follows .mixedOrders=true)(hB:relyB l n=true)(hC:relyC l n=true)
  (hE:(List.range E.length).all (fun k=>decide (E.getD k 0<n)&&(List.range k).all fun m=>dep l n (E.getD k 0) (E.getD m 0))=true)
  (h0:Ph c0 0 w.drew)
  (hpure:∀i c p vals w1,i<n→E.contains i=false→p≤E.length→(∀k,k<E.length→dep l n i (E.getD k 0)=true→k<p)→(∀k,k<E.length→dep l n (E.getD k 0) i=true→p≤k)→Ph c p w1→(∀j,waitsAt l i j=true→vals j=V c j)→ToldI F nF P l a i vals (fun v w2=>v=V c i∧w2=w1) w1)
  (heff:∀k c vals w1,k<E.length→Ph c k w1→(∀j,waitsAt l (E.getD k 0) j=true→vals j=V c j)→ToldI F nF P l a (E.getD k 0) vals (fun v w2=>∃c',v=V c' (E.getD k 0)∧(∀i,i<n→i≠E.getD k 0→dep l n i (E.getD k 0)=false→V c' i=V c i)∧Ph c' (k+1) w2) w1)
  (hend:∀c w1,Ph c E.length w1→wpListIn F nF P l.toArray Q (l.drop n) (fill l (fun i=>decide (i<n)) (V c) a) w1):
  (Code.region id l.toArray true).wpIn F nF P Q a w:=by
 have hE1:∀k,k<E.length→E.getD k 0<n:=fun k hk=>by
  have:=List.all_eq_true.1 hE k (List.mem_range.2 hk)
  rw [Bool.and_eq_true] at this
  exact of_decide_eq_true this.1
 have hE2:∀k m,k<E.length→m<k→dep l n (E.getD k 0) (E.getD m 0)=true:=fun k m hk hm=>by
  have:=List.all_eq_true.1 hE k (List.mem_range.2 hk)
  rw [Bool.and_eq_true] at this
  exact List.all_eq_true.1 this.2 m (List.mem_range.2 hm)
 have hln:n≤l.length:=(relyB_spec hB).2.1
 refine wp_region_invI hW hnd n (fun D vals w=>∃c p,p≤E.length∧(∀k,k<E.length→(D (E.getD k 0)=true↔k<p))∧(∀i,i<n→D i=true→vals i=V c i)∧Ph c p w) hm hB hC ⟨c0,0,Nat.zero_le _,fun k _=>⟨(fun h=>by cases h),fun h=>absurd h (Nat.not_lt_zero _)⟩,(fun i _ h=>by cases h),h0⟩ ?_ ?_
 ·rintro i o D vals w1 hi ho hDi hdeps hcl ⟨c,p,hp,hDE,hV,hPh⟩
  have hdj:∀j,waitsAt l i j=true→vals j=V c j:=fun j hj=>by
   unfold waitsAt at hj
   rw [ho] at hj
   have hjn:j<n:=by
    simp only [relyC,Bool.and_eq_true] at hC
    obtain ⟨e,he,hb,hon⟩:=of_waits hj
    have h1:=List.all_eq_true.1 hC.1 i (List.mem_range.2 (List.getElem?_eq_some_iff.1 ho).1)
    simp only [ho] at h1
    have h2:=Array.all_eq_true_iff_forall_mem.1 h1 e he
    simp only [hb,Bool.not_true,Bool.false_or,decide_eq_true_eq] at h2
    omega
   exact hV j hjn (hdeps j hj)
  have hreach:∀f k,dep l f i k=true→D k=true:=fun f k h=>by
   cases f with
   |zero=>simp [dep] at h
   |succ f=>
    unfold dep at h
    rw [ho] at h
    simp only [Bool.or_eq_true,List.any_eq_true,Bool.and_eq_true] at h
    rcases h with h|⟨j,_,h1,h2⟩
    ·exact hdeps k h
    ·exact dep_closed hcl f j k h2 (hdeps j h1)
  by_cases hiE:E.contains i=true
  ·obtain ⟨k,hk⟩:=List.getElem?_of_mem (List.contains_iff_mem.1 hiE)
   have hkl:=(List.getElem?_eq_some_iff.1 hk).1
   have hek:E.getD k 0=i:=by rw [List.getD_eq_getElem?_getD,hk];rfl
   have hkp:k=p:=by
    rcases Nat.lt_trichotomy k p with h|h|h
    ·have:=(hDE k hkl).2 h
     rw [hek,hDi] at this;cases this
    ·exact h
    ·have h1:=hreach n (E.getD p 0) (hek▸hE2 k p hkl h)
     have:=(hDE p om_).1 h1
     omega
   subst hkp
   have ht:=(heff k c vals w1 hkl hPh (fun j hj=>hdj j (hek▸hj))).out o (by rw [hek];exact ho)
   rw [hek] at ht
   have fin:∀v w2,(∃c',v=V c' i∧(∀i',i'<n→i'≠i→dep l n i' i=false→V c' i'=V c i')∧Ph c' (k+1) w2)→∃c p,p≤E.length∧(∀k,k<E.length→((if E.getD k 0=i then true else D (E.getD k 0))=true↔k<p))∧(∀j,j<n→(if j=i then true else D j)=true→(if j=i then v else vals j)=V c j)∧Ph c p w2:=by
    rintro v w2 ⟨c',h1,h2,h3⟩
    refine ⟨c',k+1,by omega,fun m hm=> ?_,fun j hj hd=> ?_,h3⟩
    ·by_cases hmi:E.getD m 0=i
     ·rw [if_pos hmi]
      refine ⟨fun _=> ?_,fun _=>rfl⟩
      rcases Nat.lt_trichotomy m k with h|h|h
      ·omega
      ·omega
      ·have h4:=hE2 m k hm h
       rw [hmi,hek] at h4
       have h5:=hreach n i h4
       rw [hDi] at h5;cases h5
     ·rw [if_neg hmi,hDE m hm]
      have:m≠k:=fun h=>hmi (h▸hek)
      omega
    ·by_cases hji:j=i
     ·subst hji;rw [if_pos rfl];exact h1
     ·rw [if_neg hji] at hd ⊢
      have hdi:dep l n j i=false:=by
       cases hq:dep l n j i with
       |false=>rfl
       |true=>
        have:=dep_closed hcl n j i hq hd
        rw [hDi] at this;cases this
      rw [hV j hj hd,h2 j hj hji hdi]
   split at ht
   ·rename_i hw;rw [if_pos hw];exact givesR_mono fin ht
   ·rename_i hw;rw [if_neg hw];exact fin _ _ ht
  ·have hiE':E.contains i=false:=by simpa using hiE
   have ht:=(hpure i c p vals w1 hi hiE' hp (fun k hk hd=>(hDE k hk).1 (hreach n _ hd)) (fun k hk hd=>Nat.le_of_not_lt fun hkp=>by have h1:=(hDE k hk).2 hkp;have h2:=dep_closed hcl n (E.getD k 0) i hd h1;rw [hDi] at h2;cases h2) hPh hdj).out o ho
   have fin:∀v w2,(v=V c i∧w2=w1)→∃c p,p≤E.length∧(∀k,k<E.length→((if E.getD k 0=i then true else D (E.getD k 0))=true↔k<p))∧(∀j,j<n→(if j=i then true else D j)=true→(if j=i then v else vals j)=V c j)∧Ph c p w2:=by
    rintro v w2 ⟨h1,rfl⟩
    refine ⟨c,p,hp,fun m hm=> ?_,fun j hj hd=> ?_,hPh⟩
    ·have:¬E.getD m 0=i:=fun h=>hiE (List.contains_iff_mem.2 (by rw [←h,List.getD_eq_getElem?_getD,List.getElem?_eq_getElem hm];exact List.getElem_mem hm))
     rw [if_neg this];exact hDE m hm
    ·by_cases hji:j=i
     ·subst hji;rw [if_pos rfl];exact h1
     ·rw [if_neg hji] at hd ⊢;exact hV j hj hd
   split at ht
   ·rename_i hw;rw [if_pos hw];exact givesR_mono fin ht
   ·rename_i hw;rw [if_neg hw];exact fin _ _ ht
 ·rintro D vals w1 hD ⟨c,p,hp,hDE,hV,hPh⟩
  have hpe:p=E.length:=by
   rcases Nat.lt_or_ge p E.length with h|h
   ·have:=(hDE p h).1 (hD _ (hE1 p h));omega
   ·omega
  subst hpe
  have e:fill l (fun i=>decide (i<n)) vals a=fill l (fun i=>decide (i<n)) (V c) a:=fill_congr fun i _ hi=>hV i (of_decide_eq_true hi) (hD i (of_decide_eq_true hi))
  rw [e]
  exact hend c w1 hPh
theorem toldI {i:Nat}{vals:Nat→Value}{K:Value→World→Prop}(h:Told P l a i vals K w):ToldI F nF P l a i vals K w:=⟨fun o ho=>by
 have:=h.out o ho
 split
 ·rename_i hw;rw [if_pos hw] at this;exact .inl this
 ·rename_i hw;rw [if_neg hw] at this;exact this⟩
end
section
variable {F:Fence}{nF:Nat}{P:Program}{ops:Array Oper}{rest:List Oper}{o:Oper}{a:Act}{Q:Exit→Act→World→Prop}{w:World}
theorem gI_ (hW:Wide F)(h:gives P (fun v w'=>wpListIn F nF P ops Q rest (a.put o.dst v) w') ((execOp a.eval o).run P w))(hg:o.guard=none:=by rfl)(hd:isDefer o=false:=by rfl):wpListIn F nF P ops Q (o::rest) a w:=
 wpListIn_plain hg fun K hK=>wpIn_of_givesR hW hd (.inl (gives_mono (fun _ _ h=>hK _ _ h) h))
theorem gIw (hW:Wide F)(h:gives P (fun v w'=>wpListIn F nF P ops Q rest (a.put o.dst v) w') ((execOp a.eval o).run P w))(hw:Region.wanted o (yielded ops a.tmps)=true:=by kernel_rfl)(hd:isDefer o=false:=by rfl):wpListIn F nF P ops Q (o::rest) a w:=by
 unfold wpListIn
 rw [if_pos hw]
 exact wpIn_of_givesR hW hd (.inl h)
theorem gIn (hW:Wide F)(h:wpListIn F nF P ops Q rest (a.put o.dst undef) w)(hw:Region.wanted o (yielded ops a.tmps)=false:=by kernel_rfl):wpListIn F nF P ops Q (o::rest) a w:=by
 unfold wpListIn
 rw [if_neg (by rw [hw];decide)]
 exact ⟨fun f _=>hW.fn f,h⟩
theorem wFI (b:Act)(h2:wpListIn F nF P ops Q rest b w)(h:a=b:=by kernel_rfl):wpListIn F nF P ops Q rest a w:=by subst h;exact h2
theorem wEI (b:Act)(h2:Q .normal b w)(h:a=b:=by kernel_rfl):wpListIn F nF P ops Q [] a w:=by subst h;exact h2
theorem wI_ (h2:Q .normal a w):wpListIn F nF P ops Q [] a w:=h2
theorem least {p:Nat→Prop}(h:∃n,p n):∃n,p n∧∀m,p m→n≤m:=by
 obtain ⟨n,hn⟩:=h
 induction n using Nat.strongRecOn with
 |ind n ih=>
  by_cases hm:∃m,m<n∧p m
  ·obtain ⟨m,h1,h2⟩:=hm
   exact ih m h1 h2
  ·exact ⟨n,hn,fun m hp=>Nat.le_of_not_lt fun hlt=>hm ⟨m,hlt,hp⟩⟩
theorem wpIn_loop_g {G:Type}{c:Code}(I:G→Act→World→Prop)(μ:G→Nat)(g0:G)(h0:I g0 a w)(round:∀g a w,I g a w→c.wpIn F nF P (Exit.then (fun a' w'=>∃g',I g' a' w'∧μ g'<μ g) Q) a w):(Code.loop c).wpIn F nF P Q a w:=by
 have key:∀a w,∃m:Nat,(∃g,I g a w)→(∃g,I g a w∧μ g=m)∧∀g,I g a w→m≤μ g:=fun a w=>by
  by_cases h:∃g,I g a w
  ·obtain ⟨g,hg⟩:=h
   obtain ⟨m,⟨g1,h1,h2⟩,h3⟩:=least (p:=fun m=>∃g,I g a w∧μ g=m) ⟨μ g,g,hg,rfl⟩
   exact ⟨m,fun _=>⟨⟨g1,h1,h2⟩,fun g2 h4=>h3 _ ⟨g2,h4,rfl⟩⟩⟩
  ·exact ⟨0,fun h'=>absurd h' h⟩
 have hf:∃f:Act→World→Nat,∀a w,(∃g,I g a w)→(∃g,I g a w∧μ g=f a w)∧∀g,I g a w→f a w≤μ g:=by
  obtain ⟨f,hf⟩:=Classical.axiomOfChoice (fun (p:Act×World)=>key p.1 p.2)
  exact ⟨fun a w=>f (a,w),fun a w=>hf (a,w)⟩
 obtain ⟨f,hf⟩:=hf
 refine wpIn_loop (fun a w=>∃g,I g a w) f ⟨g0,h0⟩ fun a w hI=> ?_
 obtain ⟨⟨g,hg,hm⟩,_⟩:=hf a w hI
 refine wpIn_mono (round g a w hg) fun e a' w' hq=> ?_
 cases e<;>first
  |exact hq
  |(obtain ⟨g',h1,h2⟩:=hq;exact ⟨⟨g',h1⟩,Nat.lt_of_le_of_lt ((hf a' w' ⟨g',h1⟩).2 g' h1) (hm▸h2)⟩)
end
end
end Go.Vel
end
section
open Go Go.RowKit Go.Proofs.YtgeioealgidkiaaW.PrintWords Go.Proofs.YtgeioealgidkiaaW.PrintMore
namespace Go.Proofs
open Go.Vel
set_option linter.unusedVariables false
set_option maxRecDepth 100000
set_option maxHeartbeats 4000000
attribute [local irreducible] gives wpList wpListIn Code.wp Code.wpIn
theorem eNI {P:Program}{n:Nat}{w:World}{f:FuncId}{fn:Func}{c:Code}{args:Array Value}{R:Ending→World→Prop}(b:Act)(hf:P.funcs[f]?=some fn)(hb:fn.body=some c)(h:c.wpIn Fence.wide n P (bodyPost P fn R) b w)(he:({tmps:=args++Array.replicate (fn.ntmps-args.size) undef,defers:=[]}:Act)=b:=by kernel_rfl):CallsIn Fence.wide n P f args w R:=callsIn_of_wp hf hb trivial (he▸h) rfl
theorem St.cellF {w0 w:World}{L:List Ast}{a:Addr}{v:Value}(S:St none' w0 w L)(h:w0.cell? a=some v):w.cell? a=some v:=by
 have h1:=S.fr.block a.block (World.block_lt_of_cell? w0 a h) (fun h=>h)
 unfold World.cell? at h ⊢
 rw [h1];exact h
theorem Fr.grown {w w':World}(h:Fr none' w w'):w.grownBy w' none:=⟨h.os,h.tape,h.output,h.size,fun k hk _=>h.block k hk (fun h=>h)⟩
structure RowC (W:World)(b1 b2 gl gr n e tl:Nat)(M:List PcV):Prop where
 c1:W.cell? ⟨b1,0,none⟩=some (pq gl)
 c2:W.cell? ⟨b2,0,none⟩=some (.slice (some ⟨gr,0,none⟩) n n)
 c3:W.cell? ⟨gl,2,none⟩=some (iv (n:Nat))
 c4:W.cell? ⟨gl,4,none⟩=some (iv (e:Nat))
 c6:W.cell? ⟨gl,6,none⟩=some (iv (tl:Nat))
 c9:∀j x,M[j]?=some x→∀k v,(pcells x)[k]?=some v→W.cell? ⟨gr,j*5+k,none⟩=some v
def KpR (b1 b2 gl gr:Nat)(W W':World):Prop:=∀a:Addr,(a.block=b1∨a.block=b2∨a.block=gr∨a=⟨gl,2,none⟩∨a=⟨gl,4,none⟩∨a=⟨gl,6,none⟩)→W'.cell? a=W.cell? a
theorem RowC.keep {W W':World}{b1 b2 gl gr n e tl:Nat}{M:List PcV}(h:RowC W b1 b2 gl gr n e tl M)(hk:KpR b1 b2 gl gr W W'):RowC W' b1 b2 gl gr n e tl M:=
 ⟨(hk _ (.inl rfl)).trans h.c1,(hk _ (.inr (.inl rfl))).trans h.c2,(hk _ (.inr (.inr (.inr (.inl rfl))))).trans h.c3,(hk _ (.inr (.inr (.inr (.inr (.inl rfl)))))).trans h.c4,(hk _ (.inr (.inr (.inr (.inr (.inr rfl)))))).trans h.c6,fun j x hx k v hv=>(hk _ (.inr (.inr (.inl rfl)))).trans (h.c9 j x hx k v hv)⟩
theorem RowC.cells {W W':World}{b1 b2 gl gr n e tl:Nat}{M:List PcV}(h:RowC W b1 b2 gl gr n e tl M)(hk:∀a v,W.cell? a=some v→W'.cell? a=some v):RowC W' b1 b2 gl gr n e tl M:=
 ⟨hk _ _ h.c1,hk _ _ h.c2,hk _ _ h.c3,hk _ _ h.c4,hk _ _ h.c6,fun j x hx k v hv=>hk _ _ (h.c9 j x hx k v hv)⟩
abbrev RA (M:List PcV):={x:PcV//x∈M∧x.1.data≠[]}
def encP (M:List PcV)(x:RA M):Array Value:=#[.agg #[.int .i64 (x.1.1.epoch:Nat),.int .i64 (x.1.1.pos:Nat),.int .i64 (x.1.1.idx:Nat),.int .i64 (x.1.1.cnt:Nat),x.1.2]]
abbrev pcsOf {M:List PcV}(xs:List (RA M)):List Pc:=xs.map fun x=>x.1.1
theorem RowOf.snoc {pc:Nat→Pc}{e tl:Nat}{xs:List Pc}{y:Pc}(h:RowOf pc e tl xs)(hy:y=pc (tl+xs.length))(hf:Fits pc e (tl+xs.length)):RowOf pc e tl (xs++[y]):=fun j x hx=>by
 by_cases hj:j<xs.length
 ·rw [List.getElem?_append_left hj] at hx;exact h j x hx
 ·rw [List.getElem?_append_right om_] at hx
  by_cases hj2:j=xs.length
  ·subst hj2;simp at hx;subst hx;exact ⟨hy,hf⟩
  ·rw [List.getElem?_eq_none (by simp;omega)] at hx;cases hx
theorem RowOf.short {pc:Nat→Pc}{e tl n:Nat}{xs:List Pc}(h:RowOf pc e tl xs)(h0:0<n)(hp:∀p,pc (p+n)=pc p)(hf:Fits pc e (tl+xs.length)):xs.length<n:=by
 refine Nat.lt_of_not_le fun hle=> ?_
 have hx:=List.getElem?_eq_getElem (l:=xs) (i:=xs.length-n) om_
 have h1:=(h _ _ hx).2.pos
 have h2:=hp (tl+(xs.length-n))
 rw [show tl+(xs.length-n)+n=tl+xs.length from by omega] at h2
 have h3:=hf.pos
 rw [h2,h1] at h3
 omega
theorem givesR_yield {nF:Nat}{P:Program}{o:Oper}{w:World}{ρ:Operand→Value}{K:Value→World→Prop}{y:Operand}{xs:Array Operand}{ts:Array TypeId}{args:Array Value}{l:Nat}{R:Ending→World→Prop}(ho:o.op=.call {callee:=.value y,args:=xs,argTypes:=ts})(hy:ρ y=.func (.yield l) #[] #[])(hx:xs.map ρ=args)(h:YieldAt Fence.wide (nF-1) P l args w R)(hR:∀e w',R e w'→∃v,e=.returned v∧K v w'):givesR Fence.wide nF P K ((execOp ρ o).run P w):=by
 obtain ⟨fn,tmps,assign,body,h1,h2⟩:=h
 refine .inr ⟨l,fn,tmps,assign,body,w, ?_,h2.mono hR⟩
 subst hx
 simp only [execOp,ho,resolve,hy]
 simp [Deferred.ofValue,invoke,h1]
theorem told_whenI {F:Fence}{nF:Nat}{P:Program}{l:List Oper}{a:Act}{w:World}{i:Nat}{vals:Nat→Value}{K:Value→World→Prop}{o0:Oper}{g t k:Nat}{b:Bool}(h0:l[i]?=some o0)(hg:o0.guard=some (g,b))(hd:(l[g]?).bind (·.dst)=some t)(hs:(List.range l.length).find? (fun i=>waits o0 i&&((l[i]?).bind (·.dst)==some t))=some k)(ht:Nat.blt t a.tmps.size=true)(hv:vals k=.bool b)(h:givesR F nF P K ((execOp (fill l (waits o0) vals a).eval o0).run P w)):ToldI F nF P l a i vals K w:=⟨fun o ho=>by
 rw [h0] at ho;cases ho
 have hy:=yields_fill (a:=a) hd hs ht hv
 have:Region.wanted o0 (yielded l.toArray (fill l (waits o0) vals a).tmps)=true:=by unfold Region.wanted;rw [hg];simp [hy]
 rw [if_pos this];exact h⟩
theorem givesR_env {F:Fence}{nF:Nat}{P:Program}{o:Oper}{w:World}{K:Value→World→Prop}{x:Act}(b:Act)(hs:isSel o=false){xs:List Operand}(hx:o.op.operands.toList=xs)(h:alike x.eval b.eval xs)(k:givesR F nF P K ((execOp b.eval o).run P w)):givesR F nF P K ((execOp x.eval o).run P w):=by
 have e:=execOp_congr o (ρ:=x.eval) (ρ':=b.eval) (fun cs bl he=>by unfold isSel at hs;rw [he] at hs;cases hs) (fun op hop=>alike_mem h op (by rw [←hx];simpa using hop))
 rw [e];exact k
theorem w_row {F:Nat→Prop}{w0 w:World}{L:List Ast}{gl gr n:Nat}(S:St F w0 w L):Calls Try.prog 140 #[.pointer (some ⟨gl,0,none⟩),.slice (some ⟨gr,0,none⟩) n n] w fun e w'=>∃b1 b2,e=.returned (.func (.func 150) #[] #[.pointer (some ⟨b1,0,none⟩),.pointer (some ⟨b2,0,none⟩)])∧St F w0 w' (row b2 #[.slice (some ⟨gr,0,none⟩) n n] 169::row b1 #[.pointer (some ⟨gl,0,none⟩)] 93::L):=by
 exact eN (fr [pq gl,sl gr 0 n n] 4) Try.func140 rfl (sR (nB rfl (pq gl) S fun g1 w2 hg3 S4=>nB rfl (sl gr 0 n n) S4 fun g5 w6 hg7 S8=>g_ (gv_val (v:=.nilFunc) (w':=w6) kr_ (wE (nSR (pv (.func (.func 150) #[] #[pq g1,pq g5]) (pv (.func (.func 150) #[] #[pq g1,pq g5]) (wE (then_n (wp_ret (bA (.func (.func 150) #[] #[pq g1,pq g5]) ⟨_,_,rfl,S8⟩)))))))))))
theorem row_stops {w:World}{b1 b2 gl gr n e tl:Nat}{M:List PcV}{pc:Nat→Pc}(hC0:RowC w b1 b2 gl gr n e tl M)(hn1:18≤n)(hn2:n≤256)(hM:M.length=n)(hpc:∀j x,M[j]?=some x→x.1=pc j∧∃A c,x.2=.slice A x.1.data.length c)(hper:∀p,pc (p+n)=pc p)(htl:tl≤1073741824):
  SeqStopsK Fence.wide 2 Try.prog 150 #[pq b1,pq b2] (encP M) (KpR b1 b2 gl gr) (fun xs=>RowOf pc e tl (pcsOf xs)∧¬Fits pc e (tl+xs.length)) (fun xs=>RowOf pc e tl (pcsOf xs)) (n+1) w:=by
 intro l Jp Jx W hWb hJ hJx hY h0
 have hW:=wide_wide
 have hC:RowC W b1 b2 gl gr n e tl M:=hC0.cells fun a v h=>by
  have h1:=hWb.block a.block (World.block_lt_of_cell? w a h)
  unfold World.cell? at h ⊢
  rw [h1];exact h
 have hmod:∀p,pc p=pc (p%n):=fun p=>by
  have h1:∀k q,pc (q+n*k)=pc q:=fun k=>by
   induction k with
   |zero=>intro q;rfl
   |succ k ih=>intro q;rw [Nat.mul_succ,←Nat.add_assoc,hper,ih]
  have h2:=h1 (p/n) (p%n)
  rwa [Nat.mod_add_div] at h2
 have S0:St none' W W []:=St.init none' W
 obtain ⟨m,hm⟩:∃m,n=m+1:=⟨n-1,by omega⟩
 refine eNI (fr [.func (.yield l) #[] #[],pq b1,pq b2] 43) Try.func150 rfl (wpIn_seq (wpIn_region_lit (gI_ hW (gv_ldR (v:=pq gl) rfl kr_ kr_ (St.cellF S0 hC.c1) (gI_ hW (gV (pq gl) (gI_ hW (gV (po gl 6) (gI_ hW (gv_ldR (v:=nI_ tl) rfl kr_ kr_ (St.cellF S0 hC.c6) (gI_ hW (gV (nI_ tl) (wI_ (then_n (wpIn_block (wpIn_loop_g (G:=List (RA M)) (fun (g_:List (RA M)) (a_:Act) (w_:World)=>∃J:Nat→Value,a_=(fr [.func (.yield l) #[] #[],pq b1,pq b2,ud,nI_ (tl+g_.length),J 5,pq gl,pq gl,po gl 6,nI_ tl,J 10,J 11,J 12,J 13,J 14,J 15,J 16,J 17,J 18,J 19,J 20,J 21,J 22,J 23,J 24,J 25,J 26,J 27,J 28,J 29,J 30,J 31,J 32,J 33,J 34,J 35,J 36,J 37,J 38,J 39,J 40,J 41,J 42,J 43,J 44,J 45] 0)∧Jp g_ w_∧RowC w_ b1 b2 gl gr n e tl M∧RowOf pc e tl (pcsOf g_)∧g_.length≤n) (fun g_=>n+1-g_.length) [] (jE_ ⟨h0,hC,(fun j x hx=>by cases hx),Nat.zero_le _⟩) ?_))))))))))))))))
 rintro pre a_ wb ⟨J,rfl,hJ0,hC,hR,hln⟩
 have S1:St none' wb wb []:=St.init none' wb
 have hplt:(tl+pre.length)%n<n:=Nat.mod_lt _ om_
 obtain ⟨x,hx⟩:∃x,M[(tl+pre.length)%n]?=some x:=⟨_,List.getElem?_eq_getElem om_⟩
 obtain ⟨hxp,A8,c8,hx8⟩:=hpc _ x hx
 rw [←hmod] at hxp
 have hcells:pcells x=[.int .i64 (x.1.epoch:Nat),.int .i64 (x.1.pos:Nat),.int .i64 (x.1.idx:Nat),.int .i64 (x.1.cnt:Nat),.slice A8 x.1.data.length c8]:=by unfold pcells;rw [hx8]
 have hll:(pcsOf pre).length=pre.length:=List.length_map ..
 refine wpIn_seq (wpIn_block (wpIn_seq (wp_region_phuI hW kr_ (γ:=Nat) 10 [9] (fun (c_:Nat) (i_:Nat)=>(match i_ with|0=>sl gr 0 n n|1=>nI_ (tl+pre.length)|2=>pq gl|3=>pq gl|4=>po gl 2|5=>nI_ n|6=>nI_ ((tl+pre.length)%n)|7=>.pointer (some ⟨gr,0+(tl+pre.length)%n*5,none⟩)|8=>.agg (pC_ x.1 A8 c8)|9=>pq c_|_=>undef:Value)) (fun (c_:Nat) (p_:Nat) (w_:World)=>(match p_ with|0=>St none' wb w_ []|_=>St none' wb w_ [row c_ #[iv 0,iv 0,iv 0,iv 0,nS_] 165]:Prop)) (0) kr_ kr_ kr_ kr_ (S1.drew) ?_ ?_ ?_)))
 ·intro i_ c_ p_ vals_ w1 hi_ hiE_ hp_ hk_ hu_ hPh_ hd_
  rcases i_ with _|_|_|_|_|_|_|_|_|_|i_
  ·rcases p_ with _|_|p_
   ·have S1:=St.id hPh_
    exact toldI (tG_ rfl hd_ (gL (sl gr 0 n n) rfl (St.cellF S1 hC.c2) ⟨rfl,rfl⟩))
   ·have S2:=St.id hPh_
    exact toldI (tG_ rfl hd_ (gL (sl gr 0 n n) rfl (St.cellF S2 hC.c2) ⟨rfl,rfl⟩))
   ·exact absurd hp_ (by simp)
  ·exact toldI (tG_ rfl hd_ (gV (nI_ (tl+pre.length)) ⟨rfl,rfl⟩))
  ·rcases p_ with _|_|p_
   ·have S4:=St.id hPh_
    exact toldI (tG_ rfl hd_ (gL (pq gl) rfl (St.cellF S4 hC.c1) ⟨rfl,rfl⟩))
   ·have S5:=St.id hPh_
    exact toldI (tG_ rfl hd_ (gL (pq gl) rfl (St.cellF S5 hC.c1) ⟨rfl,rfl⟩))
   ·exact absurd hp_ (by simp)
  ·exact toldI (tG_ rfl hd_ (gV (pq gl) ⟨rfl,rfl⟩))
  ·exact toldI (tG_ rfl hd_ (gV (po gl 2) ⟨rfl,rfl⟩))
  ·rcases p_ with _|_|p_
   ·have S8:=St.id hPh_
    exact toldI (tG_ rfl hd_ (gL (nI_ n) rfl (St.cellF S8 hC.c3) ⟨rfl,rfl⟩))
   ·have S9:=St.id hPh_
    exact toldI (tG_ rfl hd_ (gL (nI_ n) rfl (St.cellF S9 hC.c3) ⟨rfl,rfl⟩))
   ·exact absurd hp_ (by simp)
  ·exact toldI (tG_ rfl hd_ (gv_int (k:=.i64) (z:=Int.tmod ((tl+pre.length:Nat):Int) ((n:Nat):Int)) (z':=(((tl+pre.length)%n:Nat):Int)) (by rw [hm];kernel_rfl) (tmod_nat rfl rfl) ⟨rfl,rfl⟩))
  ·exact toldI (tG_ rfl hd_ (gv_ixE (e:=165) (sz:=5) (g:=gr) (off:=0) (n:=n) (c:=n) (i:=(((tl+pre.length)%n:Nat):Int)) (k:=.i64) (j:=((tl+pre.length)%n)) (off':=(0+(tl+pre.length)%n*5)) rfl kr_ kr_ kr_ kr_ rfl hplt om_ ⟨rfl,rfl⟩))
  ·rcases p_ with _|_|p_
   ·have S12:=St.id hPh_
    exact toldI (tG_ rfl hd_ (gv_ldRA (ad:=⟨gr,0+(tl+pre.length)%n*5,none⟩) (vs:=[nI_ x.1.epoch,nI_ x.1.pos,nI_ x.1.idx,nI_ x.1.cnt,.slice A8 x.1.data.length c8]) (n:=5) rfl kr_ kr_ rfl (fun j v hv=>by rw [Addr.add_lit,Nat.zero_add];exact St.cellF S12 (hC.c9 _ x hx j v (by rw [hcells];exact hv))) ⟨rfl,rfl⟩))
   ·have S13:=St.id hPh_
    exact toldI (tG_ rfl hd_ (gv_ldRA (ad:=⟨gr,0+(tl+pre.length)%n*5,none⟩) (vs:=[nI_ x.1.epoch,nI_ x.1.pos,nI_ x.1.idx,nI_ x.1.cnt,.slice A8 x.1.data.length c8]) (n:=5) rfl kr_ kr_ rfl (fun j v hv=>by rw [Addr.add_lit,Nat.zero_add];exact St.cellF S13 (hC.c9 _ x hx j v (by rw [hcells];exact hv))) ⟨rfl,rfl⟩))
   ·exact absurd hp_ (by simp)
  ·exact absurd hiE_ dc_
  ·exact absurd hi_ om_
 ·intro k_ c_ vals_ w1 hk_ hPh_ hd_
  rcases k_ with _|k_
  ·have S14:=St.id hPh_
   refine toldI (tG_ rfl hd_ (gv_new (z:=.agg #[iv 0,iv 0,iv 0,iv 0,nS_]) S14 rfl kr_ (fun g15 w16 hg17 S18=>⟨(g15),rfl, ?_,S18⟩)))
   intro i_ hi_ hne_ hdp_
   rcases i_ with _|_|_|_|_|_|_|_|_|_|i_
   ·rfl
   ·rfl
   ·rfl
   ·rfl
   ·rfl
   ·rfl
   ·rfl
   ·rfl
   ·rfl
   ·exact absurd rfl hne_
   ·exact absurd hi_ om_
  ·exact absurd hk_ (by simp)
 ·intro c_ w1 hPh_
  have S19:=St.id hPh_
  refine (gI_ hW (gv_stA (k:=0) (vs:=[nI_ x.1.epoch,nI_ x.1.pos,nI_ x.1.idx,nI_ x.1.cnt,.slice A8 x.1.data.length c8]) S19 0 rfl rfl kr_ kr_ kr_ rfl (by simp [Value.oneCell']) (Nat.le_of_ble_eq_true kr_) (L':=[row c_ (pC_ x.1 A8 c8) 165]) rfl (fun w20 S21=>wI_ ?_)))
  refine then_n (wpIn_seq ?_)
  by_cases hfit:Fits pc e (tl+pre.length)
  ·have hce:x.1.epoch=e:=by rw [hxp];exact hfit.epoch
   have hcp:x.1.pos=tl+pre.length:=by rw [hxp];exact hfit.pos
   have hdne:x.1.data≠[]:=by rw [hxp];exact hfit.data
   have hcd:x.1.data.length≠0:=fun h=>hdne (List.length_eq_zero_iff.1 h)
   have hshort:pre.length<n:=by rw [←hll];exact RowOf.short hR om_ hper (by rw [hll];exact hfit)
   have hl1:tl+pre.length+1=tl+(pre++[(⟨x,List.mem_of_getElem? hx,hdne⟩:RA M)]).length:=by rw [List.length_append];rfl
   have hR9:RowOf pc e tl (pcsOf (pre++[(⟨x,List.mem_of_getElem? hx,hdne⟩:RA M)])):=by rw [pcsOf,List.map_append];exact RowOf.snoc hR (by rw [hll];exact hxp) (by rw [hll];exact hfit)
   have hln9:(pre++[(⟨x,List.mem_of_getElem? hx,hdne⟩:RA M)]).length≤n:=by rw [List.length_append];exact hshort
   have hms9:n+1-(pre++[(⟨x,List.mem_of_getElem? hx,hdne⟩:RA M)]).length<n+1-pre.length:=by rw [List.length_append];show n+1-(pre.length+1)<_;omega
   refine wp_region_phuI hW kr_ (γ:=Bool) 25 [22] (fun (c2_:Bool) (i_:Nat)=>(match i_ with|0=>pq c_|1=>nI_ x.1.epoch|2=>pq gl|3=>pq gl|4=>po gl 4|5=>nI_ e|6=>.bool false|7=>.bool false|8=>po c_ 1|9=>nI_ x.1.pos|10=>nI_ (tl+pre.length)|11=>.bool false|12=>.bool false|13=>.bool false|14=>po c_ 4|15=>.slice A8 x.1.data.length c8|16=>iv (x.1.data.length:Nat)|17=>.bool false|18=>.bool false|19=>.bool false|20=>.func (.yield l) #[] #[]|21=>.agg (pC_ x.1 A8 c8)|22=>.bool c2_|23=>.bool (!c2_)|24=>.bool (!c2_)|_=>undef:Value)) (fun (c2_:Bool) (p_:Nat) (w_:World)=>(match p_ with|0=>St none' wb w_ [row c_ (pC_ x.1 A8 c8) 165]|_=>((c2_=true∧Jp (pre++[(⟨x,List.mem_of_getElem? hx,hdne⟩:RA M)]) w_∧RowC w_ b1 b2 gl gr n e tl M)∨(c2_=false∧Jx (pre++[(⟨x,List.mem_of_getElem? hx,hdne⟩:RA M)]) w_)):Prop)) (true) kr_ kr_ kr_ kr_ (S21.drew) ?_ ?_ ?_
   ·intro i_ c2_ p_ vals_ w1 hi_ hiE_ hp_ hk_ hu_ hPh_ hd_
    rcases i_ with _|_|_|_|_|_|_|_|_|_|_|_|_|_|_|_|_|_|_|_|_|_|_|_|_|i_
    ·exact toldI (tG_ rfl hd_ (gV (pq c_) ⟨rfl,rfl⟩))
    ·rcases p_ with _|_|p_
     ·have S23:=St.id hPh_
      exact toldI (tG_ rfl hd_ (gL (nI_ x.1.epoch) rfl (((S23.blk 0 rfl).cell 0).trans rfl) ⟨rfl,rfl⟩))
     ·exact absurd (hu_ 0 dc_ kr_) dc_
     ·exact absurd hp_ (by simp)
    ·rcases p_ with _|_|p_
     ·have S24:=St.id hPh_
      exact toldI (tG_ rfl hd_ (gL (pq gl) rfl (St.cellF S24 hC.c1) ⟨rfl,rfl⟩))
     ·exact absurd (hu_ 0 dc_ kr_) dc_
     ·exact absurd hp_ (by simp)
    ·exact toldI (tG_ rfl hd_ (gV (pq gl) ⟨rfl,rfl⟩))
    ·exact toldI (tG_ rfl hd_ (gV (po gl 4) ⟨rfl,rfl⟩))
    ·rcases p_ with _|_|p_
     ·have S27:=St.id hPh_
      exact toldI (tG_ rfl hd_ (gL (nI_ e) rfl (St.cellF S27 hC.c4) ⟨rfl,rfl⟩))
     ·exact absurd (hu_ 0 dc_ kr_) dc_
     ·exact absurd hp_ (by simp)
    ·exact toldI (tG_ rfl hd_ (gB_ (b:=((x.1.epoch:Nat):Int) !=((e:Nat):Int)) (b':=false) kr_ (by simp;omega) ⟨rfl,rfl⟩))
    ·exact toldI (tG_ rfl hd_ (gV (.bool false) ⟨rfl,rfl⟩))
    ·exact toldI (tW_ 7 28 7 false rfl hd_ (gv_val (v:=po c_ 1) (w':=w1) kr_ ⟨rfl,rfl⟩))
    ·rcases p_ with _|_|p_
     ·have S31:=St.id hPh_
      exact toldI (tW_ 7 28 7 false rfl hd_ (gv_ldR (v:=nI_ x.1.pos) rfl kr_ kr_ (((S31.blk 0 rfl).cell 1).trans rfl) ⟨rfl,rfl⟩))
     ·exact absurd (hu_ 0 dc_ kr_) dc_
     ·exact absurd hp_ (by simp)
    ·exact toldI (tW_ 7 28 7 false rfl hd_ (gv_val (v:=nI_ (tl+pre.length)) (w':=w1) kr_ ⟨rfl,rfl⟩))
    ·exact toldI (tW_ 7 28 7 false rfl hd_ (gB_ (b:=((x.1.pos:Nat):Int) !=((tl+pre.length:Nat):Int)) (b':=false) kr_ (by simp;omega) ⟨rfl,rfl⟩))
    ·exact toldI (tG_ rfl hd_ (gV (.bool false) ⟨rfl,rfl⟩))
    ·exact toldI (tG_ rfl hd_ (gV (.bool false) ⟨rfl,rfl⟩))
    ·exact toldI (tW_ 13 34 13 false rfl hd_ (gv_val (v:=po c_ 4) (w':=w1) kr_ ⟨rfl,rfl⟩))
    ·rcases p_ with _|_|p_
     ·have S37:=St.id hPh_
      exact toldI (tW_ 13 34 13 false rfl hd_ (gv_ldR (v:=.slice A8 x.1.data.length c8) rfl kr_ kr_ (((S37.blk 0 rfl).cell 4).trans rfl) ⟨rfl,rfl⟩))
     ·exact absurd (hu_ 0 dc_ kr_) dc_
     ·exact absurd hp_ (by simp)
    ·exact toldI (tW_ 13 34 13 false rfl hd_ (gv_val (v:=iv (x.1.data.length:Nat)) (w':=w1) kr_ ⟨rfl,rfl⟩))
    ·exact toldI (tW_ 13 34 13 false rfl hd_ (gB_ (b:=((x.1.data.length:Nat):Int)==0) (b':=false) kr_ (by simp;first|omega|exact hdne) ⟨rfl,rfl⟩))
    ·exact toldI (tG_ rfl hd_ (gV (.bool false) ⟨rfl,rfl⟩))
    ·exact toldI (tG_ rfl hd_ (gV (.bool false) ⟨rfl,rfl⟩))
    ·exact toldI (tW_ 19 40 19 false rfl hd_ (gv_val (v:=.func (.yield l) #[] #[]) (w':=w1) kr_ ⟨rfl,rfl⟩))
    ·rcases p_ with _|_|p_
     ·have S43:=St.id hPh_
      exact toldI (tW_ 19 40 19 false rfl hd_ (gv_ldA (k:=0) (n:=5) (vs:=[nI_ x.1.epoch,nI_ x.1.pos,nI_ x.1.idx,nI_ x.1.cnt,.slice A8 x.1.data.length c8]) S43 0 rfl rfl kr_ kr_ rfl rfl ⟨rfl,rfl⟩))
     ·exact absurd (hu_ 0 dc_ kr_) dc_
     ·exact absurd hp_ (by simp)
    ·exact absurd hiE_ dc_
    ·exact toldI (tW_ 19 40 19 false rfl hd_ (gv_val (v:=.bool (!c2_)) (w':=w1) kr_ ⟨rfl,rfl⟩))
    ·exact toldI (tG_ rfl hd_ (gV (.bool (!c2_)) ⟨rfl,rfl⟩))
    ·exact absurd hi_ om_
   ·intro k_ c2_ vals_ w1 hk_ hPh_ hd_
    rcases k_ with _|k_
    ·have S46:=St.id hPh_
     have hJ1:Jp pre w1:=hJ pre wb w1 none hJ0 (Fr.grown S46.fr) (fun r h=>by cases h)
     have hC1:=hC.cells fun a v h=>St.cellF S46 h
     have hyl:=hY pre ⟨x,List.mem_of_getElem? hx,hdne⟩ w1 hJ1 om_
     have henc:encP M ⟨x,List.mem_of_getElem? hx,hdne⟩=#[.agg #[nI_ x.1.epoch,nI_ x.1.pos,nI_ x.1.idx,nI_ x.1.cnt,.slice A8 x.1.data.length c8]]:=by unfold encP;rw [hx8]
     rw [henc] at hyl
     refine told_whenI (g:=19) (t:=40) (k:=19) (b:=false) rfl rfl kr_ kr_ kr_ ((hd_ 19 kr_).trans kr_) (givesR_env (((⟨Array.replicate 46 undef,[]⟩:Act).put (some 41) (.func (.yield l) #[] #[])).put (some 42) (.agg (pC_ x.1 A8 c8))) kr_ (xs:=[.tmp 41,.tmp 42]) kr_ (alike_cons (fill_at (k:=20) kr_ kr_ ((hd_ 20 kr_).trans kr_)) (alike_cons (fill_at (k:=21) kr_ kr_ ((hd_ 21 kr_).trans kr_)) alike_nil)) (givesR_yield (l:=l) rfl kr_ kr_ hyl ?_))
     rintro _ w2 (⟨rfl,hJ9,hk9⟩|⟨rfl,hJ9⟩)
     ·refine ⟨_,rfl,⟨(true),rfl, ?_,(.inl ⟨rfl,hJ9,hC1.keep hk9⟩)⟩⟩
      intro i_ hi_ hne_ hdp_
      rcases i_ with _|_|_|_|_|_|_|_|_|_|_|_|_|_|_|_|_|_|_|_|_|_|_|_|_|i_
      ·rfl
      ·rfl
      ·rfl
      ·rfl
      ·rfl
      ·rfl
      ·rfl
      ·rfl
      ·rfl
      ·rfl
      ·rfl
      ·rfl
      ·rfl
      ·rfl
      ·rfl
      ·rfl
      ·rfl
      ·rfl
      ·rfl
      ·rfl
      ·rfl
      ·rfl
      ·exact absurd rfl hne_
      ·exact dN_ hdp_
      ·exact dN_ hdp_
      ·exact absurd hi_ om_
     ·refine ⟨_,rfl,⟨(false),rfl, ?_,(.inr ⟨rfl,hJ9⟩)⟩⟩
      intro i_ hi_ hne_ hdp_
      rcases i_ with _|_|_|_|_|_|_|_|_|_|_|_|_|_|_|_|_|_|_|_|_|_|_|_|_|i_
      ·rfl
      ·rfl
      ·rfl
      ·rfl
      ·rfl
      ·rfl
      ·rfl
      ·rfl
      ·rfl
      ·rfl
      ·rfl
      ·rfl
      ·rfl
      ·rfl
      ·rfl
      ·rfl
      ·rfl
      ·rfl
      ·rfl
      ·rfl
      ·rfl
      ·rfl
      ·exact absurd rfl hne_
      ·exact dN_ hdp_
      ·exact dN_ hdp_
      ·exact absurd hi_ om_
    ·exact absurd hk_ (by simp)
   ·intro c2_ w1 hPh_
    have S48:((c2_=true∧Jp (pre++[(⟨x,List.mem_of_getElem? hx,hdne⟩:RA M)]) w1∧RowC w1 b1 b2 gl gr n e tl M)∨(c2_=false∧Jx (pre++[(⟨x,List.mem_of_getElem? hx,hdne⟩:RA M)]) w1)):=hPh_
    refine (wI_ ?_)
    refine then_n (wpIn_cond_split (t:= !c2_) kr_ (fun hc49=> ?_) (fun hc49=> ?_))
    ·have hjx:=S48.elim (fun h9=>by rw [h9.1] at hc49;cases hc49) (fun h9=>h9.2)
     exact wpIn_ret (inb_r (then_r (then_r (inb_r (bodyPost_ret (v:=.tuple #[]) (results_none rfl _ _ _) rfl ⟨⟨_,rfl⟩,.inr ⟨_,hR9,hjx⟩⟩)))))
    ·obtain ⟨hJ9,hC9⟩:=S48.elim (fun h9=>h9.2) (fun h9=>by rw [h9.1] at hc49;cases hc49)
     exact wpIn_skip (iN (wpIn_region_lit (gI_ hW (gV (nI_ (tl+pre.length)) (gI_ hW (gv_int (k:=.i64) (z:=IntKind.i64.wrap (((tl+pre.length:Nat):Int)+1)) (z':=((tl+pre.length+1:Nat):Int)) kr_ wq_ (gI_ hW (gV (nI_ (tl+pre.length+1)) (wI_ (then_n ⟨pre++[⟨x,List.mem_of_getElem? hx,hdne⟩],(jF_ (fun z_:Nat=>(fr [.func (.yield l) #[] #[],pq b1,pq b2,ud,nI_ z_,pq c_,pq gl,pq gl,po gl 6,nI_ tl,nI_ (tl+pre.length),nI_ (tl+pre.length+1),sl gr 0 n n,nI_ (tl+pre.length),pq gl,pq gl,po gl 2,nI_ n,nI_ ((tl+pre.length)%n),po gr (0+(tl+pre.length)%n*5),.agg (pC_ x.1 A8 c8),pq c_,nI_ x.1.epoch,pq gl,pq gl,po gl 4,nI_ e,fv,fv,po c_ 1,nI_ x.1.pos,nI_ (tl+pre.length),fv,fv,fv,po c_ 4,.slice A8 x.1.data.length c8,iv (x.1.data.length:Nat),fv,fv,fv,.func (.yield l) #[] #[],.agg (pC_ x.1 A8 c8),.bool c2_,.bool (!c2_),.bool (!c2_)] 0)) (x:=tl+pre.length+1) (y:=tl+(pre++[(⟨x,List.mem_of_getElem? hx,hdne⟩:RA M)]).length) hl1 ⟨hJ9,hC9,hR9,hln9⟩),hms9⟩))))))))))
  by_cases hce:x.1.epoch≠e
  ·refine wp_region_phuI hW kr_ (γ:=Unit) 25 [] (fun (c2_:Unit) (i_:Nat)=>(match i_ with|0=>pq c_|1=>nI_ x.1.epoch|2=>pq gl|3=>pq gl|4=>po gl 4|5=>nI_ e|6=>.bool true|7=>.bool true|8=>undef|9=>undef|10=>undef|11=>undef|12=>.bool true|13=>.bool true|14=>undef|15=>undef|16=>undef|17=>undef|18=>.bool true|19=>.bool true|20=>undef|21=>undef|22=>undef|23=>undef|24=>.bool true|_=>undef:Value)) (fun (c2_:Unit) (p_:Nat) (w_:World)=>(match p_ with|_=>St none' wb w_ [row c_ (pC_ x.1 A8 c8) 165]:Prop)) () kr_ kr_ kr_ kr_ (S21.drew) ?_ ?_ ?_
   ·intro i_ c2_ p_ vals_ w1 hi_ hiE_ hp_ hk_ hu_ hPh_ hd_
    rcases i_ with _|_|_|_|_|_|_|_|_|_|_|_|_|_|_|_|_|_|_|_|_|_|_|_|_|i_
    ·exact toldI (tG_ rfl hd_ (gV (pq c_) ⟨rfl,rfl⟩))
    ·have S51:=St.id hPh_
     exact toldI (tG_ rfl hd_ (gL (nI_ x.1.epoch) rfl (((S51.blk 0 rfl).cell 0).trans rfl) ⟨rfl,rfl⟩))
    ·have S52:=St.id hPh_
     exact toldI (tG_ rfl hd_ (gL (pq gl) rfl (St.cellF S52 hC.c1) ⟨rfl,rfl⟩))
    ·exact toldI (tG_ rfl hd_ (gV (pq gl) ⟨rfl,rfl⟩))
    ·exact toldI (tG_ rfl hd_ (gV (po gl 4) ⟨rfl,rfl⟩))
    ·have S55:=St.id hPh_
     exact toldI (tG_ rfl hd_ (gL (nI_ e) rfl (St.cellF S55 hC.c4) ⟨rfl,rfl⟩))
    ·exact toldI (tG_ rfl hd_ (gB_ (b:=((x.1.epoch:Nat):Int) !=((e:Nat):Int)) (b':=true) kr_ (by simp;omega) ⟨rfl,rfl⟩))
    ·exact toldI (tG_ rfl hd_ (gV (.bool true) ⟨rfl,rfl⟩))
    ·exact toldI (tO_ 7 28 7 false true rfl hd_ ⟨rfl,rfl⟩)
    ·exact toldI (tO_ 7 28 7 false true rfl hd_ ⟨rfl,rfl⟩)
    ·exact toldI (tO_ 7 28 7 false true rfl hd_ ⟨rfl,rfl⟩)
    ·exact toldI (tO_ 7 28 7 false true rfl hd_ ⟨rfl,rfl⟩)
    ·exact toldI (tG_ rfl hd_ (gV (.bool true) ⟨rfl,rfl⟩))
    ·exact toldI (tG_ rfl hd_ (gV (.bool true) ⟨rfl,rfl⟩))
    ·exact toldI (tO_ 13 34 13 false true rfl hd_ ⟨rfl,rfl⟩)
    ·exact toldI (tO_ 13 34 13 false true rfl hd_ ⟨rfl,rfl⟩)
    ·exact toldI (tO_ 13 34 13 false true rfl hd_ ⟨rfl,rfl⟩)
    ·exact toldI (tO_ 13 34 13 false true rfl hd_ ⟨rfl,rfl⟩)
    ·exact toldI (tG_ rfl hd_ (gV (.bool true) ⟨rfl,rfl⟩))
    ·exact toldI (tG_ rfl hd_ (gV (.bool true) ⟨rfl,rfl⟩))
    ·exact toldI (tO_ 19 40 19 false true rfl hd_ ⟨rfl,rfl⟩)
    ·exact toldI (tO_ 19 40 19 false true rfl hd_ ⟨rfl,rfl⟩)
    ·exact toldI (tO_ 19 40 19 false true rfl hd_ ⟨rfl,rfl⟩)
    ·exact toldI (tO_ 19 40 19 false true rfl hd_ ⟨rfl,rfl⟩)
    ·exact toldI (tG_ rfl hd_ (gV (.bool true) ⟨rfl,rfl⟩))
    ·exact absurd hi_ om_
   ·intro k_ c2_ vals_ w1 hk_ hPh_ hd_
    exact absurd hk_ (Nat.not_lt_zero _)
   ·intro c2_ w1 hPh_
    have S75:=St.id hPh_
    exact (wI_ (then_n (wpIn_cond_true kr_ (wpIn_ret (inb_r (then_r (then_r (inb_r (bodyPost_ret (v:=.tuple #[]) (results_none rfl _ _ _) rfl ⟨⟨_,rfl⟩,.inl ⟨pre,⟨hR,hfit⟩,hJ pre wb _ none hJ0 (Fr.grown S75.fr) (fun r h=>by cases h)⟩⟩)))))))))
  by_cases hcp:x.1.pos≠tl+pre.length
  ·have hce:x.1.epoch=e:=by omega
   refine wp_region_phuI hW kr_ (γ:=Unit) 25 [] (fun (c2_:Unit) (i_:Nat)=>(match i_ with|0=>pq c_|1=>nI_ x.1.epoch|2=>pq gl|3=>pq gl|4=>po gl 4|5=>nI_ e|6=>.bool false|7=>.bool false|8=>po c_ 1|9=>nI_ x.1.pos|10=>nI_ (tl+pre.length)|11=>.bool true|12=>.bool true|13=>.bool true|14=>undef|15=>undef|16=>undef|17=>undef|18=>.bool true|19=>.bool true|20=>undef|21=>undef|22=>undef|23=>undef|24=>.bool true|_=>undef:Value)) (fun (c2_:Unit) (p_:Nat) (w_:World)=>(match p_ with|_=>St none' wb w_ [row c_ (pC_ x.1 A8 c8) 165]:Prop)) () kr_ kr_ kr_ kr_ (S21.drew) ?_ ?_ ?_
   ·intro i_ c2_ p_ vals_ w1 hi_ hiE_ hp_ hk_ hu_ hPh_ hd_
    rcases i_ with _|_|_|_|_|_|_|_|_|_|_|_|_|_|_|_|_|_|_|_|_|_|_|_|_|i_
    ·exact toldI (tG_ rfl hd_ (gV (pq c_) ⟨rfl,rfl⟩))
    ·have S77:=St.id hPh_
     exact toldI (tG_ rfl hd_ (gL (nI_ x.1.epoch) rfl (((S77.blk 0 rfl).cell 0).trans rfl) ⟨rfl,rfl⟩))
    ·have S78:=St.id hPh_
     exact toldI (tG_ rfl hd_ (gL (pq gl) rfl (St.cellF S78 hC.c1) ⟨rfl,rfl⟩))
    ·exact toldI (tG_ rfl hd_ (gV (pq gl) ⟨rfl,rfl⟩))
    ·exact toldI (tG_ rfl hd_ (gV (po gl 4) ⟨rfl,rfl⟩))
    ·have S81:=St.id hPh_
     exact toldI (tG_ rfl hd_ (gL (nI_ e) rfl (St.cellF S81 hC.c4) ⟨rfl,rfl⟩))
    ·exact toldI (tG_ rfl hd_ (gB_ (b:=((x.1.epoch:Nat):Int) !=((e:Nat):Int)) (b':=false) kr_ (by simp;omega) ⟨rfl,rfl⟩))
    ·exact toldI (tG_ rfl hd_ (gV (.bool false) ⟨rfl,rfl⟩))
    ·exact toldI (tW_ 7 28 7 false rfl hd_ (gv_val (v:=po c_ 1) (w':=w1) kr_ ⟨rfl,rfl⟩))
    ·have S85:=St.id hPh_
     exact toldI (tW_ 7 28 7 false rfl hd_ (gv_ldR (v:=nI_ x.1.pos) rfl kr_ kr_ (((S85.blk 0 rfl).cell 1).trans rfl) ⟨rfl,rfl⟩))
    ·exact toldI (tW_ 7 28 7 false rfl hd_ (gv_val (v:=nI_ (tl+pre.length)) (w':=w1) kr_ ⟨rfl,rfl⟩))
    ·exact toldI (tW_ 7 28 7 false rfl hd_ (gB_ (b:=((x.1.pos:Nat):Int) !=((tl+pre.length:Nat):Int)) (b':=true) kr_ (by simp;omega) ⟨rfl,rfl⟩))
    ·exact toldI (tG_ rfl hd_ (gV (.bool true) ⟨rfl,rfl⟩))
    ·exact toldI (tG_ rfl hd_ (gV (.bool true) ⟨rfl,rfl⟩))
    ·exact toldI (tO_ 13 34 13 false true rfl hd_ ⟨rfl,rfl⟩)
    ·exact toldI (tO_ 13 34 13 false true rfl hd_ ⟨rfl,rfl⟩)
    ·exact toldI (tO_ 13 34 13 false true rfl hd_ ⟨rfl,rfl⟩)
    ·exact toldI (tO_ 13 34 13 false true rfl hd_ ⟨rfl,rfl⟩)
    ·exact toldI (tG_ rfl hd_ (gV (.bool true) ⟨rfl,rfl⟩))
    ·exact toldI (tG_ rfl hd_ (gV (.bool true) ⟨rfl,rfl⟩))
    ·exact toldI (tO_ 19 40 19 false true rfl hd_ ⟨rfl,rfl⟩)
    ·exact toldI (tO_ 19 40 19 false true rfl hd_ ⟨rfl,rfl⟩)
    ·exact toldI (tO_ 19 40 19 false true rfl hd_ ⟨rfl,rfl⟩)
    ·exact toldI (tO_ 19 40 19 false true rfl hd_ ⟨rfl,rfl⟩)
    ·exact toldI (tG_ rfl hd_ (gV (.bool true) ⟨rfl,rfl⟩))
    ·exact absurd hi_ om_
   ·intro k_ c2_ vals_ w1 hk_ hPh_ hd_
    exact absurd hk_ (Nat.not_lt_zero _)
   ·intro c2_ w1 hPh_
    have S101:=St.id hPh_
    exact (wI_ (then_n (wpIn_cond_true kr_ (wpIn_ret (inb_r (then_r (then_r (inb_r (bodyPost_ret (v:=.tuple #[]) (results_none rfl _ _ _) rfl ⟨⟨_,rfl⟩,.inl ⟨pre,⟨hR,hfit⟩,hJ pre wb _ none hJ0 (Fr.grown S101.fr) (fun r h=>by cases h)⟩⟩)))))))))
  have hce:x.1.epoch=e:=by omega
  have hcp:x.1.pos=tl+pre.length:=by omega
  have hcd:x.1.data.length=0:=Nat.eq_zero_of_not_pos (fun h=>hfit ⟨by rw [←hxp];exact hce,by rw [←hxp];exact hcp,by rw [←hxp];exact List.ne_nil_of_length_pos h⟩)
  refine wp_region_phuI hW kr_ (γ:=Unit) 25 [] (fun (c2_:Unit) (i_:Nat)=>(match i_ with|0=>pq c_|1=>nI_ x.1.epoch|2=>pq gl|3=>pq gl|4=>po gl 4|5=>nI_ e|6=>.bool false|7=>.bool false|8=>po c_ 1|9=>nI_ x.1.pos|10=>nI_ (tl+pre.length)|11=>.bool false|12=>.bool false|13=>.bool false|14=>po c_ 4|15=>.slice A8 x.1.data.length c8|16=>iv (x.1.data.length:Nat)|17=>.bool true|18=>.bool true|19=>.bool true|20=>undef|21=>undef|22=>undef|23=>undef|24=>.bool true|_=>undef:Value)) (fun (c2_:Unit) (p_:Nat) (w_:World)=>(match p_ with|_=>St none' wb w_ [row c_ (pC_ x.1 A8 c8) 165]:Prop)) () kr_ kr_ kr_ kr_ (S21.drew) ?_ ?_ ?_
  ·intro i_ c2_ p_ vals_ w1 hi_ hiE_ hp_ hk_ hu_ hPh_ hd_
   rcases i_ with _|_|_|_|_|_|_|_|_|_|_|_|_|_|_|_|_|_|_|_|_|_|_|_|_|i_
   ·exact toldI (tG_ rfl hd_ (gV (pq c_) ⟨rfl,rfl⟩))
   ·have S103:=St.id hPh_
    exact toldI (tG_ rfl hd_ (gL (nI_ x.1.epoch) rfl (((S103.blk 0 rfl).cell 0).trans rfl) ⟨rfl,rfl⟩))
   ·have S104:=St.id hPh_
    exact toldI (tG_ rfl hd_ (gL (pq gl) rfl (St.cellF S104 hC.c1) ⟨rfl,rfl⟩))
   ·exact toldI (tG_ rfl hd_ (gV (pq gl) ⟨rfl,rfl⟩))
   ·exact toldI (tG_ rfl hd_ (gV (po gl 4) ⟨rfl,rfl⟩))
   ·have S107:=St.id hPh_
    exact toldI (tG_ rfl hd_ (gL (nI_ e) rfl (St.cellF S107 hC.c4) ⟨rfl,rfl⟩))
   ·exact toldI (tG_ rfl hd_ (gB_ (b:=((x.1.epoch:Nat):Int) !=((e:Nat):Int)) (b':=false) kr_ (by simp;omega) ⟨rfl,rfl⟩))
   ·exact toldI (tG_ rfl hd_ (gV (.bool false) ⟨rfl,rfl⟩))
   ·exact toldI (tW_ 7 28 7 false rfl hd_ (gv_val (v:=po c_ 1) (w':=w1) kr_ ⟨rfl,rfl⟩))
   ·have S111:=St.id hPh_
    exact toldI (tW_ 7 28 7 false rfl hd_ (gv_ldR (v:=nI_ x.1.pos) rfl kr_ kr_ (((S111.blk 0 rfl).cell 1).trans rfl) ⟨rfl,rfl⟩))
   ·exact toldI (tW_ 7 28 7 false rfl hd_ (gv_val (v:=nI_ (tl+pre.length)) (w':=w1) kr_ ⟨rfl,rfl⟩))
   ·exact toldI (tW_ 7 28 7 false rfl hd_ (gB_ (b:=((x.1.pos:Nat):Int) !=((tl+pre.length:Nat):Int)) (b':=false) kr_ (by simp;omega) ⟨rfl,rfl⟩))
   ·exact toldI (tG_ rfl hd_ (gV (.bool false) ⟨rfl,rfl⟩))
   ·exact toldI (tG_ rfl hd_ (gV (.bool false) ⟨rfl,rfl⟩))
   ·exact toldI (tW_ 13 34 13 false rfl hd_ (gv_val (v:=po c_ 4) (w':=w1) kr_ ⟨rfl,rfl⟩))
   ·have S117:=St.id hPh_
    exact toldI (tW_ 13 34 13 false rfl hd_ (gv_ldR (v:=.slice A8 x.1.data.length c8) rfl kr_ kr_ (((S117.blk 0 rfl).cell 4).trans rfl) ⟨rfl,rfl⟩))
   ·exact toldI (tW_ 13 34 13 false rfl hd_ (gv_val (v:=iv (x.1.data.length:Nat)) (w':=w1) kr_ ⟨rfl,rfl⟩))
   ·exact toldI (tW_ 13 34 13 false rfl hd_ (gB_ (b:=((x.1.data.length:Nat):Int)==0) (b':=true) kr_ (by simp;first|omega|exact List.length_eq_zero_iff.1 hcd) ⟨rfl,rfl⟩))
   ·exact toldI (tG_ rfl hd_ (gV (.bool true) ⟨rfl,rfl⟩))
   ·exact toldI (tG_ rfl hd_ (gV (.bool true) ⟨rfl,rfl⟩))
   ·exact toldI (tO_ 19 40 19 false true rfl hd_ ⟨rfl,rfl⟩)
   ·exact toldI (tO_ 19 40 19 false true rfl hd_ ⟨rfl,rfl⟩)
   ·exact toldI (tO_ 19 40 19 false true rfl hd_ ⟨rfl,rfl⟩)
   ·exact toldI (tO_ 19 40 19 false true rfl hd_ ⟨rfl,rfl⟩)
   ·exact toldI (tG_ rfl hd_ (gV (.bool true) ⟨rfl,rfl⟩))
   ·exact absurd hi_ om_
  ·intro k_ c2_ vals_ w1 hk_ hPh_ hd_
   exact absurd hk_ (Nat.not_lt_zero _)
  ·intro c2_ w1 hPh_
   have S127:=St.id hPh_
   refine (wI_ ?_)
   exact then_n (wpIn_cond_true kr_ (wpIn_ret (inb_r (then_r (then_r (inb_r (bodyPost_ret (v:=.tuple #[]) (results_none rfl _ _ _) rfl ⟨⟨_,rfl⟩,.inl ⟨pre,⟨hR,hfit⟩,hJ pre wb _ none hJ0 (Fr.grown S127.fr) (fun r h=>by cases h)⟩⟩)))))))
end Go.Proofs
end
section
open Go Go.RowKit Go.Proofs.YtgeioealgidkiaaW.PrintWords Go.Proofs.YtgeioealgidkiaaW.PrintMore
namespace Go.Proofs
open Go.Vel
set_option linter.unusedVariables false
section
def Cel (A:Ast):Prop:=∀h,A h→∀k o,h k=some o→∃cs t f,o=.cells cs t f∧t≠165
abbrev CelL (L:List Ast):Prop:=∀A∈L,Cel A
theorem Cel.row {g:Nat}{cs:Array Value}{t:TypeId}(ht:(t==165)=false):Cel (row g cs t):=fun h hA k o hk=>by
 rw [hA k] at hk
 split at hk
 ·cases hk;exact ⟨cs,t,_,rfl,by simpa using ht⟩
 ·cases hk
theorem Cel.vec {e:TypeId}{sz n:Nat}{v:Value}{vals:List Value}(ht:(e==165)=false):Cel (vec e sz v n vals):=fun h hA k o hk=>by
 rcases hA with ⟨_,_,_,h0⟩|⟨g,c,junk,_,_,_,_,hr⟩
 ·rw [h0 k] at hk;cases hk
 ·exact Cel.row ht h hr k o hk
theorem Cel.stars {L:List Ast}(hL:CelL L):Cel (stars L):=fun h hA k o hk=>by
 obtain ⟨hs,h1,_,h3⟩:=hA
 obtain ⟨i,hi,hk'⟩:=(h3 k o).1 hk
 exact hL _ (List.getElem_mem hi) (hs i) (h1 i _ (List.getElem?_eq_getElem hi)) k o hk'
section
variable {F D:Nat→Prop}{w0 w W W':World}{L L' A R:List Ast}
theorem St.rebase (S:St F w W L)(hc:CelL L):∃D:Nat→Prop,St D W W L∧∀k,D k→(F k∨w.heap.size≤k)∧∃cs t f,W.heap[k]?=some (.cells cs t f)∧t≠165:=by
 obtain ⟨hs,h1,h2,h3⟩:=S.own
 refine ⟨fun k=>∃i,i<L.length∧hs i k≠none,⟨Fr.refl _ _,hs,h1,h2,fun i hi k o hk=>⟨(h3 i hi k o hk).1,.inl ⟨i,hi,by rw [hk];simp⟩⟩⟩,fun k hk=> ?_⟩
 obtain ⟨i,hi,hk⟩:=hk
 cases e:hs i k with
 |none=>exact absurd e hk
 |some o=>
  obtain ⟨cs,t,f,rfl,ht⟩:=hc _ (List.getElem_mem hi) (hs i) (h1 i _ (List.getElem?_eq_getElem hi)) k o e
  exact ⟨(h3 i hi k _ e).2,cs,t,f,(h3 i hi k _ e).1,ht⟩
theorem St.unbase (S:St F w W L)(S2:St D W W' L')(hD:∀k,D k→F k∨w.heap.size≤k):St F w W' L':=
 ⟨S.fr.step S2.fr hD,S2.own.mono fun k hk _=>hk.elim (hD k) fun h=>.inr (Nat.le_trans S.fr.size h)⟩
theorem St.ownFrom {B:Nat}{r:Option Nat}(S:St F w W L)(hc:CelL L)(hB:w.heap.size≤B)(hg:W.grownBy W' r)(hr:∀k,r=some k→B≤k∧∃o:Obj,W.heap[k]?=some o∧o.isCells=false):St F w W' L:=by
 refine ⟨⟨hg.os.trans S.fr.os,hg.tape.trans S.fr.tape,hg.output.trans S.fr.output,Nat.le_trans S.fr.size hg.size,fun k hk hf=> ?_⟩, ?_⟩
 ·refine (hg.block k (Nat.lt_of_lt_of_le hk S.fr.size) fun e=> ?_).trans (S.fr.block k hk hf)
  have:=(hr k e.symm).1
  omega
 ·obtain ⟨D,S1,hD⟩:=St.rebase S hc
  have h1:Vel.Own D W L:=S1.own.mono fun k hk hl=>hk.elim id fun h=>absurd hl (Nat.not_lt.2 h)
  refine (h1.frame fun k hk hl=>hg.block k hl fun e=> ?_).mono fun k hk _=>(hD k hk).1
  obtain ⟨_,o,ho,hc⟩:=hr k e.symm
  obtain ⟨_,cs,t,f,h2,_⟩:=hD k hk
  rw [ho] at h2
  cases h2
  cases hc
theorem St.addRow {Bx:Nat}{cs:Array Value}(S:St D W W L)(hD:∀k,D k→∃cs t f,W.heap[k]?=some (.cells cs t f)∧t≠165)(hb:W.heap[Bx]?=some (.cells cs 165 (0,0))):St (fun k=>k=Bx∨D k) W W (row Bx cs 165::L):=by
 have hl:=lt_of_some hb
 have h1:Vel.Own D W L:=S.own.mono fun k hk hl=>hk.elim id fun h=>absurd hl (Nat.not_lt.2 h)
 refine ⟨Fr.refl _ _,((Vel.Own.pt hb).append h1 fun k hk hd _=> ?_).mono fun k hk _=>.inl hk⟩
 subst hk
 obtain ⟨_,_,_,h2,ht⟩:=hD _ hd
 rw [hb] at h2
 cases h2
 exact ht rfl
theorem St.keepsFrom {B:Nat}(S:St D W W' L)(hD:∀k,D k→∃cs t f,W.heap[k]?=some (.cells cs t f)):KeepsFrom B W W':=⟨S.fr.size,fun k o _ hk ho=>by
 refine (S.fr.block k (lt_of_some hk) fun hd=> ?_).trans hk
 obtain ⟨_,_,_,h2⟩:=hD k hd
 rw [hk] at h2
 cases h2
 cases ho⟩
theorem St.splitA (S:St F w0 w (A++R)):∃D1 D2,St D1 w w A∧Vel.Own D2 w R∧(∀k,D1 k→D2 k→False)∧(∀k,D1 k→F k∨w0.heap.size≤k)∧(∀k,D2 k→F k∨w0.heap.size≤k):=by
 obtain ⟨D1,D2,h1,h2,h3,h4,h5⟩:=S.own.split
 exact ⟨D1,D2,⟨Fr.refl _ _,h1.mono fun k hk _=>.inl hk⟩,h2,h3,h4,h5⟩
theorem St.setAside {D1 D2:Nat→Prop}(S1:St D1 w W L')(h2:Vel.Own D2 w R)(h3:∀k,D1 k→D2 k→False):Vel.Own (fun k=>D2 k∧k<w.heap.size) W R:=
 (h2.mono (D1:=fun k=>D2 k∧k<w.heap.size) fun k hk hl=>⟨hk,hl⟩).frame fun k hk hl=>S1.fr.block k hk.2 fun h=>h3 k h hk.1
theorem St.mergeA {D1 D2:Nat→Prop}(S:St F w0 w (A++R))(S1:St D1 w W L')(h2:Vel.Own D2 w R)(h3:∀k,D1 k→D2 k→False)(h4:∀k,D1 k→F k∨w0.heap.size≤k)(h5:∀k,D2 k→F k∨w0.heap.size≤k):St F w0 W (L'++R):=by
 refine ⟨S.fr.step S1.fr h4,(S1.own.append (St.setAside S1 h2 h3) fun k hk hd _=> ?_).mono fun k hk _=> ?_⟩
 ·rcases hk with hk|hk
  ·exact h3 k hk hd.1
  ·have:=hd.2;omega
 ·rcases hk with (hk|hk)|hk
  ·exact h4 k hk
  ·exact .inr (Nat.le_trans S.fr.size hk)
  ·exact h5 k hk.1
theorem own_toSt {D:Nat→Prop}(h:Vel.Own D w L):St D w w L:=⟨Fr.refl _ _,h.mono fun k hk _=>.inl hk⟩
theorem Fr.cellK {a:Addr}(h:Fr D W W')(hd:¬D a.block)(hl:a.block<W.heap.size):W'.cell? a=W.cell? a:=by
 unfold World.cell?
 rw [h.block _ hl hd]
end
abbrev RecV:=Value×List UInt8
def recD (x:RecV):Ast:=vec 5 1 x.1 x.2.length (x.2.map bv)
def scanL (gl gd b0 b5 b6 b7 b8:Nat)(l:Lg)(σ:ScSt)(RV:List RecV)(v5 v6:Value):List Ast:=
 [row gl (lgc gd {l with head:=σ.head}) 161,row b0 #[pq gl] 93,row b5 #[v5] 42,row b6 #[v6] 31,row b7 #[iv (σ.idx:Nat)] 3,row b8 #[iv (σ.cnt:Nat)] 3,vec 31 1 v5 RV.length (RV.map (·.1)),stars (RV.map recD),vec 5 1 v6 σ.rcd.length (σ.rcd.map bv)]
theorem scanL_cel (gl gd b0 b5 b6 b7 b8:Nat)(l:Lg)(σ:ScSt)(RV:List RecV)(v5 v6:Value):CelL (scanL gl gd b0 b5 b6 b7 b8 l σ RV v5 v6):=by
 intro A hA
 simp only [scanL,List.mem_cons,List.not_mem_nil,or_false] at hA
 rcases hA with rfl|rfl|rfl|rfl|rfl|rfl|rfl|rfl|rfl
 ·exact Cel.row rfl
 ·exact Cel.row rfl
 ·exact Cel.row rfl
 ·exact Cel.row rfl
 ·exact Cel.row rfl
 ·exact Cel.row rfl
 ·exact Cel.vec rfl
 ·refine Cel.stars fun A hA=> ?_
  obtain ⟨x,_,rfl⟩:=List.mem_map.1 hA
  exact Cel.vec rfl
 ·exact Cel.vec rfl
end
end Go.Proofs
end
section
open Go Go.RowKit Go.Proofs.YtgeioealgidkiaaW.PrintWords Go.Proofs.YtgeioealgidkiaaW.PrintMore
namespace Go.Proofs
open Go.Vel
set_option linter.unusedVariables false
set_option linter.unusedSimpArgs false
theorem pcRow_get {M:List PcV}{j:Nat}{x:PcV}(h:M[j]?=some x){k:Nat}{v:Value}(hv:(pcells x)[k]?=some v):(pcRow M)[j*5+k]?=some v:=by
 have h1:=pcs_at h
 have hk:k<5:=by have:=(List.getElem?_eq_some_iff.1 hv).1;exact this
 unfold pcRow
 rw [List.getElem?_toArray,←hv,←h1,List.getElem?_take,if_pos hk,List.getElem?_drop]
structure ScB (tl m:Nat)(σ:ScSt):Prop where
 idx:σ.idx≤m
 head:σ.head≤tl+17*m
 recs:σ.recs.length≤m
 rcd:σ.rcd.length≤492*m
theorem ScB.step {tl m:Nat}{σ σ':ScSt}{x:Pc}(h:ScB tl m σ)(hx:x.data.length≤492)(hs:scStep σ x=some σ'):ScB tl (m+1) σ':=by
 obtain ⟨h1,h2,h3,h4⟩:=h
 unfold scStep at hs
 split at hs
 ·cases hs
 ·split at hs
  ·cases hs
  ·rename_i h5
   split at hs
   ·cases hs
    exact ⟨Nat.zero_le _,by show σ.head+scCnt σ x≤_;omega,by simp;omega,by simp⟩
   ·cases hs
    exact ⟨by show σ.idx+1≤_;omega,by show σ.head≤_;omega,by show σ.recs.length≤_;omega,by simp only [List.length_append];omega⟩
theorem KpR.put {b1 b2 gl gr B l:Nat}{W:World}{o':Obj}(hl:B≤l)(h1:b1<B)(h2:b2<B)(h3:gl<B)(h4:gr<B):KpR b1 b2 gl gr W (W.putObj l o'):=fun a ha=>by
 have hb:a.block<B:=by
  rcases ha with h|h|h|h|h|h
  ·omega
  ·omega
  ·omega
  ·rw [h];exact h3
  ·rw [h];exact h3
  ·rw [h];exact h3
 unfold World.cell?
 rw [World.putObj_heap_other om_]
theorem KpR.trans {b1 b2 gl gr:Nat}{A B C:World}(h:KpR b1 b2 gl gr A B)(k:KpR b1 b2 gl gr B C):KpR b1 b2 gl gr A C:=fun a ha=>(k a ha).trans (h a ha)
theorem own_data {D:Nat→Prop}{W:World}{M:List PcV}{L:List Ast}{x:PcV}(i:Nat)(hO:Vel.Own D W L)(hi:L[i]?=some (stars (M.map pcD)))(hx:x∈M):∃A c,x.2=.slice A x.1.data.length c∧x.1.data.length≤c∧RdB W A x.1.data:=by
 have S1:=((own_toSt hO).mem i hi).star_mem (List.mem_map.2 ⟨x,hx,rfl⟩)
 obtain ⟨A,c,e,hc⟩:=St.bytesX_v S1
 exact ⟨A,c,e,hc,(RoT.bytesX (L:=[pcD x]) 0 rfl e).now S1⟩
theorem enters {P:Program}{f:FuncId}{fn:Func}{c:Code}(hf:P.funcs[f]?=some fn)(hb:fn.body=some c)(hn:(fn.name=="runtime.NumGoroutine")=false):∀args w,(callFunc f args).run P w=.ok (.enter f args) w:=fun args w=>by
 have h1:fn.name≠"runtime.NumGoroutine":=by simpa using hn
 simp [callFunc,hf,h1,hb]
theorem eNM {P:Program}{n:Nat}{w:World}{f:FuncId}{fn:Func}{c:Code}{args:Array Value}{R:Ending→World→Prop}(b:Act)(hf:P.funcs[f]?=some fn)(hb:fn.body=some c)(h:c.wpIn Fence.wide n P (bodyPostM Fence.wide n P fn R) b w)(he:({tmps:=args++Array.replicate (fn.ntmps-args.size) undef,defers:=[]}:Act)=b:=by kernel_rfl):CallsIn Fence.wide n P f args w R:=callsIn_of_wp_marks hf hb trivial (he▸h) rfl
abbrev frD (D:Nat)(l:List Value)(n:Nat):Act:=⟨(l++List.replicate n undef).toArray,[{target:=.collected D,args:=#[]}]⟩
theorem leave_mark {P:Program}{n D:Nat}{fn:Func}{tmps:Array Value}{R:Ending→World→Prop}{w:World}{v:Value}(hD:w.heap[D]?=some (.deferred (some [])))(hr:∀w',(results fn tmps).run P w'=.ok v w')(h:R (.returned v) (w.putObj D (.deferred none))):LeavesInM Fence.wide n P fn tmps R [{target:=.collected D,args:=#[]}] .returning w:=by
 refine ⟨by simp,.inl ⟨_,_,rfl,run_takeDeferred hD, ?_⟩⟩
 exact ⟨_,hr _,h⟩
theorem stepR_scope {P:Program}{b:Frame}{a:Act}{k:List Item}{cs:List Frame}{w:World}{c:Code}:step P (lone (b.atR a (.code (.scope c)::k)) cs w)=.next (lone (b.atR a (.code c::.inScope c::k)) cs w):=
 step_lone_go (by simp [stepG,stepG.exec,Frame.atR])
theorem stepR_inScope {P:Program}{b:Frame}{a:Act}{k:List Item}{cs:List Frame}{w:World}{c:Code}:step P (lone (b.atR a (.inScope c::k)) cs w)=.next (lone (b.atR a k) cs w):=
 step_lone_go (by simp [stepG,stepG.exec,Frame.atR])
theorem wpIn_scope {F:Fence}{n:Nat}{P:Program}{Q:Exit→Act→World→Prop}{a:Act}{w:World}{c:Code}(h:c.wpIn F n P (Exit.noGoto Q) a w):(Code.scope c).wpIn F n P Q a w:=by
 intro b k cs hro hb hr
 have h0:(lone (b.atR a (.code (.scope c)::k)) cs w).fenced P F:=fenced_calm hb hr rfl
 obtain ⟨e,a₁,w₁,hq,harr⟩:=h b (.inScope c::k) cs hro hb hr
 cases e with
 |normal=>exact ⟨.normal,a₁,w₁,hq,.head h0 stepR_scope (StepsIn.trans harr (.one (fenced_calm hb hr rfl) stepR_inScope))⟩
 |exit id=>exact ⟨.exit id,a₁,w₁,hq,fun k' hk=>.head h0 stepR_scope (harr.1 k' (by simp [exitTo,hk])),fun hr' hk=>let ⟨k₁,h1,h2⟩:=harr.2 hr' (by simp [exitTo,hk]);⟨k₁,h1,.head h0 stepR_scope h2⟩⟩
 |goto l=>exact hq.elim
 |ret=>exact ⟨_,a₁,w₁,hq,.of_steps (.one h0 stepR_scope) harr⟩
 |panic ch=>exact ⟨_,a₁,w₁,hq,.of_steps (.one h0 stepR_scope) harr⟩
 |outgrown=>exact ⟨_,a₁,w₁,hq,.of_steps (.one h0 stepR_scope) harr⟩
theorem noG_r {Q:Exit→Act→World→Prop}{a:Act}{w:World}(h:Q .ret a w):Exit.noGoto Q .ret a w:=h
theorem wpIn_frame {F:Fence}{n:Nat}{P:Program}{c:Code}{Q:Exit→Act→World→Prop}{a:Act}{w:World}(b:Act)(h:a=b)(h2:c.wpIn F n P Q b w):c.wpIn F n P Q a w:=h▸h2
end Go.Proofs
end
section
open Go Go.RowKit Go.Proofs.YtgeioealgidkiaaW.PrintWords Go.Proofs.YtgeioealgidkiaaW.PrintMore
namespace Go.Proofs
open Go.Vel
set_option linter.unusedVariables false
set_option maxRecDepth 100000
set_option maxHeartbeats 4000000
attribute [local irreducible] gives wpList wpListIn Code.wp Code.wpIn
theorem w_scan_in {F:Nat→Prop}{w0 w:World}{L:List Ast}{gl gd gr:Nat}{l:Lg}{M:List PcV}{pc:Nat→Pc}(S:St F w0 w (PLog gl gd l::row gr (pcRow M) 165::stars (M.map pcD)::L))(hl:LOk l)(hM:M.length=l.n)(hpc:∀j x,M[j]?=some x→x.1=pc j∧∃A c,x.2=.slice A x.1.data.length c)(hper:∀p,pc (p+l.n)=pc p)(hlt:∀p,(pc p).epoch<4294967296∧(pc p).pos<4294967296∧(pc p).idx<4294967296∧(pc p).cnt<4294967296)(hd492:∀p,(pc p).data.length≤492):CallsIn Fence.wide 3 Try.prog 112 #[.pointer (some ⟨gl,0,none⟩),.slice (some ⟨gr,0,none⟩) l.n l.n] w fun e w'=>∃(v:Value) (RV:List RecV) (h:Nat),e=.returned v∧Recs pc l.epoch l.tail (RV.map (·.2)) h∧NoRec pc l.epoch h∧St F w0 w' (vec 31 1 v RV.length (RV.map (·.1))::stars (RV.map recD)::PLog gl gd {l with head:=h}::row gr (pcRow M) 165::stars (M.map pcD)::L):=by
 have hW:=wide_wide
 obtain ⟨h1,h2,h3,h4,h5,h6⟩:=id hl
 change St F w0 w (row gl (wC_ gd l l.head) 161::row gr (pcRow M) 165::stars (M.map pcD)::L) at S
 refine eNM (fr [pq gl,sl gr 0 l.n l.n] 78) Try.func112 rfl ?_
 refine wpIn_seq ?_
 refine wpIn_region_lit ?_
 refine gI_ hW (gv_box (v:=pq gl) S rfl kr_ (fun g1 w2 hg3 S4=> ?_))
 refine gI_ hW (gV (nS_) ?_)
 refine wI_ ?_
 refine then_n ?_
 refine wpIn_scope ?_
 refine wpIn_seq ?_
 refine wpIn_region_lit ?_
 refine gI_ hW (gv_new (z:=nS_) S4 rfl kr_ (fun g5 w6 hg7 S8=> ?_))
 refine wI_ ?_
 refine then_n ?_
 refine wpIn_seq ?_
 refine wpIn_region_lit ?_
 refine gI_ hW (gv_new (z:=nS_) S8 rfl kr_ (fun g9 w10 hg11 S12=> ?_))
 refine wI_ ?_
 refine then_n ?_
 refine wpIn_seq ?_
 refine wp_region_phuI hW kr_ (γ:=Unit) 8 [7] (fun (c_:Unit) (i_:Nat)=>(match i_ with|0=>pq gl|1=>pq gl|2=>pq gl|3=>po gl 6|4=>nI_ l.tail|5=>pq gl|6=>po gl 7|7=>undef|_=>undef:Value)) (fun (c_:Unit) (p_:Nat) (w_:World)=>(match p_ with|0=>St F w0 w_ (row g9 #[nS_] 31::row g5 #[nS_] 42::row g1 #[pq gl] 93::row gl (wC_ gd l l.head) 161::row gr (pcRow M) 165::stars (M.map pcD)::L)|_=>St F w0 w_ (row g9 #[nS_] 31::row g5 #[nS_] 42::row g1 #[pq gl] 93::row gl (wC_ gd l l.tail) 161::row gr (pcRow M) 165::stars (M.map pcD)::L):Prop)) () kr_ kr_ kr_ kr_ (S12.drew) ?_ ?_ ?_
 ·intro i_ c_ p_ vals_ w1 hi_ hiE_ hp_ hk_ hu_ hPh_ hd_
  rcases i_ with _|_|_|_|_|_|_|_|i_
  ·skip
   rcases p_ with _|_|p_
   ·skip
    have S13:St F w0 w1 (row g9 #[nS_] 31::row g5 #[nS_] 42::row g1 #[pq gl] 93::row gl (wC_ gd l l.head) 161::row gr (pcRow M) 165::stars (M.map pcD)::L):=hPh_
    refine toldI (tG_ rfl hd_ (gv_ldR (v:=pq gl) rfl kr_ kr_ (((S13.blk 2 rfl).cell 0).trans rfl) ?_))
    exact ⟨rfl,rfl⟩
   ·skip
    exact absurd (hu_ 0 dc_ kr_) dc_
   ·exact absurd hp_ (by simp)
  ·skip
   rcases p_ with _|_|p_
   ·skip
    have S14:St F w0 w1 (row g9 #[nS_] 31::row g5 #[nS_] 42::row g1 #[pq gl] 93::row gl (wC_ gd l l.head) 161::row gr (pcRow M) 165::stars (M.map pcD)::L):=hPh_
    refine toldI (tG_ rfl hd_ (gv_ldR (v:=pq gl) rfl kr_ kr_ (((S14.blk 2 rfl).cell 0).trans rfl) ?_))
    exact ⟨rfl,rfl⟩
   ·skip
    exact absurd (hu_ 0 dc_ kr_) dc_
   ·exact absurd hp_ (by simp)
  ·skip
   refine toldI (tG_ rfl hd_ (gv_val (v:=pq gl) (w':=w1) kr_ ?_))
   exact ⟨rfl,rfl⟩
  ·skip
   refine toldI (tG_ rfl hd_ (gv_val (v:=po gl 6) (w':=w1) kr_ ?_))
   exact ⟨rfl,rfl⟩
  ·skip
   rcases p_ with _|_|p_
   ·skip
    have S17:St F w0 w1 (row g9 #[nS_] 31::row g5 #[nS_] 42::row g1 #[pq gl] 93::row gl (wC_ gd l l.head) 161::row gr (pcRow M) 165::stars (M.map pcD)::L):=hPh_
    refine toldI (tG_ rfl hd_ (gv_ldR (v:=nI_ l.tail) rfl kr_ kr_ (((S17.blk 3 rfl).cell 6).trans rfl) ?_))
    exact ⟨rfl,rfl⟩
   ·skip
    exact absurd (hu_ 0 dc_ kr_) dc_
   ·exact absurd hp_ (by simp)
  ·skip
   refine toldI (tG_ rfl hd_ (gv_val (v:=pq gl) (w':=w1) kr_ ?_))
   exact ⟨rfl,rfl⟩
  ·skip
   refine toldI (tG_ rfl hd_ (gv_val (v:=po gl 7) (w':=w1) kr_ ?_))
   exact ⟨rfl,rfl⟩
  ·skip
   exact absurd hiE_ dc_
  ·exact absurd hi_ om_
 ·intro k_ c_ vals_ w1 hk_ hPh_ hd_
  rcases k_ with _|k_
  ·skip
   have S20:St F w0 w1 (row g9 #[nS_] 31::row g5 #[nS_] 42::row g1 #[pq gl] 93::row gl (wC_ gd l l.head) 161::row gr (pcRow M) 165::stars (M.map pcD)::L):=hPh_
   refine toldI (tG_ rfl hd_ (gv_st (k:=7) (v:=nI_ l.tail) S20 3 rfl rfl kr_ kr_ kr_ rfl rfl (L':=(row g9 #[nS_] 31::row g5 #[nS_] 42::row g1 #[pq gl] 93::row gl (wC_ gd l l.tail) 161::row gr (pcRow M) 165::stars (M.map pcD)::L)) rfl (fun w21 S22=> ?_)))
   refine ⟨(),rfl, ?_,S22⟩
   intro i_ hi_ hne_ hdp_
   rcases i_ with _|_|_|_|_|_|_|_|i_
   ·rfl
   ·rfl
   ·rfl
   ·rfl
   ·rfl
   ·rfl
   ·rfl
   ·exact absurd rfl hne_
   ·exact absurd hi_ om_
  ·exact absurd hk_ (by simp)
 ·intro c_ w1 hPh_
  have S23:St F w0 w1 (row g9 #[nS_] 31::row g5 #[nS_] 42::row g1 #[pq gl] 93::row gl (wC_ gd l l.tail) 161::row gr (pcRow M) 165::stars (M.map pcD)::L):=hPh_
  refine wI_ ?_
  refine then_n ?_
  refine wpIn_seq ?_
  refine wpIn_region_lit ?_
  refine gI_ hW (gv_new (z:=iv 0) S23 rfl kr_ (fun g24 w25 hg26 S27=> ?_))
  refine gI_ hW (gv_st (k:=0) (v:=iv 0) S27 0 rfl rfl kr_ kr_ kr_ rfl rfl (L':=(row g24 #[iv 0] 3::row g9 #[nS_] 31::row g5 #[nS_] 42::row g1 #[pq gl] 93::row gl (wC_ gd l l.tail) 161::row gr (pcRow M) 165::stars (M.map pcD)::L)) rfl (fun w28 S29=> ?_))
  refine wI_ ?_
  refine then_n ?_
  refine wpIn_seq ?_
  refine wpIn_region_lit ?_
  refine gI_ hW (gv_new (z:=iv 0) S29 rfl kr_ (fun g30 w31 hg32 S33=> ?_))
  refine gI_ hW (gv_st (k:=0) (v:=iv 0) S33 0 rfl rfl kr_ kr_ kr_ rfl rfl (L':=(row g30 #[iv 0] 3::row g24 #[iv 0] 3::row g9 #[nS_] 31::row g5 #[nS_] 42::row g1 #[pq gl] 93::row gl (wC_ gd l l.tail) 161::row gr (pcRow M) 165::stars (M.map pcD)::L)) rfl (fun w34 S35=> ?_))
  refine wI_ ?_
  refine then_n ?_
  refine wpIn_seq ?_
  refine wpIn_label ?_
  refine then_n ?_
  refine wpIn_seq ?_
  refine wpIn_seq ?_
  refine wpIn_region_lit ?_
  refine gI_ hW (gv_ldR (v:=pq gl) rfl kr_ kr_ (((S35.blk 4 rfl).cell 0).trans rfl) ?_)
  refine gI_ hW (gV (sl gr 0 l.n l.n) ?_)
  refine gI_ hW (gv_call (args:=#[pq gl,.slice (some ⟨gr,0,none⟩) l.n l.n]) rfl Try.func140 kr_ rfl rfl kr_ ?_)
  refine Calls.mono (w_row (gl:=gl) (gr:=gr) (n:=l.n) S35) ?_
  rintro _ w36 ⟨b1,b2,rfl,S37⟩
  refine ⟨_,rfl, ?_⟩
  refine wI_ ?_
  refine then_n ?_
  refine wpIn_block ?_
  have S38:St F w0 w36 (vec 5 1 (nS_) 0 []::row b2 #[.slice (some ⟨gr,0,none⟩) l.n l.n] 169::row b1 #[pq gl] 93::row g30 #[iv 0] 3::row g24 #[iv 0] 3::row g9 #[nS_] 31::row g5 #[nS_] 42::row g1 #[pq gl] 93::row gl (wC_ gd l l.tail) 161::row gr (pcRow M) 165::stars (M.map pcD)::L):=St.vec_nil S37
  have S39:St F w0 w36 (stars ((([]:List RecV)).map recD)::vec 5 1 (nS_) 0 []::row b2 #[.slice (some ⟨gr,0,none⟩) l.n l.n] 169::row b1 #[pq gl] 93::row g30 #[iv 0] 3::row g24 #[iv 0] 3::row g9 #[nS_] 31::row g5 #[nS_] 42::row g1 #[pq gl] 93::row gl (wC_ gd l l.tail) 161::row gr (pcRow M) 165::stars (M.map pcD)::L):=St.star_nil S38
  have S40:St F w0 w36 (vec 31 1 (nS_) 0 []::stars ((([]:List RecV)).map recD)::vec 5 1 (nS_) 0 []::row b2 #[.slice (some ⟨gr,0,none⟩) l.n l.n] 169::row b1 #[pq gl] 93::row g30 #[iv 0] 3::row g24 #[iv 0] 3::row g9 #[nS_] 31::row g5 #[nS_] 42::row g1 #[pq gl] 93::row gl (wC_ gd l l.tail) 161::row gr (pcRow M) 165::stars (M.map pcD)::L):=St.vec_nil S39
  have S41:St F w0 w36 (row gl (wC_ gd l l.tail) 161::row g1 #[pq gl] 93::row g5 #[nS_] 42::row g9 #[nS_] 31::row g24 #[iv 0] 3::row g30 #[iv 0] 3::vec 31 1 (nS_) 0 []::stars ((([]:List RecV)).map recD)::vec 5 1 (nS_) 0 []::row b2 #[.slice (some ⟨gr,0,none⟩) l.n l.n] 169::row b1 #[pq gl] 93::row gr (pcRow M) 165::stars (M.map pcD)::L):=St.pm 13 [10,9,8,7,6,5,0,1,2,3,4,11,12] S40
  obtain ⟨wl,hwl⟩:∃x,x=w36:=⟨_,rfl⟩
  rw [←hwl]
  rw [←hwl] at S41
  have hS:St F w0 wl (scanL gl gd g1 g5 g9 g24 g30 l (⟨[],[],0,0,l.tail⟩:ScSt) [] (nS_) (nS_)++(row b2 #[sl gr 0 l.n l.n] 169::row b1 #[pq gl] 93::row gr (pcRow M) 165::stars (M.map pcD)::L)):=S41
  obtain ⟨D1,D2,T0,hO,hdis,hF1,hF2⟩:=St.splitA hS
  have hC:RowC wl b1 b2 gl gr l.n l.epoch l.tail M:=⟨((S41.blk 10 rfl).cell 0).trans rfl,((S41.blk 9 rfl).cell 0).trans rfl,((S41.blk 0 rfl).cell 2).trans rfl,((S41.blk 0 rfl).cell 4).trans rfl,((S41.blk 0 rfl).cell 6).trans rfl,fun j x hx k v hv=>((S41.blk 11 rfl).cell _).trans (pcRow_get hx hv)⟩
  have hb1:=lt_of_some (S41.get 10 rfl)
  have hb2:=lt_of_some (S41.get 9 rfl)
  have hgl:=lt_of_some (S41.get 0 rfl)
  have hgr:=lt_of_some (S41.get 11 rfl)
  have hnD:∀k o (i:Nat),(row b2 #[sl gr 0 l.n l.n] 169::row b1 #[pq gl] 93::row gr (pcRow M) 165::stars (M.map pcD)::L)[i]?=some (pt k o)→¬D1 k:=fun k o i hi hk=>hdis k hk ((hO.get i hi).2)
  have hn1:=hnD b1 _ 1 rfl
  have hn2:=hnD b2 _ 0 rfl
  have hnr:=hnD gr _ 2 rfl
  have hdat:∀(x:PcV),x∈M→∀W' L',St D1 wl W' L'→∃A c,x.2=.slice A x.1.data.length c∧x.1.data.length≤c∧RdB W' A x.1.data:=fun x hx W' L' S1=>own_data 3 (St.setAside S1 hO hdis) rfl hx
  refine wpIn_rangeFunc_ownH (n:=3) (F:=Fence.wide) rfl dc_ (gf:=150) (lb:=#[pq b1,pq b2]) kr_ trivial (enters Try.func150 rfl kr_) (row_stops (pc:=pc) hC h2 h3 hM hpc hper h6) (fun h k=>h.trans k) (fun W_ l_ o o' h _ _ _=>KpR.put h hb1 hb2 hgl hgr) (Below.refl _ _) (fun _=>rfl)
   (fun (pre_:List (RA M)) (W_:World)=>∃(σ:ScSt) (RV:List RecV) (v5 v6:Value),scRun (⟨[],[],0,0,l.tail⟩:ScSt) (pcsOf pre_)=some σ∧RV.map (·.2)=σ.recs∧ScB l.tail pre_.length σ∧St D1 wl W_ (scanL gl gd g1 g5 g9 g24 g30 l σ RV v5 v6))
   (fun (c_:Code) (pre_:List (RA M)) (W_:World)=>∃(p0:List (RA M)) (x:RA M) (σ:ScSt) (RV:List RecV) (v5 v6:Value) (cn:Nat),c_=.exit 0∧pre_=p0++[x]∧scRun (⟨[],[],0,0,l.tail⟩:ScSt) (pcsOf p0)=some σ∧scStep σ x.1.1=none∧RV.map (·.2)=σ.recs∧St D1 wl W_ (scanL gl gd g1 g5 g9 g24 g30 l ({σ with cnt:=cn}) RV v5 v6))
   (fun s_ W1 W2 r ⟨σ,RV,v5,v6,e1,e2,e3,T⟩ hg hr=>⟨σ,RV,v5,v6,e1,e2,e3,St.ownFrom T (scanL_cel _ _ _ _ _ _ _ _ _ _ _ _) (Nat.le_refl _) hg hr⟩)
   (fun c_ s_ W1 W2 r ⟨p0,x,σ,RV,v5,v6,cn,e0,e1,e2,e3,e4,T⟩ hg hr=>⟨p0,x,σ,RV,v5,v6,cn,e0,e1,e2,e3,e4,St.ownFrom T (scanL_cel _ _ _ _ _ _ _ _ _ _ _ _) (Nat.le_refl _) hg hr⟩)
   ⟨(⟨[],[],0,0,l.tail⟩:ScSt),[],nS_,nS_,rfl,rfl,⟨Nat.zero_le _,by show l.tail≤_;omega,Nat.zero_le _,Nat.zero_le _⟩,T0⟩
   (fun (x_:RA M) (a_:Act) (W_:World)=>∃Bx,wl.heap.size≤Bx∧W_.heap[Bx]?=some (.cells (pcells x_.1).toArray 165 (0,0))∧a_=(fr [pq gl,sl gr 0 l.n l.n,pq g1,ud,nS_,pq g5,pq g9,pq g24,pq g30,pq Bx,ud,pq gl,pq gl,pq gl,po gl 6,nI_ l.tail,pq gl,po gl 7,pq gl,sl gr 0 l.n l.n,.func (.func 150) #[] #[pq b1,pq b2],(.agg (pcells x_.1).toArray)] 58))
   (fun x_ a_ _ W1 W2 r ⟨Bx,e1,e2,e3⟩ hg hr=>⟨Bx,e1,(hg.block Bx (lt_of_some e2) (fun e=>by obtain ⟨_,o,ho,hc⟩:=hr Bx e.symm;rw [e2] at ho;cases ho;cases hc)).trans e2,e3⟩)
   ?_ ?_ ?_ ?_
  ·skip
   rintro lr pre x W9 K ⟨σ,RV,v5,v6,e1,e2,e3,T⟩ hK
   have hW:=wide_in lr
   have T1:St none' W9 W9 []:=St.init none' W9
   obtain ⟨⟨px,vx⟩,hxm,hxd⟩:=x
   obtain ⟨j9,hj9⟩:=List.getElem?_of_mem hxm
   obtain ⟨_,A8,c8,hv8⟩:=hpc j9 _ hj9
   have hv8:vx=.slice A8 px.data.length c8:=hv8
   subst hv8
   refine wpIn_frame (b:=(fr [pq gl,sl gr 0 l.n l.n,pq g1,ud,nS_,pq g5,pq g9,pq g24,pq g30,ud,ud,pq gl,pq gl,pq gl,po gl 6,nI_ l.tail,pq gl,po gl 7,pq gl,sl gr 0 l.n l.n,.func (.func 150) #[] #[pq b1,pq b2],.agg (pC_ px A8 c8)] 58)) kr_ ?_
   refine wpIn_region_lit ?_
   refine gI_ hW (gv_new (z:=.agg #[iv 0,iv 0,iv 0,iv 0,nS_]) T1 rfl kr_ (fun g42 w43 hg44 S45=> ?_))
   refine gI_ hW (gv_stA (k:=0) (vs:=[nI_ px.epoch,nI_ px.pos,nI_ px.idx,nI_ px.cnt,.slice A8 px.data.length c8]) S45 0 rfl rfl kr_ kr_ kr_ rfl (by simp [Value.oneCell']) (Nat.le_of_ble_eq_true kr_) (L':=[row g42 (pC_ px A8 c8) 165]) rfl (fun w46 S47=> ?_))
   refine wI_ ?_
   refine then_n ?_
   exact hK _ _ (St.keepsFrom S47 (fun k h=>h.elim)) (fun a ha=>Fr.cellK S47.fr (fun h=>h) (by have:=T.fr.size;rcases ha with h|h|h|h|h|h<;>first|omega|(rw [h];show gl<_;omega))) ⟨σ,RV,v5,v6,e1,e2,e3,St.ownFrom T (scanL_cel _ _ _ _ _ _ _ _ _ _ _ _) (Nat.le_refl _) (Fr.grown S47.fr) (fun k h=>by cases h)⟩ ⟨g42,Nat.le_trans T.fr.size hg44,S47.get 0 rfl,by kernel_rfl⟩
  ·skip
   rintro lr pre x a9 W9 hlr hrec ⟨σ,RV,v5,v6,e1,e2,e3,T⟩ ⟨Bx,hB0,hB1,rfl⟩ hlen
   have hW:=wide_in lr
   obtain ⟨⟨px,vx⟩,hxm,hxd⟩:=x
   obtain ⟨j9,hj9⟩:=List.getElem?_of_mem hxm
   obtain ⟨hpx,A8,c8,hv8⟩:=hpc j9 _ hj9
   have hv8:vx=.slice A8 px.data.length c8:=hv8
   subst hv8
   obtain ⟨D,T1,hD⟩:=St.rebase T (scanL_cel _ _ _ _ _ _ _ _ _ _ _ _)
   have T2:=St.addRow T1 (fun k hk=>(hD k hk).2) hB1
   have hD2:∀k,(k=Bx∨D k)→D1 k∨wl.heap.size≤k:=fun k hk=>hk.elim (fun h=>.inr (h▸hB0)) (fun h=>(hD k h).1)
   have hDc:∀k,(k=Bx∨D k)→∃cs t f,W9.heap[k]?=some (.cells cs t f):=fun k hk=>hk.elim (fun h=>⟨_,_,_,h▸hB1⟩) (fun h=>by obtain ⟨_,cs,t,f,h2,_⟩:=hD k h;exact ⟨cs,t,f,h2⟩)
   have hnB:∀k,k<wl.heap.size→¬D1 k→¬(k=Bx∨D k):=fun k hk hn h=>h.elim (fun h=>by omega) (fun h=>(hD k h).1.elim hn (fun h=>by omega))
   have hsz:=T.fr.size
   obtain ⟨q1,q2,q3,q4⟩:=(show px=pc j9 from hpx)▸hlt j9
   have q5:px.data.length≤492:=(show px=pc j9 from hpx)▸hd492 j9
   obtain ⟨bi,bh,br,bc⟩:=id e3
   have hpl:pre.length≤256:=by omega
   have hrvl:RV.length≤256:=by have h9:=congrArg List.length e2;rw [List.length_map] at h9;omega
   have hrd:∀W' L',St (fun k=>k=Bx∨D k) W9 W' L'→RdB W' A8 px.data:=fun W' L' S1=>by obtain ⟨A,c,e,_,hr⟩:=hdat _ hxm W' L' (St.unbase T S1 hD2);simp at e;rw [e.1];exact hr
   have hpos:0<px.data.length:=List.length_pos_iff.2 hxd
   obtain ⟨ad,rfl⟩:=(hrd _ _ T2).at (k:=0) hpos
   have T3:St (fun k=>k=Bx∨D k) W9 W9 [row Bx (pC_ px (some ad) c8) 165,row gl (wC_ gd l σ.head) 161,row g1 #[pq gl] 93,row g5 #[v5] 42,row g9 #[v6] 31,row g24 #[nI_ σ.idx] 3,row g30 #[nI_ σ.cnt] 3,vec 31 1 v5 RV.length (RV.map (·.1)),stars (RV.map recD),vec 5 1 v6 σ.rcd.length (σ.rcd.map bv)]:=T2
   refine wpIn_frame (b:=(fr [pq gl,sl gr 0 l.n l.n,pq g1,ud,nS_,pq g5,pq g9,pq g24,pq g30,pq Bx,ud,pq gl,pq gl,pq gl,po gl 6,nI_ l.tail,pq gl,po gl 7,pq gl,sl gr 0 l.n l.n,.func (.func 150) #[] #[pq b1,pq b2],.agg (pC_ px (some ad) c8)] 58)) kr_ ?_
   refine wpIn_block ?_
   refine wpIn_seq ?_
   refine wpIn_block ?_
   refine wpIn_seq ?_
   refine wpIn_region_lit ?_
   refine gI_ hW (gv_ldR (v:=nI_ σ.idx) rfl kr_ kr_ (((T3.blk 5 rfl).cell 0).trans rfl) ?_)
   refine gI_ hW (gv_eq (x:=((σ.idx:Nat):Int)) (y:=0) kr_ (fun hb48=> ?_) (fun hb48=> ?_))
   ·skip
    have hcn:scCnt σ px=px.cnt:=by unfold scCnt;rw [if_pos om_]
    refine gI_ hW (gV tv ?_)
    refine wI_ ?_
    refine then_n ?_
    refine wpIn_cond_true kr_ ?_
    refine wpIn_region_lit ?_
    refine gI_ hW (gV (po Bx 3) ?_)
    refine gI_ hW (gv_ldR (v:=nI_ px.cnt) rfl kr_ kr_ (((T3.blk 0 rfl).cell 3).trans rfl) ?_)
    refine gI_ hW (gv_st (k:=0) (v:=nI_ px.cnt) T3 6 rfl rfl kr_ kr_ kr_ rfl rfl (L':=[row Bx (pC_ px (some ad) c8) 165,row gl (wC_ gd l σ.head) 161,row g1 #[pq gl] 93,row g5 #[v5] 42,row g9 #[v6] 31,row g24 #[nI_ σ.idx] 3,row g30 #[nI_ px.cnt] 3,vec 31 1 v5 RV.length (RV.map (·.1)),stars (RV.map recD),vec 5 1 v6 σ.rcd.length (σ.rcd.map bv)]) rfl (fun w49 S50=> ?_))
    refine wI_ ?_
    refine inb_n ?_
    refine then_n ?_
    refine wpIn_seq ?_
    refine wpIn_region_lit ?_
    refine gI_ hW (gV (po Bx 4) ?_)
    refine gI_ hW (gv_ldR (v:=.slice (some ad) px.data.length c8) rfl kr_ kr_ (((S50.blk 0 rfl).cell 4).trans rfl) ?_)
    refine gI_ hW (gV (iv (px.data.length:Nat)) ?_)
    refine gI_ hW (gV (.bool ((px.data.length:Int)==492)) ?_)
    refine gI_ hW (gV (.bool ((px.data.length:Int)==492)) ?_)
    refine wI_ ?_
    refine then_n ?_
    refine wpIn_seq ?_
    refine wpIn_seq ?_
    refine wpIn_region_lit ?_
    refine gI_ hW (gV (po Bx 2) ?_)
    refine gI_ hW (gv_ldR (v:=nI_ px.idx) rfl kr_ kr_ (((S50.blk 0 rfl).cell 2).trans rfl) ?_)
    refine gI_ hW (gv_ldR (v:=nI_ σ.idx) rfl kr_ kr_ (((S50.blk 5 rfl).cell 0).trans rfl) ?_)
    refine gI_ hW (gv_ne (x:=((px.idx:Nat):Int)) (y:=((σ.idx:Nat):Int)) kr_ (fun hb51=> ?_) (fun hb51=> ?_))
    ·skip
     refine gI_ hW (gV tv ?_)
     refine gIn hW ?_
     refine gIn hW ?_
     refine gI_ hW (gV tv ?_)
     refine gI_ hW (gV tv ?_)
     refine gIn hW ?_
     refine gIn hW ?_
     refine gI_ hW (gV tv ?_)
     refine gI_ hW (gV tv ?_)
     refine gIn hW ?_
     refine gIn hW ?_
     refine gIn hW ?_
     refine gIn hW ?_
     refine gIn hW ?_
     refine gIn hW ?_
     refine gIn hW ?_
     refine gIn hW ?_
     refine gI_ hW (gV tv ?_)
     refine wI_ ?_
     refine then_n ?_
     refine wpIn_cond_true kr_ ?_
     refine wpIn_exit ?_
     refine then_x ?_
     refine inb_y dc_ ?_
     have S52:=St.pm 10 [0,1,2,3,4,5,6,7,8,9] S50
     have hglc:w49.cell? ⟨gl,2,none⟩=some (iv (l.n:Nat))∧w49.cell? ⟨gl,4,none⟩=some (iv (l.epoch:Nat))∧w49.cell? ⟨gl,6,none⟩=some (iv (l.tail:Nat)):=⟨((S52.blk 1 rfl).cell 2).trans rfl,((S52.blk 1 rfl).cell 4).trans rfl,((S52.blk 1 rfl).cell 6).trans rfl⟩
     have hgl9:W9.cell? ⟨gl,2,none⟩=some (iv (l.n:Nat))∧W9.cell? ⟨gl,4,none⟩=some (iv (l.epoch:Nat))∧W9.cell? ⟨gl,6,none⟩=some (iv (l.tail:Nat)):=⟨((T3.blk 1 rfl).cell 2).trans rfl,((T3.blk 1 rfl).cell 4).trans rfl,((T3.blk 1 rfl).cell 6).trans rfl⟩
     have hkp:KpR b1 b2 gl gr W9 w49:=fun a ha=>by
      rcases ha with h|h|h|h|h|h
      ·exact Fr.cellK S52.fr (by rw [h];exact hnB b1 hb1 hn1) om_
      ·exact Fr.cellK S52.fr (by rw [h];exact hnB b2 hb2 hn2) om_
      ·exact Fr.cellK S52.fr (by rw [h];exact hnB gr hgr hnr) om_
      ·subst h;exact hglc.1.trans hgl9.1.symm
      ·subst h;exact hglc.2.1.trans hgl9.2.1.symm
      ·subst h;exact hglc.2.2.trans hgl9.2.2.symm
     have hst:scStep σ px=none:=by unfold scStep;rw [hcn];rw [if_neg om_,if_pos om_]
     exact ⟨St.keepsFrom S52 hDc,pre,_,σ,RV,v5,v6,px.cnt,rfl,rfl,e1,hst,e2,St.unbase T (St.tail S52) hD2⟩
    ·skip
     refine gI_ hW (gV fv ?_)
     refine gIw hW (gv_ldR (v:=nI_ px.cnt) rfl kr_ kr_ (((S50.blk 6 rfl).cell 0).trans rfl) ?_)
     refine gIw hW (gv_dec (p:=(((px.cnt:Nat):Int):Int)<1) kr_ (fun hb53=> ?_) (fun hb53=> ?_))
     ·skip
      refine gI_ hW (gV tv ?_)
      refine gI_ hW (gV tv ?_)
      refine gIn hW ?_
      refine gIn hW ?_
      refine gI_ hW (gV tv ?_)
      refine gI_ hW (gV tv ?_)
      refine gIn hW ?_
      refine gIn hW ?_
      refine gIn hW ?_
      refine gIn hW ?_
      refine gIn hW ?_
      refine gIn hW ?_
      refine gIn hW ?_
      refine gIn hW ?_
      refine gI_ hW (gV tv ?_)
      refine wI_ ?_
      refine then_n ?_
      refine wpIn_cond_true kr_ ?_
      refine wpIn_exit ?_
      refine then_x ?_
      refine inb_y dc_ ?_
      have S54:=St.pm 10 [0,1,2,3,4,5,6,7,8,9] S50
      have hglc:w49.cell? ⟨gl,2,none⟩=some (iv (l.n:Nat))∧w49.cell? ⟨gl,4,none⟩=some (iv (l.epoch:Nat))∧w49.cell? ⟨gl,6,none⟩=some (iv (l.tail:Nat)):=⟨((S54.blk 1 rfl).cell 2).trans rfl,((S54.blk 1 rfl).cell 4).trans rfl,((S54.blk 1 rfl).cell 6).trans rfl⟩
      have hgl9:W9.cell? ⟨gl,2,none⟩=some (iv (l.n:Nat))∧W9.cell? ⟨gl,4,none⟩=some (iv (l.epoch:Nat))∧W9.cell? ⟨gl,6,none⟩=some (iv (l.tail:Nat)):=⟨((T3.blk 1 rfl).cell 2).trans rfl,((T3.blk 1 rfl).cell 4).trans rfl,((T3.blk 1 rfl).cell 6).trans rfl⟩
      have hkp:KpR b1 b2 gl gr W9 w49:=fun a ha=>by
       rcases ha with h|h|h|h|h|h
       ·exact Fr.cellK S54.fr (by rw [h];exact hnB b1 hb1 hn1) om_
       ·exact Fr.cellK S54.fr (by rw [h];exact hnB b2 hb2 hn2) om_
       ·exact Fr.cellK S54.fr (by rw [h];exact hnB gr hgr hnr) om_
       ·subst h;exact hglc.1.trans hgl9.1.symm
       ·subst h;exact hglc.2.1.trans hgl9.2.1.symm
       ·subst h;exact hglc.2.2.trans hgl9.2.2.symm
      have hst:scStep σ px=none:=by unfold scStep;rw [hcn];rw [if_neg om_,if_pos om_]
      exact ⟨St.keepsFrom S54 hDc,pre,_,σ,RV,v5,v6,px.cnt,rfl,rfl,e1,hst,e2,St.unbase T (St.tail S54) hD2⟩
     ·skip
      refine gI_ hW (gV fv ?_)
      refine gI_ hW (gV fv ?_)
      refine gIw hW (gv_ldR (v:=nI_ px.cnt) rfl kr_ kr_ (((S50.blk 6 rfl).cell 0).trans rfl) ?_)
      refine gIw hW (gv_dec (p:=(((px.cnt:Nat):Int):Int)>17) kr_ (fun hb55=> ?_) (fun hb55=> ?_))
      ·skip
       refine gI_ hW (gV tv ?_)
       refine gI_ hW (gV tv ?_)
       refine gIn hW ?_
       refine gIn hW ?_
       refine gIn hW ?_
       refine gIn hW ?_
       refine gIn hW ?_
       refine gIn hW ?_
       refine gIn hW ?_
       refine gIn hW ?_
       refine gI_ hW (gV tv ?_)
       refine wI_ ?_
       refine then_n ?_
       refine wpIn_cond_true kr_ ?_
       refine wpIn_exit ?_
       refine then_x ?_
       refine inb_y dc_ ?_
       have S56:=St.pm 10 [0,1,2,3,4,5,6,7,8,9] S50
       have hglc:w49.cell? ⟨gl,2,none⟩=some (iv (l.n:Nat))∧w49.cell? ⟨gl,4,none⟩=some (iv (l.epoch:Nat))∧w49.cell? ⟨gl,6,none⟩=some (iv (l.tail:Nat)):=⟨((S56.blk 1 rfl).cell 2).trans rfl,((S56.blk 1 rfl).cell 4).trans rfl,((S56.blk 1 rfl).cell 6).trans rfl⟩
       have hgl9:W9.cell? ⟨gl,2,none⟩=some (iv (l.n:Nat))∧W9.cell? ⟨gl,4,none⟩=some (iv (l.epoch:Nat))∧W9.cell? ⟨gl,6,none⟩=some (iv (l.tail:Nat)):=⟨((T3.blk 1 rfl).cell 2).trans rfl,((T3.blk 1 rfl).cell 4).trans rfl,((T3.blk 1 rfl).cell 6).trans rfl⟩
       have hkp:KpR b1 b2 gl gr W9 w49:=fun a ha=>by
        rcases ha with h|h|h|h|h|h
        ·exact Fr.cellK S56.fr (by rw [h];exact hnB b1 hb1 hn1) om_
        ·exact Fr.cellK S56.fr (by rw [h];exact hnB b2 hb2 hn2) om_
        ·exact Fr.cellK S56.fr (by rw [h];exact hnB gr hgr hnr) om_
        ·subst h;exact hglc.1.trans hgl9.1.symm
        ·subst h;exact hglc.2.1.trans hgl9.2.1.symm
        ·subst h;exact hglc.2.2.trans hgl9.2.2.symm
       have hst:scStep σ px=none:=by unfold scStep;rw [hcn];rw [if_neg om_,if_pos om_]
       exact ⟨St.keepsFrom S56 hDc,pre,_,σ,RV,v5,v6,px.cnt,rfl,rfl,e1,hst,e2,St.unbase T (St.tail S56) hD2⟩
      ·skip
       refine gI_ hW (gV fv ?_)
       refine gI_ hW (gV fv ?_)
       refine gIw hW (gv_ldR (v:=nI_ σ.idx) rfl kr_ kr_ (((S50.blk 5 rfl).cell 0).trans rfl) ?_)
       refine gIw hW (gv_ldR (v:=nI_ px.cnt) rfl kr_ kr_ (((S50.blk 6 rfl).cell 0).trans rfl) ?_)
       refine gIw hW (gv_int (k:=.i64) (z:=IntKind.i64.wrap (((px.cnt:Nat):Int)-1)) (z':=(((px.cnt:Nat):Int):Int)-1) kr_ (wr_eq rfl om_ om_) ?_)
       refine gIw hW (gv_dec (p:=(((σ.idx:Nat):Int):Int)<((((px.cnt:Nat):Int):Int)-1)) kr_ (fun hb57=> ?_) (fun hb57=> ?_))
       ·skip
        refine gIw hW (gv_val (v:=.bool true) (w':=w49) kr_ ?_)
        refine gIw hW (gv_val (v:=.bool ((px.data.length:Int)==492)) (w':=w49) kr_ ?_)
        refine gIw hW (gv_val (v:=.bool (!((px.data.length:Int)==492))) (w':=w49) kr_ ?_)
        refine gIw hW (gv_val (v:=.bool (!((px.data.length:Int)==492))) (w':=w49) kr_ ?_)
        refine gI_ hW (gV (.bool (!((px.data.length:Int)==492))) ?_)
        refine wI_ ?_
        refine then_n ?_
        refine wpIn_cond_split (t:= !((px.data.length:Int)==492)) kr_ (fun hc58=> ?_) (fun hc58=> ?_)
        ·skip
         have hnf9:px.data.length≠492:=by intro h9;rw [h9] at hc58;exact absurd hc58 dc_
         refine wpIn_exit ?_
         refine then_x ?_
         refine inb_y dc_ ?_
         have S59:=St.pm 10 [0,1,2,3,4,5,6,7,8,9] S50
         have hglc:w49.cell? ⟨gl,2,none⟩=some (iv (l.n:Nat))∧w49.cell? ⟨gl,4,none⟩=some (iv (l.epoch:Nat))∧w49.cell? ⟨gl,6,none⟩=some (iv (l.tail:Nat)):=⟨((S59.blk 1 rfl).cell 2).trans rfl,((S59.blk 1 rfl).cell 4).trans rfl,((S59.blk 1 rfl).cell 6).trans rfl⟩
         have hgl9:W9.cell? ⟨gl,2,none⟩=some (iv (l.n:Nat))∧W9.cell? ⟨gl,4,none⟩=some (iv (l.epoch:Nat))∧W9.cell? ⟨gl,6,none⟩=some (iv (l.tail:Nat)):=⟨((T3.blk 1 rfl).cell 2).trans rfl,((T3.blk 1 rfl).cell 4).trans rfl,((T3.blk 1 rfl).cell 6).trans rfl⟩
         have hkp:KpR b1 b2 gl gr W9 w49:=fun a ha=>by
          rcases ha with h|h|h|h|h|h
          ·exact Fr.cellK S59.fr (by rw [h];exact hnB b1 hb1 hn1) om_
          ·exact Fr.cellK S59.fr (by rw [h];exact hnB b2 hb2 hn2) om_
          ·exact Fr.cellK S59.fr (by rw [h];exact hnB gr hgr hnr) om_
          ·subst h;exact hglc.1.trans hgl9.1.symm
          ·subst h;exact hglc.2.1.trans hgl9.2.1.symm
          ·subst h;exact hglc.2.2.trans hgl9.2.2.symm
         have hst:scStep σ px=none:=by unfold scStep;rw [hcn];rw [if_neg om_,if_pos om_]
         exact ⟨St.keepsFrom S59 hDc,pre,_,σ,RV,v5,v6,px.cnt,rfl,rfl,e1,hst,e2,St.unbase T (St.tail S59) hD2⟩
        ·skip
         have hf9:px.data.length=492:=by simp at hc58;omega
         refine wpIn_skip ?_
         refine then_n ?_
         refine wpIn_seq ?_
         refine wpIn_region_lit ?_
         refine gI_ hW (gv_ldR (v:=v6) rfl kr_ kr_ (((S50.blk 4 rfl).cell 0).trans rfl) ?_)
         refine gI_ hW (gV (po Bx 4) ?_)
         refine gI_ hW (gv_ldR (v:=.slice (some ad) px.data.length c8) rfl kr_ kr_ (((S50.blk 0 rfl).cell 4).trans rfl) ?_)
         have S60:St (fun k=>k=Bx∨D k) W9 w49 [vec 5 1 v6 σ.rcd.length (σ.rcd.map bv),row Bx (pC_ px (some ad) c8) 165,row gl (wC_ gd l σ.head) 161,row g1 #[pq gl] 93,row g5 #[v5] 42,row g9 #[v6] 31,row g24 #[nI_ σ.idx] 3,row g30 #[nI_ px.cnt] 3,vec 31 1 v5 RV.length (RV.map (·.1)),stars (RV.map recD)]:=St.pm 10 [9,0,1,2,3,4,5,6,7,8] S50
         refine gI_ hW (gv_append (e:=5) (sz:=1) (n:=σ.rcd.length) (v:=v6) (vals:=σ.rcd.map bv) (z:=.int .u8 0) (by_:=1) (m:=px.data.length) (c':=c8) (ad:=ad) (news:=px.data.map bv) S60 rfl kr_ ⟨by kernel_rfl⟩ rfl kr_ kr_ hpos (by rw [List.length_map,Nat.mul_one]) (RdB.cells (hrd _ _ S60)) (bv_one px.data) om_ om_ (fun v61 w62 S63=> ?_))
         obtain ⟨A64,c65,rfl⟩:=St.vecV S63 0 rfl
         rw [←List.map_append,←List.length_append] at S63
         rw [←List.length_append]
         refine gI_ hW (gv_st (k:=0) (v:=.slice A64 ((σ.rcd++px.data).length) c65) S63 5 rfl rfl kr_ kr_ kr_ rfl rfl (L':=[vec 5 1 (.slice A64 (σ.rcd++px.data).length c65) (σ.rcd++px.data).length ((σ.rcd++px.data).map bv),row Bx (pC_ px (some ad) c8) 165,row gl (wC_ gd l σ.head) 161,row g1 #[pq gl] 93,row g5 #[v5] 42,row g9 #[.slice A64 ((σ.rcd++px.data).length) c65] 31,row g24 #[nI_ σ.idx] 3,row g30 #[nI_ px.cnt] 3,vec 31 1 v5 RV.length (RV.map (·.1)),stars (RV.map recD)]) rfl (fun w66 S67=> ?_))
         refine wI_ ?_
         refine then_n ?_
         refine wpIn_seq ?_
         refine wpIn_region_lit ?_
         refine gI_ hW (gv_ldR (v:=nI_ σ.idx) rfl kr_ kr_ (((S67.blk 6 rfl).cell 0).trans rfl) ?_)
         refine gI_ hW (gv_int (k:=.i64) (z:=IntKind.i64.wrap (((σ.idx:Nat):Int)+1)) (z':=((σ.idx+1:Nat):Int)) kr_ wq_ ?_)
         refine gI_ hW (gv_st (k:=0) (v:=nI_ (σ.idx+1)) S67 6 rfl rfl kr_ kr_ kr_ rfl rfl (L':=[vec 5 1 (.slice A64 (σ.rcd++px.data).length c65) (σ.rcd++px.data).length ((σ.rcd++px.data).map bv),row Bx (pC_ px (some ad) c8) 165,row gl (wC_ gd l σ.head) 161,row g1 #[pq gl] 93,row g5 #[v5] 42,row g9 #[.slice A64 ((σ.rcd++px.data).length) c65] 31,row g24 #[nI_ (σ.idx+1)] 3,row g30 #[nI_ px.cnt] 3,vec 31 1 v5 RV.length (RV.map (·.1)),stars (RV.map recD)]) rfl (fun w68 S69=> ?_))
         refine wI_ ?_
         refine then_n ?_
         refine wpIn_seq ?_
         refine wpIn_region_lit ?_
         refine gI_ hW (gv_ldR (v:=nI_ (σ.idx+1)) rfl kr_ kr_ (((S69.blk 6 rfl).cell 0).trans rfl) ?_)
         refine gI_ hW (gv_ldR (v:=nI_ px.cnt) rfl kr_ kr_ (((S69.blk 7 rfl).cell 0).trans rfl) ?_)
         refine gI_ hW (gv_eq (x:=((σ.idx+1:Nat):Int)) (y:=((px.cnt:Nat):Int)) kr_ (fun hb70=> ?_) (fun hb70=> ?_))
         ·skip
          exact absurd hb70 om_
         ·skip
          refine wI_ ?_
          refine then_n ?_
          refine wpIn_cond_false kr_ ?_
          refine wpIn_skip ?_
          refine inb_n ?_
          have S71:=St.pm 10 [1,2,3,4,5,6,7,8,9,0] S69
          have hglc:w68.cell? ⟨gl,2,none⟩=some (iv (l.n:Nat))∧w68.cell? ⟨gl,4,none⟩=some (iv (l.epoch:Nat))∧w68.cell? ⟨gl,6,none⟩=some (iv (l.tail:Nat)):=⟨((S71.blk 1 rfl).cell 2).trans rfl,((S71.blk 1 rfl).cell 4).trans rfl,((S71.blk 1 rfl).cell 6).trans rfl⟩
          have hgl9:W9.cell? ⟨gl,2,none⟩=some (iv (l.n:Nat))∧W9.cell? ⟨gl,4,none⟩=some (iv (l.epoch:Nat))∧W9.cell? ⟨gl,6,none⟩=some (iv (l.tail:Nat)):=⟨((T3.blk 1 rfl).cell 2).trans rfl,((T3.blk 1 rfl).cell 4).trans rfl,((T3.blk 1 rfl).cell 6).trans rfl⟩
          have hkp:KpR b1 b2 gl gr W9 w68:=fun a ha=>by
           rcases ha with h|h|h|h|h|h
           ·exact Fr.cellK S71.fr (by rw [h];exact hnB b1 hb1 hn1) om_
           ·exact Fr.cellK S71.fr (by rw [h];exact hnB b2 hb2 hn2) om_
           ·exact Fr.cellK S71.fr (by rw [h];exact hnB gr hgr hnr) om_
           ·subst h;exact hglc.1.trans hgl9.1.symm
           ·subst h;exact hglc.2.1.trans hgl9.2.1.symm
           ·subst h;exact hglc.2.2.trans hgl9.2.2.symm
          have hst:scStep σ px=some ⟨σ.recs,σ.rcd++px.data,σ.idx+1,px.cnt,σ.head⟩:=by unfold scStep;rw [hcn];rw [if_neg om_,if_neg om_,if_neg om_]
          refine ⟨St.keepsFrom S71 hDc,hkp,⟨σ.recs,σ.rcd++px.data,σ.idx+1,px.cnt,σ.head⟩,RV,v5,.slice A64 (σ.rcd++px.data).length c65, ?_, ?_, ?_,St.unbase T (St.tail S71) hD2⟩
          ·rw [pcsOf,List.map_append];show scRun _ (pcsOf pre++[px])=_;rw [scRun_snoc,e1];exact hst
          ·exact e2
          ·rw [List.length_append];exact e3.step q5 hst
       ·skip
        refine gIw hW (gv_val (v:=.bool false) (w':=w49) kr_ ?_)
        refine gIn hW ?_
        refine gIn hW ?_
        refine gIw hW (gv_val (v:=.bool false) (w':=w49) kr_ ?_)
        refine gI_ hW (gV fv ?_)
        refine wI_ ?_
        refine then_n ?_
        refine wpIn_cond_false kr_ ?_
        refine wpIn_skip ?_
        refine then_n ?_
        refine wpIn_seq ?_
        refine wpIn_region_lit ?_
        refine gI_ hW (gv_ldR (v:=v6) rfl kr_ kr_ (((S50.blk 4 rfl).cell 0).trans rfl) ?_)
        refine gI_ hW (gV (po Bx 4) ?_)
        refine gI_ hW (gv_ldR (v:=.slice (some ad) px.data.length c8) rfl kr_ kr_ (((S50.blk 0 rfl).cell 4).trans rfl) ?_)
        have S72:St (fun k=>k=Bx∨D k) W9 w49 [vec 5 1 v6 σ.rcd.length (σ.rcd.map bv),row Bx (pC_ px (some ad) c8) 165,row gl (wC_ gd l σ.head) 161,row g1 #[pq gl] 93,row g5 #[v5] 42,row g9 #[v6] 31,row g24 #[nI_ σ.idx] 3,row g30 #[nI_ px.cnt] 3,vec 31 1 v5 RV.length (RV.map (·.1)),stars (RV.map recD)]:=St.pm 10 [9,0,1,2,3,4,5,6,7,8] S50
        refine gI_ hW (gv_append (e:=5) (sz:=1) (n:=σ.rcd.length) (v:=v6) (vals:=σ.rcd.map bv) (z:=.int .u8 0) (by_:=1) (m:=px.data.length) (c':=c8) (ad:=ad) (news:=px.data.map bv) S72 rfl kr_ ⟨by kernel_rfl⟩ rfl kr_ kr_ hpos (by rw [List.length_map,Nat.mul_one]) (RdB.cells (hrd _ _ S72)) (bv_one px.data) om_ om_ (fun v73 w74 S75=> ?_))
        obtain ⟨A76,c77,rfl⟩:=St.vecV S75 0 rfl
        rw [←List.map_append,←List.length_append] at S75
        rw [←List.length_append]
        refine gI_ hW (gv_st (k:=0) (v:=.slice A76 ((σ.rcd++px.data).length) c77) S75 5 rfl rfl kr_ kr_ kr_ rfl rfl (L':=[vec 5 1 (.slice A76 (σ.rcd++px.data).length c77) (σ.rcd++px.data).length ((σ.rcd++px.data).map bv),row Bx (pC_ px (some ad) c8) 165,row gl (wC_ gd l σ.head) 161,row g1 #[pq gl] 93,row g5 #[v5] 42,row g9 #[.slice A76 ((σ.rcd++px.data).length) c77] 31,row g24 #[nI_ σ.idx] 3,row g30 #[nI_ px.cnt] 3,vec 31 1 v5 RV.length (RV.map (·.1)),stars (RV.map recD)]) rfl (fun w78 S79=> ?_))
        refine wI_ ?_
        refine then_n ?_
        refine wpIn_seq ?_
        refine wpIn_region_lit ?_
        refine gI_ hW (gv_ldR (v:=nI_ σ.idx) rfl kr_ kr_ (((S79.blk 6 rfl).cell 0).trans rfl) ?_)
        refine gI_ hW (gv_int (k:=.i64) (z:=IntKind.i64.wrap (((σ.idx:Nat):Int)+1)) (z':=((σ.idx+1:Nat):Int)) kr_ wq_ ?_)
        refine gI_ hW (gv_st (k:=0) (v:=nI_ (σ.idx+1)) S79 6 rfl rfl kr_ kr_ kr_ rfl rfl (L':=[vec 5 1 (.slice A76 (σ.rcd++px.data).length c77) (σ.rcd++px.data).length ((σ.rcd++px.data).map bv),row Bx (pC_ px (some ad) c8) 165,row gl (wC_ gd l σ.head) 161,row g1 #[pq gl] 93,row g5 #[v5] 42,row g9 #[.slice A76 ((σ.rcd++px.data).length) c77] 31,row g24 #[nI_ (σ.idx+1)] 3,row g30 #[nI_ px.cnt] 3,vec 31 1 v5 RV.length (RV.map (·.1)),stars (RV.map recD)]) rfl (fun w80 S81=> ?_))
        refine wI_ ?_
        refine then_n ?_
        refine wpIn_seq ?_
        refine wpIn_region_lit ?_
        refine gI_ hW (gv_ldR (v:=nI_ (σ.idx+1)) rfl kr_ kr_ (((S81.blk 6 rfl).cell 0).trans rfl) ?_)
        refine gI_ hW (gv_ldR (v:=nI_ px.cnt) rfl kr_ kr_ (((S81.blk 7 rfl).cell 0).trans rfl) ?_)
        refine gI_ hW (gv_eq (x:=((σ.idx+1:Nat):Int)) (y:=((px.cnt:Nat):Int)) kr_ (fun hb82=> ?_) (fun hb82=> ?_))
        ·skip
         refine wI_ ?_
         refine then_n ?_
         refine wpIn_cond_true kr_ ?_
         refine wpIn_seq ?_
         refine wpIn_region_lit ?_
         refine gI_ hW (gv_ldR (v:=v5) rfl kr_ kr_ (((S81.blk 4 rfl).cell 0).trans rfl) ?_)
         refine gI_ hW (gv_ldR (v:=.slice A76 ((σ.rcd++px.data).length) c77) rfl kr_ kr_ (((S81.blk 5 rfl).cell 0).trans rfl) ?_)
         refine gI_ hW (gv_slit (e:=31) (sz:=1) (z:=nS_) (by_:=24) (vs:=#[(0,.slice A76 ((σ.rcd++px.data).length) c77)]) (cells:=#[.slice A76 ((σ.rcd++px.data).length) c77]) S81 rfl kr_ ⟨by kernel_rfl⟩ kr_ kr_ kr_ kr_ (fun g83 w84 hg85 S86=> ?_))
         have S87:=St.pm 11 [0,9,1,2,3,4,5,6,7,8,10] S86
         refine gI_ hW (gv_append (e:=31) (sz:=1) (n:=RV.length) (v:=v5) (vals:=(RV.map (·.1))) (z:=nS_) (by_:=24) (m:=1) (c':=1) (ad:=⟨g83,0,none⟩) (news:=[.slice A76 (σ.rcd++px.data).length c77]) (St.swap S87) rfl kr_ ⟨by kernel_rfl⟩ rfl kr_ kr_ dc_ rfl (row_news (S87.blk 0 rfl)) (by intro u hu;simp at hu;subst hu;rfl) om_ om_ (fun v89 w88 S90=> ?_))
         obtain ⟨A91,c92,rfl⟩:=St.vecV S90 0 rfl
         have S93:=St.pm 11 [0,10,2,3,4,5,6,7,8,9] S90
         have S94:=St.pm 10 [1,2,0,3,4,5,6,7,8,9] S93
         have S95:St (fun k=>k=Bx∨D k) W9 w88 [stars ((RV++[((.slice A76 (σ.rcd++px.data).length c77:Value),σ.rcd++px.data)]).map recD),vec 31 1 (.slice A91 (RV.length+1) c92) (RV.length+1) (RV.map (·.1)++[.slice A76 (σ.rcd++px.data).length c77]),row Bx #[nI_ px.epoch,nI_ px.pos,nI_ px.idx,nI_ px.cnt,.slice (some ad) px.data.length c8] 165,row gl #[.pointer (some ⟨gd,0,none⟩),nI_ l.first,nI_ l.n,.int .i64 l.life,nI_ l.epoch,nI_ l.top,nI_ l.tail,nI_ σ.head,.bool l.begun] 161,row g1 #[.pointer (some ⟨gl,0,none⟩)] 93,row g5 #[v5] 42,row g9 #[.slice A76 ((σ.rcd++px.data).length) c77] 31,row g24 #[nI_ (σ.idx+1)] 3,row g30 #[nI_ px.cnt] 3]:=(by rw [List.map_append];exact St.star_join (St.swap (St.one_star (St.swap S94))))
         have S96:St (fun k=>k=Bx∨D k) W9 w88 [vec 5 1 (nS_) ([]:List UInt8).length (([]:List UInt8).map bv),stars ((RV++[(rv_ A76 c77 (σ.rcd++px.data))]).map recD),vec 31 1 (.slice A91 (RV.length+1) c92) (RV.length+1) (RV.map (·.1)++[.slice A76 (σ.rcd++px.data).length c77]),row Bx (pC_ px (some ad) c8) 165,row gl (wC_ gd l σ.head) 161,row g1 #[pq gl] 93,row g5 #[v5] 42,row g9 #[.slice A76 ((σ.rcd++px.data).length) c77] 31,row g24 #[nI_ (σ.idx+1)] 3,row g30 #[nI_ px.cnt] 3]:=St.vec_nil S95
         have hrl:(RV++[((.slice A76 (σ.rcd++px.data).length c77:Value),σ.rcd++px.data)]).length=RV.length+1:=by rw [List.length_append];rfl
         have hrm:(RV++[((.slice A76 (σ.rcd++px.data).length c77:Value),σ.rcd++px.data)]).map (·.1)=RV.map (·.1)++[.slice A76 (σ.rcd++px.data).length c77]:=by rw [List.map_append];rfl
         have S97:St (fun k=>k=Bx∨D k) W9 w88 [vec 5 1 (.slice none 0 0) ([]:List UInt8).length (([]:List UInt8).map bv),stars ((RV++[((.slice A76 (σ.rcd++px.data).length c77:Value),σ.rcd++px.data)]).map recD),vec 31 1 (.slice A91 (RV.length+1) c92) (RV++[((.slice A76 (σ.rcd++px.data).length c77:Value),σ.rcd++px.data)]).length ((RV++[((.slice A76 (σ.rcd++px.data).length c77:Value),σ.rcd++px.data)]).map (·.1)),row Bx #[nI_ px.epoch,nI_ px.pos,nI_ px.idx,nI_ px.cnt,.slice (some ad) px.data.length c8] 165,row gl #[.pointer (some ⟨gd,0,none⟩),nI_ l.first,nI_ l.n,.int .i64 l.life,nI_ l.epoch,nI_ l.top,nI_ l.tail,nI_ σ.head,.bool l.begun] 161,row g1 #[.pointer (some ⟨gl,0,none⟩)] 93,row g5 #[v5] 42,row g9 #[.slice A76 ((σ.rcd++px.data).length) c77] 31,row g24 #[nI_ (σ.idx+1)] 3,row g30 #[nI_ px.cnt] 3]:=(by rw [hrl,hrm];exact S96)
         refine gI_ hW (gv_st (k:=0) (v:=.slice A91 (RV.length+1) c92) S97 6 rfl rfl kr_ kr_ kr_ rfl rfl (L':=[vec 5 1 (nS_) ([]:List UInt8).length (([]:List UInt8).map bv),stars ((RV++[(rv_ A76 c77 (σ.rcd++px.data))]).map recD),vec 31 1 (.slice A91 (RV.length+1) c92) (RV++[(rv_ A76 c77 (σ.rcd++px.data))]).length ((RV++[(rv_ A76 c77 (σ.rcd++px.data))]).map (·.1)),row Bx (pC_ px (some ad) c8) 165,row gl (wC_ gd l σ.head) 161,row g1 #[pq gl] 93,row g5 #[.slice A91 (RV.length+1) c92] 42,row g9 #[.slice A76 ((σ.rcd++px.data).length) c77] 31,row g24 #[nI_ (σ.idx+1)] 3,row g30 #[nI_ px.cnt] 3]) rfl (fun w98 S99=> ?_))
         refine wI_ ?_
         refine then_n ?_
         refine wpIn_seq ?_
         refine wp_region_phuI hW kr_ (γ:=Unit) 9 [8] (fun (c2_:Unit) (i_:Nat)=>(match i_ with|0=>pq gl|1=>pq gl|2=>po gl 7|3=>nI_ σ.head|4=>nI_ px.cnt|5=>nI_ (σ.head+px.cnt)|6=>pq gl|7=>po gl 7|8=>undef|_=>undef:Value)) (fun (c2_:Unit) (p_:Nat) (w_:World)=>(match p_ with|0=>St (fun k=>k=Bx∨D k) W9 w_ [vec 5 1 (nS_) ([]:List UInt8).length (([]:List UInt8).map bv),stars ((RV++[(rv_ A76 c77 (σ.rcd++px.data))]).map recD),vec 31 1 (.slice A91 (RV.length+1) c92) (RV++[(rv_ A76 c77 (σ.rcd++px.data))]).length ((RV++[(rv_ A76 c77 (σ.rcd++px.data))]).map (·.1)),row Bx (pC_ px (some ad) c8) 165,row gl (wC_ gd l σ.head) 161,row g1 #[pq gl] 93,row g5 #[.slice A91 (RV.length+1) c92] 42,row g9 #[.slice A76 ((σ.rcd++px.data).length) c77] 31,row g24 #[nI_ (σ.idx+1)] 3,row g30 #[nI_ px.cnt] 3]|_=>St (fun k=>k=Bx∨D k) W9 w_ [vec 5 1 (nS_) ([]:List UInt8).length (([]:List UInt8).map bv),stars ((RV++[(rv_ A76 c77 (σ.rcd++px.data))]).map recD),vec 31 1 (.slice A91 (RV.length+1) c92) (RV++[(rv_ A76 c77 (σ.rcd++px.data))]).length ((RV++[(rv_ A76 c77 (σ.rcd++px.data))]).map (·.1)),row Bx (pC_ px (some ad) c8) 165,row gl (wC_ gd l (σ.head+px.cnt)) 161,row g1 #[pq gl] 93,row g5 #[.slice A91 (RV.length+1) c92] 42,row g9 #[.slice A76 ((σ.rcd++px.data).length) c77] 31,row g24 #[nI_ (σ.idx+1)] 3,row g30 #[nI_ px.cnt] 3]:Prop)) () kr_ kr_ kr_ kr_ (S99.drew) ?_ ?_ ?_
         ·intro i_ c2_ p_ vals_ w1 hi_ hiE_ hp_ hk_ hu_ hPh_ hd_
          rcases i_ with _|_|_|_|_|_|_|_|_|i_
          ·skip
           rcases p_ with _|_|p_
           ·skip
            have S100:St (fun k=>k=Bx∨D k) W9 w1 [vec 5 1 (nS_) ([]:List UInt8).length (([]:List UInt8).map bv),stars ((RV++[(rv_ A76 c77 (σ.rcd++px.data))]).map recD),vec 31 1 (.slice A91 (RV.length+1) c92) (RV++[(rv_ A76 c77 (σ.rcd++px.data))]).length ((RV++[(rv_ A76 c77 (σ.rcd++px.data))]).map (·.1)),row Bx (pC_ px (some ad) c8) 165,row gl (wC_ gd l σ.head) 161,row g1 #[pq gl] 93,row g5 #[.slice A91 (RV.length+1) c92] 42,row g9 #[.slice A76 ((σ.rcd++px.data).length) c77] 31,row g24 #[nI_ (σ.idx+1)] 3,row g30 #[nI_ px.cnt] 3]:=hPh_
            refine toldI (tG_ rfl hd_ (gv_ldR (v:=pq gl) rfl kr_ kr_ (((S100.blk 5 rfl).cell 0).trans rfl) ?_))
            exact ⟨rfl,rfl⟩
           ·skip
            exact absurd (hu_ 0 dc_ kr_) dc_
           ·exact absurd hp_ (by simp)
          ·skip
           refine toldI (tG_ rfl hd_ (gv_val (v:=pq gl) (w':=w1) kr_ ?_))
           exact ⟨rfl,rfl⟩
          ·skip
           refine toldI (tG_ rfl hd_ (gv_val (v:=po gl 7) (w':=w1) kr_ ?_))
           exact ⟨rfl,rfl⟩
          ·skip
           rcases p_ with _|_|p_
           ·skip
            have S103:St (fun k=>k=Bx∨D k) W9 w1 [vec 5 1 (nS_) ([]:List UInt8).length (([]:List UInt8).map bv),stars ((RV++[(rv_ A76 c77 (σ.rcd++px.data))]).map recD),vec 31 1 (.slice A91 (RV.length+1) c92) (RV++[(rv_ A76 c77 (σ.rcd++px.data))]).length ((RV++[(rv_ A76 c77 (σ.rcd++px.data))]).map (·.1)),row Bx (pC_ px (some ad) c8) 165,row gl (wC_ gd l σ.head) 161,row g1 #[pq gl] 93,row g5 #[.slice A91 (RV.length+1) c92] 42,row g9 #[.slice A76 ((σ.rcd++px.data).length) c77] 31,row g24 #[nI_ (σ.idx+1)] 3,row g30 #[nI_ px.cnt] 3]:=hPh_
            refine toldI (tG_ rfl hd_ (gv_ldR (v:=nI_ σ.head) rfl kr_ kr_ (((S103.blk 4 rfl).cell 7).trans rfl) ?_))
            exact ⟨rfl,rfl⟩
           ·skip
            exact absurd (hu_ 0 dc_ kr_) dc_
           ·exact absurd hp_ (by simp)
          ·skip
           rcases p_ with _|_|p_
           ·skip
            have S104:St (fun k=>k=Bx∨D k) W9 w1 [vec 5 1 (nS_) ([]:List UInt8).length (([]:List UInt8).map bv),stars ((RV++[(rv_ A76 c77 (σ.rcd++px.data))]).map recD),vec 31 1 (.slice A91 (RV.length+1) c92) (RV++[(rv_ A76 c77 (σ.rcd++px.data))]).length ((RV++[(rv_ A76 c77 (σ.rcd++px.data))]).map (·.1)),row Bx (pC_ px (some ad) c8) 165,row gl (wC_ gd l σ.head) 161,row g1 #[pq gl] 93,row g5 #[.slice A91 (RV.length+1) c92] 42,row g9 #[.slice A76 ((σ.rcd++px.data).length) c77] 31,row g24 #[nI_ (σ.idx+1)] 3,row g30 #[nI_ px.cnt] 3]:=hPh_
            refine toldI (tG_ rfl hd_ (gv_ldR (v:=nI_ px.cnt) rfl kr_ kr_ (((S104.blk 9 rfl).cell 0).trans rfl) ?_))
            exact ⟨rfl,rfl⟩
           ·skip
            exact absurd (hu_ 0 dc_ kr_) dc_
           ·exact absurd hp_ (by simp)
          ·skip
           refine toldI (tG_ rfl hd_ (gv_int (k:=.i64) (z:=IntKind.i64.wrap (((σ.head:Nat):Int)+((px.cnt:Nat):Int))) (z':=((σ.head+px.cnt:Nat):Int)) kr_ wq_ ?_))
           exact ⟨rfl,rfl⟩
          ·skip
           refine toldI (tG_ rfl hd_ (gv_val (v:=pq gl) (w':=w1) kr_ ?_))
           exact ⟨rfl,rfl⟩
          ·skip
           refine toldI (tG_ rfl hd_ (gv_val (v:=po gl 7) (w':=w1) kr_ ?_))
           exact ⟨rfl,rfl⟩
          ·skip
           exact absurd hiE_ dc_
          ·exact absurd hi_ om_
         ·intro k_ c2_ vals_ w1 hk_ hPh_ hd_
          rcases k_ with _|k_
          ·skip
           have S108:St (fun k=>k=Bx∨D k) W9 w1 [vec 5 1 (nS_) ([]:List UInt8).length (([]:List UInt8).map bv),stars ((RV++[(rv_ A76 c77 (σ.rcd++px.data))]).map recD),vec 31 1 (.slice A91 (RV.length+1) c92) (RV++[(rv_ A76 c77 (σ.rcd++px.data))]).length ((RV++[(rv_ A76 c77 (σ.rcd++px.data))]).map (·.1)),row Bx (pC_ px (some ad) c8) 165,row gl (wC_ gd l σ.head) 161,row g1 #[pq gl] 93,row g5 #[.slice A91 (RV.length+1) c92] 42,row g9 #[.slice A76 ((σ.rcd++px.data).length) c77] 31,row g24 #[nI_ (σ.idx+1)] 3,row g30 #[nI_ px.cnt] 3]:=hPh_
           refine toldI (tG_ rfl hd_ (gv_st (k:=7) (v:=nI_ (σ.head+px.cnt)) S108 4 rfl rfl kr_ kr_ kr_ rfl rfl (L':=[vec 5 1 (nS_) ([]:List UInt8).length (([]:List UInt8).map bv),stars ((RV++[(rv_ A76 c77 (σ.rcd++px.data))]).map recD),vec 31 1 (.slice A91 (RV.length+1) c92) (RV++[(rv_ A76 c77 (σ.rcd++px.data))]).length ((RV++[(rv_ A76 c77 (σ.rcd++px.data))]).map (·.1)),row Bx (pC_ px (some ad) c8) 165,row gl (wC_ gd l (σ.head+px.cnt)) 161,row g1 #[pq gl] 93,row g5 #[.slice A91 (RV.length+1) c92] 42,row g9 #[.slice A76 ((σ.rcd++px.data).length) c77] 31,row g24 #[nI_ (σ.idx+1)] 3,row g30 #[nI_ px.cnt] 3]) rfl (fun w109 S110=> ?_)))
           refine ⟨(),rfl, ?_,S110⟩
           intro i_ hi_ hne_ hdp_
           rcases i_ with _|_|_|_|_|_|_|_|_|i_
           ·rfl
           ·rfl
           ·rfl
           ·rfl
           ·rfl
           ·rfl
           ·rfl
           ·rfl
           ·exact absurd rfl hne_
           ·exact absurd hi_ om_
          ·exact absurd hk_ (by simp)
         ·intro c2_ w1 hPh_
          have S111:St (fun k=>k=Bx∨D k) W9 w1 [vec 5 1 (nS_) ([]:List UInt8).length (([]:List UInt8).map bv),stars ((RV++[(rv_ A76 c77 (σ.rcd++px.data))]).map recD),vec 31 1 (.slice A91 (RV.length+1) c92) (RV++[(rv_ A76 c77 (σ.rcd++px.data))]).length ((RV++[(rv_ A76 c77 (σ.rcd++px.data))]).map (·.1)),row Bx (pC_ px (some ad) c8) 165,row gl (wC_ gd l (σ.head+px.cnt)) 161,row g1 #[pq gl] 93,row g5 #[.slice A91 (RV.length+1) c92] 42,row g9 #[.slice A76 ((σ.rcd++px.data).length) c77] 31,row g24 #[nI_ (σ.idx+1)] 3,row g30 #[nI_ px.cnt] 3]:=hPh_
          refine wI_ ?_
          refine then_n ?_
          refine wpIn_region_lit ?_
          refine gI_ hW (gv_st (k:=0) (v:=nS_) S111 7 rfl rfl kr_ kr_ kr_ rfl rfl (L':=[vec 5 1 (nS_) ([]:List UInt8).length (([]:List UInt8).map bv),stars ((RV++[(rv_ A76 c77 (σ.rcd++px.data))]).map recD),vec 31 1 (.slice A91 (RV.length+1) c92) (RV++[(rv_ A76 c77 (σ.rcd++px.data))]).length ((RV++[(rv_ A76 c77 (σ.rcd++px.data))]).map (·.1)),row Bx (pC_ px (some ad) c8) 165,row gl (wC_ gd l (σ.head+px.cnt)) 161,row g1 #[pq gl] 93,row g5 #[.slice A91 (RV.length+1) c92] 42,row g9 #[nS_] 31,row g24 #[nI_ (σ.idx+1)] 3,row g30 #[nI_ px.cnt] 3]) rfl (fun w112 S113=> ?_))
          refine gI_ hW (gv_st (k:=0) (v:=iv 0) S113 8 rfl rfl kr_ kr_ kr_ rfl rfl (L':=[vec 5 1 (nS_) ([]:List UInt8).length (([]:List UInt8).map bv),stars ((RV++[(rv_ A76 c77 (σ.rcd++px.data))]).map recD),vec 31 1 (.slice A91 (RV.length+1) c92) (RV++[(rv_ A76 c77 (σ.rcd++px.data))]).length ((RV++[(rv_ A76 c77 (σ.rcd++px.data))]).map (·.1)),row Bx (pC_ px (some ad) c8) 165,row gl (wC_ gd l (σ.head+px.cnt)) 161,row g1 #[pq gl] 93,row g5 #[.slice A91 (RV.length+1) c92] 42,row g9 #[nS_] 31,row g24 #[iv 0] 3,row g30 #[nI_ px.cnt] 3]) rfl (fun w114 S115=> ?_))
          refine wI_ ?_
          refine inb_n ?_
          have S116:=St.pm 10 [3,4,5,6,7,8,9,2,1,0] S115
          have hglc:w114.cell? ⟨gl,2,none⟩=some (iv (l.n:Nat))∧w114.cell? ⟨gl,4,none⟩=some (iv (l.epoch:Nat))∧w114.cell? ⟨gl,6,none⟩=some (iv (l.tail:Nat)):=⟨((S116.blk 1 rfl).cell 2).trans rfl,((S116.blk 1 rfl).cell 4).trans rfl,((S116.blk 1 rfl).cell 6).trans rfl⟩
          have hgl9:W9.cell? ⟨gl,2,none⟩=some (iv (l.n:Nat))∧W9.cell? ⟨gl,4,none⟩=some (iv (l.epoch:Nat))∧W9.cell? ⟨gl,6,none⟩=some (iv (l.tail:Nat)):=⟨((T3.blk 1 rfl).cell 2).trans rfl,((T3.blk 1 rfl).cell 4).trans rfl,((T3.blk 1 rfl).cell 6).trans rfl⟩
          have hkp:KpR b1 b2 gl gr W9 w114:=fun a ha=>by
           rcases ha with h|h|h|h|h|h
           ·exact Fr.cellK S116.fr (by rw [h];exact hnB b1 hb1 hn1) om_
           ·exact Fr.cellK S116.fr (by rw [h];exact hnB b2 hb2 hn2) om_
           ·exact Fr.cellK S116.fr (by rw [h];exact hnB gr hgr hnr) om_
           ·subst h;exact hglc.1.trans hgl9.1.symm
           ·subst h;exact hglc.2.1.trans hgl9.2.1.symm
           ·subst h;exact hglc.2.2.trans hgl9.2.2.symm
          have hst:scStep σ px=some ⟨σ.recs++[σ.rcd++px.data],[],0,px.cnt,σ.head+px.cnt⟩:=by unfold scStep;rw [hcn];rw [if_neg om_,if_neg om_,if_pos om_]
          refine ⟨St.keepsFrom S116 hDc,hkp,⟨σ.recs++[σ.rcd++px.data],[],0,px.cnt,σ.head+px.cnt⟩,RV++[(rv_ A76 c77 (σ.rcd++px.data))],.slice A91 (RV.length+1) c92,nS_, ?_, ?_, ?_,St.unbase T (St.tail S116) hD2⟩
          ·rw [pcsOf,List.map_append];show scRun _ (pcsOf pre++[px])=_;rw [scRun_snoc,e1];exact hst
          ·rw [List.map_append,e2];rfl
          ·rw [List.length_append];exact e3.step q5 hst
        ·skip
         refine wI_ ?_
         refine then_n ?_
         refine wpIn_cond_false kr_ ?_
         refine wpIn_skip ?_
         refine inb_n ?_
         have S117:=St.pm 10 [1,2,3,4,5,6,7,8,9,0] S81
         have hglc:w80.cell? ⟨gl,2,none⟩=some (iv (l.n:Nat))∧w80.cell? ⟨gl,4,none⟩=some (iv (l.epoch:Nat))∧w80.cell? ⟨gl,6,none⟩=some (iv (l.tail:Nat)):=⟨((S117.blk 1 rfl).cell 2).trans rfl,((S117.blk 1 rfl).cell 4).trans rfl,((S117.blk 1 rfl).cell 6).trans rfl⟩
         have hgl9:W9.cell? ⟨gl,2,none⟩=some (iv (l.n:Nat))∧W9.cell? ⟨gl,4,none⟩=some (iv (l.epoch:Nat))∧W9.cell? ⟨gl,6,none⟩=some (iv (l.tail:Nat)):=⟨((T3.blk 1 rfl).cell 2).trans rfl,((T3.blk 1 rfl).cell 4).trans rfl,((T3.blk 1 rfl).cell 6).trans rfl⟩
         have hkp:KpR b1 b2 gl gr W9 w80:=fun a ha=>by
          rcases ha with h|h|h|h|h|h
          ·exact Fr.cellK S117.fr (by rw [h];exact hnB b1 hb1 hn1) om_
          ·exact Fr.cellK S117.fr (by rw [h];exact hnB b2 hb2 hn2) om_
          ·exact Fr.cellK S117.fr (by rw [h];exact hnB gr hgr hnr) om_
          ·subst h;exact hglc.1.trans hgl9.1.symm
          ·subst h;exact hglc.2.1.trans hgl9.2.1.symm
          ·subst h;exact hglc.2.2.trans hgl9.2.2.symm
         have hst:scStep σ px=some ⟨σ.recs,σ.rcd++px.data,σ.idx+1,px.cnt,σ.head⟩:=by unfold scStep;rw [hcn];rw [if_neg om_,if_neg om_,if_neg om_]
         refine ⟨St.keepsFrom S117 hDc,hkp,⟨σ.recs,σ.rcd++px.data,σ.idx+1,px.cnt,σ.head⟩,RV,v5,.slice A76 (σ.rcd++px.data).length c77, ?_, ?_, ?_,St.unbase T (St.tail S117) hD2⟩
         ·rw [pcsOf,List.map_append];show scRun _ (pcsOf pre++[px])=_;rw [scRun_snoc,e1];exact hst
         ·exact e2
         ·rw [List.length_append];exact e3.step q5 hst
   ·skip
    have hi0:σ.idx≠0:=by omega
    refine gI_ hW (gV fv ?_)
    refine wI_ ?_
    refine then_n ?_
    refine wpIn_cond_false kr_ ?_
    refine wpIn_seq ?_
    refine wpIn_region_lit ?_
    refine gI_ hW (gV (po Bx 3) ?_)
    refine gI_ hW (gv_ldR (v:=nI_ px.cnt) rfl kr_ kr_ (((T3.blk 0 rfl).cell 3).trans rfl) ?_)
    refine gI_ hW (gv_ldR (v:=nI_ σ.cnt) rfl kr_ kr_ (((T3.blk 6 rfl).cell 0).trans rfl) ?_)
    refine gI_ hW (gv_ne (x:=((px.cnt:Nat):Int)) (y:=((σ.cnt:Nat):Int)) kr_ (fun hb118=> ?_) (fun hb118=> ?_))
    ·skip
     refine gI_ hW (gV tv ?_)
     refine wI_ ?_
     refine then_n ?_
     refine wpIn_cond_true kr_ ?_
     refine wpIn_exit ?_
     refine inb_y dc_ ?_
     refine then_x ?_
     refine inb_y dc_ ?_
     have S119:=St.pm 10 [0,1,2,3,4,5,6,7,8,9] T3
     have hglc:W9.cell? ⟨gl,2,none⟩=some (iv (l.n:Nat))∧W9.cell? ⟨gl,4,none⟩=some (iv (l.epoch:Nat))∧W9.cell? ⟨gl,6,none⟩=some (iv (l.tail:Nat)):=⟨((S119.blk 1 rfl).cell 2).trans rfl,((S119.blk 1 rfl).cell 4).trans rfl,((S119.blk 1 rfl).cell 6).trans rfl⟩
     have hgl9:W9.cell? ⟨gl,2,none⟩=some (iv (l.n:Nat))∧W9.cell? ⟨gl,4,none⟩=some (iv (l.epoch:Nat))∧W9.cell? ⟨gl,6,none⟩=some (iv (l.tail:Nat)):=⟨((T3.blk 1 rfl).cell 2).trans rfl,((T3.blk 1 rfl).cell 4).trans rfl,((T3.blk 1 rfl).cell 6).trans rfl⟩
     have hkp:KpR b1 b2 gl gr W9 W9:=fun a ha=>by
      rcases ha with h|h|h|h|h|h
      ·exact Fr.cellK S119.fr (by rw [h];exact hnB b1 hb1 hn1) om_
      ·exact Fr.cellK S119.fr (by rw [h];exact hnB b2 hb2 hn2) om_
      ·exact Fr.cellK S119.fr (by rw [h];exact hnB gr hgr hnr) om_
      ·subst h;exact hglc.1.trans hgl9.1.symm
      ·subst h;exact hglc.2.1.trans hgl9.2.1.symm
      ·subst h;exact hglc.2.2.trans hgl9.2.2.symm
     have hst:scStep σ px=none:=by unfold scStep;rw [if_pos om_]
     exact ⟨St.keepsFrom S119 hDc,pre,_,σ,RV,v5,v6,σ.cnt,rfl,rfl,e1,hst,e2,St.unbase T (St.tail S119) hD2⟩
    ·skip
     have hcn:scCnt σ px=σ.cnt:=by unfold scCnt;rw [if_neg hi0]
     refine gI_ hW (gV fv ?_)
     refine wI_ ?_
     refine then_n ?_
     refine wpIn_cond_false kr_ ?_
     refine wpIn_skip ?_
     refine inb_n ?_
     refine then_n ?_
     refine wpIn_seq ?_
     refine wpIn_region_lit ?_
     refine gI_ hW (gV (po Bx 4) ?_)
     refine gI_ hW (gv_ldR (v:=.slice (some ad) px.data.length c8) rfl kr_ kr_ (((T3.blk 0 rfl).cell 4).trans rfl) ?_)
     refine gI_ hW (gV (iv (px.data.length:Nat)) ?_)
     refine gI_ hW (gV (.bool ((px.data.length:Int)==492)) ?_)
     refine gI_ hW (gV (.bool ((px.data.length:Int)==492)) ?_)
     refine wI_ ?_
     refine then_n ?_
     refine wpIn_seq ?_
     refine wpIn_seq ?_
     refine wpIn_region_lit ?_
     refine gI_ hW (gV (po Bx 2) ?_)
     refine gI_ hW (gv_ldR (v:=nI_ px.idx) rfl kr_ kr_ (((T3.blk 0 rfl).cell 2).trans rfl) ?_)
     refine gI_ hW (gv_ldR (v:=nI_ σ.idx) rfl kr_ kr_ (((T3.blk 5 rfl).cell 0).trans rfl) ?_)
     refine gI_ hW (gv_ne (x:=((px.idx:Nat):Int)) (y:=((σ.idx:Nat):Int)) kr_ (fun hb120=> ?_) (fun hb120=> ?_))
     ·skip
      refine gI_ hW (gV tv ?_)
      refine gIn hW ?_
      refine gIn hW ?_
      refine gI_ hW (gV tv ?_)
      refine gI_ hW (gV tv ?_)
      refine gIn hW ?_
      refine gIn hW ?_
      refine gI_ hW (gV tv ?_)
      refine gI_ hW (gV tv ?_)
      refine gIn hW ?_
      refine gIn hW ?_
      refine gIn hW ?_
      refine gIn hW ?_
      refine gIn hW ?_
      refine gIn hW ?_
      refine gIn hW ?_
      refine gIn hW ?_
      refine gI_ hW (gV tv ?_)
      refine wI_ ?_
      refine then_n ?_
      refine wpIn_cond_true kr_ ?_
      refine wpIn_exit ?_
      refine then_x ?_
      refine inb_y dc_ ?_
      have S121:=St.pm 10 [0,1,2,3,4,5,6,7,8,9] T3
      have hglc:W9.cell? ⟨gl,2,none⟩=some (iv (l.n:Nat))∧W9.cell? ⟨gl,4,none⟩=some (iv (l.epoch:Nat))∧W9.cell? ⟨gl,6,none⟩=some (iv (l.tail:Nat)):=⟨((S121.blk 1 rfl).cell 2).trans rfl,((S121.blk 1 rfl).cell 4).trans rfl,((S121.blk 1 rfl).cell 6).trans rfl⟩
      have hgl9:W9.cell? ⟨gl,2,none⟩=some (iv (l.n:Nat))∧W9.cell? ⟨gl,4,none⟩=some (iv (l.epoch:Nat))∧W9.cell? ⟨gl,6,none⟩=some (iv (l.tail:Nat)):=⟨((T3.blk 1 rfl).cell 2).trans rfl,((T3.blk 1 rfl).cell 4).trans rfl,((T3.blk 1 rfl).cell 6).trans rfl⟩
      have hkp:KpR b1 b2 gl gr W9 W9:=fun a ha=>by
       rcases ha with h|h|h|h|h|h
       ·exact Fr.cellK S121.fr (by rw [h];exact hnB b1 hb1 hn1) om_
       ·exact Fr.cellK S121.fr (by rw [h];exact hnB b2 hb2 hn2) om_
       ·exact Fr.cellK S121.fr (by rw [h];exact hnB gr hgr hnr) om_
       ·subst h;exact hglc.1.trans hgl9.1.symm
       ·subst h;exact hglc.2.1.trans hgl9.2.1.symm
       ·subst h;exact hglc.2.2.trans hgl9.2.2.symm
      have hst:scStep σ px=none:=by unfold scStep;rw [hcn];rw [if_neg om_,if_pos om_]
      exact ⟨St.keepsFrom S121 hDc,pre,_,σ,RV,v5,v6,σ.cnt,rfl,rfl,e1,hst,e2,St.unbase T (St.tail S121) hD2⟩
     ·skip
      refine gI_ hW (gV fv ?_)
      refine gIw hW (gv_ldR (v:=nI_ σ.cnt) rfl kr_ kr_ (((T3.blk 6 rfl).cell 0).trans rfl) ?_)
      refine gIw hW (gv_dec (p:=(((σ.cnt:Nat):Int):Int)<1) kr_ (fun hb122=> ?_) (fun hb122=> ?_))
      ·skip
       refine gI_ hW (gV tv ?_)
       refine gI_ hW (gV tv ?_)
       refine gIn hW ?_
       refine gIn hW ?_
       refine gI_ hW (gV tv ?_)
       refine gI_ hW (gV tv ?_)
       refine gIn hW ?_
       refine gIn hW ?_
       refine gIn hW ?_
       refine gIn hW ?_
       refine gIn hW ?_
       refine gIn hW ?_
       refine gIn hW ?_
       refine gIn hW ?_
       refine gI_ hW (gV tv ?_)
       refine wI_ ?_
       refine then_n ?_
       refine wpIn_cond_true kr_ ?_
       refine wpIn_exit ?_
       refine then_x ?_
       refine inb_y dc_ ?_
       have S123:=St.pm 10 [0,1,2,3,4,5,6,7,8,9] T3
       have hglc:W9.cell? ⟨gl,2,none⟩=some (iv (l.n:Nat))∧W9.cell? ⟨gl,4,none⟩=some (iv (l.epoch:Nat))∧W9.cell? ⟨gl,6,none⟩=some (iv (l.tail:Nat)):=⟨((S123.blk 1 rfl).cell 2).trans rfl,((S123.blk 1 rfl).cell 4).trans rfl,((S123.blk 1 rfl).cell 6).trans rfl⟩
       have hgl9:W9.cell? ⟨gl,2,none⟩=some (iv (l.n:Nat))∧W9.cell? ⟨gl,4,none⟩=some (iv (l.epoch:Nat))∧W9.cell? ⟨gl,6,none⟩=some (iv (l.tail:Nat)):=⟨((T3.blk 1 rfl).cell 2).trans rfl,((T3.blk 1 rfl).cell 4).trans rfl,((T3.blk 1 rfl).cell 6).trans rfl⟩
       have hkp:KpR b1 b2 gl gr W9 W9:=fun a ha=>by
        rcases ha with h|h|h|h|h|h
        ·exact Fr.cellK S123.fr (by rw [h];exact hnB b1 hb1 hn1) om_
        ·exact Fr.cellK S123.fr (by rw [h];exact hnB b2 hb2 hn2) om_
        ·exact Fr.cellK S123.fr (by rw [h];exact hnB gr hgr hnr) om_
        ·subst h;exact hglc.1.trans hgl9.1.symm
        ·subst h;exact hglc.2.1.trans hgl9.2.1.symm
        ·subst h;exact hglc.2.2.trans hgl9.2.2.symm
       have hst:scStep σ px=none:=by unfold scStep;rw [hcn];rw [if_neg om_,if_pos om_]
       exact ⟨St.keepsFrom S123 hDc,pre,_,σ,RV,v5,v6,σ.cnt,rfl,rfl,e1,hst,e2,St.unbase T (St.tail S123) hD2⟩
      ·skip
       refine gI_ hW (gV fv ?_)
       refine gI_ hW (gV fv ?_)
       refine gIw hW (gv_ldR (v:=nI_ σ.cnt) rfl kr_ kr_ (((T3.blk 6 rfl).cell 0).trans rfl) ?_)
       refine gIw hW (gv_dec (p:=(((σ.cnt:Nat):Int):Int)>17) kr_ (fun hb124=> ?_) (fun hb124=> ?_))
       ·skip
        refine gI_ hW (gV tv ?_)
        refine gI_ hW (gV tv ?_)
        refine gIn hW ?_
        refine gIn hW ?_
        refine gIn hW ?_
        refine gIn hW ?_
        refine gIn hW ?_
        refine gIn hW ?_
        refine gIn hW ?_
        refine gIn hW ?_
        refine gI_ hW (gV tv ?_)
        refine wI_ ?_
        refine then_n ?_
        refine wpIn_cond_true kr_ ?_
        refine wpIn_exit ?_
        refine then_x ?_
        refine inb_y dc_ ?_
        have S125:=St.pm 10 [0,1,2,3,4,5,6,7,8,9] T3
        have hglc:W9.cell? ⟨gl,2,none⟩=some (iv (l.n:Nat))∧W9.cell? ⟨gl,4,none⟩=some (iv (l.epoch:Nat))∧W9.cell? ⟨gl,6,none⟩=some (iv (l.tail:Nat)):=⟨((S125.blk 1 rfl).cell 2).trans rfl,((S125.blk 1 rfl).cell 4).trans rfl,((S125.blk 1 rfl).cell 6).trans rfl⟩
        have hgl9:W9.cell? ⟨gl,2,none⟩=some (iv (l.n:Nat))∧W9.cell? ⟨gl,4,none⟩=some (iv (l.epoch:Nat))∧W9.cell? ⟨gl,6,none⟩=some (iv (l.tail:Nat)):=⟨((T3.blk 1 rfl).cell 2).trans rfl,((T3.blk 1 rfl).cell 4).trans rfl,((T3.blk 1 rfl).cell 6).trans rfl⟩
        have hkp:KpR b1 b2 gl gr W9 W9:=fun a ha=>by
         rcases ha with h|h|h|h|h|h
         ·exact Fr.cellK S125.fr (by rw [h];exact hnB b1 hb1 hn1) om_
         ·exact Fr.cellK S125.fr (by rw [h];exact hnB b2 hb2 hn2) om_
         ·exact Fr.cellK S125.fr (by rw [h];exact hnB gr hgr hnr) om_
         ·subst h;exact hglc.1.trans hgl9.1.symm
         ·subst h;exact hglc.2.1.trans hgl9.2.1.symm
         ·subst h;exact hglc.2.2.trans hgl9.2.2.symm
        have hst:scStep σ px=none:=by unfold scStep;rw [hcn];rw [if_neg om_,if_pos om_]
        exact ⟨St.keepsFrom S125 hDc,pre,_,σ,RV,v5,v6,σ.cnt,rfl,rfl,e1,hst,e2,St.unbase T (St.tail S125) hD2⟩
       ·skip
        refine gI_ hW (gV fv ?_)
        refine gI_ hW (gV fv ?_)
        refine gIw hW (gv_ldR (v:=nI_ σ.idx) rfl kr_ kr_ (((T3.blk 5 rfl).cell 0).trans rfl) ?_)
        refine gIw hW (gv_ldR (v:=nI_ σ.cnt) rfl kr_ kr_ (((T3.blk 6 rfl).cell 0).trans rfl) ?_)
        refine gIw hW (gv_int (k:=.i64) (z:=IntKind.i64.wrap (((σ.cnt:Nat):Int)-1)) (z':=(((σ.cnt:Nat):Int):Int)-1) kr_ (wr_eq rfl om_ om_) ?_)
        refine gIw hW (gv_dec (p:=(((σ.idx:Nat):Int):Int)<((((σ.cnt:Nat):Int):Int)-1)) kr_ (fun hb126=> ?_) (fun hb126=> ?_))
        ·skip
         refine gIw hW (gv_val (v:=.bool true) (w':=W9) kr_ ?_)
         refine gIw hW (gv_val (v:=.bool ((px.data.length:Int)==492)) (w':=W9) kr_ ?_)
         refine gIw hW (gv_val (v:=.bool (!((px.data.length:Int)==492))) (w':=W9) kr_ ?_)
         refine gIw hW (gv_val (v:=.bool (!((px.data.length:Int)==492))) (w':=W9) kr_ ?_)
         refine gI_ hW (gV (.bool (!((px.data.length:Int)==492))) ?_)
         refine wI_ ?_
         refine then_n ?_
         refine wpIn_cond_split (t:= !((px.data.length:Int)==492)) kr_ (fun hc127=> ?_) (fun hc127=> ?_)
         ·skip
          have hnf9:px.data.length≠492:=by intro h9;rw [h9] at hc127;exact absurd hc127 dc_
          refine wpIn_exit ?_
          refine then_x ?_
          refine inb_y dc_ ?_
          have S128:=St.pm 10 [0,1,2,3,4,5,6,7,8,9] T3
          have hglc:W9.cell? ⟨gl,2,none⟩=some (iv (l.n:Nat))∧W9.cell? ⟨gl,4,none⟩=some (iv (l.epoch:Nat))∧W9.cell? ⟨gl,6,none⟩=some (iv (l.tail:Nat)):=⟨((S128.blk 1 rfl).cell 2).trans rfl,((S128.blk 1 rfl).cell 4).trans rfl,((S128.blk 1 rfl).cell 6).trans rfl⟩
          have hgl9:W9.cell? ⟨gl,2,none⟩=some (iv (l.n:Nat))∧W9.cell? ⟨gl,4,none⟩=some (iv (l.epoch:Nat))∧W9.cell? ⟨gl,6,none⟩=some (iv (l.tail:Nat)):=⟨((T3.blk 1 rfl).cell 2).trans rfl,((T3.blk 1 rfl).cell 4).trans rfl,((T3.blk 1 rfl).cell 6).trans rfl⟩
          have hkp:KpR b1 b2 gl gr W9 W9:=fun a ha=>by
           rcases ha with h|h|h|h|h|h
           ·exact Fr.cellK S128.fr (by rw [h];exact hnB b1 hb1 hn1) om_
           ·exact Fr.cellK S128.fr (by rw [h];exact hnB b2 hb2 hn2) om_
           ·exact Fr.cellK S128.fr (by rw [h];exact hnB gr hgr hnr) om_
           ·subst h;exact hglc.1.trans hgl9.1.symm
           ·subst h;exact hglc.2.1.trans hgl9.2.1.symm
           ·subst h;exact hglc.2.2.trans hgl9.2.2.symm
          have hst:scStep σ px=none:=by unfold scStep;rw [hcn];rw [if_neg om_,if_pos om_]
          exact ⟨St.keepsFrom S128 hDc,pre,_,σ,RV,v5,v6,σ.cnt,rfl,rfl,e1,hst,e2,St.unbase T (St.tail S128) hD2⟩
         ·skip
          have hf9:px.data.length=492:=by simp at hc127;omega
          refine wpIn_skip ?_
          refine then_n ?_
          refine wpIn_seq ?_
          refine wpIn_region_lit ?_
          refine gI_ hW (gv_ldR (v:=v6) rfl kr_ kr_ (((T3.blk 4 rfl).cell 0).trans rfl) ?_)
          refine gI_ hW (gV (po Bx 4) ?_)
          refine gI_ hW (gv_ldR (v:=.slice (some ad) px.data.length c8) rfl kr_ kr_ (((T3.blk 0 rfl).cell 4).trans rfl) ?_)
          have S129:St (fun k=>k=Bx∨D k) W9 W9 [vec 5 1 v6 σ.rcd.length (σ.rcd.map bv),row Bx (pC_ px (some ad) c8) 165,row gl (wC_ gd l σ.head) 161,row g1 #[pq gl] 93,row g5 #[v5] 42,row g9 #[v6] 31,row g24 #[nI_ σ.idx] 3,row g30 #[nI_ σ.cnt] 3,vec 31 1 v5 RV.length (RV.map (·.1)),stars (RV.map recD)]:=St.pm 10 [9,0,1,2,3,4,5,6,7,8] T3
          refine gI_ hW (gv_append (e:=5) (sz:=1) (n:=σ.rcd.length) (v:=v6) (vals:=σ.rcd.map bv) (z:=.int .u8 0) (by_:=1) (m:=px.data.length) (c':=c8) (ad:=ad) (news:=px.data.map bv) S129 rfl kr_ ⟨by kernel_rfl⟩ rfl kr_ kr_ hpos (by rw [List.length_map,Nat.mul_one]) (RdB.cells (hrd _ _ S129)) (bv_one px.data) om_ om_ (fun v130 w131 S132=> ?_))
          obtain ⟨A133,c134,rfl⟩:=St.vecV S132 0 rfl
          rw [←List.map_append,←List.length_append] at S132
          rw [←List.length_append]
          refine gI_ hW (gv_st (k:=0) (v:=.slice A133 ((σ.rcd++px.data).length) c134) S132 5 rfl rfl kr_ kr_ kr_ rfl rfl (L':=[vec 5 1 (.slice A133 (σ.rcd++px.data).length c134) (σ.rcd++px.data).length ((σ.rcd++px.data).map bv),row Bx (pC_ px (some ad) c8) 165,row gl (wC_ gd l σ.head) 161,row g1 #[pq gl] 93,row g5 #[v5] 42,row g9 #[.slice A133 ((σ.rcd++px.data).length) c134] 31,row g24 #[nI_ σ.idx] 3,row g30 #[nI_ σ.cnt] 3,vec 31 1 v5 RV.length (RV.map (·.1)),stars (RV.map recD)]) rfl (fun w135 S136=> ?_))
          refine wI_ ?_
          refine then_n ?_
          refine wpIn_seq ?_
          refine wpIn_region_lit ?_
          refine gI_ hW (gv_ldR (v:=nI_ σ.idx) rfl kr_ kr_ (((S136.blk 6 rfl).cell 0).trans rfl) ?_)
          refine gI_ hW (gv_int (k:=.i64) (z:=IntKind.i64.wrap (((σ.idx:Nat):Int)+1)) (z':=((σ.idx+1:Nat):Int)) kr_ wq_ ?_)
          refine gI_ hW (gv_st (k:=0) (v:=nI_ (σ.idx+1)) S136 6 rfl rfl kr_ kr_ kr_ rfl rfl (L':=[vec 5 1 (.slice A133 (σ.rcd++px.data).length c134) (σ.rcd++px.data).length ((σ.rcd++px.data).map bv),row Bx (pC_ px (some ad) c8) 165,row gl (wC_ gd l σ.head) 161,row g1 #[pq gl] 93,row g5 #[v5] 42,row g9 #[.slice A133 ((σ.rcd++px.data).length) c134] 31,row g24 #[nI_ (σ.idx+1)] 3,row g30 #[nI_ σ.cnt] 3,vec 31 1 v5 RV.length (RV.map (·.1)),stars (RV.map recD)]) rfl (fun w137 S138=> ?_))
          refine wI_ ?_
          refine then_n ?_
          refine wpIn_seq ?_
          refine wpIn_region_lit ?_
          refine gI_ hW (gv_ldR (v:=nI_ (σ.idx+1)) rfl kr_ kr_ (((S138.blk 6 rfl).cell 0).trans rfl) ?_)
          refine gI_ hW (gv_ldR (v:=nI_ σ.cnt) rfl kr_ kr_ (((S138.blk 7 rfl).cell 0).trans rfl) ?_)
          refine gI_ hW (gv_eq (x:=((σ.idx+1:Nat):Int)) (y:=((σ.cnt:Nat):Int)) kr_ (fun hb139=> ?_) (fun hb139=> ?_))
          ·skip
           exact absurd hb139 om_
          ·skip
           refine wI_ ?_
           refine then_n ?_
           refine wpIn_cond_false kr_ ?_
           refine wpIn_skip ?_
           refine inb_n ?_
           have S140:=St.pm 10 [1,2,3,4,5,6,7,8,9,0] S138
           have hglc:w137.cell? ⟨gl,2,none⟩=some (iv (l.n:Nat))∧w137.cell? ⟨gl,4,none⟩=some (iv (l.epoch:Nat))∧w137.cell? ⟨gl,6,none⟩=some (iv (l.tail:Nat)):=⟨((S140.blk 1 rfl).cell 2).trans rfl,((S140.blk 1 rfl).cell 4).trans rfl,((S140.blk 1 rfl).cell 6).trans rfl⟩
           have hgl9:W9.cell? ⟨gl,2,none⟩=some (iv (l.n:Nat))∧W9.cell? ⟨gl,4,none⟩=some (iv (l.epoch:Nat))∧W9.cell? ⟨gl,6,none⟩=some (iv (l.tail:Nat)):=⟨((T3.blk 1 rfl).cell 2).trans rfl,((T3.blk 1 rfl).cell 4).trans rfl,((T3.blk 1 rfl).cell 6).trans rfl⟩
           have hkp:KpR b1 b2 gl gr W9 w137:=fun a ha=>by
            rcases ha with h|h|h|h|h|h
            ·exact Fr.cellK S140.fr (by rw [h];exact hnB b1 hb1 hn1) om_
            ·exact Fr.cellK S140.fr (by rw [h];exact hnB b2 hb2 hn2) om_
            ·exact Fr.cellK S140.fr (by rw [h];exact hnB gr hgr hnr) om_
            ·subst h;exact hglc.1.trans hgl9.1.symm
            ·subst h;exact hglc.2.1.trans hgl9.2.1.symm
            ·subst h;exact hglc.2.2.trans hgl9.2.2.symm
           have hst:scStep σ px=some ⟨σ.recs,σ.rcd++px.data,σ.idx+1,σ.cnt,σ.head⟩:=by unfold scStep;rw [hcn];rw [if_neg om_,if_neg om_,if_neg om_]
           refine ⟨St.keepsFrom S140 hDc,hkp,⟨σ.recs,σ.rcd++px.data,σ.idx+1,σ.cnt,σ.head⟩,RV,v5,.slice A133 (σ.rcd++px.data).length c134, ?_, ?_, ?_,St.unbase T (St.tail S140) hD2⟩
           ·rw [pcsOf,List.map_append];show scRun _ (pcsOf pre++[px])=_;rw [scRun_snoc,e1];exact hst
           ·exact e2
           ·rw [List.length_append];exact e3.step q5 hst
        ·skip
         refine gIw hW (gv_val (v:=.bool false) (w':=W9) kr_ ?_)
         refine gIn hW ?_
         refine gIn hW ?_
         refine gIw hW (gv_val (v:=.bool false) (w':=W9) kr_ ?_)
         refine gI_ hW (gV fv ?_)
         refine wI_ ?_
         refine then_n ?_
         refine wpIn_cond_false kr_ ?_
         refine wpIn_skip ?_
         refine then_n ?_
         refine wpIn_seq ?_
         refine wpIn_region_lit ?_
         refine gI_ hW (gv_ldR (v:=v6) rfl kr_ kr_ (((T3.blk 4 rfl).cell 0).trans rfl) ?_)
         refine gI_ hW (gV (po Bx 4) ?_)
         refine gI_ hW (gv_ldR (v:=.slice (some ad) px.data.length c8) rfl kr_ kr_ (((T3.blk 0 rfl).cell 4).trans rfl) ?_)
         have S141:St (fun k=>k=Bx∨D k) W9 W9 [vec 5 1 v6 σ.rcd.length (σ.rcd.map bv),row Bx (pC_ px (some ad) c8) 165,row gl (wC_ gd l σ.head) 161,row g1 #[pq gl] 93,row g5 #[v5] 42,row g9 #[v6] 31,row g24 #[nI_ σ.idx] 3,row g30 #[nI_ σ.cnt] 3,vec 31 1 v5 RV.length (RV.map (·.1)),stars (RV.map recD)]:=St.pm 10 [9,0,1,2,3,4,5,6,7,8] T3
         refine gI_ hW (gv_append (e:=5) (sz:=1) (n:=σ.rcd.length) (v:=v6) (vals:=σ.rcd.map bv) (z:=.int .u8 0) (by_:=1) (m:=px.data.length) (c':=c8) (ad:=ad) (news:=px.data.map bv) S141 rfl kr_ ⟨by kernel_rfl⟩ rfl kr_ kr_ hpos (by rw [List.length_map,Nat.mul_one]) (RdB.cells (hrd _ _ S141)) (bv_one px.data) om_ om_ (fun v142 w143 S144=> ?_))
         obtain ⟨A145,c146,rfl⟩:=St.vecV S144 0 rfl
         rw [←List.map_append,←List.length_append] at S144
         rw [←List.length_append]
         refine gI_ hW (gv_st (k:=0) (v:=.slice A145 ((σ.rcd++px.data).length) c146) S144 5 rfl rfl kr_ kr_ kr_ rfl rfl (L':=[vec 5 1 (.slice A145 (σ.rcd++px.data).length c146) (σ.rcd++px.data).length ((σ.rcd++px.data).map bv),row Bx (pC_ px (some ad) c8) 165,row gl (wC_ gd l σ.head) 161,row g1 #[pq gl] 93,row g5 #[v5] 42,row g9 #[.slice A145 ((σ.rcd++px.data).length) c146] 31,row g24 #[nI_ σ.idx] 3,row g30 #[nI_ σ.cnt] 3,vec 31 1 v5 RV.length (RV.map (·.1)),stars (RV.map recD)]) rfl (fun w147 S148=> ?_))
         refine wI_ ?_
         refine then_n ?_
         refine wpIn_seq ?_
         refine wpIn_region_lit ?_
         refine gI_ hW (gv_ldR (v:=nI_ σ.idx) rfl kr_ kr_ (((S148.blk 6 rfl).cell 0).trans rfl) ?_)
         refine gI_ hW (gv_int (k:=.i64) (z:=IntKind.i64.wrap (((σ.idx:Nat):Int)+1)) (z':=((σ.idx+1:Nat):Int)) kr_ wq_ ?_)
         refine gI_ hW (gv_st (k:=0) (v:=nI_ (σ.idx+1)) S148 6 rfl rfl kr_ kr_ kr_ rfl rfl (L':=[vec 5 1 (.slice A145 (σ.rcd++px.data).length c146) (σ.rcd++px.data).length ((σ.rcd++px.data).map bv),row Bx (pC_ px (some ad) c8) 165,row gl (wC_ gd l σ.head) 161,row g1 #[pq gl] 93,row g5 #[v5] 42,row g9 #[.slice A145 ((σ.rcd++px.data).length) c146] 31,row g24 #[nI_ (σ.idx+1)] 3,row g30 #[nI_ σ.cnt] 3,vec 31 1 v5 RV.length (RV.map (·.1)),stars (RV.map recD)]) rfl (fun w149 S150=> ?_))
         refine wI_ ?_
         refine then_n ?_
         refine wpIn_seq ?_
         refine wpIn_region_lit ?_
         refine gI_ hW (gv_ldR (v:=nI_ (σ.idx+1)) rfl kr_ kr_ (((S150.blk 6 rfl).cell 0).trans rfl) ?_)
         refine gI_ hW (gv_ldR (v:=nI_ σ.cnt) rfl kr_ kr_ (((S150.blk 7 rfl).cell 0).trans rfl) ?_)
         refine gI_ hW (gv_eq (x:=((σ.idx+1:Nat):Int)) (y:=((σ.cnt:Nat):Int)) kr_ (fun hb151=> ?_) (fun hb151=> ?_))
         ·skip
          refine wI_ ?_
          refine then_n ?_
          refine wpIn_cond_true kr_ ?_
          refine wpIn_seq ?_
          refine wpIn_region_lit ?_
          refine gI_ hW (gv_ldR (v:=v5) rfl kr_ kr_ (((S150.blk 4 rfl).cell 0).trans rfl) ?_)
          refine gI_ hW (gv_ldR (v:=.slice A145 ((σ.rcd++px.data).length) c146) rfl kr_ kr_ (((S150.blk 5 rfl).cell 0).trans rfl) ?_)
          refine gI_ hW (gv_slit (e:=31) (sz:=1) (z:=nS_) (by_:=24) (vs:=#[(0,.slice A145 ((σ.rcd++px.data).length) c146)]) (cells:=#[.slice A145 ((σ.rcd++px.data).length) c146]) S150 rfl kr_ ⟨by kernel_rfl⟩ kr_ kr_ kr_ kr_ (fun g152 w153 hg154 S155=> ?_))
          have S156:=St.pm 11 [0,9,1,2,3,4,5,6,7,8,10] S155
          refine gI_ hW (gv_append (e:=31) (sz:=1) (n:=RV.length) (v:=v5) (vals:=(RV.map (·.1))) (z:=nS_) (by_:=24) (m:=1) (c':=1) (ad:=⟨g152,0,none⟩) (news:=[.slice A145 (σ.rcd++px.data).length c146]) (St.swap S156) rfl kr_ ⟨by kernel_rfl⟩ rfl kr_ kr_ dc_ rfl (row_news (S156.blk 0 rfl)) (by intro u hu;simp at hu;subst hu;rfl) om_ om_ (fun v158 w157 S159=> ?_))
          obtain ⟨A160,c161,rfl⟩:=St.vecV S159 0 rfl
          have S162:=St.pm 11 [0,10,2,3,4,5,6,7,8,9] S159
          have S163:=St.pm 10 [1,2,0,3,4,5,6,7,8,9] S162
          have S164:St (fun k=>k=Bx∨D k) W9 w157 [stars ((RV++[((.slice A145 (σ.rcd++px.data).length c146:Value),σ.rcd++px.data)]).map recD),vec 31 1 (.slice A160 (RV.length+1) c161) (RV.length+1) (RV.map (·.1)++[.slice A145 (σ.rcd++px.data).length c146]),row Bx #[nI_ px.epoch,nI_ px.pos,nI_ px.idx,nI_ px.cnt,.slice (some ad) px.data.length c8] 165,row gl #[.pointer (some ⟨gd,0,none⟩),nI_ l.first,nI_ l.n,.int .i64 l.life,nI_ l.epoch,nI_ l.top,nI_ l.tail,nI_ σ.head,.bool l.begun] 161,row g1 #[.pointer (some ⟨gl,0,none⟩)] 93,row g5 #[v5] 42,row g9 #[.slice A145 ((σ.rcd++px.data).length) c146] 31,row g24 #[nI_ (σ.idx+1)] 3,row g30 #[nI_ σ.cnt] 3]:=(by rw [List.map_append];exact St.star_join (St.swap (St.one_star (St.swap S163))))
          have S165:St (fun k=>k=Bx∨D k) W9 w157 [vec 5 1 (nS_) ([]:List UInt8).length (([]:List UInt8).map bv),stars ((RV++[(rv_ A145 c146 (σ.rcd++px.data))]).map recD),vec 31 1 (.slice A160 (RV.length+1) c161) (RV.length+1) (RV.map (·.1)++[.slice A145 (σ.rcd++px.data).length c146]),row Bx (pC_ px (some ad) c8) 165,row gl (wC_ gd l σ.head) 161,row g1 #[pq gl] 93,row g5 #[v5] 42,row g9 #[.slice A145 ((σ.rcd++px.data).length) c146] 31,row g24 #[nI_ (σ.idx+1)] 3,row g30 #[nI_ σ.cnt] 3]:=St.vec_nil S164
          have hrl:(RV++[((.slice A145 (σ.rcd++px.data).length c146:Value),σ.rcd++px.data)]).length=RV.length+1:=by rw [List.length_append];rfl
          have hrm:(RV++[((.slice A145 (σ.rcd++px.data).length c146:Value),σ.rcd++px.data)]).map (·.1)=RV.map (·.1)++[.slice A145 (σ.rcd++px.data).length c146]:=by rw [List.map_append];rfl
          have S166:St (fun k=>k=Bx∨D k) W9 w157 [vec 5 1 (.slice none 0 0) ([]:List UInt8).length (([]:List UInt8).map bv),stars ((RV++[((.slice A145 (σ.rcd++px.data).length c146:Value),σ.rcd++px.data)]).map recD),vec 31 1 (.slice A160 (RV.length+1) c161) (RV++[((.slice A145 (σ.rcd++px.data).length c146:Value),σ.rcd++px.data)]).length ((RV++[((.slice A145 (σ.rcd++px.data).length c146:Value),σ.rcd++px.data)]).map (·.1)),row Bx #[nI_ px.epoch,nI_ px.pos,nI_ px.idx,nI_ px.cnt,.slice (some ad) px.data.length c8] 165,row gl #[.pointer (some ⟨gd,0,none⟩),nI_ l.first,nI_ l.n,.int .i64 l.life,nI_ l.epoch,nI_ l.top,nI_ l.tail,nI_ σ.head,.bool l.begun] 161,row g1 #[.pointer (some ⟨gl,0,none⟩)] 93,row g5 #[v5] 42,row g9 #[.slice A145 ((σ.rcd++px.data).length) c146] 31,row g24 #[nI_ (σ.idx+1)] 3,row g30 #[nI_ σ.cnt] 3]:=(by rw [hrl,hrm];exact S165)
          refine gI_ hW (gv_st (k:=0) (v:=.slice A160 (RV.length+1) c161) S166 6 rfl rfl kr_ kr_ kr_ rfl rfl (L':=[vec 5 1 (nS_) ([]:List UInt8).length (([]:List UInt8).map bv),stars ((RV++[(rv_ A145 c146 (σ.rcd++px.data))]).map recD),vec 31 1 (.slice A160 (RV.length+1) c161) (RV++[(rv_ A145 c146 (σ.rcd++px.data))]).length ((RV++[(rv_ A145 c146 (σ.rcd++px.data))]).map (·.1)),row Bx (pC_ px (some ad) c8) 165,row gl (wC_ gd l σ.head) 161,row g1 #[pq gl] 93,row g5 #[.slice A160 (RV.length+1) c161] 42,row g9 #[.slice A145 ((σ.rcd++px.data).length) c146] 31,row g24 #[nI_ (σ.idx+1)] 3,row g30 #[nI_ σ.cnt] 3]) rfl (fun w167 S168=> ?_))
          refine wI_ ?_
          refine then_n ?_
          refine wpIn_seq ?_
          refine wp_region_phuI hW kr_ (γ:=Unit) 9 [8] (fun (c3_:Unit) (i_:Nat)=>(match i_ with|0=>pq gl|1=>pq gl|2=>po gl 7|3=>nI_ σ.head|4=>nI_ σ.cnt|5=>nI_ (σ.head+σ.cnt)|6=>pq gl|7=>po gl 7|8=>undef|_=>undef:Value)) (fun (c3_:Unit) (p_:Nat) (w_:World)=>(match p_ with|0=>St (fun k=>k=Bx∨D k) W9 w_ [vec 5 1 (nS_) ([]:List UInt8).length (([]:List UInt8).map bv),stars ((RV++[(rv_ A145 c146 (σ.rcd++px.data))]).map recD),vec 31 1 (.slice A160 (RV.length+1) c161) (RV++[(rv_ A145 c146 (σ.rcd++px.data))]).length ((RV++[(rv_ A145 c146 (σ.rcd++px.data))]).map (·.1)),row Bx (pC_ px (some ad) c8) 165,row gl (wC_ gd l σ.head) 161,row g1 #[pq gl] 93,row g5 #[.slice A160 (RV.length+1) c161] 42,row g9 #[.slice A145 ((σ.rcd++px.data).length) c146] 31,row g24 #[nI_ (σ.idx+1)] 3,row g30 #[nI_ σ.cnt] 3]|_=>St (fun k=>k=Bx∨D k) W9 w_ [vec 5 1 (nS_) ([]:List UInt8).length (([]:List UInt8).map bv),stars ((RV++[(rv_ A145 c146 (σ.rcd++px.data))]).map recD),vec 31 1 (.slice A160 (RV.length+1) c161) (RV++[(rv_ A145 c146 (σ.rcd++px.data))]).length ((RV++[(rv_ A145 c146 (σ.rcd++px.data))]).map (·.1)),row Bx (pC_ px (some ad) c8) 165,row gl (wC_ gd l (σ.head+σ.cnt)) 161,row g1 #[pq gl] 93,row g5 #[.slice A160 (RV.length+1) c161] 42,row g9 #[.slice A145 ((σ.rcd++px.data).length) c146] 31,row g24 #[nI_ (σ.idx+1)] 3,row g30 #[nI_ σ.cnt] 3]:Prop)) () kr_ kr_ kr_ kr_ (S168.drew) ?_ ?_ ?_
          ·intro i_ c3_ p_ vals_ w1 hi_ hiE_ hp_ hk_ hu_ hPh_ hd_
           rcases i_ with _|_|_|_|_|_|_|_|_|i_
           ·skip
            rcases p_ with _|_|p_
            ·skip
             have S169:St (fun k=>k=Bx∨D k) W9 w1 [vec 5 1 (nS_) ([]:List UInt8).length (([]:List UInt8).map bv),stars ((RV++[(rv_ A145 c146 (σ.rcd++px.data))]).map recD),vec 31 1 (.slice A160 (RV.length+1) c161) (RV++[(rv_ A145 c146 (σ.rcd++px.data))]).length ((RV++[(rv_ A145 c146 (σ.rcd++px.data))]).map (·.1)),row Bx (pC_ px (some ad) c8) 165,row gl (wC_ gd l σ.head) 161,row g1 #[pq gl] 93,row g5 #[.slice A160 (RV.length+1) c161] 42,row g9 #[.slice A145 ((σ.rcd++px.data).length) c146] 31,row g24 #[nI_ (σ.idx+1)] 3,row g30 #[nI_ σ.cnt] 3]:=hPh_
             refine toldI (tG_ rfl hd_ (gv_ldR (v:=pq gl) rfl kr_ kr_ (((S169.blk 5 rfl).cell 0).trans rfl) ?_))
             exact ⟨rfl,rfl⟩
            ·skip
             exact absurd (hu_ 0 dc_ kr_) dc_
            ·exact absurd hp_ (by simp)
           ·skip
            refine toldI (tG_ rfl hd_ (gv_val (v:=pq gl) (w':=w1) kr_ ?_))
            exact ⟨rfl,rfl⟩
           ·skip
            refine toldI (tG_ rfl hd_ (gv_val (v:=po gl 7) (w':=w1) kr_ ?_))
            exact ⟨rfl,rfl⟩
           ·skip
            rcases p_ with _|_|p_
            ·skip
             have S172:St (fun k=>k=Bx∨D k) W9 w1 [vec 5 1 (nS_) ([]:List UInt8).length (([]:List UInt8).map bv),stars ((RV++[(rv_ A145 c146 (σ.rcd++px.data))]).map recD),vec 31 1 (.slice A160 (RV.length+1) c161) (RV++[(rv_ A145 c146 (σ.rcd++px.data))]).length ((RV++[(rv_ A145 c146 (σ.rcd++px.data))]).map (·.1)),row Bx (pC_ px (some ad) c8) 165,row gl (wC_ gd l σ.head) 161,row g1 #[pq gl] 93,row g5 #[.slice A160 (RV.length+1) c161] 42,row g9 #[.slice A145 ((σ.rcd++px.data).length) c146] 31,row g24 #[nI_ (σ.idx+1)] 3,row g30 #[nI_ σ.cnt] 3]:=hPh_
             refine toldI (tG_ rfl hd_ (gv_ldR (v:=nI_ σ.head) rfl kr_ kr_ (((S172.blk 4 rfl).cell 7).trans rfl) ?_))
             exact ⟨rfl,rfl⟩
            ·skip
             exact absurd (hu_ 0 dc_ kr_) dc_
            ·exact absurd hp_ (by simp)
           ·skip
            rcases p_ with _|_|p_
            ·skip
             have S173:St (fun k=>k=Bx∨D k) W9 w1 [vec 5 1 (nS_) ([]:List UInt8).length (([]:List UInt8).map bv),stars ((RV++[(rv_ A145 c146 (σ.rcd++px.data))]).map recD),vec 31 1 (.slice A160 (RV.length+1) c161) (RV++[(rv_ A145 c146 (σ.rcd++px.data))]).length ((RV++[(rv_ A145 c146 (σ.rcd++px.data))]).map (·.1)),row Bx (pC_ px (some ad) c8) 165,row gl (wC_ gd l σ.head) 161,row g1 #[pq gl] 93,row g5 #[.slice A160 (RV.length+1) c161] 42,row g9 #[.slice A145 ((σ.rcd++px.data).length) c146] 31,row g24 #[nI_ (σ.idx+1)] 3,row g30 #[nI_ σ.cnt] 3]:=hPh_
             refine toldI (tG_ rfl hd_ (gv_ldR (v:=nI_ σ.cnt) rfl kr_ kr_ (((S173.blk 9 rfl).cell 0).trans rfl) ?_))
             exact ⟨rfl,rfl⟩
            ·skip
             exact absurd (hu_ 0 dc_ kr_) dc_
            ·exact absurd hp_ (by simp)
           ·skip
            refine toldI (tG_ rfl hd_ (gv_int (k:=.i64) (z:=IntKind.i64.wrap (((σ.head:Nat):Int)+((σ.cnt:Nat):Int))) (z':=((σ.head+σ.cnt:Nat):Int)) kr_ wq_ ?_))
            exact ⟨rfl,rfl⟩
           ·skip
            refine toldI (tG_ rfl hd_ (gv_val (v:=pq gl) (w':=w1) kr_ ?_))
            exact ⟨rfl,rfl⟩
           ·skip
            refine toldI (tG_ rfl hd_ (gv_val (v:=po gl 7) (w':=w1) kr_ ?_))
            exact ⟨rfl,rfl⟩
           ·skip
            exact absurd hiE_ dc_
           ·exact absurd hi_ om_
          ·intro k_ c3_ vals_ w1 hk_ hPh_ hd_
           rcases k_ with _|k_
           ·skip
            have S177:St (fun k=>k=Bx∨D k) W9 w1 [vec 5 1 (nS_) ([]:List UInt8).length (([]:List UInt8).map bv),stars ((RV++[(rv_ A145 c146 (σ.rcd++px.data))]).map recD),vec 31 1 (.slice A160 (RV.length+1) c161) (RV++[(rv_ A145 c146 (σ.rcd++px.data))]).length ((RV++[(rv_ A145 c146 (σ.rcd++px.data))]).map (·.1)),row Bx (pC_ px (some ad) c8) 165,row gl (wC_ gd l σ.head) 161,row g1 #[pq gl] 93,row g5 #[.slice A160 (RV.length+1) c161] 42,row g9 #[.slice A145 ((σ.rcd++px.data).length) c146] 31,row g24 #[nI_ (σ.idx+1)] 3,row g30 #[nI_ σ.cnt] 3]:=hPh_
            refine toldI (tG_ rfl hd_ (gv_st (k:=7) (v:=nI_ (σ.head+σ.cnt)) S177 4 rfl rfl kr_ kr_ kr_ rfl rfl (L':=[vec 5 1 (nS_) ([]:List UInt8).length (([]:List UInt8).map bv),stars ((RV++[(rv_ A145 c146 (σ.rcd++px.data))]).map recD),vec 31 1 (.slice A160 (RV.length+1) c161) (RV++[(rv_ A145 c146 (σ.rcd++px.data))]).length ((RV++[(rv_ A145 c146 (σ.rcd++px.data))]).map (·.1)),row Bx (pC_ px (some ad) c8) 165,row gl (wC_ gd l (σ.head+σ.cnt)) 161,row g1 #[pq gl] 93,row g5 #[.slice A160 (RV.length+1) c161] 42,row g9 #[.slice A145 ((σ.rcd++px.data).length) c146] 31,row g24 #[nI_ (σ.idx+1)] 3,row g30 #[nI_ σ.cnt] 3]) rfl (fun w178 S179=> ?_)))
            refine ⟨(),rfl, ?_,S179⟩
            intro i_ hi_ hne_ hdp_
            rcases i_ with _|_|_|_|_|_|_|_|_|i_
            ·rfl
            ·rfl
            ·rfl
            ·rfl
            ·rfl
            ·rfl
            ·rfl
            ·rfl
            ·exact absurd rfl hne_
            ·exact absurd hi_ om_
           ·exact absurd hk_ (by simp)
          ·intro c3_ w1 hPh_
           have S180:St (fun k=>k=Bx∨D k) W9 w1 [vec 5 1 (nS_) ([]:List UInt8).length (([]:List UInt8).map bv),stars ((RV++[(rv_ A145 c146 (σ.rcd++px.data))]).map recD),vec 31 1 (.slice A160 (RV.length+1) c161) (RV++[(rv_ A145 c146 (σ.rcd++px.data))]).length ((RV++[(rv_ A145 c146 (σ.rcd++px.data))]).map (·.1)),row Bx (pC_ px (some ad) c8) 165,row gl (wC_ gd l (σ.head+σ.cnt)) 161,row g1 #[pq gl] 93,row g5 #[.slice A160 (RV.length+1) c161] 42,row g9 #[.slice A145 ((σ.rcd++px.data).length) c146] 31,row g24 #[nI_ (σ.idx+1)] 3,row g30 #[nI_ σ.cnt] 3]:=hPh_
           refine wI_ ?_
           refine then_n ?_
           refine wpIn_region_lit ?_
           refine gI_ hW (gv_st (k:=0) (v:=nS_) S180 7 rfl rfl kr_ kr_ kr_ rfl rfl (L':=[vec 5 1 (nS_) ([]:List UInt8).length (([]:List UInt8).map bv),stars ((RV++[(rv_ A145 c146 (σ.rcd++px.data))]).map recD),vec 31 1 (.slice A160 (RV.length+1) c161) (RV++[(rv_ A145 c146 (σ.rcd++px.data))]).length ((RV++[(rv_ A145 c146 (σ.rcd++px.data))]).map (·.1)),row Bx (pC_ px (some ad) c8) 165,row gl (wC_ gd l (σ.head+σ.cnt)) 161,row g1 #[pq gl] 93,row g5 #[.slice A160 (RV.length+1) c161] 42,row g9 #[nS_] 31,row g24 #[nI_ (σ.idx+1)] 3,row g30 #[nI_ σ.cnt] 3]) rfl (fun w181 S182=> ?_))
           refine gI_ hW (gv_st (k:=0) (v:=iv 0) S182 8 rfl rfl kr_ kr_ kr_ rfl rfl (L':=[vec 5 1 (nS_) ([]:List UInt8).length (([]:List UInt8).map bv),stars ((RV++[(rv_ A145 c146 (σ.rcd++px.data))]).map recD),vec 31 1 (.slice A160 (RV.length+1) c161) (RV++[(rv_ A145 c146 (σ.rcd++px.data))]).length ((RV++[(rv_ A145 c146 (σ.rcd++px.data))]).map (·.1)),row Bx (pC_ px (some ad) c8) 165,row gl (wC_ gd l (σ.head+σ.cnt)) 161,row g1 #[pq gl] 93,row g5 #[.slice A160 (RV.length+1) c161] 42,row g9 #[nS_] 31,row g24 #[iv 0] 3,row g30 #[nI_ σ.cnt] 3]) rfl (fun w183 S184=> ?_))
           refine wI_ ?_
           refine inb_n ?_
           have S185:=St.pm 10 [3,4,5,6,7,8,9,2,1,0] S184
           have hglc:w183.cell? ⟨gl,2,none⟩=some (iv (l.n:Nat))∧w183.cell? ⟨gl,4,none⟩=some (iv (l.epoch:Nat))∧w183.cell? ⟨gl,6,none⟩=some (iv (l.tail:Nat)):=⟨((S185.blk 1 rfl).cell 2).trans rfl,((S185.blk 1 rfl).cell 4).trans rfl,((S185.blk 1 rfl).cell 6).trans rfl⟩
           have hgl9:W9.cell? ⟨gl,2,none⟩=some (iv (l.n:Nat))∧W9.cell? ⟨gl,4,none⟩=some (iv (l.epoch:Nat))∧W9.cell? ⟨gl,6,none⟩=some (iv (l.tail:Nat)):=⟨((T3.blk 1 rfl).cell 2).trans rfl,((T3.blk 1 rfl).cell 4).trans rfl,((T3.blk 1 rfl).cell 6).trans rfl⟩
           have hkp:KpR b1 b2 gl gr W9 w183:=fun a ha=>by
            rcases ha with h|h|h|h|h|h
            ·exact Fr.cellK S185.fr (by rw [h];exact hnB b1 hb1 hn1) om_
            ·exact Fr.cellK S185.fr (by rw [h];exact hnB b2 hb2 hn2) om_
            ·exact Fr.cellK S185.fr (by rw [h];exact hnB gr hgr hnr) om_
            ·subst h;exact hglc.1.trans hgl9.1.symm
            ·subst h;exact hglc.2.1.trans hgl9.2.1.symm
            ·subst h;exact hglc.2.2.trans hgl9.2.2.symm
           have hst:scStep σ px=some ⟨σ.recs++[σ.rcd++px.data],[],0,σ.cnt,σ.head+σ.cnt⟩:=by unfold scStep;rw [hcn];rw [if_neg om_,if_neg om_,if_pos om_]
           refine ⟨St.keepsFrom S185 hDc,hkp,⟨σ.recs++[σ.rcd++px.data],[],0,σ.cnt,σ.head+σ.cnt⟩,RV++[(rv_ A145 c146 (σ.rcd++px.data))],.slice A160 (RV.length+1) c161,nS_, ?_, ?_, ?_,St.unbase T (St.tail S185) hD2⟩
           ·rw [pcsOf,List.map_append];show scRun _ (pcsOf pre++[px])=_;rw [scRun_snoc,e1];exact hst
           ·rw [List.map_append,e2];rfl
           ·rw [List.length_append];exact e3.step q5 hst
         ·skip
          refine wI_ ?_
          refine then_n ?_
          refine wpIn_cond_false kr_ ?_
          refine wpIn_skip ?_
          refine inb_n ?_
          have S186:=St.pm 10 [1,2,3,4,5,6,7,8,9,0] S150
          have hglc:w149.cell? ⟨gl,2,none⟩=some (iv (l.n:Nat))∧w149.cell? ⟨gl,4,none⟩=some (iv (l.epoch:Nat))∧w149.cell? ⟨gl,6,none⟩=some (iv (l.tail:Nat)):=⟨((S186.blk 1 rfl).cell 2).trans rfl,((S186.blk 1 rfl).cell 4).trans rfl,((S186.blk 1 rfl).cell 6).trans rfl⟩
          have hgl9:W9.cell? ⟨gl,2,none⟩=some (iv (l.n:Nat))∧W9.cell? ⟨gl,4,none⟩=some (iv (l.epoch:Nat))∧W9.cell? ⟨gl,6,none⟩=some (iv (l.tail:Nat)):=⟨((T3.blk 1 rfl).cell 2).trans rfl,((T3.blk 1 rfl).cell 4).trans rfl,((T3.blk 1 rfl).cell 6).trans rfl⟩
          have hkp:KpR b1 b2 gl gr W9 w149:=fun a ha=>by
           rcases ha with h|h|h|h|h|h
           ·exact Fr.cellK S186.fr (by rw [h];exact hnB b1 hb1 hn1) om_
           ·exact Fr.cellK S186.fr (by rw [h];exact hnB b2 hb2 hn2) om_
           ·exact Fr.cellK S186.fr (by rw [h];exact hnB gr hgr hnr) om_
           ·subst h;exact hglc.1.trans hgl9.1.symm
           ·subst h;exact hglc.2.1.trans hgl9.2.1.symm
           ·subst h;exact hglc.2.2.trans hgl9.2.2.symm
          have hst:scStep σ px=some ⟨σ.recs,σ.rcd++px.data,σ.idx+1,σ.cnt,σ.head⟩:=by unfold scStep;rw [hcn];rw [if_neg om_,if_neg om_,if_neg om_]
          refine ⟨St.keepsFrom S186 hDc,hkp,⟨σ.recs,σ.rcd++px.data,σ.idx+1,σ.cnt,σ.head⟩,RV,v5,.slice A145 (σ.rcd++px.data).length c146, ?_, ?_, ?_,St.unbase T (St.tail S186) hD2⟩
          ·rw [pcsOf,List.map_append];show scRun _ (pcsOf pre++[px])=_;rw [scRun_snoc,e1];exact hst
          ·exact e2
          ·rw [List.length_append];exact e3.step q5 hst
  ·skip
   rintro D9 xs W9 hD9 ⟨hro,hnf⟩ ⟨σ,RV,v5,v6,e1,e2,e3,T⟩ hdf
   have hinv:=scRun_inv xs.length (pcsOf xs) (List.length_map ..) hro e1
   have hno:=hinv.last hnf
   have hrecs:=hinv.recs
   rw [←e2] at hrecs
   have T3:St D1 wl W9 [row gl (wC_ gd l σ.head) 161,row g1 #[pq gl] 93,row g5 #[v5] 42,row g9 #[v6] 31,row g24 #[nI_ σ.idx] 3,row g30 #[nI_ σ.cnt] 3,vec 31 1 v5 RV.length (RV.map (·.1)),stars (RV.map recD),vec 5 1 v6 σ.rcd.length (σ.rcd.map bv)]:=T
   have hW:=wide_wide
   refine inb_n ?_
   refine then_n ?_
   refine wpIn_seq ?_
   refine wpIn_region_lit ?_
   refine gI_ hW (gv_ldR (v:=v5) rfl kr_ kr_ (((T3.blk 2 rfl).cell 0).trans rfl) ?_)
   refine gI_ hW (gV v5 ?_)
   refine wEI (frD D9 [pq gl,sl gr 0 l.n l.n,pq g1,ud,v5,pq g5,pq g9,pq g24,pq g30,ud,ud,pq gl,pq gl,pq gl,po gl 6,nI_ l.tail,pq gl,po gl 7,pq gl,sl gr 0 l.n l.n,.func (.func 150) #[] #[pq b1,pq b2],ud,ud,ud,ud,ud,ud,ud,ud,ud,ud,ud,ud,ud,ud,ud,ud,ud,ud,ud,ud,ud,ud,ud,ud,ud,ud,ud,ud,ud,ud,ud,ud,ud,ud,ud,ud,ud,ud,ud,ud,ud,ud,ud,ud,ud,ud,ud,ud,ud,ud,ud,ud,ud,ud,ud,ud,ud,ud,v5] 0) ?_
   refine then_n ?_
   refine wpIn_ret ?_
   refine noG_r ?_
   refine leave_mark (v:=v5) hdf (fun w_=>results_t1 rfl kr_) ?_
   have T8:St D1 wl (W9.putObj D9 (.deferred none)) (scanL gl gd g1 g5 g9 g24 g30 l σ RV v5 v6):=St.ownFrom T (scanL_cel _ _ _ _ _ _ _ _ _ _ _ _) (Nat.le_refl _) (grownBy_putObj' W9 D9 (.deferred none)) (fun k h=>by cases h;exact ⟨hD9,_,hdf,rfl⟩)
   have T9:=St.mergeA hS T8 hO hdis hF1 hF2
   exact ⟨v5,RV,σ.head,rfl,hrecs,hno,St.pm 13 [6,7,0,11,12] T9⟩
  ·skip
   rintro D9 c_ xs W9 hD9 hro ⟨p0,x,σ,RV,v5,v6,cn,rfl,rfl,e1,hst,e2,T⟩ hdf
   have hro0:RowOf pc l.epoch l.tail (pcsOf p0):=fun j y hy=>hro j y (by rw [pcsOf,List.map_append,List.getElem?_append_left (List.getElem?_eq_some_iff.1 hy).1];exact hy)
   have hinv:=scRun_inv p0.length (pcsOf p0) (List.length_map ..) hro0 e1
   have hxe:=(hro p0.length x.1.1 (by rw [pcsOf,List.map_append,List.getElem?_append_right (by simp)];simp)).1
   rw [hxe] at hst
   have hno:=hinv.stop hst
   have hrecs:=hinv.recs
   rw [←e2] at hrecs
   have T3:St D1 wl W9 [row gl (wC_ gd l σ.head) 161,row g1 #[pq gl] 93,row g5 #[v5] 42,row g9 #[v6] 31,row g24 #[nI_ σ.idx] 3,row g30 #[nI_ cn] 3,vec 31 1 v5 RV.length (RV.map (·.1)),stars (RV.map recD),vec 5 1 v6 σ.rcd.length (σ.rcd.map bv)]:=T
   have hW:=wide_wide
   refine wpIn_exit ?_
   refine inb_x ?_
   refine then_n ?_
   refine wpIn_seq ?_
   refine wpIn_region_lit ?_
   refine gI_ hW (gv_ldR (v:=v5) rfl kr_ kr_ (((T3.blk 2 rfl).cell 0).trans rfl) ?_)
   refine gI_ hW (gV v5 ?_)
   refine wEI (frD D9 [pq gl,sl gr 0 l.n l.n,pq g1,ud,v5,pq g5,pq g9,pq g24,pq g30,ud,ud,pq gl,pq gl,pq gl,po gl 6,nI_ l.tail,pq gl,po gl 7,pq gl,sl gr 0 l.n l.n,.func (.func 150) #[] #[pq b1,pq b2],ud,ud,ud,ud,ud,ud,ud,ud,ud,ud,ud,ud,ud,ud,ud,ud,ud,ud,ud,ud,ud,ud,ud,ud,ud,ud,ud,ud,ud,ud,ud,ud,ud,ud,ud,ud,ud,ud,ud,ud,ud,ud,ud,ud,ud,ud,ud,ud,ud,ud,ud,ud,ud,ud,ud,ud,ud,ud,v5] 0) ?_
   refine then_n ?_
   refine wpIn_ret ?_
   refine noG_r ?_
   refine leave_mark (v:=v5) hdf (fun w_=>results_t1 rfl kr_) ?_
   have T8:St D1 wl (W9.putObj D9 (.deferred none)) (scanL gl gd g1 g5 g9 g24 g30 l ({σ with cnt:=cn}) RV v5 v6):=St.ownFrom T (scanL_cel _ _ _ _ _ _ _ _ _ _ _ _) (Nat.le_refl _) (grownBy_putObj' W9 D9 (.deferred none)) (fun k h=>by cases h;exact ⟨hD9,_,hdf,rfl⟩)
   have T9:=St.mergeA hS T8 hO hdis hF1 hF2
   exact ⟨v5,RV,σ.head,rfl,hrecs,hno,St.pm 13 [6,7,0,11,12] T9⟩
theorem w_scan {F:Nat→Prop}{w0 w:World}{L:List Ast}{gl gd gr:Nat}{l:Lg}{M:List PcV}{pc:Nat→Pc}(S:St F w0 w (PLog gl gd l::row gr (pcRow M) 165::stars (M.map pcD)::L))(hl:LOk l)(hM:M.length=l.n)(hpc:∀j x,M[j]?=some x→x.1=pc j∧∃A c,x.2=.slice A x.1.data.length c)(hper:∀p,pc (p+l.n)=pc p)(hlt:∀p,(pc p).epoch<4294967296∧(pc p).pos<4294967296∧(pc p).idx<4294967296∧(pc p).cnt<4294967296)(hd492:∀p,(pc p).data.length≤492):Calls Try.prog 112 #[.pointer (some ⟨gl,0,none⟩),.slice (some ⟨gr,0,none⟩) l.n l.n] w fun e w'=>∃(v:Value) (RV:List RecV) (h:Nat),e=.returned v∧Recs pc l.epoch l.tail (RV.map (·.2)) h∧NoRec pc l.epoch h∧St F w0 w' (vec 31 1 v RV.length (RV.map (·.1))::stars (RV.map recD)::PLog gl gd {l with head:=h}::row gr (pcRow M) 165::stars (M.map pcD)::L):=callsIn_wide.1 (w_scan_in S hl hM hpc hper hlt hd492)
end Go.Proofs
end
