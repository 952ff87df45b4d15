/- Part 5 of 5 of what the proof stands on: the words, the laws of the walk, the walks, the plain laws; each section is one text. -/
import Derived.Test.YtgeioealgidkiaaM4
import Derived.Deep.Slices
import Derived.ChangeArms
import Derived.SizedLaws
section
open Go Go.RowKit Go.Proofs.YtgeioealgidkiaaW.PrintWords Go.Proofs.YtgeioealgidkiaaW.PrintMore
namespace Go.Proofs.Cnt
open Go.Vel
set_option linter.unusedVariables false
set_option maxRecDepth 100000
set_option maxHeartbeats 4000000
attribute [local irreducible] gives wpList Code.wp
theorem w_appendN {F:Nat→Prop}{w0 w:World}{L:List Ast}{B g gd k:Nat}{l:Lg}{s:Dsk}{rf:Int}(S:St F w0 w (PLog g gd l::PN B gd s::L))(hN:NInv k s l rf){cd m:Nat}{A:Option Addr}{d:List UInt8}(hm:m=d.length)(hd:RoT F w0 L A d)(hcap:d.length≤cd)(hdm:d.length≤140737488355328):Calls Try.prog 57 #[.pointer (some ⟨g,0,none⟩),.slice A m cd] w fun e w'=>e=.returned (.int .i64 (appendR s l d).2.2)∧St F w0 w' (PLog g gd ((appendR s l d).2.1)::PN (B+17) gd ((appendR s l d).1)::L):=by
 subst hm
 have hp:=hN.inv.pend
 exact w_append S hN.lg.ok hN.lg.hd hd hcap hdm (fun _=>hN.lg.fit) om_
theorem w_sparing {F:Nat→Prop}{w0 w:World}{L:List Ast}{B gd:Nat}{s:Dsk}{last:List (List UInt8)}{life first n:Int}(S:St F w0 w (PN B gd s::L))(hC:Calm s last life)(hlf:0≤life∧life<900)(hB:B≤10000)(ha:argsR s first n=0):Calls Try.prog 77 #[.pointer (some ⟨gd,0,none⟩),.int .i64 first,.int .i64 n] w fun e w'=>e=.returned (.bool true)∧St F w0 w' L:=by
 obtain ⟨hz,hf0,hm18,hm256,hin⟩:=argsR_ok ha
 refine eN (fr [pq gd,iv first,iv n] 80) Try.func77 rfl (sR (pv fv (wER (pv (pq gd) (g_ (gv_call (args:=#[pq gd]) rfl Try.func17 kr_ rfl rfl kr_ (Calls.mono (pw_counts S om_) ?_)))))))
 rintro _ w3 hh
 obtain ⟨m1,hr2,rfl,S4⟩:=hh
 refine ⟨_,rfl,(nW rfl (.agg #[iv 0,iv 0,iv 0,iv 0,iv 0]) S4 fun g5 w6 hg7 S8=>g_ (gv_stA (k:=0) (vs:=[nI_ m1,iv s.wr,iv s.fl,iv s.rf,iv (s.pend.length:Int)]) S8 0 rfl rfl kr_ kr_ kr_ rfl (by simp [Value.oneCell']) (Nat.le_of_ble_eq_true kr_) (L':=(row g5 #[nI_ m1,iv s.wr,iv s.fl,iv s.rf,iv (s.pend.length:Int)] 29::PN m1 gd s::L)) rfl (fun w9 S10=>wER (pv (pq gd) (pv (iv first) (pv (iv n) (g_ (gv_call (args:=#[pq gd,iv first,iv n]) rfl Try.func61 kr_ rfl rfl kr_ ?_))))))))⟩
 have S11:=St.pm 2 [1,0] S10
 refine Calls.mono (w_open_go S11 ha) ?_
 rintro e_ w12 hh
 rcases hh with ⟨hno,rfl,S13⟩|⟨ep,tl,hgood,hworn,rfl,S13⟩|⟨ep,tl,gl,v,RV,hd,hgood,hnw,hR1,hR2,rfl,S13⟩
 ·refine ⟨_,rfl,(pv (.tuple #[pn,.slice none 0 0,iv 6]) (pv pn (pv (.slice none 0 0) (pv (iv 6) (pv pn (pv (.slice none 0 0) (pv (iv 6) (wE (nS (sR (pv (iv 6) (dN 6 0 (fun _=>pv tv ?_) fun hd14=>False.elim om_))))))))))))⟩
  refine wN (wN (pv tv (wE (nCT (wp_seq (wp_region_phu (γ:=Nat) 6 [1] (fun (c_:Nat) (i_:Nat)=>(match i_ with|0=>pq gd|1=>.agg #[nI_ c_,iv s.take.wr,iv s.take.fl,iv s.take.rf,iv (s.take.pend.length:Int)]|2=>iv s.take.rf|3=>po g5 3|4=>iv s.rf|5=>.bool true|_=>undef:Value)) (fun (c_:Nat) (p_:Nat) (w_:World)=>(match p_ with|0=>St F w0 w_ (PN (m1+(n.toNat+2)) gd s.take::row g5 #[nI_ m1,iv s.wr,iv s.fl,iv s.rf,iv (s.pend.length:Int)] 29::L)|_=>St F w0 w_ (PN c_ gd s.take::row g5 #[nI_ m1,iv s.wr,iv s.fl,iv s.rf,iv (s.pend.length:Int)] 29::L):Prop)) (0) kr_ kr_ kr_ kr_ (S13.drew) ?_ ?_ ?_))))))
  ·intro i_ c_ p_ vals_ w1 hi_ hiE_ hp_ hk_ hu_ hPh_ hd_
   rcases i_ with _|_|_|_|_|_|i_
   ·exact tG_ rfl hd_ (gV (pq gd) ⟨rfl,rfl⟩)
   ·exact absurd hiE_ dc_
   ·exact tG_ rfl hd_ (gV (iv s.take.rf) ⟨rfl,rfl⟩)
   ·exact tG_ rfl hd_ (gV (po g5 3) ⟨rfl,rfl⟩)
   ·rcases p_ with _|_|p_
    ·have S18:=St.id hPh_
     exact tG_ rfl hd_ (gL (iv s.rf) rfl (((S18.blk 1 rfl).cell 3).trans rfl) ⟨rfl,rfl⟩)
    ·have S19:=St.id hPh_
     exact tG_ rfl hd_ (gL (iv s.rf) rfl (((S19.blk 1 rfl).cell 3).trans rfl) ⟨rfl,rfl⟩)
    ·exact absurd hp_ (by simp)
   ·exact tG_ rfl hd_ (gB_ (b:=s.take.rf==s.rf) (b':=true) kr_ (by show ((s.rf:Int)==s.rf)=true;simp) ⟨rfl,rfl⟩)
   ·exact absurd hi_ om_
  ·intro k_ c_ vals_ w1 hk_ hPh_ hd_
   rcases k_ with _|k_
   ·have S21:=St.id hPh_
    refine tG_ rfl hd_ (gv_call (args:=#[pq gd]) rfl Try.func17 kr_ rfl rfl kr_ (Calls.mono (pw_counts S21 om_) ?_))
    rintro _ w24 hh
    obtain ⟨m22,hr23,rfl,S25⟩:=hh
    refine ⟨_,rfl,⟨(m22),rfl, ?_,S25⟩⟩
    intro i_ hi_ hne_ hdp_
    rcases i_ with _|_|_|_|_|_|i_
    ·rfl
    ·exact absurd rfl hne_
    ·exact (dep_no hdp_ kr_).elim
    ·rfl
    ·rfl
    ·exact (dep_no hdp_ kr_).elim
    ·exact absurd hi_ om_
   ·exact absurd hk_ (by simp)
  ·intro c_ w1 hPh_
   have S26:=St.id hPh_
   refine (pv tv (wE (then_n (rR (bA (.bool true) ?_)))))
   have S27:=St.pm 2 [] S26
   exact ⟨rfl,S27⟩
 ·refine ⟨_,rfl,(pv (.tuple #[pn,.slice none 0 0,iv 41]) (pv pn (pv (.slice none 0 0) (pv (iv 41) (pv pn (pv (.slice none 0 0) (pv (iv 41) (wE (nS (sR (pv (iv 41) (dN 41 0 (fun _=>pv tv ?_) fun hd28=>False.elim om_))))))))))))⟩
  refine wN (wN (pv tv (wE (nCT (wp_seq (wp_region_phu (γ:=Nat) 6 [1] (fun (c2_:Nat) (i_:Nat)=>(match i_ with|0=>pq gd|1=>.agg #[nI_ c2_,iv s.take.wr,iv s.take.fl,iv s.take.rf,iv (s.take.pend.length:Int)]|2=>iv s.take.rf|3=>po g5 3|4=>iv s.rf|5=>.bool true|_=>undef:Value)) (fun (c2_:Nat) (p_:Nat) (w_:World)=>(match p_ with|0=>St F w0 w_ (PN (m1+(n.toNat+2)) gd s.take::row g5 #[nI_ m1,iv s.wr,iv s.fl,iv s.rf,iv (s.pend.length:Int)] 29::L)|_=>St F w0 w_ (PN c2_ gd s.take::row g5 #[nI_ m1,iv s.wr,iv s.fl,iv s.rf,iv (s.pend.length:Int)] 29::L):Prop)) (0) kr_ kr_ kr_ kr_ (S13.drew) ?_ ?_ ?_))))))
  ·intro i_ c2_ p_ vals_ w1 hi_ hiE_ hp_ hk_ hu_ hPh_ hd_
   rcases i_ with _|_|_|_|_|_|i_
   ·exact tG_ rfl hd_ (gV (pq gd) ⟨rfl,rfl⟩)
   ·exact absurd hiE_ dc_
   ·exact tG_ rfl hd_ (gV (iv s.take.rf) ⟨rfl,rfl⟩)
   ·exact tG_ rfl hd_ (gV (po g5 3) ⟨rfl,rfl⟩)
   ·rcases p_ with _|_|p_
    ·have S32:=St.id hPh_
     exact tG_ rfl hd_ (gL (iv s.rf) rfl (((S32.blk 1 rfl).cell 3).trans rfl) ⟨rfl,rfl⟩)
    ·have S33:=St.id hPh_
     exact tG_ rfl hd_ (gL (iv s.rf) rfl (((S33.blk 1 rfl).cell 3).trans rfl) ⟨rfl,rfl⟩)
    ·exact absurd hp_ (by simp)
   ·exact tG_ rfl hd_ (gB_ (b:=s.take.rf==s.rf) (b':=true) kr_ (by show ((s.rf:Int)==s.rf)=true;simp) ⟨rfl,rfl⟩)
   ·exact absurd hi_ om_
  ·intro k_ c2_ vals_ w1 hk_ hPh_ hd_
   rcases k_ with _|k_
   ·have S35:=St.id hPh_
    refine tG_ rfl hd_ (gv_call (args:=#[pq gd]) rfl Try.func17 kr_ rfl rfl kr_ (Calls.mono (pw_counts S35 om_) ?_))
    rintro _ w38 hh
    obtain ⟨m36,hr37,rfl,S39⟩:=hh
    refine ⟨_,rfl,⟨(m36),rfl, ?_,S39⟩⟩
    intro i_ hi_ hne_ hdp_
    rcases i_ with _|_|_|_|_|_|i_
    ·rfl
    ·exact absurd rfl hne_
    ·exact (dep_no hdp_ kr_).elim
    ·rfl
    ·rfl
    ·exact (dep_no hdp_ kr_).elim
    ·exact absurd hi_ om_
   ·exact absurd hk_ (by simp)
  ·intro c2_ w1 hPh_
   have S40:=St.id hPh_
   refine (pv tv (wE (then_n (rR (bA (.bool true) ?_)))))
   have S41:=St.pm 2 [] S40
   exact ⟨rfl,S41⟩
 ·obtain ⟨Av,cv,rfl⟩:=St.vec_val S13
  have hN0:=hC.log om_ ha hgood hnw hR1
  refine ⟨_,rfl,(pv (.tuple #[pq gl,.slice Av RV.length cv,iv 0]) (pv (pq gl) (pv (.slice Av RV.length cv) (pv (iv 0) (pv (pq gl) (pv (.slice Av RV.length cv) (pv (iv 0) (wE (nS (sR (pv (iv 0) (dN 0 0 (fun hd42=>False.elim (hd42 rfl)) fun _=>pv fv ?_))))))))))))⟩
  refine pW (pq gl) (pW (.bool false) (pv fv (wE (nCF (wp_skip (nS (sR (pv (iv 0) (wE (then_n (wp_block ?_)))))))))))
  have S43:=St.pm 5 [3,0,1,2,4] S13
  have S44:St F w0 w12 (PN (m1+2*(n.toNat+2)) gd s.take.flushR.1::vec 31 1 (.slice Av RV.length cv) RV.length (RV.map (fun x:RecV=>x.1))::stars (RV.map recD)::PLog gl gd ⟨first.toNat,n.toNat,inc s.life,ep,topTo (pcAt s.take first.toNat n.toNat) ep n.toNat,tl,hd,false⟩::row g5 #[nI_ m1,iv s.wr,iv s.fl,iv s.rf,iv (s.pend.length:Int)] 29::L):=St.pnle om_ S43
  have S45:=St.pm 5 [4,3,0] S44
  refine wp_loop_g (G:=Nat×Nat×Dsk×Lg×Int×Int×Int×Int) (fun (g_:Nat×Nat×Dsk×Lg×Int×Int×Int×Int) (a_:Act) (w_:World)=>∃J:Nat→Value,a_=(fr ([pq gd,iv first,iv n,ud,ud,ud,J 6,pq g5,pq gl,.slice Av RV.length cv,iv 0,nI_ g_.1,J 12,pq gd,.agg #[nI_ m1,iv s.wr,iv s.fl,iv s.rf,iv (s.pend.length:Int)],.tuple #[pq gl,.slice Av RV.length cv,iv 0],pq gd,iv first,iv n,.tuple #[pq gl,.slice Av RV.length cv,iv 0],pq gl,.slice Av RV.length cv,iv 0,iv 0,fv,fv,pq gl,fv,fv,ud,ud,ud,ud,ud,ud]++jR J 35 48) 0)∧St F w0 w_ (row g5 #[nI_ g_.2.1,iv g_.2.2.2.2.1,iv g_.2.2.2.2.2.1,iv g_.2.2.2.2.2.2.1,iv g_.2.2.2.2.2.2.2] 29::PLog gl gd g_.2.2.2.1::PN (g_.2.1+2*(n.toNat+2)) gd g_.2.2.1::L)∧(g_.1≤7∧g_.2.1≤20000+600*g_.1∧g_.2.2.2.2.2.2.1=0∧NInv (1001+g_.1) g_.2.2.1 g_.2.2.2.1 0)) (fun g_=>7-g_.1) (0,m1,s.take.flushR.1,⟨first.toNat,n.toNat,inc s.life,ep,topTo (pcAt s.take first.toNat n.toNat) ep n.toNat,tl,hd,false⟩,s.wr,s.fl,s.rf,(s.pend.length:Int)) (jE_ ⟨S45,⟨Nat.zero_le _,by show m1≤20000+600*0;omega,hC.rf,hN0⟩⟩) ?_
  rintro ⟨j,b,s2,l2,x1,x2,x3,x4⟩ a_ w46 ⟨J,rfl,S47,⟨hj1,hb1,hx3,hN⟩⟩
  skip
  have S47:St F w0 w46 (row g5 #[nI_ b,iv x1,iv x2,iv x3,iv x4] 29::PLog gl gd l2::PN (b+2*(n.toNat+2)) gd s2::L):=S47
  refine wp_seq (sR (pv (nI_ j) (dC ((((j:Nat):Int):Int)<7) (fun hb49=> ?_) fun hb49=> ?_)))
  ·have hN:NInv (1001+j) s2 l2 0:=hN
   have hb1:b≤20000+600*j:=hb1
   have hx3:x3=0:=hx3
   have hpN:=hN.inv.pend
   have hfN:=hN.lg.fit
   have hnN:=hN.lg.ok.n0
   refine wE (nCT (wp_skip (nS (wp_block (sR (pv (pq gd) (g_ (gv_call (args:=#[pq gd]) rfl Try.func17 kr_ rfl rfl kr_ ?_))))))))
   have S50:=St.pm 3 [2,0,1] S47
   refine Calls.mono (pw_counts S50 om_) ?_
   rintro _ w53 hh
   obtain ⟨m51,hr52,rfl,S54⟩:=hh
   refine ⟨_,rfl,(nW rfl (.agg #[iv 0,iv 0,iv 0,iv 0,iv 0]) S54 fun g55 w56 hg57 S58=>g_ (gv_stA (k:=0) (vs:=[nI_ m51,iv s2.wr,iv s2.fl,iv s2.rf,iv (s2.pend.length:Int)]) S58 0 rfl rfl kr_ kr_ kr_ rfl (by simp [Value.oneCell']) (Nat.le_of_ble_eq_true kr_) (L':=(row g55 #[nI_ m51,iv s2.wr,iv s2.fl,iv s2.rf,iv (s2.pend.length:Int)] 29::PN m51 gd s2::row g5 #[nI_ b,iv x1,iv x2,iv x3,iv x4] 29::PLog gl gd l2::L)) rfl (fun w59 S60=>wE (nS (sR (pv (pq g55) (lR (nI_ m51) S60 0 0 (pv (pq g5) (lR (nI_ b) S60 2 0 (gI .i64 (IntKind.i64.wrap (((m51:Nat):Int)-((b:Nat):Int))) (((m51:Nat):Int)-((b:Nat):Int)) (wr_ok om_ om_) (pv (iv n) (gI .i64 (IntKind.i64.wrap (n+2)) (n+2) (wr_ok om_ om_) (gI .i64 (IntKind.i64.wrap (2*(n+2))) (2*(n+2)) (wr_ok om_ om_) ?_)))))))))))))⟩
   refine dC ((((m51:Nat):Int)-((b:Nat):Int):Int)>(2*(n+2))) (fun hd61=>False.elim om_) fun _=>pv fv (pW (po g55 3) (wl_when kr_ (gv_ldR (v:=iv s2.rf) rfl kr_ kr_ (((S60.blk 0 rfl).cell 3).trans rfl) (pW (po g5 3) (wl_when kr_ (gv_ldR (v:=iv x3) rfl kr_ kr_ (((S60.blk 2 rfl).cell 3).trans rfl) (wl_when kr_ (gv_ne (x:=s2.rf) (y:=x3) kr_ (fun hd62=>False.elim (hd62 (hN.rf.trans hx3.symm))) (fun _=>pv fv (wE (nCF (wp_skip (nSR (g_ (gv_ldA (k:=0) (n:=5) (vs:=[nI_ m51,iv s2.wr,iv s2.fl,iv s2.rf,iv (s2.pend.length:Int)]) S60 0 rfl rfl kr_ kr_ rfl rfl ?_)))))))))))))))
   refine g_ (gv_stA (k:=0) (vs:=[nI_ m51,iv s2.wr,iv s2.fl,iv s2.rf,iv (s2.pend.length:Int)]) S60 2 rfl rfl kr_ kr_ kr_ rfl (by simp [Value.oneCell']) (Nat.le_of_ble_eq_true kr_) (L':=(row g55 #[nI_ m51,iv s2.wr,iv s2.fl,iv s2.rf,iv (s2.pend.length:Int)] 29::PN m51 gd s2::row g5 #[nI_ m51,iv s2.wr,iv s2.fl,iv s2.rf,iv (s2.pend.length:Int)] 29::PLog gl gd l2::L)) rfl (fun w63 S64=>wER (pv (nI_ j) (wE (then_n (wp_block (sR (dE ((j:Nat):Int) 0 (fun hb65=> ?_) fun hb65=> ?_))))))))
   ·refine pv tv (wE (nCT (wp_region_lit (pv (pq gl) (g_ (gv_call (args:=#[pq gl]) rfl Try.func71 kr_ rfl rfl kr_ ?_))))))
    have S66:=St.pm 4 [3,1,0,2] S64
    refine Calls.mono (w_start S66 hN.lg.ok om_ om_ hN.hstart) ?_
    rintro _ w67 ⟨rfl,S68⟩
    refine ⟨_,rfl, ?_⟩
    have hN9:=hN.start (St.pw_ok (L:=[]) (S68.mem 1 rfl))
    refine wE (inb_n (inb_n (nR (pv (nI_ j) (gI .i64 (IntKind.i64.wrap (((j:Nat):Int)+1)) ((j+1:Nat):Int) (wr_eq om_ om_ om_) (pv (nI_ (j+1)) (wE (then_n ?_))))))))
    have S69:=St.pm 4 [1,0,2,3] S68
    have S70:St F w0 w67 (PN (m51+2*(n.toNat+2)) gd (startR s2 l2).1::PLog gl gd (startR s2 l2).2.1::row g55 #[nI_ m51,iv s2.wr,iv s2.fl,iv s2.rf,iv (s2.pend.length:Int)] 29::row g5 #[nI_ m51,iv s2.wr,iv s2.fl,iv s2.rf,iv (s2.pend.length:Int)] 29::L):=St.pnle om_ S69
    have S71:=St.pm 4 [3,1,0] S70
    exact ⟨(j+1,m51,(startR s2 l2).1,(startR s2 l2).2.1,s2.wr,s2.fl,s2.rf,(s2.pend.length:Int)),(jE_ ⟨S71,⟨by show j+1≤7;omega,by show m51≤20000+600*(j+1);omega,hN.rf,hN9⟩⟩),(by show 7-(j+1)<7-j;omega)⟩
   ·refine pv fv (wE (nCF (sR (dE ((j:Nat):Int) 1 (fun hb72=> ?_) fun hb72=> ?_))))
    ·refine pv tv (wE (nCT (wp_region_lit (pv (pq gl) (g_ (gv_slit (e:=5) (sz:=1) (z:=.int .u8 0) (by_:=1) (vs:=#[(0,.int .u8 1)]) (cells:=#[.int .u8 1]) S64 rfl kr_ ⟨by kernel_rfl⟩ kr_ kr_ kr_ kr_ (fun g73 w74 hg75 S76=>g_ (gv_call (args:=#[pq gl,sl g73 0 1 1]) rfl Try.func57 kr_ rfl rfl kr_ ?_))))))))
     have S77:=St.pm 5 [4,2,0,1,3] S76
     refine Calls.mono (w_appendN (d:=[1]) S77 hN rfl (RoT.item (B:=[1]) 0 rfl 0 1 _ rfl) dc_ dc_) ?_
     rintro _ w78 ⟨rfl,S79⟩
     refine ⟨_,rfl, ?_⟩
     have hN9:=hN.append [1] (St.pw_ok (L:=[]) (S79.mem 1 rfl))
     refine wE (inb_n (inb_n (nR (pv (nI_ j) (gI .i64 (IntKind.i64.wrap (((j:Nat):Int)+1)) ((j+1:Nat):Int) (wr_eq om_ om_ om_) (pv (nI_ (j+1)) (wE (then_n ?_))))))))
     have S80:=St.pm 5 [1,0,2,3,4] S79
     have S81:St F w0 w78 (PN (m51+2*(n.toNat+2)) gd (appendR s2 l2 [1]).1::PLog gl gd (appendR s2 l2 [1]).2.1::row g73 #[.int .u8 1] 5::row g55 #[nI_ m51,iv s2.wr,iv s2.fl,iv s2.rf,iv (s2.pend.length:Int)] 29::row g5 #[nI_ m51,iv s2.wr,iv s2.fl,iv s2.rf,iv (s2.pend.length:Int)] 29::L):=St.pnle om_ S80
     have S82:=St.pm 5 [4,1,0] S81
     exact ⟨(j+1,m51,(appendR s2 l2 [1]).1,(appendR s2 l2 [1]).2.1,s2.wr,s2.fl,s2.rf,(s2.pend.length:Int)),(jE_ ⟨S82,⟨by show j+1≤7;omega,by show m51≤20000+600*(j+1);omega,hN.rf,hN9⟩⟩),(by show 7-(j+1)<7-j;omega)⟩
    ·refine pv fv (wE (nCF (sR (dE ((j:Nat):Int) 2 (fun hb83=> ?_) fun hb83=> ?_))))
     ·refine pv tv (wE (nCT (wp_region_lit (pv (pq gl) (g_ (gv_make (e:=5) (u:=700) (v:=700) (z:=.int .u8 0) (sz:=1) (by_:=1) (n:=700) (c:=700) (cs:=bvs (List.replicate 700 0)) S64 rfl kr_ ⟨by kernel_rfl⟩ kr_ kr_ rfl rfl (Nat.le_refl _) dc_ dc_ (mk_bytes _) (fun g84 w85 hg86 S87=>g_ (gv_call (args:=#[pq gl,sl g84 0 700 700]) rfl Try.func57 kr_ rfl rfl kr_ ?_))))))))
      have S88:=St.pm 5 [4,2,0,1,3] S87
      refine Calls.mono (w_appendN (d:=List.replicate 700 0) S88 hN List.length_replicate.symm (RoT.item (B:=List.replicate 700 0) 0 rfl 0 700 _ (by rw [List.drop_zero,List.take_of_length_le (by rw [List.length_replicate];omega)])) (by rw [List.length_replicate];omega) (by rw [List.length_replicate];omega)) ?_
      rintro _ w89 ⟨rfl,S90⟩
      refine ⟨_,rfl, ?_⟩
      have hN9:=hN.append (List.replicate 700 0) (St.pw_ok (L:=[]) (S90.mem 1 rfl))
      refine wE (inb_n (inb_n (nR (pv (nI_ j) (gI .i64 (IntKind.i64.wrap (((j:Nat):Int)+1)) ((j+1:Nat):Int) (wr_eq om_ om_ om_) (pv (nI_ (j+1)) (wE (then_n ?_))))))))
      have S91:=St.pm 5 [1,0,2,3,4] S90
      have S92:St F w0 w89 (PN (m51+2*(n.toNat+2)) gd (appendR s2 l2 (List.replicate 700 0)).1::PLog gl gd (appendR s2 l2 (List.replicate 700 0)).2.1::row g84 (bvs (List.replicate 700 0)) 5::row g55 #[nI_ m51,iv s2.wr,iv s2.fl,iv s2.rf,iv (s2.pend.length:Int)] 29::row g5 #[nI_ m51,iv s2.wr,iv s2.fl,iv s2.rf,iv (s2.pend.length:Int)] 29::L):=St.pnle om_ S91
      have S93:=St.pm 5 [4,1,0] S92
      exact ⟨(j+1,m51,(appendR s2 l2 (List.replicate 700 0)).1,(appendR s2 l2 (List.replicate 700 0)).2.1,s2.wr,s2.fl,s2.rf,(s2.pend.length:Int)),(jE_ ⟨S93,⟨by show j+1≤7;omega,by show m51≤20000+600*(j+1);omega,hN.rf,hN9⟩⟩),(by show 7-(j+1)<7-j;omega)⟩
     ·refine pv fv (wE (nCF (wp_seq (sR (dE ((j:Nat):Int) 3 (fun hb94=> ?_) fun hb94=> ?_)))))
      ·refine pv tv (wE (nCT (wp_skip (nCT (wp_region_lit (pv (pq gl) (g_ (gv_make (e:=5) (u:=8364) (v:=8364) (z:=.int .u8 0) (sz:=1) (by_:=1) (n:=8364) (c:=8364) (cs:=bvs (List.replicate 8364 0)) S64 rfl kr_ ⟨by kernel_rfl⟩ kr_ kr_ rfl rfl (Nat.le_refl _) dc_ dc_ (mk_bytes _) (fun g95 w96 hg97 S98=>g_ (gv_call (args:=#[pq gl,sl g95 0 8364 8364]) rfl Try.func57 kr_ rfl rfl kr_ ?_))))))))))
       have S99:=St.pm 5 [4,2,0,1,3] S98
       refine Calls.mono (w_appendN (d:=List.replicate 8364 0) S99 hN List.length_replicate.symm (RoT.item (B:=List.replicate 8364 0) 0 rfl 0 8364 _ (by rw [List.drop_zero,List.take_of_length_le (by rw [List.length_replicate];omega)])) (by rw [List.length_replicate];omega) (by rw [List.length_replicate];omega)) ?_
       rintro _ w100 ⟨rfl,S101⟩
       refine ⟨_,rfl, ?_⟩
       have hN9:=hN.append (List.replicate 8364 0) (St.pw_ok (L:=[]) (S101.mem 1 rfl))
       refine wE (inb_n (inb_n (nR (pv (nI_ j) (gI .i64 (IntKind.i64.wrap (((j:Nat):Int)+1)) ((j+1:Nat):Int) (wr_eq om_ om_ om_) (pv (nI_ (j+1)) (wE (then_n ?_))))))))
       have S102:=St.pm 5 [1,0,2,3,4] S101
       have S103:St F w0 w100 (PN (m51+2*(n.toNat+2)) gd (appendR s2 l2 (List.replicate 8364 0)).1::PLog gl gd (appendR s2 l2 (List.replicate 8364 0)).2.1::row g95 (bvs (List.replicate 8364 0)) 5::row g55 #[nI_ m51,iv s2.wr,iv s2.fl,iv s2.rf,iv (s2.pend.length:Int)] 29::row g5 #[nI_ m51,iv s2.wr,iv s2.fl,iv s2.rf,iv (s2.pend.length:Int)] 29::L):=St.pnle om_ S102
       have S104:=St.pm 5 [4,1,0] S103
       exact ⟨(j+1,m51,(appendR s2 l2 (List.replicate 8364 0)).1,(appendR s2 l2 (List.replicate 8364 0)).2.1,s2.wr,s2.fl,s2.rf,(s2.pend.length:Int)),(jE_ ⟨S104,⟨by show j+1≤7;omega,by show m51≤20000+600*(j+1);omega,hN.rf,hN9⟩⟩),(by show 7-(j+1)<7-j;omega)⟩
      ·refine pv fv (wE (nCF (wp_region_lit (dE ((j:Nat):Int) 5 (fun hb105=> ?_) fun hb105=> ?_))))
       ·refine pv tv (wE (nCT (wp_region_lit (pv (pq gl) (g_ (gv_make (e:=5) (u:=8364) (v:=8364) (z:=.int .u8 0) (sz:=1) (by_:=1) (n:=8364) (c:=8364) (cs:=bvs (List.replicate 8364 0)) S64 rfl kr_ ⟨by kernel_rfl⟩ kr_ kr_ rfl rfl (Nat.le_refl _) dc_ dc_ (mk_bytes _) (fun g106 w107 hg108 S109=>g_ (gv_call (args:=#[pq gl,sl g106 0 8364 8364]) rfl Try.func57 kr_ rfl rfl kr_ ?_))))))))
        have S110:=St.pm 5 [4,2,0,1,3] S109
        refine Calls.mono (w_appendN (d:=List.replicate 8364 0) S110 hN List.length_replicate.symm (RoT.item (B:=List.replicate 8364 0) 0 rfl 0 8364 _ (by rw [List.drop_zero,List.take_of_length_le (by rw [List.length_replicate];omega)])) (by rw [List.length_replicate];omega) (by rw [List.length_replicate];omega)) ?_
        rintro _ w111 ⟨rfl,S112⟩
        refine ⟨_,rfl, ?_⟩
        have hN9:=hN.append (List.replicate 8364 0) (St.pw_ok (L:=[]) (S112.mem 1 rfl))
        refine wE (inb_n (inb_n (nR (pv (nI_ j) (gI .i64 (IntKind.i64.wrap (((j:Nat):Int)+1)) ((j+1:Nat):Int) (wr_eq om_ om_ om_) (pv (nI_ (j+1)) (wE (then_n ?_))))))))
        have S113:=St.pm 5 [1,0,2,3,4] S112
        have S114:St F w0 w111 (PN (m51+2*(n.toNat+2)) gd (appendR s2 l2 (List.replicate 8364 0)).1::PLog gl gd (appendR s2 l2 (List.replicate 8364 0)).2.1::row g106 (bvs (List.replicate 8364 0)) 5::row g55 #[nI_ m51,iv s2.wr,iv s2.fl,iv s2.rf,iv (s2.pend.length:Int)] 29::row g5 #[nI_ m51,iv s2.wr,iv s2.fl,iv s2.rf,iv (s2.pend.length:Int)] 29::L):=St.pnle om_ S113
        have S115:=St.pm 5 [4,1,0] S114
        exact ⟨(j+1,m51,(appendR s2 l2 (List.replicate 8364 0)).1,(appendR s2 l2 (List.replicate 8364 0)).2.1,s2.wr,s2.fl,s2.rf,(s2.pend.length:Int)),(jE_ ⟨S115,⟨by show j+1≤7;omega,by show m51≤20000+600*(j+1);omega,hN.rf,hN9⟩⟩),(by show 7-(j+1)<7-j;omega)⟩
       ·refine pv fv (wE (nCF (sR (dE ((j:Nat):Int) 4 (fun hb116=> ?_) fun hb116=> ?_))))
        ·refine pv tv (wE (nCT (wp_region_lit (pv (pq gl) (g_ (gv_call (args:=#[pq gl]) rfl Try.func55 kr_ rfl rfl kr_ ?_))))))
         have S117:=St.pm 4 [3,1,0,2] S64
         refine Calls.mono (w_trim S117 hN.lg.ok hN.lg.hd om_ om_ hN.htrim) ?_
         rintro _ w118 ⟨rfl,S119⟩
         refine ⟨_,rfl, ?_⟩
         have hN9:=hN.trim (St.pw_ok (L:=[]) (S119.mem 1 rfl))
         refine wE (inb_n (inb_n (nR (pv (nI_ j) (gI .i64 (IntKind.i64.wrap (((j:Nat):Int)+1)) ((j+1:Nat):Int) (wr_eq om_ om_ om_) (pv (nI_ (j+1)) (wE (then_n ?_))))))))
         have S120:=St.pm 4 [1,0,2,3] S119
         have S121:St F w0 w118 (PN (m51+2*(n.toNat+2)) gd (trimR s2 l2).1::PLog gl gd (trimR s2 l2).2.1::row g55 #[nI_ m51,iv s2.wr,iv s2.fl,iv s2.rf,iv (s2.pend.length:Int)] 29::row g5 #[nI_ m51,iv s2.wr,iv s2.fl,iv s2.rf,iv (s2.pend.length:Int)] 29::L):=St.pnle om_ S120
         have S122:=St.pm 4 [3,1,0] S121
         exact ⟨(j+1,m51,(trimR s2 l2).1,(trimR s2 l2).2.1,s2.wr,s2.fl,s2.rf,(s2.pend.length:Int)),(jE_ ⟨S122,⟨by show j+1≤7;omega,by show m51≤20000+600*(j+1);omega,hN.rf,hN9⟩⟩),(by show 7-(j+1)<7-j;omega)⟩
        ·refine pv fv (wE (nCF (wp_skip (inb_n (inb_n (nR (pv (nI_ j) (gI .i64 (IntKind.i64.wrap (((j:Nat):Int)+1)) ((j+1:Nat):Int) (wr_eq om_ om_ om_) (pv (nI_ (j+1)) (wE (then_n ?_)))))))))))
         have S123:=St.pm 4 [1,0,2,3] S64
         have S124:St F w0 w63 (PN (m51+2*(n.toNat+2)) gd s2::row g55 #[nI_ m51,iv s2.wr,iv s2.fl,iv s2.rf,iv (s2.pend.length:Int)] 29::row g5 #[nI_ m51,iv s2.wr,iv s2.fl,iv s2.rf,iv (s2.pend.length:Int)] 29::PLog gl gd l2::L):=St.pnle om_ S123
         have S125:=St.pm 4 [2,3,0] S124
         exact ⟨(j+1,m51,s2,l2,s2.wr,s2.fl,s2.rf,(s2.pend.length:Int)),(jE_ ⟨S125,⟨by show j+1≤7;omega,by show m51≤20000+600*(j+1);omega,hN.rf,hN.next⟩⟩),(by show 7-(j+1)<7-j;omega)⟩
  ·refine wE (nCF (wp_exit (then_x (then_x (inb_x (nSR (pv tv (wE (then_n (wp_ret (bA (.bool true) ?_)))))))))))
   have S126:=St.pm 3 [] S47
   exact ⟨rfl,S126⟩
theorem n_alike {F:Nat→Prop}{w0 w:World}{L:List Ast}{A B:Option Addr}{m1 m2 ca cb:Nat}{RV RK:List RecV}(S:St F w0 w L)(h1:RoL F w0 L A RV)(h2:RoL F w0 L B RK)(e1:m1=RV.length)(e2:m2=RK.length)(hm:RV.length≤9223372036854775807)(hm2:RK.length≤9223372036854775807)(he:RV.map (·.2)=RK.map (·.2)):Calls Try.prog 66 #[.slice A m1 ca,.slice B m2 cb] w fun e w'=>e=.returned (.bool true)∧St F w0 w' L:=by
 subst e1 e2
 have:=w_alikeR (ca:=ca) (cb:=cb) S h1 h2 hm hm2
 rwa [decide_eq_true he] at this
theorem nil_rol {F:Nat→Prop}{w0:World}{L:List Ast}{A:Option Addr}:RoL F w0 L A []:=⟨RoV.nil,fun x hx=>by cases hx⟩
theorem args_no {s:Dsk}{first n:Int}(hl:s.left= -1)(h:argsR s first n≠0):(argsR s first n=11∨argsR s first n=1)∧¬(0≤first∧18≤n∧n≤256∧first<s.last.length∧first+2+n≤s.last.length):=by
 unfold argsR at h ⊢
 rw [if_neg om_] at h ⊢
 split at h
 ·rename_i q;rw [if_pos q];exact ⟨.inl rfl,by omega⟩
 ·rename_i q
  rw [if_neg q]
  split at h
  ·rename_i q2;rw [if_pos q2];exact ⟨.inr rfl,by omega⟩
  ·rename_i q2
   rw [if_neg q2]
   split at h
   ·rename_i q3;rw [if_pos q3];exact ⟨.inl rfl,by omega⟩
   ·exact absurd rfl h
theorem walAny_all (w:World){A0:Option Addr}{c0:Nat}{img:List UInt8}(hr:RdB w A0 img)(him:img.length≤140737488351232)(first n:Int):Calls Try.prog 12 #[.slice A0 img.length c0,.int .i64 first,.int .i64 n] w fun e w'=>e=.returned (.bool true)∧Below w.heap.size w w':=by
 have S0:St none' w w []:=St.init none' w
 have hri:∀L,RoT none' w L A0 img:=fun L=>(Ro.of_C hr (fun _ h=>h)).T
 by_cases hodd:img.length%512≠0
 ·refine eN (fr [.slice A0 img.length c0,iv first,iv n] 205) Try.func12 rfl (sR (pv fv (wER (pv (.slice A0 img.length c0) (sP1 Try.func59 #[.slice A0 img.length c0] (ltwinS S0 (hri _) om_) fun g1 w2 S3=>sP Try.func20 #[sl g1 0 img.length img.length] (pd_load_odd S3 (RoT.item 0 rfl 0 img.length img (by rw [List.drop_zero,List.take_length])) om_ hodd) fun w4 S5=>pv (.tuple #[pn,iv 2]) (pv pn (pv (iv 2) (pv pn (pv (iv 2) (wE (nS ?_)))))))))))
  refine sR (pv (.slice A0 img.length c0) (pv (iv (img.length:Nat)) (gI .i64 (Int.tmod (img.length:Nat) 512) ((img.length%512:Nat):Int) (tmod_nat rfl rfl) (dN ((img.length%512:Nat):Int) 0 (fun _=>pv tv (wN (wN (wN (pv tv (pv tv (wN (wN (wN ?_))))))))) fun hd6=>False.elim om_))))
  refine pv tv (wE (nCT (sR (pv pn (pv tv (pv tv (pW (iv 2) (wl_when kr_ (gv_ne (x:=2) (y:=0) kr_ (fun _=>pv tv (pv tv (wE (then_n (rR ?_))))) (fun hd7=>False.elim om_))))))))))
  exact bA (.bool true) ⟨rfl,S5.fr.below⟩
 by_cases hbad:img.length/512<1∨2048<img.length/512
 ·refine eN (fr [.slice A0 img.length c0,iv first,iv n] 205) Try.func12 rfl (sR (pv fv (wER (pv (.slice A0 img.length c0) (sP1 Try.func59 #[.slice A0 img.length c0] (ltwinS S0 (hri _) om_) fun g1 w2 S3=>sP Try.func20 #[sl g1 0 img.length img.length] (pd_load_bad S3 (RoT.item 0 rfl 0 img.length img (by rw [List.drop_zero,List.take_length])) om_ om_ hbad) fun w4 S5=>pv (.tuple #[pn,iv 10]) (pv pn (pv (iv 10) (pv pn (pv (iv 10) (wE (nS ?_)))))))))))
  refine sR (pv (.slice A0 img.length c0) (pv (iv (img.length:Nat)) (gI .i64 (Int.tmod (img.length:Nat) 512) ((img.length%512:Nat):Int) (tmod_nat rfl rfl) (dN ((img.length%512:Nat):Int) 0 (fun hd6=>False.elim om_) fun _=>pv fv (pW (.slice A0 img.length c0) (pW (iv (img.length:Nat)) (wl_when kr_ (gv_eq (x:=(img.length:Nat)) (y:=0) kr_ (fun hb7=> ?_) (fun hb7=> ?_)))))))))
  ·refine pv tv (pv tv (wN (wN (wN (pv tv (wE (nCT (sR (pv pn (pv tv (pv tv (pW (iv 10) (wl_when kr_ (gv_ne (x:=10) (y:=0) kr_ (fun _=> ?_) (fun hd8=>False.elim om_)))))))))))))))
   exact pv tv (pv tv (wE (then_n (rR (bA (.bool true) ⟨rfl,S5.fr.below⟩)))))
  ·refine pv fv (pv fv (pW (.slice A0 img.length c0) (pW (iv (img.length:Nat)) (wl_when kr_ (gv_dec (p:=((img.length:Nat):Int)>1048576) kr_ (fun _=>pv tv (wE (nCT (sR (pv pn (pv tv (pv tv (pW (iv 10) (wl_when kr_ (gv_ne (x:=10) (y:=0) kr_ (fun _=> ?_) (fun hd10=>False.elim om_))))))))))) (fun hd9=>False.elim om_))))))
   exact pv tv (pv tv (wE (then_n (rR (bA (.bool true) ⟨rfl,S5.fr.below⟩)))))
 obtain ⟨m,hm⟩:∃m,img.length=512*m:=⟨img.length/512,by omega⟩
 have hm1:1≤m:=by omega
 have hm2:m≤2048:=by omega
 obtain ⟨s0,hs0⟩:∃x,Dsk.mk0 (secs img m)=x:=⟨_,rfl⟩
 have hl0:s0.last.length=m:=by rw [←hs0];exact length_secs m img
 have hfl0:s0.fl=0:=by rw [←hs0];rfl
 have hrd0:s0.rd=0:=by rw [←hs0];rfl
 by_cases ha:argsR s0 first n=0
 rotate_left
 ·obtain ⟨hA,hcond⟩:=args_no (s:=s0) (by rw [←hs0];rfl) ha
  refine eN (fr [.slice A0 img.length c0,iv first,iv n] 205) Try.func12 rfl (sR (pv fv (wER (pv (.slice A0 img.length c0) (sP1 Try.func59 #[.slice A0 img.length c0] (ltwinS S0 (hri _) om_) fun g1 w2 S3=>sP1 Try.func20 #[sl g1 0 img.length img.length] (pd_load (m:=m) S3 (RoT.item 0 rfl 0 img.length img (by rw [List.drop_zero,List.take_length])) om_ hm hm1 hm2) fun gd w4 S5=> ?_)))))
  rw [hs0] at S5
  have S6:=St.pn0 S5 hrd0
  have hok0:DOk s0:=St.pw_ok S6
  have hC:Calm s0 (secs img m) 1:=by rw [←hs0] at hok0 ⊢;exact Calm.mk0 hok0
  refine pv (.tuple #[pq gd,iv 0]) (pv (pq gd) (pv (iv 0) (pv (pq gd) (pv (iv 0) (wE (nS (sR (pv (.slice A0 img.length c0) (pv (iv (img.length:Nat)) (gI .i64 (Int.tmod (img.length:Nat) 512) ((img.length%512:Nat):Int) (tmod_nat rfl rfl) (dN ((img.length%512:Nat):Int) 0 (fun hd7=>False.elim om_) fun _=>pv fv (pW (.slice A0 img.length c0) ?_))))))))))))
  refine pW (iv (img.length:Nat)) (wl_when kr_ (gv_eq (x:=(img.length:Nat)) (y:=0) kr_ (fun hd8=>False.elim om_) (fun _=>pv fv (pv fv (pW (.slice A0 img.length c0) (pW (iv (img.length:Nat)) (wl_when kr_ (gv_dec (p:=((img.length:Nat):Int)>1048576) kr_ (fun hd9=>False.elim om_) (fun _=>pv fv (wE (nCF (wp_skip (nS (sR (pv (pq gd) ?_)))))))))))))))
  refine pv fv (wE (nCF (wp_skip (nSR (pv (pq gd) (pv (iv first) (pv (iv n) (sP Try.func61 #[pq gd,iv first,iv n] (w_open_args S6 ha) fun w10 S11=>pv (.tuple #[pn,.slice none 0 0,iv (argsR s0 first n)]) (pv pn (pv (.slice none 0 0) (pv (iv (argsR s0 first n)) (pv pn ?_))))))))))))
  refine pv (.slice none 0 0) (pv (iv (argsR s0 first n)) (wER (pv (pq gd) (g_ (gv_call (args:=#[pq gd]) rfl Try.func17 kr_ rfl rfl kr_ (Calls.mono (pw_counts S11 om_) ?_))))))
  rintro _ w14 hh
  obtain ⟨m12,hr13,rfl,S15⟩:=hh
  refine ⟨_,rfl,(nW rfl (.agg #[iv 0,iv 0,iv 0,iv 0,iv 0]) S15 fun g16 w17 hg18 S19=>g_ (gv_stA (k:=0) (vs:=[nI_ m12,iv s0.wr,iv s0.fl,iv s0.rf,iv (s0.pend.length:Int)]) S19 0 rfl rfl kr_ kr_ kr_ rfl (by simp [Value.oneCell']) (Nat.le_of_ble_eq_true kr_) (L':=[row g16 #[nI_ m12,iv s0.wr,iv s0.fl,iv s0.rf,iv (s0.pend.length:Int)] 29,PN m12 gd s0,row g1 (bvs img) 5]) rfl (fun w20 S21=>wER (pv (iv first) (dC ((first:Int)≥0) (fun hb22=> ?_) fun hb22=> ?_)))))⟩
  ·refine pv tv (pW (iv n) (wl_when kr_ (gv_dec (p:=(n:Int)≥18) kr_ (fun hb23=> ?_) (fun hb23=> ?_))))
   ·refine pv tv (pv tv (pW (iv n) (wl_when kr_ (gv_dec (p:=(n:Int)≤256) kr_ (fun hb24=> ?_) (fun hb24=> ?_)))))
    ·refine pv tv (pv tv (pW (iv first) (pW (pq gd) (wl_when kr_ (gv_call (args:=#[pq gd]) rfl Try.func14 kr_ rfl rfl kr_ (Calls.mono (pw_sectors S21 1 rfl) ?_))))))
     rintro _ _ ⟨rfl,rfl⟩
     refine ⟨_,rfl,(wl_when kr_ (gv_dec (p:=(first:Int)<(s0.last.length:Int)) kr_ (fun hb25=> ?_) (fun hb25=> ?_)))⟩
     ·refine pv tv (pv tv (pW (iv first) (wl_when kr_ (gv_int (k:=.i64) (z:=IntKind.i64.wrap (first+2)) (z':=first+2) kr_ (wr_ok om_ om_) (pW (iv n) (wl_when kr_ (gv_int (k:=.i64) (z:=IntKind.i64.wrap ((first+2)+n)) (z':=(first+2)+n) kr_ (wr_ok om_ om_) (pW (pq gd) (wl_when kr_ (gv_call (args:=#[pq gd]) rfl Try.func14 kr_ rfl rfl kr_ (Calls.mono (pw_sectors S21 1 rfl) ?_)))))))))))
      rintro _ _ ⟨rfl,rfl⟩
      refine ⟨_,rfl,(wl_when kr_ (gv_dec (p:=((first+2)+n:Int)≤(s0.last.length:Int)) kr_ (fun hd26=>False.elim om_) (fun _=>pv fv (pv fv (wE (nS (sR (pv fv (pv tv (wE (nCT (sR (pv pn (pv tv ?_))))))))))))))⟩
      refine pv tv (pW (.slice none 0 0) (pW (iv 0) (wl_when kr_ (gv_eq (x:=0) (y:=0) kr_ (fun _=>pv tv (pv tv (pW (iv (argsR s0 first n)) (wl_when kr_ (gv_eq (x:=(argsR s0 first n)) (y:=11) kr_ (fun hb28=> ?_) (fun hb28=> ?_)))))) (fun hd27=>False.elim (hd27 rfl))))))
      ·refine pW (.bool true) (wN (wN (pW (.bool true) (pv tv (pv tv (pW (pq g16) (wl_when kr_ (gv_ldR (v:=nI_ m12) rfl kr_ kr_ (((S21.blk 0 rfl).cell 0).trans rfl) (wl_when kr_ (gv_eq (x:=((m12:Nat):Int)) (y:=0) kr_ (fun _=>pv tv (pv tv (pW (po g16 2) (wl_when kr_ (gv_ldR (v:=iv s0.fl) rfl kr_ kr_ (((S21.blk 0 rfl).cell 2).trans rfl) (wl_when kr_ (gv_eq (x:=s0.fl) (y:=0) kr_ (fun _=> ?_) (fun hd30=>False.elim (hd30 hfl0))))))))) (fun hd29=>False.elim om_)))))))))))
       refine pv tv (pv tv (pW (pq gd) (wl_when kr_ (gv_call (args:=#[pq gd]) rfl Try.func16 kr_ rfl rfl kr_ (Calls.mono (pw_life S21 1 rfl) ?_)))))
       rintro _ _ ⟨rfl,rfl⟩
       exact ⟨_,rfl,(wl_when kr_ (gv_eq (x:=s0.life) (y:=1) kr_ (fun _=>pv tv (pv tv (wE (then_n (rR (bA (.bool true) ⟨rfl,S21.fr.below⟩)))))) (fun hd31=>False.elim (hd31 hC.life))))⟩
      ·refine pW (.bool false) (pW (iv (argsR s0 first n)) (wl_when kr_ (gv_eq (x:=(argsR s0 first n)) (y:=1) kr_ (fun _=>pW (.bool true) (pv tv (pv tv (pW (pq g16) (wl_when kr_ (gv_ldR (v:=nI_ m12) rfl kr_ kr_ (((S21.blk 0 rfl).cell 0).trans rfl) (wl_when kr_ (gv_eq (x:=((m12:Nat):Int)) (y:=0) kr_ (fun _=>pv tv (pv tv (pW (po g16 2) (wl_when kr_ (gv_ldR (v:=iv s0.fl) rfl kr_ kr_ (((S21.blk 0 rfl).cell 2).trans rfl) (wl_when kr_ (gv_eq (x:=s0.fl) (y:=0) kr_ (fun _=> ?_) (fun hd34=>False.elim (hd34 hfl0))))))))) (fun hd33=>False.elim om_))))))))) (fun hd32=>False.elim om_))))
       refine pv tv (pv tv (pW (pq gd) (wl_when kr_ (gv_call (args:=#[pq gd]) rfl Try.func16 kr_ rfl rfl kr_ (Calls.mono (pw_life S21 1 rfl) ?_)))))
       rintro _ _ ⟨rfl,rfl⟩
       exact ⟨_,rfl,(wl_when kr_ (gv_eq (x:=s0.life) (y:=1) kr_ (fun _=>pv tv (pv tv (wE (then_n (rR (bA (.bool true) ⟨rfl,S21.fr.below⟩)))))) (fun hd35=>False.elim (hd35 hC.life))))⟩
     ·refine pv fv (pv fv (wN (wN (wN (wN (wN (wN (wN (pv fv (pv fv (wE (nS (sR ?_)))))))))))))
      refine pv fv (pv tv (wE (nCT (sR (pv pn (pv tv (pv tv (pW (.slice none 0 0) (pW (iv 0) (wl_when kr_ (gv_eq (x:=0) (y:=0) kr_ (fun _=>pv tv (pv tv (pW (iv (argsR s0 first n)) (wl_when kr_ (gv_eq (x:=(argsR s0 first n)) (y:=11) kr_ (fun hb37=> ?_) (fun hb37=> ?_)))))) (fun hd36=>False.elim (hd36 rfl)))))))))))))
      ·refine pW (.bool true) (wN (wN (pW (.bool true) (pv tv (pv tv (pW (pq g16) (wl_when kr_ (gv_ldR (v:=nI_ m12) rfl kr_ kr_ (((S21.blk 0 rfl).cell 0).trans rfl) (wl_when kr_ (gv_eq (x:=((m12:Nat):Int)) (y:=0) kr_ (fun _=>pv tv (pv tv (pW (po g16 2) (wl_when kr_ (gv_ldR (v:=iv s0.fl) rfl kr_ kr_ (((S21.blk 0 rfl).cell 2).trans rfl) (wl_when kr_ (gv_eq (x:=s0.fl) (y:=0) kr_ (fun _=> ?_) (fun hd39=>False.elim (hd39 hfl0))))))))) (fun hd38=>False.elim om_)))))))))))
       refine pv tv (pv tv (pW (pq gd) (wl_when kr_ (gv_call (args:=#[pq gd]) rfl Try.func16 kr_ rfl rfl kr_ (Calls.mono (pw_life S21 1 rfl) ?_)))))
       rintro _ _ ⟨rfl,rfl⟩
       exact ⟨_,rfl,(wl_when kr_ (gv_eq (x:=s0.life) (y:=1) kr_ (fun _=>pv tv (pv tv (wE (then_n (rR (bA (.bool true) ⟨rfl,S21.fr.below⟩)))))) (fun hd40=>False.elim (hd40 hC.life))))⟩
      ·refine pW (.bool false) (pW (iv (argsR s0 first n)) (wl_when kr_ (gv_eq (x:=(argsR s0 first n)) (y:=1) kr_ (fun _=>pW (.bool true) (pv tv (pv tv (pW (pq g16) (wl_when kr_ (gv_ldR (v:=nI_ m12) rfl kr_ kr_ (((S21.blk 0 rfl).cell 0).trans rfl) (wl_when kr_ (gv_eq (x:=((m12:Nat):Int)) (y:=0) kr_ (fun _=>pv tv (pv tv (pW (po g16 2) (wl_when kr_ (gv_ldR (v:=iv s0.fl) rfl kr_ kr_ (((S21.blk 0 rfl).cell 2).trans rfl) (wl_when kr_ (gv_eq (x:=s0.fl) (y:=0) kr_ (fun _=> ?_) (fun hd43=>False.elim (hd43 hfl0))))))))) (fun hd42=>False.elim om_))))))))) (fun hd41=>False.elim om_))))
       refine pv tv (pv tv (pW (pq gd) (wl_when kr_ (gv_call (args:=#[pq gd]) rfl Try.func16 kr_ rfl rfl kr_ (Calls.mono (pw_life S21 1 rfl) ?_)))))
       rintro _ _ ⟨rfl,rfl⟩
       exact ⟨_,rfl,(wl_when kr_ (gv_eq (x:=s0.life) (y:=1) kr_ (fun _=>pv tv (pv tv (wE (then_n (rR (bA (.bool true) ⟨rfl,S21.fr.below⟩)))))) (fun hd44=>False.elim (hd44 hC.life))))⟩
    ·refine pv fv (pv fv (wN (wN (wN (wN (pv fv (pv fv (wN (wN (wN (wN (wN (wN ?_)))))))))))))
     refine wN (pv fv (pv fv (wE (nS (sR (pv fv (pv tv (wE (nCT (sR (pv pn (pv tv (pv tv ?_)))))))))))))
     refine pW (.slice none 0 0) (pW (iv 0) (wl_when kr_ (gv_eq (x:=0) (y:=0) kr_ (fun _=>pv tv (pv tv (pW (iv (argsR s0 first n)) (wl_when kr_ (gv_eq (x:=(argsR s0 first n)) (y:=11) kr_ (fun hb46=> ?_) (fun hb46=> ?_)))))) (fun hd45=>False.elim (hd45 rfl)))))
     ·refine pW (.bool true) (wN (wN (pW (.bool true) (pv tv (pv tv (pW (pq g16) (wl_when kr_ (gv_ldR (v:=nI_ m12) rfl kr_ kr_ (((S21.blk 0 rfl).cell 0).trans rfl) (wl_when kr_ (gv_eq (x:=((m12:Nat):Int)) (y:=0) kr_ (fun _=>pv tv (pv tv (pW (po g16 2) (wl_when kr_ (gv_ldR (v:=iv s0.fl) rfl kr_ kr_ (((S21.blk 0 rfl).cell 2).trans rfl) (wl_when kr_ (gv_eq (x:=s0.fl) (y:=0) kr_ (fun _=> ?_) (fun hd48=>False.elim (hd48 hfl0))))))))) (fun hd47=>False.elim om_)))))))))))
      refine pv tv (pv tv (pW (pq gd) (wl_when kr_ (gv_call (args:=#[pq gd]) rfl Try.func16 kr_ rfl rfl kr_ (Calls.mono (pw_life S21 1 rfl) ?_)))))
      rintro _ _ ⟨rfl,rfl⟩
      exact ⟨_,rfl,(wl_when kr_ (gv_eq (x:=s0.life) (y:=1) kr_ (fun _=>pv tv (pv tv (wE (then_n (rR (bA (.bool true) ⟨rfl,S21.fr.below⟩)))))) (fun hd49=>False.elim (hd49 hC.life))))⟩
     ·refine pW (.bool false) (pW (iv (argsR s0 first n)) (wl_when kr_ (gv_eq (x:=(argsR s0 first n)) (y:=1) kr_ (fun _=>pW (.bool true) (pv tv (pv tv (pW (pq g16) (wl_when kr_ (gv_ldR (v:=nI_ m12) rfl kr_ kr_ (((S21.blk 0 rfl).cell 0).trans rfl) (wl_when kr_ (gv_eq (x:=((m12:Nat):Int)) (y:=0) kr_ (fun _=>pv tv (pv tv (pW (po g16 2) (wl_when kr_ (gv_ldR (v:=iv s0.fl) rfl kr_ kr_ (((S21.blk 0 rfl).cell 2).trans rfl) (wl_when kr_ (gv_eq (x:=s0.fl) (y:=0) kr_ (fun _=> ?_) (fun hd52=>False.elim (hd52 hfl0))))))))) (fun hd51=>False.elim om_))))))))) (fun hd50=>False.elim om_))))
      refine pv tv (pv tv (pW (pq gd) (wl_when kr_ (gv_call (args:=#[pq gd]) rfl Try.func16 kr_ rfl rfl kr_ (Calls.mono (pw_life S21 1 rfl) ?_)))))
      rintro _ _ ⟨rfl,rfl⟩
      exact ⟨_,rfl,(wl_when kr_ (gv_eq (x:=s0.life) (y:=1) kr_ (fun _=>pv tv (pv tv (wE (then_n (rR (bA (.bool true) ⟨rfl,S21.fr.below⟩)))))) (fun hd53=>False.elim (hd53 hC.life))))⟩
   ·refine pv fv (pv fv (wN (wN (pv fv (pv fv (wN (wN (wN (wN (pv fv (pv fv (wN (wN ?_)))))))))))))
    refine wN (wN (wN (wN (wN (pv fv (pv fv (wE (nS (sR (pv fv (pv tv (wE (nCT ?_)))))))))))))
    refine sR (pv pn (pv tv (pv tv (pW (.slice none 0 0) (pW (iv 0) (wl_when kr_ (gv_eq (x:=0) (y:=0) kr_ (fun _=>pv tv (pv tv (pW (iv (argsR s0 first n)) (wl_when kr_ (gv_eq (x:=(argsR s0 first n)) (y:=11) kr_ (fun hb55=> ?_) (fun hb55=> ?_)))))) (fun hd54=>False.elim (hd54 rfl)))))))))
    ·refine pW (.bool true) (wN (wN (pW (.bool true) (pv tv (pv tv (pW (pq g16) (wl_when kr_ (gv_ldR (v:=nI_ m12) rfl kr_ kr_ (((S21.blk 0 rfl).cell 0).trans rfl) (wl_when kr_ (gv_eq (x:=((m12:Nat):Int)) (y:=0) kr_ (fun _=>pv tv (pv tv (pW (po g16 2) (wl_when kr_ (gv_ldR (v:=iv s0.fl) rfl kr_ kr_ (((S21.blk 0 rfl).cell 2).trans rfl) (wl_when kr_ (gv_eq (x:=s0.fl) (y:=0) kr_ (fun _=> ?_) (fun hd57=>False.elim (hd57 hfl0))))))))) (fun hd56=>False.elim om_)))))))))))
     refine pv tv (pv tv (pW (pq gd) (wl_when kr_ (gv_call (args:=#[pq gd]) rfl Try.func16 kr_ rfl rfl kr_ (Calls.mono (pw_life S21 1 rfl) ?_)))))
     rintro _ _ ⟨rfl,rfl⟩
     exact ⟨_,rfl,(wl_when kr_ (gv_eq (x:=s0.life) (y:=1) kr_ (fun _=>pv tv (pv tv (wE (then_n (rR (bA (.bool true) ⟨rfl,S21.fr.below⟩)))))) (fun hd58=>False.elim (hd58 hC.life))))⟩
    ·refine pW (.bool false) (pW (iv (argsR s0 first n)) (wl_when kr_ (gv_eq (x:=(argsR s0 first n)) (y:=1) kr_ (fun _=>pW (.bool true) (pv tv (pv tv (pW (pq g16) (wl_when kr_ (gv_ldR (v:=nI_ m12) rfl kr_ kr_ (((S21.blk 0 rfl).cell 0).trans rfl) (wl_when kr_ (gv_eq (x:=((m12:Nat):Int)) (y:=0) kr_ (fun _=>pv tv (pv tv (pW (po g16 2) (wl_when kr_ (gv_ldR (v:=iv s0.fl) rfl kr_ kr_ (((S21.blk 0 rfl).cell 2).trans rfl) (wl_when kr_ (gv_eq (x:=s0.fl) (y:=0) kr_ (fun _=> ?_) (fun hd61=>False.elim (hd61 hfl0))))))))) (fun hd60=>False.elim om_))))))))) (fun hd59=>False.elim om_))))
     refine pv tv (pv tv (pW (pq gd) (wl_when kr_ (gv_call (args:=#[pq gd]) rfl Try.func16 kr_ rfl rfl kr_ (Calls.mono (pw_life S21 1 rfl) ?_)))))
     rintro _ _ ⟨rfl,rfl⟩
     exact ⟨_,rfl,(wl_when kr_ (gv_eq (x:=s0.life) (y:=1) kr_ (fun _=>pv tv (pv tv (wE (then_n (rR (bA (.bool true) ⟨rfl,S21.fr.below⟩)))))) (fun hd62=>False.elim (hd62 hC.life))))⟩
  ·refine pv fv (wN (wN (pv fv (pv fv (wN (wN (pv fv (pv fv (wN (wN (wN (wN (pv fv ?_)))))))))))))
   refine pv fv (wN (wN (wN (wN (wN (wN (wN (pv fv (pv fv (wE (nS (sR (pv fv ?_)))))))))))))
   refine pv tv (wE (nCT (sR (pv pn (pv tv (pv tv (pW (.slice none 0 0) (pW (iv 0) (wl_when kr_ (gv_eq (x:=0) (y:=0) kr_ (fun _=>pv tv (pv tv (pW (iv (argsR s0 first n)) (wl_when kr_ (gv_eq (x:=(argsR s0 first n)) (y:=11) kr_ (fun hb64=> ?_) (fun hb64=> ?_)))))) (fun hd63=>False.elim (hd63 rfl))))))))))))
   ·refine pW (.bool true) (wN (wN (pW (.bool true) (pv tv (pv tv (pW (pq g16) (wl_when kr_ (gv_ldR (v:=nI_ m12) rfl kr_ kr_ (((S21.blk 0 rfl).cell 0).trans rfl) (wl_when kr_ (gv_eq (x:=((m12:Nat):Int)) (y:=0) kr_ (fun _=>pv tv (pv tv (pW (po g16 2) (wl_when kr_ (gv_ldR (v:=iv s0.fl) rfl kr_ kr_ (((S21.blk 0 rfl).cell 2).trans rfl) (wl_when kr_ (gv_eq (x:=s0.fl) (y:=0) kr_ (fun _=> ?_) (fun hd66=>False.elim (hd66 hfl0))))))))) (fun hd65=>False.elim om_)))))))))))
    refine pv tv (pv tv (pW (pq gd) (wl_when kr_ (gv_call (args:=#[pq gd]) rfl Try.func16 kr_ rfl rfl kr_ (Calls.mono (pw_life S21 1 rfl) ?_)))))
    rintro _ _ ⟨rfl,rfl⟩
    exact ⟨_,rfl,(wl_when kr_ (gv_eq (x:=s0.life) (y:=1) kr_ (fun _=>pv tv (pv tv (wE (then_n (rR (bA (.bool true) ⟨rfl,S21.fr.below⟩)))))) (fun hd67=>False.elim (hd67 hC.life))))⟩
   ·refine pW (.bool false) (pW (iv (argsR s0 first n)) (wl_when kr_ (gv_eq (x:=(argsR s0 first n)) (y:=1) kr_ (fun _=>pW (.bool true) (pv tv (pv tv (pW (pq g16) (wl_when kr_ (gv_ldR (v:=nI_ m12) rfl kr_ kr_ (((S21.blk 0 rfl).cell 0).trans rfl) (wl_when kr_ (gv_eq (x:=((m12:Nat):Int)) (y:=0) kr_ (fun _=>pv tv (pv tv (pW (po g16 2) (wl_when kr_ (gv_ldR (v:=iv s0.fl) rfl kr_ kr_ (((S21.blk 0 rfl).cell 2).trans rfl) (wl_when kr_ (gv_eq (x:=s0.fl) (y:=0) kr_ (fun _=> ?_) (fun hd70=>False.elim (hd70 hfl0))))))))) (fun hd69=>False.elim om_))))))))) (fun hd68=>False.elim om_))))
    refine pv tv (pv tv (pW (pq gd) (wl_when kr_ (gv_call (args:=#[pq gd]) rfl Try.func16 kr_ rfl rfl kr_ (Calls.mono (pw_life S21 1 rfl) ?_)))))
    rintro _ _ ⟨rfl,rfl⟩
    exact ⟨_,rfl,(wl_when kr_ (gv_eq (x:=s0.life) (y:=1) kr_ (fun _=>pv tv (pv tv (wE (then_n (rR (bA (.bool true) ⟨rfl,S21.fr.below⟩)))))) (fun hd71=>False.elim (hd71 hC.life))))⟩
 obtain ⟨hz,hf0,hm18,hm256,hin⟩:=argsR_ok ha
 refine eN (fr [.slice A0 img.length c0,iv first,iv n] 205) Try.func12 rfl (sR (pv fv (wER (pv (.slice A0 img.length c0) (sP1 Try.func59 #[.slice A0 img.length c0] (ltwinS S0 (hri _) om_) fun g1 w2 S3=>sP1 Try.func20 #[sl g1 0 img.length img.length] (pd_load (m:=m) S3 (RoT.item 0 rfl 0 img.length img (by rw [List.drop_zero,List.take_length])) om_ hm hm1 hm2) fun gd w4 S5=> ?_)))))
 rw [hs0] at S5
 have S6:=St.pn0 S5 hrd0
 have hok0:DOk s0:=St.pw_ok S6
 have hC:Calm s0 (secs img m) 1:=by rw [←hs0] at hok0 ⊢;exact Calm.mk0 hok0
 refine pv (.tuple #[pq gd,iv 0]) (pv (pq gd) (pv (iv 0) (pv (pq gd) (pv (iv 0) (wE (nS (sR (pv (.slice A0 img.length c0) (pv (iv (img.length:Nat)) (gI .i64 (Int.tmod (img.length:Nat) 512) ((img.length%512:Nat):Int) (tmod_nat rfl rfl) (dN ((img.length%512:Nat):Int) 0 (fun hd7=>False.elim om_) fun _=>pv fv (pW (.slice A0 img.length c0) ?_))))))))))))
 refine pW (iv (img.length:Nat)) (wl_when kr_ (gv_eq (x:=(img.length:Nat)) (y:=0) kr_ (fun hd8=>False.elim om_) (fun _=>pv fv (pv fv (pW (.slice A0 img.length c0) (pW (iv (img.length:Nat)) (wl_when kr_ (gv_dec (p:=((img.length:Nat):Int)>1048576) kr_ (fun hd9=>False.elim om_) (fun _=>pv fv (wE (nCF (wp_skip (nS (sR (pv (pq gd) ?_)))))))))))))))
 refine pv fv (wE (nCF (wp_skip (nSR (pv (pq gd) (pv (iv first) (pv (iv n) (g_ (gv_call (args:=#[pq gd,iv first,iv n]) rfl Try.func61 kr_ rfl rfl kr_ (Calls.mono (w_open_go S6 ha) ?_))))))))))
 have hCt:=hC.take dc_
 rintro e_ w10 hh
 rcases hh with ⟨hno,rfl,S11⟩|⟨ep,tl,hgood,hworn,rfl,S11⟩|⟨ep,tl,gl,v,RV,hd,hgood,hnw,hR1,hR2,rfl,S11⟩
 ·refine ⟨_,rfl, ?_⟩
  have hC1:Calm s0.take (secs img m) 2:=hCt
  have hl1:s0.take.last.length=m:=by rw [hC1.last];exact length_secs m img
  have hlf1:=hC1.life
  have hfl1:s0.take.fl=0:=hfl0
  refine pv (.tuple #[pn,.slice none 0 0,iv 6]) (pv pn (pv (.slice none 0 0) (pv (iv 6) (pv pn (pv (.slice none 0 0) (pv (iv 6) (wER (pv (pq gd) (g_ (gv_call (args:=#[pq gd]) rfl Try.func17 kr_ rfl rfl kr_ (Calls.mono (pw_counts S11 om_) ?_)))))))))))
  rintro _ w14 hh
  obtain ⟨m12,hr13,rfl,S15⟩:=hh
  refine ⟨_,rfl,(nW rfl (.agg #[iv 0,iv 0,iv 0,iv 0,iv 0]) S15 fun g16 w17 hg18 S19=>g_ (gv_stA (k:=0) (vs:=[nI_ m12,iv s0.take.wr,iv s0.take.fl,iv s0.take.rf,iv (s0.take.pend.length:Int)]) S19 0 rfl rfl kr_ kr_ kr_ rfl (by simp [Value.oneCell']) (Nat.le_of_ble_eq_true kr_) (L':=[row g16 #[nI_ m12,iv s0.take.wr,iv s0.take.fl,iv s0.take.rf,iv (s0.take.pend.length:Int)] 29,PN m12 gd s0.take,row g1 (bvs img) 5]) rfl (fun w20 S21=>wER (pv (iv first) (dC ((first:Int)≥0) (fun _=>pv tv (pW (iv n) (wl_when kr_ (gv_dec (p:=(n:Int)≥18) kr_ (fun _=>pv tv (pv tv (pW (iv n) (wl_when kr_ (gv_dec (p:=(n:Int)≤256) kr_ (fun _=>pv tv ?_) (fun hd24=>False.elim om_)))))) (fun hd23=>False.elim om_))))) fun hd22=>False.elim om_)))))⟩
  refine pv tv (pW (iv first) (pW (pq gd) (wl_when kr_ (gv_call (args:=#[pq gd]) rfl Try.func14 kr_ rfl rfl kr_ (Calls.mono (pw_sectors S21 1 rfl) ?_)))))
  rintro _ _ ⟨rfl,rfl⟩
  refine ⟨_,rfl,(wl_when kr_ (gv_dec (p:=(first:Int)<(s0.take.last.length:Int)) kr_ (fun _=>pv tv (pv tv (pW (iv first) (wl_when kr_ (gv_int (k:=.i64) (z:=IntKind.i64.wrap (first+2)) (z':=first+2) kr_ (wr_ok om_ om_) (pW (iv n) (wl_when kr_ (gv_int (k:=.i64) (z:=IntKind.i64.wrap ((first+2)+n)) (z':=(first+2)+n) kr_ (wr_ok om_ om_) (pW (pq gd) (wl_when kr_ (gv_call (args:=#[pq gd]) rfl Try.func14 kr_ rfl rfl kr_ (Calls.mono (pw_sectors S21 1 rfl) ?_)))))))))))) (fun hd25=>False.elim om_)))⟩
  rintro _ _ ⟨rfl,rfl⟩
  refine ⟨_,rfl,(wl_when kr_ (gv_dec (p:=((first+2)+n:Int)≤(s0.take.last.length:Int)) kr_ (fun _=>pv tv (pv tv (wE (nS (sR (pv tv (pv fv (wE (nCF (wp_skip (nSR (pv (iv 0) ?_)))))))))))) (fun hd26=>False.elim om_)))⟩
  refine wE (nS (sR (pv (iv 6) (dE 6 0 (fun hd27=>False.elim om_) fun _=>wE (nCF (sR (pv (iv 6) (dN 6 6 (fun hd28=>False.elim (hd28 rfl)) fun _=>pv fv (wN (wN (pv fv ?_)))))))))))
  refine wE (nCF (wp_skip (nS (sR (pv (po g16 1) (lR (iv s0.take.wr) S21 0 1 (dN s0.take.wr 0 (fun hd29=>False.elim (hd29 hC1.wr)) fun _=>pv fv (pW (po g16 3) (wl_when kr_ (gv_ldR (v:=iv s0.take.rf) rfl kr_ kr_ (((S21.blk 0 rfl).cell 3).trans rfl) (wl_when kr_ (gv_ne (x:=s0.take.rf) (y:=0) kr_ (fun hd30=>False.elim (hd30 hC1.rf)) (fun _=>pv fv (pv fv ?_))))))))))))))
  refine pW (po g16 2) (wl_when kr_ (gv_ldR (v:=iv s0.take.fl) rfl kr_ kr_ (((S21.blk 0 rfl).cell 2).trans rfl) (pW (iv 0) (wl_when kr_ (gv_ne (x:=s0.take.fl) (y:=0) kr_ (fun hd31=>False.elim (hd31 hfl1)) (fun _=>pv fv (pv fv (pW (pq g16) (wl_when kr_ (gv_ldR (v:=nI_ m12) rfl kr_ kr_ (((S21.blk 0 rfl).cell 0).trans rfl) (pW (iv n) (wl_when kr_ (gv_int (k:=.i64) (z:=IntKind.i64.wrap (n+2)) (z':=n+2) kr_ (wr_ok om_ om_) (wl_when kr_ (gv_int (k:=.i64) (z:=IntKind.i64.wrap (2*(n+2))) (z':=2*(n+2)) kr_ (wr_ok om_ om_) (wl_when kr_ (gv_dec (p:=(((m12:Nat):Int):Int)>(2*(n+2))) kr_ (fun hd32=>False.elim om_) (fun _=>pv fv (pv fv ?_)))))))))))))))))))
  refine pW (pq gd) (wl_when kr_ (gv_call (args:=#[pq gd]) rfl Try.func16 kr_ rfl rfl kr_ (Calls.mono (pw_life S21 1 rfl) ?_)))
  rintro _ _ ⟨rfl,rfl⟩
  refine ⟨_,rfl,(wl_when kr_ (gv_dec (p:=(s0.take.life:Int)<2) kr_ (fun hd33=>False.elim om_) (fun _=>pv fv (pv fv (pW pn (pW (.bool true) (pW (iv 0) (wl_when kr_ (gv_eq (x:=0) (y:=0) kr_ (fun _=>pW (.bool false) (pv fv (wE ?_))) (fun hd34=>False.elim (hd34 rfl)))))))))))⟩
  refine nCF (wp_skip (nS (sR (pv (iv 0) (wE (then_n (wp_block (wp_loop_g (G:=Nat) (fun (g_:Nat) (a_:Act) (w_:World)=>∃J:Nat→Value,a_=(fr ([.slice A0 img.length c0,iv first,iv n,ud,ud,ud,J 6,pq gd,iv 0,pn,.slice none 0 0,iv 6,pq g16,tv,iv 0,nI_ g_,ud,ud,ud,ud,.tuple #[pq gd,iv 0],.slice A0 img.length c0,sl g1 0 img.length img.length,.tuple #[pq gd,iv 0],pq gd,iv 0,.slice A0 img.length c0,iv (img.length:Nat),nI_ (img.length%512),fv,fv,.slice A0 img.length c0,iv (img.length:Nat),fv,fv,fv,.slice A0 img.length c0,iv (img.length:Nat),fv,fv,ud,ud,ud,ud,ud,ud,pq gd,fv,.tuple #[pn,.slice none 0 0,iv 6],pq gd,iv first,iv n,.tuple #[pn,.slice none 0 0,iv 6],pn,.slice none 0 0,iv 6,pq gd,.agg #[nI_ m12,iv s0.take.wr,iv s0.take.fl,iv s0.take.rf,iv (s0.take.pend.length:Int)],iv first,tv,tv,iv n,tv,tv,tv,iv n,tv,tv,tv,iv first,pq gd,iv (s0.take.last.length:Int),tv,tv,tv,iv first,iv (first+2),iv n,iv ((first+2)+n),pq gd,iv (s0.take.last.length:Int),tv,tv,tv,fv,ud,ud,ud,ud,ud,ud,ud,ud,ud,ud,ud,ud,ud,ud,ud,ud,ud,ud,ud,ud,ud,ud,ud,ud,ud,ud,ud,ud,ud,ud,iv 6,fv,iv 6,fv,fv,ud,ud,fv,po g16 1,iv s0.take.wr,fv,fv,po g16 3,iv s0.take.rf,fv,fv,fv,po g16 2,iv s0.take.fl,iv 0,fv,fv,fv,pq g16,nI_ m12,iv n,iv (n+2),iv (2*(n+2)),fv,fv,fv,pq gd,iv s0.take.life,fv,fv,fv,pn,tv,iv 0,tv,fv,fv]++jR J 157 20) 31)∧St none' w w_ [row g16 #[nI_ m12,iv s0.take.wr,iv s0.take.fl,iv s0.take.rf,iv (s0.take.pend.length:Int)] 29,PN m12 gd s0.take,row g1 (bvs img) 5]∧(g_≤0)) (fun g_=>0-g_) 0 (jE_ ⟨S21,Nat.zero_le _⟩) ?_))))))))
  rintro i a_ w35 ⟨J,rfl,S36,hi1⟩
  skip
  have S36:St none' w w35 [row g16 #[nI_ m12,iv s0.take.wr,iv s0.take.fl,iv s0.take.rf,iv (s0.take.pend.length:Int)] 29,PN m12 gd s0.take,row g1 (bvs img) 5]:=S36
  refine wp_seq (sR (pv (nI_ i) (pv (.slice none 0 0) (pv (iv 0) (dC ((((i:Nat):Int):Int)<0) (fun hd38=>False.elim om_) fun _=>wE (nCF (wp_exit (then_x (then_x (inb_x (nSR (pv (pq gd) ?_))))))))))))
  refine g_ (gv_call (args:=#[pq gd,.slice none 0 0]) rfl Try.func64 kr_ rfl rfl kr_ ?_)
  have S39:St none' w w35 [PN m12 gd s0.take,row g16 #[nI_ m12,iv s0.take.wr,iv s0.take.fl,iv s0.take.rf,iv (s0.take.pend.length:Int)] 29,row g1 (bvs img) 5]:=St.pm 3 [1,0,2] S36
  refine Calls.mono (pw_crash0 S39) ?_
  rintro _ w40 ⟨rfl,S41⟩
  refine ⟨_,rfl, ?_⟩
  have hC2:=hC1.crash dc_ (St.pw_ok (L:=[]) (S41.mem 0 rfl))
  have ha2:argsR (s0.take.crashR []) first n=0:=(hC.args hC2 first n).trans ha
  have hCt2:=hC2.take dc_
  have hnew2:=hCt.newR hCt2 first.toNat
  have hpc2:=hCt.pcAt hCt2 first.toNat n.toNat
  refine wER (pv (pq gd) (pv (iv first) (pv (iv n) (g_ (gv_call (args:=#[pq gd,iv first,iv n]) rfl Try.func61 kr_ rfl rfl kr_ (Calls.mono (w_open_go S41 ha2) ?_))))))
  rintro e_ w42 hh
  rcases hh with ⟨hno2,rfl,S43⟩|⟨ep2,tl2,hgood2,hworn2,rfl,S43⟩|⟨ep2,tl2,gl2,v2,RV2,hd2,hgood2,hnw2,hT1,hT2,rfl,S43⟩
  ·have hC3:Calm (s0.take.crashR []).take (secs img m) 4:=hCt2
   have ha3:argsR (s0.take.crashR []).take first n=0:=(hC.args hC3 first n).trans ha
   have hflat:(s0.take.crashR []).take.last.flatten=img:=by rw [hC3.last];exact secs_flat m img hm
   refine ⟨_,rfl,(pv (.tuple #[pn,.slice none 0 0,iv 6]) (pv pn (pv (.slice none 0 0) (pv (iv 6) (pv pn (pv (.slice none 0 0) (pv (iv 6) (wER (pv (pq gd) (g_ (gv_call (args:=#[pq gd]) rfl Try.func18 kr_ rfl rfl kr_ (Calls.mono (pw_image S43) ?_))))))))))))⟩
   rintro _ w44 ⟨v5,rfl,S45⟩
   rw [hflat] at S45
   obtain ⟨A5,rfl,S46⟩:=St.bytes_eq S45
   refine ⟨_,rfl,(pv (.slice A5 img.length img.length) (wER (pv (iv 6) (pv (iv 6) (dE 6 6 (fun _=>pv tv (pW (.slice none 0 0) (pW (.slice none 0 0) (wl_when kr_ (gv_call (args:=#[.slice none 0 0,.slice none 0 0]) rfl Try.func66 kr_ rfl rfl kr_ (Calls.mono (n_alike (RV:=[]) (RK:=[]) S46 nil_rol nil_rol rfl rfl dc_ dc_ rfl) ?_)))))) fun hd47=>False.elim (hd47 rfl))))))⟩
   rintro _ w48 ⟨rfl,S49⟩
   refine ⟨_,rfl,(pv tv (pv tv (pW (.slice A5 img.length img.length) (pW (.slice A0 img.length c0) (wl_when kr_ (gv_call (args:=#[.slice A5 img.length img.length,.slice A0 img.length c0]) rfl Try.func24 kr_ rfl rfl kr_ (Calls.mono (same_b (a:=img) (b:=img) (decide_eq_true rfl) S49 (RoT.bytes 0 rfl rfl) (hri _) om_ om_) ?_)))))))⟩
   rintro _ w50 ⟨rfl,S51⟩
   refine ⟨_,rfl,(pv tv (pv tv (pW (pq gd) (pW (iv first) (pW (iv n) (wl_when kr_ (gv_call (args:=#[pq gd,iv first,iv n]) rfl Try.func77 kr_ rfl rfl kr_ ?_)))))))⟩
   have S52:=St.pm 4 [1,0,2,3] S51
   refine Calls.mono (w_sparing S52 hC3 dc_ om_ ha3) ?_
   rintro _ w53 ⟨rfl,S54⟩
   refine ⟨_,rfl,(pv tv (pv tv (wE ?_)))⟩
   exact then_n (wp_ret (bA (.bool true) ⟨rfl,S54.fr.below⟩))
  ·rw [hnew2,hno] at hgood2;cases hgood2
  ·rw [hnew2,hno] at hgood2;cases hgood2
 ·refine ⟨_,rfl, ?_⟩
  have hC1:Calm s0.take (secs img m) 2:=hCt
  have hl1:s0.take.last.length=m:=by rw [hC1.last];exact length_secs m img
  have hlf1:=hC1.life
  have hfl1:s0.take.fl=0:=hfl0
  refine pv (.tuple #[pn,.slice none 0 0,iv 41]) (pv pn (pv (.slice none 0 0) (pv (iv 41) (pv pn (pv (.slice none 0 0) (pv (iv 41) (wER (pv (pq gd) (g_ (gv_call (args:=#[pq gd]) rfl Try.func17 kr_ rfl rfl kr_ (Calls.mono (pw_counts S11 om_) ?_)))))))))))
  rintro _ w57 hh
  obtain ⟨m55,hr56,rfl,S58⟩:=hh
  refine ⟨_,rfl,(nW rfl (.agg #[iv 0,iv 0,iv 0,iv 0,iv 0]) S58 fun g59 w60 hg61 S62=>g_ (gv_stA (k:=0) (vs:=[nI_ m55,iv s0.take.wr,iv s0.take.fl,iv s0.take.rf,iv (s0.take.pend.length:Int)]) S62 0 rfl rfl kr_ kr_ kr_ rfl (by simp [Value.oneCell']) (Nat.le_of_ble_eq_true kr_) (L':=[row g59 #[nI_ m55,iv s0.take.wr,iv s0.take.fl,iv s0.take.rf,iv (s0.take.pend.length:Int)] 29,PN m55 gd s0.take,row g1 (bvs img) 5]) rfl (fun w63 S64=>wER (pv (iv first) (dC ((first:Int)≥0) (fun _=>pv tv (pW (iv n) (wl_when kr_ (gv_dec (p:=(n:Int)≥18) kr_ (fun _=>pv tv (pv tv (pW (iv n) (wl_when kr_ (gv_dec (p:=(n:Int)≤256) kr_ (fun _=>pv tv ?_) (fun hd67=>False.elim om_)))))) (fun hd66=>False.elim om_))))) fun hd65=>False.elim om_)))))⟩
  refine pv tv (pW (iv first) (pW (pq gd) (wl_when kr_ (gv_call (args:=#[pq gd]) rfl Try.func14 kr_ rfl rfl kr_ (Calls.mono (pw_sectors S64 1 rfl) ?_)))))
  rintro _ _ ⟨rfl,rfl⟩
  refine ⟨_,rfl,(wl_when kr_ (gv_dec (p:=(first:Int)<(s0.take.last.length:Int)) kr_ (fun _=>pv tv (pv tv (pW (iv first) (wl_when kr_ (gv_int (k:=.i64) (z:=IntKind.i64.wrap (first+2)) (z':=first+2) kr_ (wr_ok om_ om_) (pW (iv n) (wl_when kr_ (gv_int (k:=.i64) (z:=IntKind.i64.wrap ((first+2)+n)) (z':=(first+2)+n) kr_ (wr_ok om_ om_) (pW (pq gd) (wl_when kr_ (gv_call (args:=#[pq gd]) rfl Try.func14 kr_ rfl rfl kr_ (Calls.mono (pw_sectors S64 1 rfl) ?_)))))))))))) (fun hd68=>False.elim om_)))⟩
  rintro _ _ ⟨rfl,rfl⟩
  refine ⟨_,rfl,(wl_when kr_ (gv_dec (p:=((first+2)+n:Int)≤(s0.take.last.length:Int)) kr_ (fun _=>pv tv (pv tv (wE (nS (sR (pv tv (pv fv (wE (nCF (wp_skip (nSR (pv (iv 0) ?_)))))))))))) (fun hd69=>False.elim om_)))⟩
  refine wE (nS (sR (pv (iv 41) (dE 41 0 (fun hd70=>False.elim om_) fun _=>wE (nCF (sR (pv (iv 41) (dN 41 6 (fun _=>pv tv (pW (iv 41) (wl_when kr_ (gv_ne (x:=41) (y:=41) kr_ (fun hd72=>False.elim (hd72 rfl)) (fun _=>pv fv ?_))))) fun hd71=>False.elim om_))))))))
  refine wE (nCF (wp_skip (nS (sR (pv (po g59 1) (lR (iv s0.take.wr) S64 0 1 (dN s0.take.wr 0 (fun hd73=>False.elim (hd73 hC1.wr)) fun _=>pv fv (pW (po g59 3) (wl_when kr_ (gv_ldR (v:=iv s0.take.rf) rfl kr_ kr_ (((S64.blk 0 rfl).cell 3).trans rfl) (wl_when kr_ (gv_ne (x:=s0.take.rf) (y:=0) kr_ (fun hd74=>False.elim (hd74 hC1.rf)) (fun _=>pv fv (pv fv ?_))))))))))))))
  refine pW (po g59 2) (wl_when kr_ (gv_ldR (v:=iv s0.take.fl) rfl kr_ kr_ (((S64.blk 0 rfl).cell 2).trans rfl) (pW (iv 0) (wl_when kr_ (gv_ne (x:=s0.take.fl) (y:=0) kr_ (fun hd75=>False.elim (hd75 hfl1)) (fun _=>pv fv (pv fv (pW (pq g59) (wl_when kr_ (gv_ldR (v:=nI_ m55) rfl kr_ kr_ (((S64.blk 0 rfl).cell 0).trans rfl) (pW (iv n) (wl_when kr_ (gv_int (k:=.i64) (z:=IntKind.i64.wrap (n+2)) (z':=n+2) kr_ (wr_ok om_ om_) (wl_when kr_ (gv_int (k:=.i64) (z:=IntKind.i64.wrap (2*(n+2))) (z':=2*(n+2)) kr_ (wr_ok om_ om_) (wl_when kr_ (gv_dec (p:=(((m55:Nat):Int):Int)>(2*(n+2))) kr_ (fun hd76=>False.elim om_) (fun _=>pv fv (pv fv ?_)))))))))))))))))))
  refine pW (pq gd) (wl_when kr_ (gv_call (args:=#[pq gd]) rfl Try.func16 kr_ rfl rfl kr_ (Calls.mono (pw_life S64 1 rfl) ?_)))
  rintro _ _ ⟨rfl,rfl⟩
  refine ⟨_,rfl,(wl_when kr_ (gv_dec (p:=(s0.take.life:Int)<2) kr_ (fun hd77=>False.elim om_) (fun _=>pv fv (pv fv (pW pn (pW (.bool true) (pW (iv 0) (wl_when kr_ (gv_eq (x:=0) (y:=0) kr_ (fun _=>pW (.bool false) (pv fv (wE ?_))) (fun hd78=>False.elim (hd78 rfl)))))))))))⟩
  refine nCF (wp_skip (nS (sR (pv (iv 0) (wE (then_n (wp_block (wp_loop_g (G:=Nat) (fun (g_:Nat) (a_:Act) (w_:World)=>∃J:Nat→Value,a_=(fr ([.slice A0 img.length c0,iv first,iv n,ud,ud,ud,J 6,pq gd,iv 0,pn,.slice none 0 0,iv 41,pq g59,tv,iv 0,nI_ g_,ud,ud,ud,ud,.tuple #[pq gd,iv 0],.slice A0 img.length c0,sl g1 0 img.length img.length,.tuple #[pq gd,iv 0],pq gd,iv 0,.slice A0 img.length c0,iv (img.length:Nat),nI_ (img.length%512),fv,fv,.slice A0 img.length c0,iv (img.length:Nat),fv,fv,fv,.slice A0 img.length c0,iv (img.length:Nat),fv,fv,ud,ud,ud,ud,ud,ud,pq gd,fv,.tuple #[pn,.slice none 0 0,iv 41],pq gd,iv first,iv n,.tuple #[pn,.slice none 0 0,iv 41],pn,.slice none 0 0,iv 41,pq gd,.agg #[nI_ m55,iv s0.take.wr,iv s0.take.fl,iv s0.take.rf,iv (s0.take.pend.length:Int)],iv first,tv,tv,iv n,tv,tv,tv,iv n,tv,tv,tv,iv first,pq gd,iv (s0.take.last.length:Int),tv,tv,tv,iv first,iv (first+2),iv n,iv ((first+2)+n),pq gd,iv (s0.take.last.length:Int),tv,tv,tv,fv,ud,ud,ud,ud,ud,ud,ud,ud,ud,ud,ud,ud,ud,ud,ud,ud,ud,ud,ud,ud,ud,ud,ud,ud,ud,ud,ud,ud,ud,ud,iv 41,fv,iv 41,tv,tv,iv 41,fv,fv,po g59 1,iv s0.take.wr,fv,fv,po g59 3,iv s0.take.rf,fv,fv,fv,po g59 2,iv s0.take.fl,iv 0,fv,fv,fv,pq g59,nI_ m55,iv n,iv (n+2),iv (2*(n+2)),fv,fv,fv,pq gd,iv s0.take.life,fv,fv,fv,pn,tv,iv 0,tv,fv,fv]++jR J 157 20) 31)∧St none' w w_ [row g59 #[nI_ m55,iv s0.take.wr,iv s0.take.fl,iv s0.take.rf,iv (s0.take.pend.length:Int)] 29,PN m55 gd s0.take,row g1 (bvs img) 5]∧(g_≤0)) (fun g_=>0-g_) 0 (jE_ ⟨S64,Nat.zero_le _⟩) ?_))))))))
  rintro i a_ w79 ⟨J,rfl,S80,hi1⟩
  skip
  have S80:St none' w w79 [row g59 #[nI_ m55,iv s0.take.wr,iv s0.take.fl,iv s0.take.rf,iv (s0.take.pend.length:Int)] 29,PN m55 gd s0.take,row g1 (bvs img) 5]:=S80
  refine wp_seq (sR (pv (nI_ i) (pv (.slice none 0 0) (pv (iv 0) (dC ((((i:Nat):Int):Int)<0) (fun hd82=>False.elim om_) fun _=>wE (nCF (wp_exit (then_x (then_x (inb_x (nSR (pv (pq gd) ?_))))))))))))
  refine g_ (gv_call (args:=#[pq gd,.slice none 0 0]) rfl Try.func64 kr_ rfl rfl kr_ ?_)
  have S83:St none' w w79 [PN m55 gd s0.take,row g59 #[nI_ m55,iv s0.take.wr,iv s0.take.fl,iv s0.take.rf,iv (s0.take.pend.length:Int)] 29,row g1 (bvs img) 5]:=St.pm 3 [1,0,2] S80
  refine Calls.mono (pw_crash0 S83) ?_
  rintro _ w84 ⟨rfl,S85⟩
  refine ⟨_,rfl, ?_⟩
  have hC2:=hC1.crash dc_ (St.pw_ok (L:=[]) (S85.mem 0 rfl))
  have ha2:argsR (s0.take.crashR []) first n=0:=(hC.args hC2 first n).trans ha
  have hCt2:=hC2.take dc_
  have hnew2:=hCt.newR hCt2 first.toNat
  have hpc2:=hCt.pcAt hCt2 first.toNat n.toNat
  refine wER (pv (pq gd) (pv (iv first) (pv (iv n) (g_ (gv_call (args:=#[pq gd,iv first,iv n]) rfl Try.func61 kr_ rfl rfl kr_ (Calls.mono (w_open_go S85 ha2) ?_))))))
  rintro e_ w86 hh
  rcases hh with ⟨hno2,rfl,S87⟩|⟨ep2,tl2,hgood2,hworn2,rfl,S87⟩|⟨ep2,tl2,gl2,v2,RV2,hd2,hgood2,hnw2,hT1,hT2,rfl,S87⟩
  ·rw [hnew2,hgood] at hno2;cases hno2
  ·have hC3:Calm (s0.take.crashR []).take (secs img m) 4:=hCt2
   have ha3:argsR (s0.take.crashR []).take first n=0:=(hC.args hC3 first n).trans ha
   have hflat:(s0.take.crashR []).take.last.flatten=img:=by rw [hC3.last];exact secs_flat m img hm
   refine ⟨_,rfl,(pv (.tuple #[pn,.slice none 0 0,iv 41]) (pv pn (pv (.slice none 0 0) (pv (iv 41) (pv pn (pv (.slice none 0 0) (pv (iv 41) (wER (pv (pq gd) (g_ (gv_call (args:=#[pq gd]) rfl Try.func18 kr_ rfl rfl kr_ (Calls.mono (pw_image S87) ?_))))))))))))⟩
   rintro _ w88 ⟨v5,rfl,S89⟩
   rw [hflat] at S89
   obtain ⟨A5,rfl,S90⟩:=St.bytes_eq S89
   refine ⟨_,rfl,(pv (.slice A5 img.length img.length) (wER (pv (iv 41) (pv (iv 41) (dE 41 41 (fun _=>pv tv (pW (.slice none 0 0) (pW (.slice none 0 0) (wl_when kr_ (gv_call (args:=#[.slice none 0 0,.slice none 0 0]) rfl Try.func66 kr_ rfl rfl kr_ (Calls.mono (n_alike (RV:=[]) (RK:=[]) S90 nil_rol nil_rol rfl rfl dc_ dc_ rfl) ?_)))))) fun hd91=>False.elim (hd91 rfl))))))⟩
   rintro _ w92 ⟨rfl,S93⟩
   refine ⟨_,rfl,(pv tv (pv tv (pW (.slice A5 img.length img.length) (pW (.slice A0 img.length c0) (wl_when kr_ (gv_call (args:=#[.slice A5 img.length img.length,.slice A0 img.length c0]) rfl Try.func24 kr_ rfl rfl kr_ (Calls.mono (same_b (a:=img) (b:=img) (decide_eq_true rfl) S93 (RoT.bytes 0 rfl rfl) (hri _) om_ om_) ?_)))))))⟩
   rintro _ w94 ⟨rfl,S95⟩
   refine ⟨_,rfl,(pv tv (pv tv (pW (pq gd) (pW (iv first) (pW (iv n) (wl_when kr_ (gv_call (args:=#[pq gd,iv first,iv n]) rfl Try.func77 kr_ rfl rfl kr_ ?_)))))))⟩
   have S96:=St.pm 4 [1,0,2,3] S95
   refine Calls.mono (w_sparing S96 hC3 dc_ om_ ha3) ?_
   rintro _ w97 ⟨rfl,S98⟩
   refine ⟨_,rfl,(pv tv (pv tv (wE ?_)))⟩
   exact then_n (wp_ret (bA (.bool true) ⟨rfl,S98.fr.below⟩))
  ·rw [hnew2,hgood] at hgood2
   cases hgood2
   rw [hpc2] at hnw2
   exact absurd hworn hnw2
 ·obtain ⟨Av,cv,rfl⟩:=St.vec_val S11
  have hbd:=hR1.lens (fun p=>pcF_data _)
  have hRl:=hR1.room (n:=n.toNat) (fun p=>pcAt_round _ _ _ p) om_
  have hRc:=hR1.count
  rw [List.length_map] at hRc
  refine ⟨_,rfl, ?_⟩
  have hC1:Calm s0.take.flushR.1 (secs img m) 2:=hCt.flush
  have hl1:s0.take.flushR.1.last.length=m:=by rw [hC1.last];exact length_secs m img
  have hlf1:=hC1.life
  have hfl1:s0.take.flushR.1.fl=1:=by rw [hCt.fl,show s0.take.fl=s0.fl from rfl,hfl0];decide
  have S7_:St none' w w10 [vec 31 1 (.slice Av RV.length cv) RV.length (RV.map (fun x:RecV=>x.1)),stars (RV.map recD),PLog gl gd ⟨first.toNat,n.toNat,inc s0.life,ep,topTo (pcAt s0.take first.toNat n.toNat) ep n.toNat,tl,hd,false⟩,PN (0+(n.toNat+2)) gd s0.take.flushR.1,row g1 (bvs img) 5]:=S11
  refine pv (.tuple #[pq gl,.slice Av RV.length cv,iv 0]) (pv (pq gl) (pv (.slice Av RV.length cv) (pv (iv 0) (pv (pq gl) (pv (.slice Av RV.length cv) (pv (iv 0) (wER (pv (pq gd) (g_ (gv_call (args:=#[pq gd]) rfl Try.func17 kr_ rfl rfl kr_ ?_))))))))))
  have S99:St none' w w10 [PN (0+(n.toNat+2)) gd s0.take.flushR.1,vec 31 1 (.slice Av RV.length cv) RV.length (RV.map (fun x:RecV=>x.1)),stars (RV.map recD),PLog gl gd ⟨first.toNat,n.toNat,inc s0.life,ep,topTo (pcAt s0.take first.toNat n.toNat) ep n.toNat,tl,hd,false⟩,row g1 (bvs img) 5]:=St.pm 5 [3,0,1,2,4] S7_
  refine Calls.mono (pw_counts S99 om_) ?_
  rintro _ w102 hh
  obtain ⟨m100,hr101,rfl,S103⟩:=hh
  refine ⟨_,rfl,(nW rfl (.agg #[iv 0,iv 0,iv 0,iv 0,iv 0]) S103 fun g104 w105 hg106 S107=>g_ (gv_stA (k:=0) (vs:=[nI_ m100,iv s0.take.flushR.1.wr,iv s0.take.flushR.1.fl,iv s0.take.flushR.1.rf,iv (s0.take.flushR.1.pend.length:Int)]) S107 0 rfl rfl kr_ kr_ kr_ rfl (by simp [Value.oneCell']) (Nat.le_of_ble_eq_true kr_) (L':=[row g104 #[nI_ m100,iv s0.take.flushR.1.wr,iv s0.take.flushR.1.fl,iv s0.take.flushR.1.rf,iv (s0.take.flushR.1.pend.length:Int)] 29,PN m100 gd s0.take.flushR.1,vec 31 1 (.slice Av RV.length cv) RV.length (RV.map (fun x:RecV=>x.1)),stars (RV.map recD),PLog gl gd ⟨first.toNat,n.toNat,inc s0.life,ep,topTo (pcAt s0.take first.toNat n.toNat) ep n.toNat,tl,hd,false⟩,row g1 (bvs img) 5]) rfl (fun w108 S109=>wER (pv (iv first) (dC ((first:Int)≥0) (fun _=>pv tv (pW (iv n) (wl_when kr_ (gv_dec (p:=(n:Int)≥18) kr_ (fun _=>pv tv (pv tv (pW (iv n) (wl_when kr_ (gv_dec (p:=(n:Int)≤256) kr_ (fun _=>pv tv ?_) (fun hd112=>False.elim om_)))))) (fun hd111=>False.elim om_))))) fun hd110=>False.elim om_)))))⟩
  refine pv tv (pW (iv first) (pW (pq gd) (wl_when kr_ (gv_call (args:=#[pq gd]) rfl Try.func14 kr_ rfl rfl kr_ (Calls.mono (pw_sectors S109 1 rfl) ?_)))))
  rintro _ _ ⟨rfl,rfl⟩
  refine ⟨_,rfl,(wl_when kr_ (gv_dec (p:=(first:Int)<(s0.take.flushR.1.last.length:Int)) kr_ (fun _=>pv tv (pv tv (pW (iv first) (wl_when kr_ (gv_int (k:=.i64) (z:=IntKind.i64.wrap (first+2)) (z':=first+2) kr_ (wr_ok om_ om_) (pW (iv n) (wl_when kr_ (gv_int (k:=.i64) (z:=IntKind.i64.wrap ((first+2)+n)) (z':=(first+2)+n) kr_ (wr_ok om_ om_) (pW (pq gd) (wl_when kr_ (gv_call (args:=#[pq gd]) rfl Try.func14 kr_ rfl rfl kr_ (Calls.mono (pw_sectors S109 1 rfl) ?_)))))))))))) (fun hd113=>False.elim om_)))⟩
  rintro _ _ ⟨rfl,rfl⟩
  refine ⟨_,rfl,(wl_when kr_ (gv_dec (p:=((first+2)+n:Int)≤(s0.take.flushR.1.last.length:Int)) kr_ (fun _=>pv tv (pv tv (wE (nS (sR (pv tv (pv fv (wE (nCF (wp_skip (nSR (pv (iv 0) ?_)))))))))))) (fun hd114=>False.elim om_)))⟩
  refine wE (nS (sR (pv (iv 0) (dE 0 0 (fun _=>wE (nCT (wp_region_lit (pv (iv 1) (wE (nS (sR (pv (po g104 1) (lR (iv s0.take.flushR.1.wr) S109 0 1 ?_))))))))) fun hd115=>False.elim (hd115 rfl)))))
  refine dN s0.take.flushR.1.wr 0 (fun hd116=>False.elim (hd116 hC1.wr)) fun _=>pv fv (pW (po g104 3) (wl_when kr_ (gv_ldR (v:=iv s0.take.flushR.1.rf) rfl kr_ kr_ (((S109.blk 0 rfl).cell 3).trans rfl) (wl_when kr_ (gv_ne (x:=s0.take.flushR.1.rf) (y:=0) kr_ (fun hd117=>False.elim (hd117 hC1.rf)) (fun _=>pv fv (pv fv (pW (po g104 2) (wl_when kr_ (gv_ldR (v:=iv s0.take.flushR.1.fl) rfl kr_ kr_ (((S109.blk 0 rfl).cell 2).trans rfl) (pW (iv 1) (wl_when kr_ (gv_ne (x:=s0.take.flushR.1.fl) (y:=1) kr_ (fun hd118=>False.elim (hd118 hfl1)) (fun _=>pv fv (pv fv (pW (pq g104) ?_))))))))))))))))
  refine wl_when kr_ (gv_ldR (v:=nI_ m100) rfl kr_ kr_ (((S109.blk 0 rfl).cell 0).trans rfl) (pW (iv n) (wl_when kr_ (gv_int (k:=.i64) (z:=IntKind.i64.wrap (n+2)) (z':=n+2) kr_ (wr_ok om_ om_) (wl_when kr_ (gv_int (k:=.i64) (z:=IntKind.i64.wrap (2*(n+2))) (z':=2*(n+2)) kr_ (wr_ok om_ om_) (wl_when kr_ (gv_dec (p:=(((m100:Nat):Int):Int)>(2*(n+2))) kr_ (fun hd119=>False.elim om_) (fun _=>pv fv (pv fv (pW (pq gd) (wl_when kr_ (gv_call (args:=#[pq gd]) rfl Try.func16 kr_ rfl rfl kr_ (Calls.mono (pw_life S109 1 rfl) ?_))))))))))))))
  rintro _ _ ⟨rfl,rfl⟩
  refine ⟨_,rfl,(wl_when kr_ (gv_dec (p:=(s0.take.flushR.1.life:Int)<2) kr_ (fun hd120=>False.elim om_) (fun _=>pv fv (pv fv (pW (pq gl) (pW (.bool false) (pW (iv 1) (wl_when kr_ (gv_eq (x:=1) (y:=0) kr_ (fun hd121=>False.elim om_) (fun _=>pW (.bool false) (pv fv (wE (nCF (wp_skip (nS ?_)))))))))))))))⟩
  refine sR (pv (iv 0) (wE ?_))
  refine then_n (wp_block (wp_loop_g (G:=Nat) (fun (g_:Nat) (a_:Act) (w_:World)=>∃J:Nat→Value,a_=(fr ([.slice A0 img.length c0,iv first,iv n,ud,ud,ud,J 6,pq gd,iv 0,pq gl,.slice Av RV.length cv,iv 0,pq g104,tv,iv 1,nI_ g_,ud,ud,ud,ud,.tuple #[pq gd,iv 0],.slice A0 img.length c0,sl g1 0 img.length img.length,.tuple #[pq gd,iv 0],pq gd,iv 0,.slice A0 img.length c0,iv (img.length:Nat),nI_ (img.length%512),fv,fv,.slice A0 img.length c0,iv (img.length:Nat),fv,fv,fv,.slice A0 img.length c0,iv (img.length:Nat),fv,fv,ud,ud,ud,ud,ud,ud,pq gd,fv,.tuple #[pq gl,.slice Av RV.length cv,iv 0],pq gd,iv first,iv n,.tuple #[pq gl,.slice Av RV.length cv,iv 0],pq gl,.slice Av RV.length cv,iv 0,pq gd,.agg #[nI_ m100,iv s0.take.flushR.1.wr,iv s0.take.flushR.1.fl,iv s0.take.flushR.1.rf,iv (s0.take.flushR.1.pend.length:Int)],iv first,tv,tv,iv n,tv,tv,tv,iv n,tv,tv,tv,iv first,pq gd,iv (s0.take.flushR.1.last.length:Int),tv,tv,tv,iv first,iv (first+2),iv n,iv ((first+2)+n),pq gd,iv (s0.take.flushR.1.last.length:Int),tv,tv,tv,fv,ud,ud,ud,ud,ud,ud,ud,ud,ud,ud,ud,ud,ud,ud,ud,ud,ud,ud,ud,ud,ud,ud,ud,ud,ud,ud,ud,ud,ud,ud,iv 0,tv,ud,ud,ud,ud,ud,ud,po g104 1,iv s0.take.flushR.1.wr,fv,fv,po g104 3,iv s0.take.flushR.1.rf,fv,fv,fv,po g104 2,iv s0.take.flushR.1.fl,iv 1,fv,fv,fv,pq g104,nI_ m100,iv n,iv (n+2),iv (2*(n+2)),fv,fv,fv,pq gd,iv s0.take.flushR.1.life,fv,fv,fv,pq gl,fv,iv 1,fv,fv,fv]++jR J 157 20) 31)∧St none' w w_ [row g104 #[nI_ m100,iv s0.take.flushR.1.wr,iv s0.take.flushR.1.fl,iv s0.take.flushR.1.rf,iv (s0.take.flushR.1.pend.length:Int)] 29,PN m100 gd s0.take.flushR.1,vec 31 1 (.slice Av RV.length cv) RV.length (RV.map (fun x:RecV=>x.1)),stars (RV.map recD),PLog gl gd ⟨first.toNat,n.toNat,inc s0.life,ep,topTo (pcAt s0.take first.toNat n.toNat) ep n.toNat,tl,hd,false⟩,row g1 (bvs img) 5]∧(g_≤RV.length)) (fun g_=>RV.length-g_) 0 (jE_ ⟨S109,Nat.zero_le _⟩) ?_))
  rintro i a_ w122 ⟨J,rfl,S123,hi1⟩
  skip
  have S123:St none' w w122 [row g104 #[nI_ m100,iv s0.take.flushR.1.wr,iv s0.take.flushR.1.fl,iv s0.take.flushR.1.rf,iv (s0.take.flushR.1.pend.length:Int)] 29,PN m100 gd s0.take.flushR.1,vec 31 1 (.slice Av RV.length cv) RV.length (RV.map (fun x:RecV=>x.1)),stars (RV.map recD),PLog gl gd ⟨first.toNat,n.toNat,inc s0.life,ep,topTo (pcAt s0.take first.toNat n.toNat) ep n.toNat,tl,hd,false⟩,row g1 (bvs img) 5]:=S123
  refine wp_seq (sR (pv (nI_ i) (pv (.slice Av RV.length cv) (pv (iv (RV.length:Nat)) (dC ((((i:Nat):Int):Int)<(RV.length:Nat)) (fun hb125=> ?_) fun hb125=> ?_)))))
  ·have hi:i<RV.length:=by omega
   obtain ⟨x,hx⟩:∃x,RV[i]?=some x:=⟨_,List.getElem?_eq_getElem hi⟩
   have hxm:=List.mem_of_getElem? hx
   obtain ⟨Ax,cx,hxv⟩:=St.recv S123 3 rfl hxm
   obtain ⟨adv,hAdv,hrv⟩:=St.vec_rd S123 2 rfl (by rw [List.length_map];omega)
   have hcx:(RV.map (fun x:RecV=>x.1))[i]?=some (.slice Ax x.2.length cx):=by rw [List.getElem?_map,hx];exact congrArg some hxv
   have hbx:=hbd x.2 (List.mem_map_of_mem hxm)
   refine wE (nCT (wp_skip (nS (wp_block (sR (pv (.slice Av RV.length cv) (pv (nI_ i) (g_ (gv_ixB (e:=31) (sz:=1) (n:=RV.length) (c:=cv) (i:=((i:Nat):Int)) (k:=.i64) (ad:=adv) (ad':=(adv.add i)) (j:=i) rfl kr_ kr_ (by rw [←hAdv];kernel_rfl) kr_ rfl om_ (by rw [Nat.mul_one]) (lQ (.slice Ax x.2.length cx) (hrv i _ hcx) (pv (iv (x.2.length:Nat)) (dC (((x.2.length:Nat):Int)<1) (fun hd126=>False.elim om_) fun _=>pv fv (pW (.slice Av RV.length cv) ?_)))))))))))))
   refine pW (nI_ i) (wl_when kr_ (gv_ixB (e:=31) (sz:=1) (n:=RV.length) (c:=cv) (i:=((i:Nat):Int)) (k:=.i64) (ad:=adv) (ad':=(adv.add i)) (j:=i) rfl kr_ kr_ (by rw [←hAdv];kernel_rfl) kr_ rfl om_ (by rw [Nat.mul_one]) (wl_when kr_ (gv_ldR (v:=.slice Ax x.2.length cx) rfl kr_ kr_ (hrv i _ hcx) (pW (iv (x.2.length:Nat)) (wl_when kr_ (gv_dec (p:=((x.2.length:Nat):Int)>8364) kr_ (fun hd127=>False.elim om_) (fun _=>pv fv (wE (nCF (wp_skip (inb_n (nR (pv (nI_ i) (gI .i64 (IntKind.i64.wrap (((i:Nat):Int)+1)) ((i+1:Nat):Int) (wr_eq om_ om_ om_) (pv (nI_ (i+1)) ?_))))))))))))))))
   exact wE (then_n ⟨i+1,(jE_ ⟨S123,(by show i+1≤RV.length;omega)⟩),(by show RV.length-(i+1)<RV.length-i;omega)⟩)
  ·refine wE (nCF (wp_exit (then_x (then_x (inb_x (nSR (pv (pq gd) (g_ (gv_call (args:=#[pq gd,.slice none 0 0]) rfl Try.func64 kr_ rfl rfl kr_ ?_)))))))))
   have S128:St none' w w122 [PN m100 gd s0.take.flushR.1,row g104 #[nI_ m100,iv s0.take.flushR.1.wr,iv s0.take.flushR.1.fl,iv s0.take.flushR.1.rf,iv (s0.take.flushR.1.pend.length:Int)] 29,vec 31 1 (.slice Av RV.length cv) RV.length (RV.map (fun x:RecV=>x.1)),stars (RV.map recD),PLog gl gd ⟨first.toNat,n.toNat,inc s0.life,ep,topTo (pcAt s0.take first.toNat n.toNat) ep n.toNat,tl,hd,false⟩,row g1 (bvs img) 5]:=St.pm 6 [1,0,2,3,4,5] S123
   refine Calls.mono (pw_crash0 S128) ?_
   rintro _ w129 ⟨rfl,S130⟩
   refine ⟨_,rfl, ?_⟩
   have hC2:=hC1.crash dc_ (St.pw_ok (L:=[]) (S130.mem 0 rfl))
   have ha2:argsR (s0.take.flushR.1.crashR []) first n=0:=(hC.args hC2 first n).trans ha
   have hCt2:=hC2.take dc_
   have hnew2:=hCt.newR hCt2 first.toNat
   have hpc2:=hCt.pcAt hCt2 first.toNat n.toNat
   refine wER (pv (pq gd) (pv (iv first) (pv (iv n) (g_ (gv_call (args:=#[pq gd,iv first,iv n]) rfl Try.func61 kr_ rfl rfl kr_ (Calls.mono (w_open_go S130 ha2) ?_))))))
   rintro e_ w131 hh
   rcases hh with ⟨hno2,rfl,S132⟩|⟨ep2,tl2,hgood2,hworn2,rfl,S132⟩|⟨ep2,tl2,gl2,v2,RV2,hd2,hgood2,hnw2,hT1,hT2,rfl,S132⟩
   ·rw [hnew2,hgood] at hno2;cases hno2
   ·rw [hnew2,hgood] at hgood2
    cases hgood2
    rw [hpc2] at hworn2
    exact absurd hworn2 hnw
   ·have hC3:Calm (s0.take.flushR.1.crashR []).take.flushR.1 (secs img m) 4:=hCt2.flush
    have ha3:argsR (s0.take.flushR.1.crashR []).take.flushR.1 first n=0:=(hC.args hC3 first n).trans ha
    have hflat:(s0.take.flushR.1.crashR []).take.flushR.1.last.flatten=img:=by rw [hC3.last];exact secs_flat m img hm
    rw [hnew2,hgood] at hgood2
    cases hgood2
    rw [hpc2] at hT1 hT2
    obtain ⟨hRe,_⟩:=Recs.det _ (Nat.le_refl _) hR1 hR2 hT1 hT2
    have hbd2:=hT1.lens (fun p=>pcF_data _)
    obtain ⟨Au,cu,rfl⟩:=St.vec_val S132
    refine ⟨_,rfl, ?_⟩
    have S8_:St none' w w131 [vec 31 1 (.slice Au RV2.length cu) RV2.length (RV2.map (fun x:RecV=>x.1)),stars (RV2.map recD),PLog gl2 gd ⟨first.toNat,n.toNat,inc (s0.take.flushR.1.crashR []).life,ep,topTo (pcAt (s0.take.flushR.1.crashR []).take first.toNat n.toNat) ep n.toNat,tl,hd2,false⟩,PN (m100+(n.toNat+2)) gd (s0.take.flushR.1.crashR []).take.flushR.1,row g104 #[nI_ m100,.int .i64 s0.take.flushR.1.wr,.int .i64 s0.take.flushR.1.fl,.int .i64 s0.take.flushR.1.rf,.int .i64 (s0.take.flushR.1.pend.length:Int)] 29,vec 31 1 (.slice Av RV.length cv) RV.length (RV.map (fun x:RecV=>x.1)),stars (RV.map recD),PLog gl gd ⟨first.toNat,n.toNat,inc s0.life,ep,topTo (pcAt s0.take first.toNat n.toNat) ep n.toNat,tl,hd,false⟩,row g1 (bvs img) 5]:=S132
    refine pv (.tuple #[pq gl2,.slice Au RV2.length cu,iv 0]) (pv (pq gl2) (pv (.slice Au RV2.length cu) (pv (iv 0) (pv (pq gl2) (pv (.slice Au RV2.length cu) (pv (iv 0) (wER (pv (pq gd) (g_ (gv_call (args:=#[pq gd]) rfl Try.func18 kr_ rfl rfl kr_ ?_))))))))))
    have S133:St none' w w131 [PN (m100+(n.toNat+2)) gd (s0.take.flushR.1.crashR []).take.flushR.1,vec 31 1 (.slice Au RV2.length cu) RV2.length (RV2.map (fun x:RecV=>x.1)),stars (RV2.map recD),PLog gl2 gd ⟨first.toNat,n.toNat,inc (s0.take.flushR.1.crashR []).life,ep,topTo (pcAt (s0.take.flushR.1.crashR []).take first.toNat n.toNat) ep n.toNat,tl,hd2,false⟩,row g104 #[nI_ m100,iv s0.take.flushR.1.wr,iv s0.take.flushR.1.fl,iv s0.take.flushR.1.rf,iv (s0.take.flushR.1.pend.length:Int)] 29,vec 31 1 (.slice Av RV.length cv) RV.length (RV.map (fun x:RecV=>x.1)),stars (RV.map recD),PLog gl gd ⟨first.toNat,n.toNat,inc s0.life,ep,topTo (pcAt s0.take first.toNat n.toNat) ep n.toNat,tl,hd,false⟩,row g1 (bvs img) 5]:=St.pm 9 [3,0,1,2,4,5,6,7,8] S8_
    refine Calls.mono (pw_image S133) ?_
    rintro _ w134 ⟨v5,rfl,S135⟩
    rw [hflat] at S135
    obtain ⟨A5,rfl,S136⟩:=St.bytes_eq S135
    refine ⟨_,rfl,(pv (.slice A5 img.length img.length) (wER (pv (iv 0) (pv (iv 0) (dE 0 0 (fun _=>pv tv (pW (.slice Av RV.length cv) (pW (.slice Au RV2.length cu) (wl_when kr_ (gv_call (args:=#[.slice Av RV.length cv,.slice Au RV2.length cu]) rfl Try.func66 kr_ rfl rfl kr_ ?_))))) fun hd137=>False.elim (hd137 rfl))))))⟩
    have hTl:=hT1.room (n:=n.toNat) (fun p=>pcAt_round _ _ _ p) om_
    have hTc:=hT1.count
    rw [List.length_map] at hTc
    refine Calls.mono (n_alike S136 (rol_own S136 6 7 rfl rfl (fun x hx=>hbd x.2 (List.mem_map_of_mem hx))) (rol_own S136 2 3 rfl rfl (fun x hx=>hbd2 x.2 (List.mem_map_of_mem hx))) rfl rfl om_ om_ hRe) ?_
    rintro _ w138 ⟨rfl,S139⟩
    refine ⟨_,rfl,(pv tv (pv tv (pW (.slice A5 img.length img.length) (pW (.slice A0 img.length c0) (wl_when kr_ (gv_call (args:=#[.slice A5 img.length img.length,.slice A0 img.length c0]) rfl Try.func24 kr_ rfl rfl kr_ (Calls.mono (same_b (a:=img) (b:=img) (decide_eq_true rfl) S139 (RoT.bytes 0 rfl rfl) (hri _) om_ om_) ?_)))))))⟩
    rintro _ w140 ⟨rfl,S141⟩
    refine ⟨_,rfl,(pv tv (pv tv (pW (pq gd) (pW (iv first) (pW (iv n) (wl_when kr_ (gv_call (args:=#[pq gd,iv first,iv n]) rfl Try.func77 kr_ rfl rfl kr_ ?_)))))))⟩
    have S142:=St.pm 10 [1,0,2,3,4,5,6,7,8,9] S141
    refine Calls.mono (w_sparing S142 hC3 dc_ om_ ha3) ?_
    rintro _ w143 ⟨rfl,S144⟩
    exact ⟨_,rfl,(pv tv (pv tv (wE (then_n (wp_ret (bA (.bool true) ⟨rfl,S144.fr.below⟩))))))⟩
end Go.Proofs.Cnt
end
section
open Go Go.RowKit Go.Deep Go.Proofs.YtgeioealgidkiaaW.PrintWords Go.Proofs.YtgeioealgidkiaaW.PrintMore
namespace Go.Vel
section
def Opens {H:Type}(enc:TypeId×Value→H)(P:Program)(W:World)(t:TypeId){α:Type}(d:Kd α)(Q:α→Prop):Prop:=
 ∀fuel cs x,DataW.trod enc P W 0 (fun _=>true) true fuel t cs=some x→(∀n∈x.1.weights P t,n≤reachBytes)→∃a,d.K W a cs∧Q a
section
variable {H:Type}{enc:TypeId×Value→H}{P:Program}{W:World}{α:Type}
theorem Opens.bool {t:TypeId}(ht:P.underlying t=some .bool):Opens enc P W t Kd.bool (fun _=>True):=by
 intro fuel cs x h _
 obtain ⟨n,e,_⟩:=DataW.trod_bool ht h
 exact ⟨n,e,trivial⟩
theorem Opens.mono {t:TypeId}{d:Kd α}{Q Q':α→Prop}(h:Opens enc P W t d Q)(hq:∀a,Q a→Q' a):Opens enc P W t d Q':=fun fuel cs x hx hw=>by
 obtain ⟨a,h1,h2⟩:=h fuel cs x hx hw
 exact ⟨a,h1,hq a h2⟩
theorem add_add (a:Addr)(i j:Nat):(a.add i).add j=a.add (i+j):=by
 unfold Addr.add
 by_cases h0:i=0
 ·subst h0;simp
 ·by_cases h1:j=0
  ·subst h1;simp
  ·have h2:¬(i+j=0):=by omega
   simp only [h0,h1,h2,if_false,Nat.add_assoc]
theorem weightsAll_mem {e:TypeId}:∀{ds:List (DataW H)} {d:DataW H},d∈ds→∀n∈d.weights P e,n∈DataW.weightsAll P e ds
 |[],_,h=>by cases h
 |x::r,d,h=>fun n hn=>by
  unfold DataW.weightsAll
  rcases List.mem_cons.1 h with rfl|h
  ·exact List.mem_append_left _ hn
  ·exact List.mem_append_right _ (weightsAll_mem h n hn)
theorem Opens.slice [Inhabited α]{t e:TypeId}{d:Kd α}{Q:α→Prop}{B:Nat}(ht:P.underlying t=some (.slice e))(hd:Opens enc P W e d Q)(hsz:d.sz=P.cellsOf e)(hB:P.bytesOf e=B):Opens enc P W t (Kd.slice e d) (fun xs=>xs.length≤maxLen∧xs.length*B≤reachBytes∧∀x∈xs,Q x):=by
 intro fuel cs x h hw
 rcases open_slice ht h with ⟨rfl,_⟩|⟨a,len,cap,m,n,D,Pl,rfl,_,hl,hm,hmm,hx,he⟩
 ·exact ⟨[],⟨none,0,rfl,Nat.le_refl _,rfl,Nat.zero_le _,fun h=>absurd h (Nat.lt_irrefl 0)⟩,Nat.zero_le _,by simp,fun x hx=>by cases hx⟩
 ·rw [if_pos rfl] at hmm
  subst hmm
  have hw1:∀n∈((((List.range len).map D).length*P.bytesOf e+((List.range (m-len)).map fun j=>D (len+j)).length*P.bytesOf e)::(DataW.weightsAll P e ((List.range len).map D)++DataW.weightsAll P e ((List.range (m-len)).map fun j=>D (len+j))):List Nat),n≤reachBytes:=by
   rw [hx] at hw
   simp only [DataW.weights,ht] at hw
   rw [Nat.add_mul] at hw
   exact hw
  have hfirst:=hw1 _ List.mem_cons_self
  have hex:∀i,i<len→∃y:α,∃cs',W.cells? 0 (a.add (i*P.cellsOf e)) (P.cellsOf e)=some cs'∧d.K W y cs'∧Q y:=by
   intro i hi
   obtain ⟨cs',h1,h2⟩:=he i om_
   obtain ⟨y,h3,h4⟩:=hd _ _ _ h2 (fun n hn=>hw1 n (List.mem_cons_of_mem _ (List.mem_append_left _ (weightsAll_mem (d:=D i) (List.mem_map.2 ⟨i,List.mem_range.2 hi,rfl⟩) n hn))))
   exact ⟨y,cs',h1,h3,h4⟩
  obtain ⟨f,hf⟩:=choose_lt hex
  have hlen:((List.range len).map f).length=len:=by simp
  have hmx:maxLen≤9223372036854775807:=by decide
  refine ⟨(List.range len).map f,⟨some a,m,by rw [hlen],by rw [hlen];exact hl,rfl,by rw [hlen];omega,fun _=>⟨a,rfl,fun j p hp=> ?_⟩⟩,by rw [hlen];omega, ?_, ?_⟩
  ·have hj:j<len:=by
    have:=(List.getElem?_eq_some_iff.1 hp).1
    rwa [hlen] at this
   rw [List.getElem?_map,List.getElem?_range hj] at hp
   simp only [Option.map_some,Option.some.injEq] at hp
   subst hp
   obtain ⟨cs',h1,h2,_⟩:=hf j hj
   obtain ⟨_,hl2,hc⟩:=World.cells?_some h1
   refine ⟨cs',by rw [hl2,hsz],h2,fun i u hu=> ?_⟩
   have hi:i<P.cellsOf e:=by
    have:=(List.getElem?_eq_some_iff.1 hu).1
    omega
   have:=hc i hi
   rw [hu,add_add] at this
   rw [hsz];exact this
  ·rw [hlen,←hB]
   simp only [List.length_map,List.length_range] at hfirst
   exact Nat.le_trans (Nat.le_add_right _ _) hfirst
  ·intro x hx
   obtain ⟨i,hi,rfl⟩:=List.mem_map.1 hx
   obtain ⟨_,_,_,hq⟩:=hf i (List.mem_range.1 hi)
   exact hq
end
end
end Go.Vel
end
section
open Go Go.RowKit Go.Deep Go.Proofs.YtgeioealgidkiaaW.PrintWords
namespace Go.Vel
/-- Whatever is read as type t has cells of which Q holds. -/
def Opn {H : Type} (enc : TypeId × Value → H) (P : Program) (W : World) (t : TypeId) (Q : List Value → Prop) : Prop :=
  ∀ fuel cs x, DataW.trod enc P W 0 (fun _ => true) true fuel t cs = some x → (∀ n ∈ x.1.weights P t, n ≤ reachBytes) → Q cs
theorem flatten_get {sz : Nat} : ∀ {els : List (List Value)} {j : Nat} {u : Value}, (∀ e ∈ els, e.length = sz) → els.flatten[j]? = some u → ∃ i r e, j = i * sz + r ∧ els[i]? = some e ∧ e[r]? = some u
  | [], j, u, _, h => by simp at h
  | e :: l, j, u, hl, h => by
    have he := hl e List.mem_cons_self
    rw [List.flatten_cons] at h
    by_cases hj : j < e.length
    · rw [List.getElem?_append_left hj] at h
      exact ⟨0, j, e, by rw [Nat.zero_mul, Nat.zero_add], rfl, h⟩
    · rw [List.getElem?_append_right (by omega)] at h
      obtain ⟨i, r, e', h1, h2, h3⟩ := flatten_get (fun y hy => hl y (List.mem_cons_of_mem _ hy)) h
      exact ⟨i + 1, r, e', by rw [Nat.add_mul, Nat.one_mul]; omega, by simpa using h2, h3⟩
theorem all_map {α : Type} {f : α → List Value} {Q : α → Prop} : ∀ {els : List (List Value)}, (∀ e ∈ els, ∃ a, e = f a ∧ Q a) → ∃ l : List α, els = l.map f ∧ ∀ a ∈ l, Q a
  | [], _ => ⟨[], rfl, fun a h => by cases h⟩
  | e :: r, h => by
    obtain ⟨a, rfl, ha⟩ := h e List.mem_cons_self
    obtain ⟨l, rfl, hl⟩ := all_map fun y hy => h y (List.mem_cons_of_mem _ hy)
    exact ⟨a :: l, rfl, fun b hb => (List.mem_cons.1 hb).elim (fun e => e ▸ ha) (hl b)⟩
section
variable {H : Type} {enc : TypeId × Value → H} {P : Program} {W : World}
theorem Opn.int {t : TypeId} {k : IntKind} (ht : P.underlying t = some (.int k)) : Opn enc P W t (fun cs => ∃ n, cs = [.int k n] ∧ (Lit.int k n).wf = true) := by
  intro fuel cs x h _
  obtain ⟨n, e, _, hw⟩ := DataW.trod_int ht h
  exact ⟨n, e, hw⟩
/-- What a list's cell says. -/
def LstQ (W : World) (B : Nat) (Q : List Value → Prop) (cs : List Value) : Prop := ∃ (A : Option Addr) (c : Nat) (els : List (List Value)), cs = [.slice A els.length c] ∧ els.length ≤ c ∧ els.length ≤ maxLen ∧ els.length * B ≤ reachBytes ∧ (∀ e ∈ els, Q e) ∧ RdV W A els.flatten
theorem Opn.slice {t e : TypeId} {Q : List Value → Prop} {B : Nat} (ht : P.underlying t = some (.slice e)) (hd : Opn enc P W e Q) (hB : P.bytesOf e = B) : Opn enc P W t (LstQ W B Q) := by
  intro fuel cs x h hw
  rcases open_slice ht h with ⟨rfl, _⟩ | ⟨a, len, cap, m, n, D, Pl, rfl, _, hl, hm, hmm, hx, he⟩
  · exact ⟨none, 0, [], rfl, Nat.le_refl _, Nat.zero_le _, by simp, fun x hx => (by cases hx), fun h => absurd h (Nat.lt_irrefl 0)⟩
  · rw [if_pos rfl] at hmm
    subst hmm
    have hw1 : ∀ n ∈ ((((List.range len).map D).length * P.bytesOf e + ((List.range (m - len)).map fun j => D (len + j)).length * P.bytesOf e) :: (DataW.weightsAll P e ((List.range len).map D) ++ DataW.weightsAll P e ((List.range (m - len)).map fun j => D (len + j))) : List Nat), n ≤ reachBytes := by
      rw [hx] at hw
      simp only [DataW.weights, ht] at hw
      rw [Nat.add_mul] at hw
      exact hw
    have hfirst := hw1 _ List.mem_cons_self
    have hex : ∀ i, i < len → ∃ cs', W.cells? 0 (a.add (i * P.cellsOf e)) (P.cellsOf e) = some cs' ∧ Q cs' := by
      intro i hi
      obtain ⟨cs', h1, h2⟩ := he i (by omega)
      exact ⟨cs', h1, hd _ _ _ h2 (fun n hn => hw1 n (List.mem_cons_of_mem _ (List.mem_append_left _ (weightsAll_mem (d := D i) (List.mem_map.2 ⟨i, List.mem_range.2 hi, rfl⟩) n hn))))⟩
    obtain ⟨f, hf⟩ := choose_lt hex
    have hlen : ((List.range len).map f).length = len := by simp
    have hmx : maxLen ≤ 9223372036854775807 := by decide
    have hget : ∀ i e', ((List.range len).map f)[i]? = some e' → i < len ∧ f i = e' := fun i e' hi => by
      have hj : i < len := by
        have := (List.getElem?_eq_some_iff.1 hi).1
        rwa [hlen] at this
      rw [List.getElem?_map, List.getElem?_range hj] at hi
      exact ⟨hj, by simpa using hi⟩
    refine ⟨some a, m, (List.range len).map f, by rw [hlen], by rw [hlen]; exact hl, by rw [hlen]; omega, ?_, ?_, fun _ => ⟨a, rfl, fun j u hu => ?_⟩⟩
    · rw [hlen, ← hB]
      simp only [List.length_map, List.length_range] at hfirst
      exact Nat.le_trans (Nat.le_add_right _ _) hfirst
    · intro x hx
      obtain ⟨i, hi, rfl⟩ := List.mem_map.1 hx
      exact (hf i (List.mem_range.1 hi)).2
    · have hall : ∀ y ∈ (List.range len).map f, y.length = P.cellsOf e := fun y hy => by
        obtain ⟨i, hi, rfl⟩ := List.mem_map.1 hy
        exact (World.cells?_some (hf i (List.mem_range.1 hi)).1).2.1
      obtain ⟨i, r, e', rfl, h2, h3⟩ := flatten_get hall hu
      obtain ⟨hi, rfl⟩ := hget i e' h2
      obtain ⟨_, hl2, hc⟩ := World.cells?_some (hf i hi).1
      have hr : r < P.cellsOf e := by have := (List.getElem?_eq_some_iff.1 h3).1; omega
      have := hc r hr
      rw [h3, add_add] at this
      exact this
theorem Opn.row {t : TypeId} {Q : List Value → Prop} {v : Value} {D : DataW H} {p : List MemPlace} (ho : Opn enc P W t Q) (h : DataW.Trod enc P W 0 (fun _ => true) true t v D p) (hw : ∀ n ∈ D.weights P t, n ≤ reachBytes) : Q v.cells.toList := by
  obtain ⟨fuel, hf⟩ := h
  exact ho _ _ _ hf hw
end
theorem flat_one : ∀ l : List UInt8, (l.map (fun b : UInt8 => [bv b])).flatten = l.map bv
  | [] => rfl
  | x :: r => by rw [List.map_cons, List.flatten_cons, flat_one r]; rfl
theorem lst_bytes {W : World} {Q : List Value → Prop} {cs : List Value} (h : LstQ W 1 Q cs) (hq : ∀ e, Q e → ∃ n, e = [.int .u8 n] ∧ (Lit.int .u8 n).wf = true) : ∃ A c, ∃ b : List UInt8, cs = [.slice A b.length c] ∧ b.length ≤ c ∧ b.length ≤ 140737488351232 ∧ RdB W A b := by
  obtain ⟨A, c, els, rfl, h1, _, h3, h4, h5⟩ := h
  obtain ⟨l, rfl, _⟩ := all_map (f := fun b : UInt8 => [bv b]) (Q := fun _ => True) (els := els) (fun e he => by
    obtain ⟨n, rfl, hn⟩ := hq e (h4 e he)
    refine ⟨UInt8.ofNat n.toNat, ?_, trivial⟩
    simp [Lit.wf, IntKind.min, IntKind.max, IntKind.signed, IntKind.bits] at hn
    simp only [bv, UInt8.toNat_ofNat']
    rw [Nat.mod_eq_of_lt (by omega)]
    congr 2; omega)
  rw [List.length_map] at h1 h3 ⊢
  have hrb : reachBytes = 140737488351232 := by decide
  rw [flat_one] at h5
  exact ⟨A, c, l, rfl, h1, by omega, fun h0 => h5 (by rw [List.length_map]; exact h0)⟩
end Go.Vel
namespace Go.Proofs
open Go.Vel
set_option maxRecDepth 100000
section
variable {H : Type} {enc : TypeId × Value → H} {W : World}
theorem opnBytes : Opn enc Try.prog W 31 (LstQ W 1 fun cs => ∃ n, cs = [.int .u8 n] ∧ (Lit.int .u8 n).wf = true) := Opn.slice Try.underlying31 (Opn.int Try.underlying5) (by kernel_rfl)
/-- Bytes that came in. -/
theorem open_bytes9 {A : Option Addr} {n c : Nat} {D : DataW H} {p : List MemPlace} (h : DataW.Trod enc Try.prog W 0 (fun _ => true) true 31 (.slice A n c) D p) (hw : ∀ n ∈ D.weights Try.prog 31, n ≤ reachBytes) :
    ∃ b : List UInt8, n = b.length ∧ b.length ≤ c ∧ RdB W A b ∧ b.length ≤ 140737488351232 := by
  obtain ⟨A', c', b, e, h1, h2, h3⟩ := lst_bytes (Opn.row opnBytes h hw) (fun e he => he)
  simp [Value.cells] at e
  obtain ⟨rfl, rfl, rfl⟩ := e
  exact ⟨b, rfl, h1, h3, h2⟩
end
end Go.Proofs
end
