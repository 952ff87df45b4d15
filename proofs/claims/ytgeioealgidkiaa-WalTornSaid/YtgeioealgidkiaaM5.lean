/- Part 5 of 5 of what the proof stands on: the words, the laws of the walk, the walks, the plain laws; each section is one text. -/
import Derived.Test.YtgeioealgidkiaaM4
import Derived.Deep.Slices
import Derived.ChangeArms
import Derived.SizedLaws
section
open Go Go.RowKit Go.Proofs.YtgeioealgidkiaaW.PrintWords Go.Proofs.YtgeioealgidkiaaW.PrintMore
namespace Go.Proofs
open Go.Vel
set_option linter.unusedVariables false
set_option maxRecDepth 100000
set_option maxHeartbeats 4000000
attribute [local irreducible] gives wpList Code.wp
theorem walTorn_all (w:World){A3:Option Addr}{c3:Nat}{ops:List OpE}(nn:Int)(hs:RdV w A3 (opeV ops))(hsm:ops.length≤2199023255552)(hok:∀o∈ops,o.Ok w):Calls Try.prog 9 #[.int .i64 nn,.slice A3 ops.length c3] w fun e w'=>e=.returned (.bool true)∧Below w.heap.size w w':=by
 have S0:St none' w w []:=St.init none' w
 by_cases hbad:nn<18∨256<nn∨65536<ops.length
 ·refine eN (fr [iv nn,.slice A3 ops.length c3] 138) Try.func9 rfl (sR (pv fv (wE (nS (sR (pv (iv nn) (dC ((nn:Int)<18) (fun hb1=> ?_) fun hb1=> ?_)))))))
  ·refine pv tv (wN (wN (pv tv (pv tv (wN (wN (wN (pv tv (wE (nCT (sR (pv tv (wE ?_)))))))))))))
   exact then_n (rR (bA (.bool true) ⟨rfl,S0.fr.below⟩))
  ·refine pv fv (pW (iv nn) (wl_when kr_ (gv_dec (p:=(nn:Int)>256) kr_ (fun hb2=> ?_) (fun hb2=> ?_))))
   ·exact pv tv (pv tv (wN (wN (wN (pv tv (wE (nCT (sR (pv tv (wE (then_n (rR (bA (.bool true) ⟨rfl,S0.fr.below⟩)))))))))))))
   ·refine pv fv (pv fv (pW (.slice A3 ops.length c3) (pW (iv (ops.length:Nat)) (wl_when kr_ (gv_dec (p:=((ops.length:Nat):Int)>65536) kr_ (fun hb3=> ?_) (fun hb3=> ?_))))))
    ·exact pv tv (wE (nCT (sR (pv tv (wE (then_n (rR (bA (.bool true) ⟨rfl,S0.fr.below⟩))))))))
    ·exact absurd hbad om_
 obtain ⟨n,rfl⟩:∃n:Nat,nn=(n:Int):=⟨nn.toNat,by omega⟩
 have h18:18≤n:=by omega
 have h256:n≤256:=by omega
 have hol:ops.length≤65536:=by omega
 refine eN (fr [nI_ n,.slice A3 ops.length c3] 138) Try.func9 rfl (sR (pv fv (wE (nS (sR (pv (nI_ n) (dC ((((n:Nat):Int):Int)<18) (fun hd1=>False.elim om_) fun _=>pv fv (pW (nI_ n) (wl_when kr_ (gv_dec (p:=(((n:Nat):Int):Int)>256) kr_ (fun hd2=>False.elim om_) (fun _=>pv fv (pv fv (pW (.slice A3 ops.length c3) ?_)))))))))))))
 refine pW (iv (ops.length:Nat)) (wl_when kr_ (gv_dec (p:=((ops.length:Nat):Int)>65536) kr_ (fun hd3=>False.elim om_) (fun _=>pv fv (wE (nCF (wp_skip (nSR (pv (nI_ n) (g_ (gv_call (args:=#[nI_ n]) rfl Try.func54 kr_ rfl rfl kr_ (Calls.mono (w_freshN h18 h256 S0) ?_)))))))))))
 rintro _ w4 ⟨gd,gl,s4,rfl,hf4,hp4,hl4,S5⟩
 refine ⟨_,rfl, ?_⟩
 have hok4:=St.pw_ok (L:=[]) (S5.mem 1 rfl)
 refine pv (.tuple #[pq gd,pq gl]) (pv (pq gd) (pv (pq gl) (pv (pq gd) (pv (pq gl) (wE (nS (sR (pv (pq gd) (pv fv (pv fv (pW (pq gl) (pW (.bool false) (pv fv ?_)))))))))))))
 refine wE (nCF (wp_skip (nS (sR (pv (iv 0) (wE (then_n (wp_block ?_))))))))
 have hI0:PInv 0 n s4 ⟨0,n,s4.life,2,1,0,0,true⟩ [] 0 false:=⟨⟨h18,h256⟩,hf4.len,hok4,by rw [hl4];decide,⟨⟨Nat.zero_le _,h18,h256,show 2≤1073741824 by decide,show 1<1073741824 by decide,Nat.zero_le _⟩,⟨Nat.le_refl _,Nat.zero_le _⟩,by show 0+2+n≤n+2;omega,fun _=>Nat.zero_le _⟩,by rw [hp4];exact Nat.zero_le _,.inl ⟨rfl,2,1,0,0,0,rfl,by decide,by decide,by decide,by decide,hf4.core hp4 h18 h256⟩⟩
 refine wp_loop_g (G:=Nat×Nat×Dsk×Lg) (fun (g_:Nat×Nat×Dsk×Lg) (a_:Act) (w_:World)=>∃J:Nat→Value,a_=(fr ([nI_ n,.slice A3 ops.length c3,ud,ud,J 4,pq gd,pq g_.2.1,nI_ g_.1]++jR J 8 12++[nI_ n,fv,fv,nI_ n,fv,fv,fv,.slice A3 ops.length c3,iv (ops.length:Nat),fv,fv,.tuple #[pq gd,pq gl],nI_ n,.tuple #[pq gd,pq gl],pq gd,pq gl,pq gd,fv,fv,pq gl,fv,fv]++jR J 42 98) 0)∧St none' w w_ [PLog g_.2.1 gd g_.2.2.2,PW gd g_.2.2.1]∧(g_.1≤ops.length∧∃B low nn,PInv g_.1 n g_.2.2.1 g_.2.2.2 B low nn)) (fun g_=>ops.length-g_.1) (0,gl,s4,⟨0,n,s4.life,2,1,0,0,true⟩) (jE_ ⟨S5,⟨Nat.zero_le _,_,_,_,hI0⟩⟩) ?_
 rintro ⟨i,gx,s,l⟩ a_ w6 ⟨J,rfl,S7,⟨hi1,B,low,nn,hI⟩⟩
 skip
 have S7:St none' w w6 [PLog gx gd l,PW gd s]:=S7
 refine wp_seq (sR (pv (nI_ i) (pv (.slice A3 ops.length c3) (pv (iv (ops.length:Nat)) (dC ((((i:Nat):Int):Int)<(ops.length:Nat)) (fun hb9=> ?_) fun hb9=> ?_)))))
 ·have hI:PInv i n s l B low nn:=hI
  have hi:i<ops.length:=by omega
  obtain ⟨o,ho⟩:∃o,ops[i]?=some o:=⟨_,List.getElem?_eq_getElem hi⟩
  have hk:=hok o (List.mem_of_getElem? ho)
  obtain ⟨ad,hAd,hrs⟩:=(RoV.of_rd hs []).out w6 _ (show St none' w w6 ([PLog gx gd l,PW gd s]++[]) from S7) (by rw [length_opeV];omega)
  have hrq:RdV w6 (some ad) (opeV ops):=fun _=>⟨ad,rfl,hrs⟩
  refine wE (nCT (wp_skip (nS (wp_block (sR (pv (.slice A3 ops.length c3) (pv (nI_ i) (g_ (gv_ixB (e:=111) (sz:=5) (n:=ops.length) (c:=c3) (i:=((i:Nat):Int)) (k:=.i64) (ad:=ad) (ad':=(ad.add (i*5))) (j:=i) rfl kr_ kr_ (by rw [←hAd];kernel_rfl) kr_ rfl om_ rfl (g_ (gv_ldRA (ad:=ad.add (i*5)) (vs:=[iv o.kind,iv o.a,iv o.b,.slice o.A o.d.length o.cd,.slice o.A2 o.ps.length o.cq]) (n:=5) rfl kr_ kr_ rfl (RoV.cells hrq (i*5) (fun j u hu=>opeV_at ops _ _ ho j u hu) (Nat.succ_pos _)) (nW rfl (.agg #[iv 0,iv 0,iv 0,.slice none 0 0,.slice none 0 0]) S7 fun g10 w11 hg12 S13=>g_ (gv_stA (k:=0) (vs:=[iv o.kind,iv o.a,iv o.b,.slice o.A o.d.length o.cd,.slice o.A2 o.ps.length o.cq]) S13 0 rfl rfl kr_ kr_ kr_ rfl (by simp [Value.oneCell']) (Nat.le_of_ble_eq_true kr_) (L':=[row g10 #[iv o.kind,iv o.a,iv o.b,.slice o.A o.d.length o.cd,.slice o.A2 o.ps.length o.cq] 111,PLog gx gd l,PW gd s]) rfl (fun w14 S15=>wE (nS ?_)))))))))))))))
  refine sR (pv (pq g10) (lR (iv o.kind) S15 0 0 (wE (then_n (wp_block (sR (dE o.kind 4 (fun hb16=> ?_) fun hb16=> ?_)))))))
  ·refine pv tv (wE (nCT (wp_region_lit (pv (pq gx) (pv (po g10 3) (lR (.slice o.A o.d.length o.cd) S15 0 3 (g_ (gv_call (args:=#[.slice o.A o.d.length o.cd]) rfl Try.func59 kr_ rfl rfl kr_ ?_))))))))
   have hdm5:=hk.dm
   refine Calls.mono (ltwinS S15 (Ro.of_C hk.d (fun _ h=>h)).T om_) ?_
   rintro _ w18 ⟨g17,rfl,S19⟩
   refine ⟨_,rfl,(g_ (gv_call (args:=#[pq gx,sl g17 0 o.d.length o.d.length]) rfl Try.func57 kr_ rfl rfl kr_ ?_))⟩
   have S20:=St.pm 4 [2,3,0,1] S19
   refine Calls.mono (p_append hI om_ S20 (RoT.item 0 rfl 0 o.d.length o.d (by rw [List.drop_zero,List.take_length])) (Nat.le_refl _) om_) ?_
   rintro _ w21 ⟨c5,s5,l5,rfl,hcc,S22⟩
   refine ⟨_,rfl, ?_⟩
   obtain ⟨B5,low5,nn5,hI5⟩:∃B low nn,PInv (i+1) n s5 l5 B low nn:=by rcases hcc with ⟨_,_,_,_,h⟩|⟨_,_,h⟩|⟨_,_,h⟩|⟨_,_,h⟩<;>exact ⟨_,_,_,h⟩
   refine wE (inb_n (nS (sR ?_)))
   by_cases hz:s5.left=0
   ·refine pv (pq gd) (sO Try.func15 #[pq gd] (pw_burntT hz S22 1 rfl) (pv fv (wE (nCF (wp_skip (nS (sR (pv (pq g10) (lR (iv o.kind) S22 3 0 (dE o.kind 10 (fun hd23=>False.elim om_) fun _=>pv fv (wN (wN ?_))))))))))))
    refine wN (pv fv (wE (nCF (sR (pv (pq g10) (lR (iv o.kind) S22 3 0 (dE o.kind 10 (fun hd24=>False.elim om_) fun _=>wE (nCF (wp_skip (nSR (pv (pq g10) (lR (iv o.kind) S22 3 0 ?_))))))))))))
    refine dE o.kind 10 (fun hd25=>False.elim om_) fun _=>wE (nCF (wp_skip (inb_n (nR (pv (nI_ i) (gI .i64 (IntKind.i64.wrap (((i:Nat):Int)+1)) ((i+1:Nat):Int) wq_ (pv (nI_ (i+1)) (wE (then_n ?_)))))))))
    have S26:=St.pm 4 [0,1] S22
    exact ⟨(i+1,gx,s5,l5),(jE_ ⟨S26,⟨by show i+1≤ops.length;omega,_,_,_,hI5⟩⟩),(by show ops.length-(i+1)<ops.length-i;omega)⟩
   ·refine pv (pq gd) (sO Try.func15 #[pq gd] (pw_burntF hz S22 1 rfl) (pv tv (wE (nCT (sR (pv (pq gd) (g_ (gv_call (args:=#[pq gd]) rfl Try.func68 kr_ rfl rfl kr_ ?_))))))))
    have S27:=St.pm 4 [1,0,2,3] S22
    refine Calls.mono (w_single S27 hz hI5.len om_ om_ (by rw [←hI5.len];exact hI5.sgl.diffs hI5.ok)) ?_
    rintro _ w28 ⟨gi30,AO31,cO32,AN33,cN34,RV35,rfl,hRV36,S29⟩
    refine ⟨_,rfl,(pv (.tuple #[.slice AO31 (n+2) cO32,.slice AN33 (n+2) cN34,tv]) (pv (.slice AO31 (n+2) cO32) (pv (.slice AN33 (n+2) cN34) (pv tv (pv (.slice AO31 (n+2) cO32) (pv (.slice AN33 (n+2) cN34) (pv tv (wER ?_))))))))⟩
    have S37:=St.pm 8 [7,5,4] S29
    refine pv tv (pv fv (wE (nCF (wp_skip (nS (sR (pv (pq g10) (lR (iv o.kind) S37 0 0 (dE o.kind 10 (fun hd38=>False.elim om_) fun _=>pv fv (wN (wN (wN ?_))))))))))))
    refine pv fv (wE (nCF (sR (pv (pq g10) (lR (iv o.kind) S37 0 0 (dE o.kind 10 (fun hd39=>False.elim om_) fun _=>wE (nCF (wp_skip (nSR (pv (pq g10) (lR (iv o.kind) S37 0 0 (dE o.kind 10 (fun hd40=>False.elim om_) fun _=> ?_))))))))))))
    refine wE (nCF (wp_skip (inb_n (nR (pv (nI_ i) (gI .i64 (IntKind.i64.wrap (((i:Nat):Int)+1)) ((i+1:Nat):Int) wq_ (pv (nI_ (i+1)) (wE (then_n ?_)))))))))
    have S41:=St.pm 3 [1,2] S37
    exact ⟨(i+1,gx,s5,l5),(jE_ ⟨S41,⟨by show i+1≤ops.length;omega,_,_,_,hI5⟩⟩),(by show ops.length-(i+1)<ops.length-i;omega)⟩
  ·refine pv fv (wE (nCF (sR (dE o.kind 5 (fun hb42=> ?_) fun hb42=> ?_))))
   ·refine pv tv (wE (nCT (wp_region_lit (pv (pq gx) (g_ (gv_call (args:=#[pq gx]) rfl Try.func60 kr_ rfl rfl kr_ ?_))))))
    have S43:=St.pm 3 [1,2,0] S15
    refine Calls.mono (p_sync hI S43) ?_
    rintro _ w44 ⟨c5,s5,rfl,hcc,S45⟩
    refine ⟨_,rfl, ?_⟩
    obtain ⟨B5,low5,nn5,hI5⟩:∃B low nn,PInv (i+1) n s5 l B low nn:=by rcases hcc with ⟨_,h⟩|⟨_,h⟩<;>exact ⟨_,_,_,h⟩
    refine wE (inb_n (nS (sR ?_)))
    by_cases hz:s5.left=0
    ·refine pv (pq gd) (sO Try.func15 #[pq gd] (pw_burntT hz S45 1 rfl) (pv fv (wE (nCF (wp_skip (nS (sR (pv (pq g10) (lR (iv o.kind) S45 2 0 (dE o.kind 10 (fun hd46=>False.elim om_) fun _=>pv fv (wN (wN ?_))))))))))))
     refine wN (pv fv (wE (nCF (sR (pv (pq g10) (lR (iv o.kind) S45 2 0 (dE o.kind 10 (fun hd47=>False.elim om_) fun _=>wE (nCF (wp_skip (nSR (pv (pq g10) (lR (iv o.kind) S45 2 0 ?_))))))))))))
     refine dE o.kind 10 (fun hd48=>False.elim om_) fun _=>wE (nCF (wp_skip (inb_n (nR (pv (nI_ i) (gI .i64 (IntKind.i64.wrap (((i:Nat):Int)+1)) ((i+1:Nat):Int) wq_ (pv (nI_ (i+1)) (wE (then_n ?_)))))))))
     have S49:=St.pm 3 [0,1] S45
     exact ⟨(i+1,gx,s5,l),(jE_ ⟨S49,⟨by show i+1≤ops.length;omega,_,_,_,hI5⟩⟩),(by show ops.length-(i+1)<ops.length-i;omega)⟩
    ·refine pv (pq gd) (sO Try.func15 #[pq gd] (pw_burntF hz S45 1 rfl) (pv tv (wE (nCT (sR (pv (pq gd) (g_ (gv_call (args:=#[pq gd]) rfl Try.func68 kr_ rfl rfl kr_ ?_))))))))
     have S50:=St.pm 3 [1,0,2] S45
     refine Calls.mono (w_single S50 hz hI5.len om_ om_ (by rw [←hI5.len];exact hI5.sgl.diffs hI5.ok)) ?_
     rintro _ w51 ⟨gi53,AO54,cO55,AN56,cN57,RV58,rfl,hRV59,S52⟩
     refine ⟨_,rfl,(pv (.tuple #[.slice AO54 (n+2) cO55,.slice AN56 (n+2) cN57,tv]) (pv (.slice AO54 (n+2) cO55) (pv (.slice AN56 (n+2) cN57) (pv tv (pv (.slice AO54 (n+2) cO55) (pv (.slice AN56 (n+2) cN57) (pv tv (wER ?_))))))))⟩
     have S60:=St.pm 7 [6,5,4] S52
     refine pv tv (pv fv (wE (nCF (wp_skip (nS (sR (pv (pq g10) (lR (iv o.kind) S60 0 0 (dE o.kind 10 (fun hd61=>False.elim om_) fun _=>pv fv (wN (wN (wN ?_))))))))))))
     refine pv fv (wE (nCF (sR (pv (pq g10) (lR (iv o.kind) S60 0 0 (dE o.kind 10 (fun hd62=>False.elim om_) fun _=>wE (nCF (wp_skip (nSR (pv (pq g10) (lR (iv o.kind) S60 0 0 (dE o.kind 10 (fun hd63=>False.elim om_) fun _=> ?_))))))))))))
     refine wE (nCF (wp_skip (inb_n (nR (pv (nI_ i) (gI .i64 (IntKind.i64.wrap (((i:Nat):Int)+1)) ((i+1:Nat):Int) wq_ (pv (nI_ (i+1)) (wE (then_n ?_)))))))))
     have S64:=St.pm 3 [1,2] S60
     exact ⟨(i+1,gx,s5,l),(jE_ ⟨S64,⟨by show i+1≤ops.length;omega,_,_,_,hI5⟩⟩),(by show ops.length-(i+1)<ops.length-i;omega)⟩
   ·refine pv fv (wE (nCF (sR (dE o.kind 6 (fun hb65=> ?_) fun hb65=> ?_))))
    ·refine pv tv (wE (nCT (wp_region_lit (pv (pq gx) (g_ (gv_call (args:=#[pq gx]) rfl Try.func55 kr_ rfl rfl kr_ ?_))))))
     have S66:=St.pm 3 [1,2,0] S15
     refine Calls.mono (p_trim hI om_ S66) ?_
     rintro _ w67 ⟨c5,s5,l5,rfl,hcc,S68⟩
     refine ⟨_,rfl, ?_⟩
     obtain ⟨B5,low5,nn5,hI5⟩:∃B low nn,PInv (i+1) n s5 l5 B low nn:=by rcases hcc with ⟨_,_,h⟩|⟨_,_,h⟩|⟨_,_,h⟩<;>exact ⟨_,_,_,h⟩
     refine wE (inb_n (nS (sR ?_)))
     by_cases hz:s5.left=0
     ·refine pv (pq gd) (sO Try.func15 #[pq gd] (pw_burntT hz S68 1 rfl) (pv fv (wE (nCF (wp_skip (nS (sR (pv (pq g10) (lR (iv o.kind) S68 2 0 (dE o.kind 10 (fun hd69=>False.elim om_) fun _=>pv fv (wN (wN ?_))))))))))))
      refine wN (pv fv (wE (nCF (sR (pv (pq g10) (lR (iv o.kind) S68 2 0 (dE o.kind 10 (fun hd70=>False.elim om_) fun _=>wE (nCF (wp_skip (nSR (pv (pq g10) (lR (iv o.kind) S68 2 0 ?_))))))))))))
      refine dE o.kind 10 (fun hd71=>False.elim om_) fun _=>wE (nCF (wp_skip (inb_n (nR (pv (nI_ i) (gI .i64 (IntKind.i64.wrap (((i:Nat):Int)+1)) ((i+1:Nat):Int) wq_ (pv (nI_ (i+1)) (wE (then_n ?_)))))))))
      have S72:=St.pm 3 [0,1] S68
      exact ⟨(i+1,gx,s5,l5),(jE_ ⟨S72,⟨by show i+1≤ops.length;omega,_,_,_,hI5⟩⟩),(by show ops.length-(i+1)<ops.length-i;omega)⟩
     ·refine pv (pq gd) (sO Try.func15 #[pq gd] (pw_burntF hz S68 1 rfl) (pv tv (wE (nCT (sR (pv (pq gd) (g_ (gv_call (args:=#[pq gd]) rfl Try.func68 kr_ rfl rfl kr_ ?_))))))))
      have S73:=St.pm 3 [1,0,2] S68
      refine Calls.mono (w_single S73 hz hI5.len om_ om_ (by rw [←hI5.len];exact hI5.sgl.diffs hI5.ok)) ?_
      rintro _ w74 ⟨gi76,AO77,cO78,AN79,cN80,RV81,rfl,hRV82,S75⟩
      refine ⟨_,rfl,(pv (.tuple #[.slice AO77 (n+2) cO78,.slice AN79 (n+2) cN80,tv]) (pv (.slice AO77 (n+2) cO78) (pv (.slice AN79 (n+2) cN80) (pv tv (pv (.slice AO77 (n+2) cO78) (pv (.slice AN79 (n+2) cN80) (pv tv (wER ?_))))))))⟩
      have S83:=St.pm 7 [6,5,4] S75
      refine pv tv (pv fv (wE (nCF (wp_skip (nS (sR (pv (pq g10) (lR (iv o.kind) S83 0 0 (dE o.kind 10 (fun hd84=>False.elim om_) fun _=>pv fv (wN (wN (wN ?_))))))))))))
      refine pv fv (wE (nCF (sR (pv (pq g10) (lR (iv o.kind) S83 0 0 (dE o.kind 10 (fun hd85=>False.elim om_) fun _=>wE (nCF (wp_skip (nSR (pv (pq g10) (lR (iv o.kind) S83 0 0 (dE o.kind 10 (fun hd86=>False.elim om_) fun _=> ?_))))))))))))
      refine wE (nCF (wp_skip (inb_n (nR (pv (nI_ i) (gI .i64 (IntKind.i64.wrap (((i:Nat):Int)+1)) ((i+1:Nat):Int) wq_ (pv (nI_ (i+1)) (wE (then_n ?_)))))))))
      have S87:=St.pm 3 [1,2] S83
      exact ⟨(i+1,gx,s5,l5),(jE_ ⟨S87,⟨by show i+1≤ops.length;omega,_,_,_,hI5⟩⟩),(by show ops.length-(i+1)<ops.length-i;omega)⟩
    ·refine pv fv (wE (nCF (sR (dE o.kind 9 (fun hb88=> ?_) fun hb88=> ?_))))
     ·refine pv tv (wE (nCT (wp_region_lit (pv (pq gd) (pv (po g10 1) (lR (iv o.a) S15 0 1 (g_ (gv_call (args:=#[pq gd,iv o.a]) rfl Try.func67 kr_ rfl rfl kr_ ?_))))))))
      have S89:=St.pm 3 [2,0,1] S15
      have hfu:=pw_fuse (n:=o.a) hk.ha S89
      obtain ⟨s5,hs5⟩:∃x,s.fuseR o.a=x:=⟨_,rfl⟩
      rw [hs5] at hfu
      refine Calls.mono hfu ?_
      rintro _ w90 ⟨rfl,S91⟩
      refine ⟨_,rfl, ?_⟩
      have hI5:PInv (i+1) n s5 l B low nn:=by rw [←hs5];exact hI.fuse o.a (by rw [hs5];exact St.pw_ok (L:=[]) (S91.mem 0 rfl))
      refine wE (inb_n (nS (sR ?_)))
      by_cases hz:s5.left=0
      ·refine pv (pq gd) (sO Try.func15 #[pq gd] (pw_burntT hz S91 0 rfl) (pv fv (wE (nCF (wp_skip (nS (sR (pv (pq g10) (lR (iv o.kind) S91 1 0 (dE o.kind 10 (fun hd92=>False.elim om_) fun _=>pv fv (wN (wN ?_))))))))))))
       refine wN (pv fv (wE (nCF (sR (pv (pq g10) (lR (iv o.kind) S91 1 0 (dE o.kind 10 (fun hd93=>False.elim om_) fun _=>wE (nCF (wp_skip (nSR (pv (pq g10) (lR (iv o.kind) S91 1 0 ?_))))))))))))
       refine dE o.kind 10 (fun hd94=>False.elim om_) fun _=>wE (nCF (wp_skip (inb_n (nR (pv (nI_ i) (gI .i64 (IntKind.i64.wrap (((i:Nat):Int)+1)) ((i+1:Nat):Int) wq_ (pv (nI_ (i+1)) (wE (then_n ?_)))))))))
       have S95:=St.pm 3 [2,0] S91
       exact ⟨(i+1,gx,s5,l),(jE_ ⟨S95,⟨by show i+1≤ops.length;omega,_,_,_,hI5⟩⟩),(by show ops.length-(i+1)<ops.length-i;omega)⟩
      ·refine pv (pq gd) (sO Try.func15 #[pq gd] (pw_burntF hz S91 0 rfl) (pv tv (wE (nCT (sR (pv (pq gd) (g_ (gv_call (args:=#[pq gd]) rfl Try.func68 kr_ rfl rfl kr_ (Calls.mono (w_single S91 hz hI5.len om_ om_ (by rw [←hI5.len];exact hI5.sgl.diffs hI5.ok)) ?_)))))))))
       rintro _ w96 ⟨gi98,AO99,cO100,AN101,cN102,RV103,rfl,hRV104,S97⟩
       refine ⟨_,rfl,(pv (.tuple #[.slice AO99 (n+2) cO100,.slice AN101 (n+2) cN102,tv]) (pv (.slice AO99 (n+2) cO100) (pv (.slice AN101 (n+2) cN102) (pv tv (pv (.slice AO99 (n+2) cO100) (pv (.slice AN101 (n+2) cN102) (pv tv (wER ?_))))))))⟩
       have S105:=St.pm 7 [5,6,4] S97
       refine pv tv (pv fv (wE (nCF (wp_skip (nS (sR (pv (pq g10) (lR (iv o.kind) S105 0 0 (dE o.kind 10 (fun hd106=>False.elim om_) fun _=>pv fv (wN (wN (wN ?_))))))))))))
       refine pv fv (wE (nCF (sR (pv (pq g10) (lR (iv o.kind) S105 0 0 (dE o.kind 10 (fun hd107=>False.elim om_) fun _=>wE (nCF (wp_skip (nSR (pv (pq g10) (lR (iv o.kind) S105 0 0 (dE o.kind 10 (fun hd108=>False.elim om_) fun _=> ?_))))))))))))
       refine wE (nCF (wp_skip (inb_n (nR (pv (nI_ i) (gI .i64 (IntKind.i64.wrap (((i:Nat):Int)+1)) ((i+1:Nat):Int) wq_ (pv (nI_ (i+1)) (wE (then_n ?_)))))))))
       have S109:=St.pm 3 [1,2] S105
       exact ⟨(i+1,gx,s5,l),(jE_ ⟨S109,⟨by show i+1≤ops.length;omega,_,_,_,hI5⟩⟩),(by show ops.length-(i+1)<ops.length-i;omega)⟩
     ·refine pv fv (wE (nCF (wp_skip (inb_n (nS (sR ?_))))))
      by_cases hk10:o.kind=10
      ·by_cases hz:s.left=0
       ·refine pv (pq gd) (sO Try.func15 #[pq gd] (pw_burntT hz S15 2 rfl) (pv fv (wE (nCF (wp_skip (nS (sR (pv (pq g10) (lR (iv o.kind) S15 0 0 (dE o.kind 10 (fun _=>pv tv (pW (pq gd) (wl_when kr_ (gv_call (args:=#[pq gd]) rfl Try.func15 kr_ rfl rfl kr_ ?_)))) fun hd110=>False.elim (hd110 hk10)))))))))))
        refine Calls.mono (pw_burntT hz S15 2 rfl) ?_
        rintro _ _ ⟨rfl,rfl⟩
        refine ⟨_,rfl,(pW (.bool false) (pv fv (wE (nCF (sR (pv (pq g10) (lR (iv o.kind) S15 0 0 (dE o.kind 10 (fun _=>wE (nCT (wp_region_lit (pv (pq gd) (pv (po g10 4) ?_))))) fun hd111=>False.elim (hd111 hk10)))))))))⟩
        refine lR (.slice o.A2 o.ps.length o.cq) S15 0 4 (g_ (gv_call (args:=#[.slice o.A2 o.ps.length o.cq]) rfl Try.func69 kr_ rfl rfl kr_ ?_))
        have hpm5:=hk.pm
        refine Calls.mono (tpicks (ps:=o.ps) S15 (RoV.of_rd hk.p _) om_) ?_
        rintro _ w113 ⟨g112,rfl,S114⟩
        refine ⟨_,rfl,(g_ (gv_call (args:=#[pq gd,sl g112 0 o.ps.length o.ps.length]) rfl Try.func64 kr_ rfl rfl kr_ ?_))⟩
        have S115:=St.pm 4 [3,0,1,2] S114
        have hcr:=pw_crash (n:=o.ps.length) (c:=o.ps.length) (ps:=o.ps) S115 (RoV.item 0 rfl) rfl om_
        obtain ⟨s6,hs6⟩:∃x,s.crashR o.ps=x:=⟨_,rfl⟩
        rw [hs6] at hcr
        refine Calls.mono hcr ?_
        rintro _ w116 ⟨rfl,S117⟩
        refine ⟨_,rfl, ?_⟩
        have hC:PCut i n s6 B low nn:=by rw [←hs6];exact hI.crash om_ o.ps (by rw [hs6];exact St.pw_ok (L:=[]) (S117.mem 0 rfl))
        refine wER (pv (pq g10) (lR (iv o.kind) S117 2 0 (dE o.kind 10 (fun _=>wE (nCT (sR (pv (pq gd) (pv (nI_ n) (g_ (gv_call (args:=#[pq gd,iv 0,nI_ n]) rfl Try.func61 kr_ rfl rfl kr_ (Calls.mono (p_open hC om_ (s1:=s6) rfl hC.pend (by rw [hC.left];decide) rfl S117) ?_)))))))) fun hd118=>False.elim (hd118 hk10))))
        rintro _ w119 ⟨gl7,A7,c7,RV7,h7,E7,T7,s7,rfl,hmay7,hflat7,he7,hf7,ht7,hlf7,hlm7,hRl7,hRb7,S120⟩
        refine ⟨_,rfl, ?_⟩
        have hm7:s7.left= -1:=by rw [hlm7,hC.left];rfl
        have hclf:=hC.life
        refine pv (.tuple #[pq gl7,.slice A7 RV7.length c7,iv 0]) (pv (pq gl7) (pv (.slice A7 RV7.length c7) (pv (iv 0) (pv (pq gl7) (pv (.slice A7 RV7.length c7) (pv (iv 0) (wE (nS (sR (pv (pq gl7) (pv fv (pv fv (pW (iv 0) ?_)))))))))))))
        refine wl_when kr_ (gv_ne (x:=0) (y:=0) kr_ (fun hd121=>False.elim (hd121 rfl)) (fun _=>pv fv (wE (nCF (wp_skip (nSR (pv (pq gl7) (pv (pq gl7) (wER (pv (pq gl7) (g_ (gv_call (args:=#[pq gl7]) rfl Try.func71 kr_ rfl rfl kr_ ?_))))))))))))
        have S124:=St.pm 7 [2,3,0,1,4,5,6] S120
        refine Calls.mono (p_start hflat7 he7 hf7 ht7 om_ om_ S124) ?_
        rintro _ w122 ⟨s8,l8,hl8,hh⟩
        obtain ⟨rfl,hI8,_,S123⟩:=hh.resolve_right (fun q=>by have:=q.2.1;omega)
        refine ⟨_,rfl,(pv (iv 0) (wER (pv (iv 0) (dN 0 0 (fun hd125=>False.elim (hd125 rfl)) fun _=>wE (nCF (wp_skip (inb_n (nR (pv (nI_ i) (gI .i64 (IntKind.i64.wrap (((i:Nat):Int)+1)) ((i+1:Nat):Int) wq_ (pv (nI_ (i+1)) (wE ?_))))))))))))⟩
        refine then_n ?_
        have S126:=St.pm 7 [0,1] S123
        exact ⟨(i+1,gl7,s8,l8),(jE_ ⟨S126,⟨by show i+1≤ops.length;omega,_,_,_,hI8⟩⟩),(by show ops.length-(i+1)<ops.length-i;omega)⟩
       ·refine pv (pq gd) (sO Try.func15 #[pq gd] (pw_burntF hz S15 2 rfl) (pv tv (wE (nCT (sR (pv (pq gd) (g_ (gv_call (args:=#[pq gd]) rfl Try.func68 kr_ rfl rfl kr_ ?_))))))))
        have S127:=St.pm 3 [2,0,1] S15
        refine Calls.mono (w_single S127 hz hI.len om_ om_ (by rw [←hI.len];exact hI.sgl.diffs hI.ok)) ?_
        rintro _ w128 ⟨gi130,AO131,cO132,AN133,cN134,RV135,rfl,hRV136,S129⟩
        refine ⟨_,rfl,(pv (.tuple #[.slice AO131 (n+2) cO132,.slice AN133 (n+2) cN134,tv]) (pv (.slice AO131 (n+2) cO132) (pv (.slice AN133 (n+2) cN134) (pv tv (pv (.slice AO131 (n+2) cO132) (pv (.slice AN133 (n+2) cN134) (pv tv (wER ?_))))))))⟩
        have S137:=St.pm 7 [5,6,4] S129
        refine pv tv (pv fv (wE (nCF (wp_skip (nS (sR (pv (pq g10) (lR (iv o.kind) S137 0 0 (dE o.kind 10 (fun _=>pv tv (pW (pq gd) (wl_when kr_ (gv_call (args:=#[pq gd]) rfl Try.func15 kr_ rfl rfl kr_ (Calls.mono (pw_burntF hz S137 2 rfl) ?_))))) fun hd138=>False.elim (hd138 hk10))))))))))
        rintro _ _ ⟨rfl,rfl⟩
        refine ⟨_,rfl,(pW (.bool true) (pv tv (wE (nCT (sR (pv (pq gd) (g_ (gv_call (args:=#[pq gd]) rfl Try.func68 kr_ rfl rfl kr_ ?_))))))))⟩
        have S139:=St.pm 3 [2,0,1] S137
        refine Calls.mono (w_single S139 hz hI.len om_ om_ (by rw [←hI.len];exact hI.sgl.diffs hI.ok)) ?_
        rintro _ w140 ⟨gi142,AO143,cO144,AN145,cN146,RV147,rfl,hRV148,S141⟩
        refine ⟨_,rfl,(pv (.tuple #[.slice AO143 (n+2) cO144,.slice AN145 (n+2) cN146,tv]) (pv (.slice AO143 (n+2) cO144) (pv (.slice AN145 (n+2) cN146) (pv tv (pv (.slice AO143 (n+2) cO144) (pv (.slice AN145 (n+2) cN146) (pv tv (wER (pv (pq gd) (pv (po g10 4) (lR (.slice o.A2 o.ps.length o.cq) S141 5 4 (g_ (gv_call (args:=#[.slice o.A2 o.ps.length o.cq]) rfl Try.func69 kr_ rfl rfl kr_ ?_)))))))))))))⟩
        have hpm5:=hk.pm
        refine Calls.mono (tpicks (ps:=o.ps) S141 (RoV.of_rd hk.p _) om_) ?_
        rintro _ w150 ⟨g149,rfl,S151⟩
        refine ⟨_,rfl,(g_ (gv_call (args:=#[pq gd,sl g149 0 o.ps.length o.ps.length]) rfl Try.func64 kr_ rfl rfl kr_ ?_))⟩
        have S152:=St.pm 8 [5,0,1,2,3,4,6,7] S151
        have hcr:=pw_crash (n:=o.ps.length) (c:=o.ps.length) (ps:=o.ps) S152 (RoV.item 0 rfl) rfl om_
        obtain ⟨s6,hs6⟩:∃x,s.crashR o.ps=x:=⟨_,rfl⟩
        rw [hs6] at hcr
        refine Calls.mono hcr ?_
        rintro _ w153 ⟨rfl,S154⟩
        refine ⟨_,rfl, ?_⟩
        have hC:PCut i n s6 B low nn:=by rw [←hs6];exact hI.crash om_ o.ps (by rw [hs6];exact St.pw_ok (L:=[]) (S154.mem 0 rfl))
        refine wER (pv (pq gd) (pv (.slice AO143 (n+2) cO144) (pv (.slice AN145 (n+2) cN146) (g_ (gv_call (args:=#[pq gd,.slice AO143 (n+2) cO144,.slice AN145 (n+2) cN146]) rfl Try.func70 kr_ rfl rfl kr_ ?_)))))
        have S155:=St.pm 8 [0,2,3,4,5,1,6,7] S154
        refine Calls.mono (w_whole S155 hI.ok hI.len hC.len om_ om_ hRV148 (fun j hj=>by rw [←hs6];exact CutOf.whole hI.sgl (hI.sgl.cut hI.ok o.ps) (by rw [hI.len];exact hj))) ?_
        rintro _ w156 ⟨rfl,S157⟩
        refine ⟨_,rfl,(pv tv (wE ?_))⟩
        refine nSR (pv tv (pv fv (wE (nCF (wp_skip (nSR (pv (pq g10) (lR (iv o.kind) S157 2 0 (dE o.kind 10 (fun _=>wE (nCT (sR (pv (pq gd) ?_)))) fun hd158=>False.elim (hd158 hk10))))))))))
        refine pv (nI_ n) (g_ (gv_call (args:=#[pq gd,iv 0,nI_ n]) rfl Try.func61 kr_ rfl rfl kr_ (Calls.mono (p_open hC om_ (s1:=s6) rfl hC.pend (by rw [hC.left];decide) rfl S157) ?_)))
        rintro _ w159 ⟨gl7,A7,c7,RV7,h7,E7,T7,s7,rfl,hmay7,hflat7,he7,hf7,ht7,hlf7,hlm7,hRl7,hRb7,S160⟩
        refine ⟨_,rfl, ?_⟩
        have hm7:s7.left= -1:=by rw [hlm7,hC.left];rfl
        have hclf:=hC.life
        refine pv (.tuple #[pq gl7,.slice A7 RV7.length c7,iv 0]) (pv (pq gl7) (pv (.slice A7 RV7.length c7) (pv (iv 0) (pv (pq gl7) (pv (.slice A7 RV7.length c7) (pv (iv 0) (wE (nS (sR (pv (pq gl7) (pv fv (pv fv (pW (iv 0) ?_)))))))))))))
        refine wl_when kr_ (gv_ne (x:=0) (y:=0) kr_ (fun hd161=>False.elim (hd161 rfl)) (fun _=>pv fv (wE (nCF (wp_skip (nSR (pv (pq gl7) (pv (pq gl7) (wER (pv (pq gl7) (g_ (gv_call (args:=#[pq gl7]) rfl Try.func71 kr_ rfl rfl kr_ ?_))))))))))))
        have S164:=St.pm 7 [2,3,0,1,4,5,6] S160
        refine Calls.mono (p_start hflat7 he7 hf7 ht7 om_ om_ S164) ?_
        rintro _ w162 ⟨s8,l8,hl8,hh⟩
        obtain ⟨rfl,hI8,_,S163⟩:=hh.resolve_right (fun q=>by have:=q.2.1;omega)
        refine ⟨_,rfl,(pv (iv 0) (wER (pv (iv 0) (dN 0 0 (fun hd165=>False.elim (hd165 rfl)) fun _=>wE (nCF (wp_skip (inb_n (nR (pv (nI_ i) (gI .i64 (IntKind.i64.wrap (((i:Nat):Int)+1)) ((i+1:Nat):Int) wq_ (pv (nI_ (i+1)) (wE ?_))))))))))))⟩
        refine then_n ?_
        have S166:=St.pm 7 [0,1] S163
        exact ⟨(i+1,gl7,s8,l8),(jE_ ⟨S166,⟨by show i+1≤ops.length;omega,_,_,_,hI8⟩⟩),(by show ops.length-(i+1)<ops.length-i;omega)⟩
      ·by_cases hz:s.left=0
       ·refine pv (pq gd) (sO Try.func15 #[pq gd] (pw_burntT hz S15 2 rfl) (pv fv (wE (nCF (wp_skip (nS (sR (pv (pq g10) (lR (iv o.kind) S15 0 0 (dE o.kind 10 (fun hd167=>False.elim om_) fun _=>pv fv (wN (wN ?_))))))))))))
        refine wN (pv fv (wE (nCF (sR (pv (pq g10) (lR (iv o.kind) S15 0 0 (dE o.kind 10 (fun hd168=>False.elim om_) fun _=>wE (nCF (wp_skip (nSR (pv (pq g10) (lR (iv o.kind) S15 0 0 ?_))))))))))))
        refine dE o.kind 10 (fun hd169=>False.elim om_) fun _=>wE (nCF (wp_skip (inb_n (nR (pv (nI_ i) (gI .i64 (IntKind.i64.wrap (((i:Nat):Int)+1)) ((i+1:Nat):Int) wq_ (pv (nI_ (i+1)) (wE (then_n ?_)))))))))
        have S170:=St.pm 3 [1,2] S15
        exact ⟨(i+1,gx,s,l),(jE_ ⟨S170,⟨by show i+1≤ops.length;omega,_,_,_,hI.next⟩⟩),(by show ops.length-(i+1)<ops.length-i;omega)⟩
       ·refine pv (pq gd) (sO Try.func15 #[pq gd] (pw_burntF hz S15 2 rfl) (pv tv (wE (nCT (sR (pv (pq gd) (g_ (gv_call (args:=#[pq gd]) rfl Try.func68 kr_ rfl rfl kr_ ?_))))))))
        have S171:=St.pm 3 [2,0,1] S15
        refine Calls.mono (w_single S171 hz hI.next.len om_ om_ (by rw [←hI.next.len];exact hI.next.sgl.diffs hI.next.ok)) ?_
        rintro _ w172 ⟨gi174,AO175,cO176,AN177,cN178,RV179,rfl,hRV180,S173⟩
        refine ⟨_,rfl,(pv (.tuple #[.slice AO175 (n+2) cO176,.slice AN177 (n+2) cN178,tv]) (pv (.slice AO175 (n+2) cO176) (pv (.slice AN177 (n+2) cN178) (pv tv (pv (.slice AO175 (n+2) cO176) (pv (.slice AN177 (n+2) cN178) (pv tv (wER ?_))))))))⟩
        have S181:=St.pm 7 [5,6,4] S173
        refine pv tv (pv fv (wE (nCF (wp_skip (nS (sR (pv (pq g10) (lR (iv o.kind) S181 0 0 (dE o.kind 10 (fun hd182=>False.elim om_) fun _=>pv fv (wN (wN (wN ?_))))))))))))
        refine pv fv (wE (nCF (sR (pv (pq g10) (lR (iv o.kind) S181 0 0 (dE o.kind 10 (fun hd183=>False.elim om_) fun _=>wE (nCF (wp_skip (nSR (pv (pq g10) (lR (iv o.kind) S181 0 0 (dE o.kind 10 (fun hd184=>False.elim om_) fun _=> ?_))))))))))))
        refine wE (nCF (wp_skip (inb_n (nR (pv (nI_ i) (gI .i64 (IntKind.i64.wrap (((i:Nat):Int)+1)) ((i+1:Nat):Int) wq_ (pv (nI_ (i+1)) (wE (then_n ?_)))))))))
        have S185:=St.pm 3 [1,2] S181
        exact ⟨(i+1,gx,s,l),(jE_ ⟨S185,⟨by show i+1≤ops.length;omega,_,_,_,hI.next⟩⟩),(by show ops.length-(i+1)<ops.length-i;omega)⟩
 ·exact wE (nCF (wp_exit (then_x (then_x (inb_x (nSR (pv tv (wE (then_n (wp_ret (bA (.bool true) ⟨rfl,S7.fr.below⟩)))))))))))
end Go.Proofs
end
section
open Go Go.RowKit Go.Deep Go.Proofs.YtgeioealgidkiaaW.PrintWords Go.Proofs.YtgeioealgidkiaaW.PrintMore
namespace Go.Vel
section
def Opens {H:Type}(enc:TypeId×Value→H)(P:Program)(W:World)(t:TypeId){α:Type}(d:Kd α)(Q:α→Prop):Prop:=
 ∀fuel cs x,DataW.trod enc P W 0 (fun _=>true) true fuel t cs=some x→(∀n∈x.1.weights P t,n≤reachBytes)→∃a,d.K W a cs∧Q a
section
variable {H:Type}{enc:TypeId×Value→H}{P:Program}{W:World}{α:Type}
theorem Opens.bool {t:TypeId}(ht:P.underlying t=some .bool):Opens enc P W t Kd.bool (fun _=>True):=by
 intro fuel cs x h _
 obtain ⟨n,e,_⟩:=DataW.trod_bool ht h
 exact ⟨n,e,trivial⟩
theorem Opens.mono {t:TypeId}{d:Kd α}{Q Q':α→Prop}(h:Opens enc P W t d Q)(hq:∀a,Q a→Q' a):Opens enc P W t d Q':=fun fuel cs x hx hw=>by
 obtain ⟨a,h1,h2⟩:=h fuel cs x hx hw
 exact ⟨a,h1,hq a h2⟩
theorem add_add (a:Addr)(i j:Nat):(a.add i).add j=a.add (i+j):=by
 unfold Addr.add
 by_cases h0:i=0
 ·subst h0;simp
 ·by_cases h1:j=0
  ·subst h1;simp
  ·have h2:¬(i+j=0):=by omega
   simp only [h0,h1,h2,if_false,Nat.add_assoc]
theorem weightsAll_mem {e:TypeId}:∀{ds:List (DataW H)} {d:DataW H},d∈ds→∀n∈d.weights P e,n∈DataW.weightsAll P e ds
 |[],_,h=>by cases h
 |x::r,d,h=>fun n hn=>by
  unfold DataW.weightsAll
  rcases List.mem_cons.1 h with rfl|h
  ·exact List.mem_append_left _ hn
  ·exact List.mem_append_right _ (weightsAll_mem h n hn)
theorem Opens.slice [Inhabited α]{t e:TypeId}{d:Kd α}{Q:α→Prop}{B:Nat}(ht:P.underlying t=some (.slice e))(hd:Opens enc P W e d Q)(hsz:d.sz=P.cellsOf e)(hB:P.bytesOf e=B):Opens enc P W t (Kd.slice e d) (fun xs=>xs.length≤maxLen∧xs.length*B≤reachBytes∧∀x∈xs,Q x):=by
 intro fuel cs x h hw
 rcases open_slice ht h with ⟨rfl,_⟩|⟨a,len,cap,m,n,D,Pl,rfl,_,hl,hm,hmm,hx,he⟩
 ·exact ⟨[],⟨none,0,rfl,Nat.le_refl _,rfl,Nat.zero_le _,fun h=>absurd h (Nat.lt_irrefl 0)⟩,Nat.zero_le _,by simp,fun x hx=>by cases hx⟩
 ·rw [if_pos rfl] at hmm
  subst hmm
  have hw1:∀n∈((((List.range len).map D).length*P.bytesOf e+((List.range (m-len)).map fun j=>D (len+j)).length*P.bytesOf e)::(DataW.weightsAll P e ((List.range len).map D)++DataW.weightsAll P e ((List.range (m-len)).map fun j=>D (len+j))):List Nat),n≤reachBytes:=by
   rw [hx] at hw
   simp only [DataW.weights,ht] at hw
   rw [Nat.add_mul] at hw
   exact hw
  have hfirst:=hw1 _ List.mem_cons_self
  have hex:∀i,i<len→∃y:α,∃cs',W.cells? 0 (a.add (i*P.cellsOf e)) (P.cellsOf e)=some cs'∧d.K W y cs'∧Q y:=by
   intro i hi
   obtain ⟨cs',h1,h2⟩:=he i om_
   obtain ⟨y,h3,h4⟩:=hd _ _ _ h2 (fun n hn=>hw1 n (List.mem_cons_of_mem _ (List.mem_append_left _ (weightsAll_mem (d:=D i) (List.mem_map.2 ⟨i,List.mem_range.2 hi,rfl⟩) n hn))))
   exact ⟨y,cs',h1,h3,h4⟩
  obtain ⟨f,hf⟩:=choose_lt hex
  have hlen:((List.range len).map f).length=len:=by simp
  have hmx:maxLen≤9223372036854775807:=by decide
  refine ⟨(List.range len).map f,⟨some a,m,by rw [hlen],by rw [hlen];exact hl,rfl,by rw [hlen];omega,fun _=>⟨a,rfl,fun j p hp=> ?_⟩⟩,by rw [hlen];omega, ?_, ?_⟩
  ·have hj:j<len:=by
    have:=(List.getElem?_eq_some_iff.1 hp).1
    rwa [hlen] at this
   rw [List.getElem?_map,List.getElem?_range hj] at hp
   simp only [Option.map_some,Option.some.injEq] at hp
   subst hp
   obtain ⟨cs',h1,h2,_⟩:=hf j hj
   obtain ⟨_,hl2,hc⟩:=World.cells?_some h1
   refine ⟨cs',by rw [hl2,hsz],h2,fun i u hu=> ?_⟩
   have hi:i<P.cellsOf e:=by
    have:=(List.getElem?_eq_some_iff.1 hu).1
    omega
   have:=hc i hi
   rw [hu,add_add] at this
   rw [hsz];exact this
  ·rw [hlen,←hB]
   simp only [List.length_map,List.length_range] at hfirst
   exact Nat.le_trans (Nat.le_add_right _ _) hfirst
  ·intro x hx
   obtain ⟨i,hi,rfl⟩:=List.mem_map.1 hx
   obtain ⟨_,_,_,hq⟩:=hf i (List.mem_range.1 hi)
   exact hq
end
end
end Go.Vel
end
section
open Go Go.RowKit Go.Deep Go.Proofs.YtgeioealgidkiaaW.PrintWords
namespace Go.Vel
/-- Whatever is read as type t has cells of which Q holds. -/
def Opn {H : Type} (enc : TypeId × Value → H) (P : Program) (W : World) (t : TypeId) (Q : List Value → Prop) : Prop :=
  ∀ fuel cs x, DataW.trod enc P W 0 (fun _ => true) true fuel t cs = some x → (∀ n ∈ x.1.weights P t, n ≤ reachBytes) → Q cs
theorem flatten_get {sz : Nat} : ∀ {els : List (List Value)} {j : Nat} {u : Value}, (∀ e ∈ els, e.length = sz) → els.flatten[j]? = some u → ∃ i r e, j = i * sz + r ∧ els[i]? = some e ∧ e[r]? = some u
  | [], j, u, _, h => by simp at h
  | e :: l, j, u, hl, h => by
    have he := hl e List.mem_cons_self
    rw [List.flatten_cons] at h
    by_cases hj : j < e.length
    · rw [List.getElem?_append_left hj] at h
      exact ⟨0, j, e, by rw [Nat.zero_mul, Nat.zero_add], rfl, h⟩
    · rw [List.getElem?_append_right (by omega)] at h
      obtain ⟨i, r, e', h1, h2, h3⟩ := flatten_get (fun y hy => hl y (List.mem_cons_of_mem _ hy)) h
      exact ⟨i + 1, r, e', by rw [Nat.add_mul, Nat.one_mul]; omega, by simpa using h2, h3⟩
theorem all_map {α : Type} {f : α → List Value} {Q : α → Prop} : ∀ {els : List (List Value)}, (∀ e ∈ els, ∃ a, e = f a ∧ Q a) → ∃ l : List α, els = l.map f ∧ ∀ a ∈ l, Q a
  | [], _ => ⟨[], rfl, fun a h => by cases h⟩
  | e :: r, h => by
    obtain ⟨a, rfl, ha⟩ := h e List.mem_cons_self
    obtain ⟨l, rfl, hl⟩ := all_map fun y hy => h y (List.mem_cons_of_mem _ hy)
    exact ⟨a :: l, rfl, fun b hb => (List.mem_cons.1 hb).elim (fun e => e ▸ ha) (hl b)⟩
section
variable {H : Type} {enc : TypeId × Value → H} {P : Program} {W : World}
theorem Opn.int {t : TypeId} {k : IntKind} (ht : P.underlying t = some (.int k)) : Opn enc P W t (fun cs => ∃ n, cs = [.int k n] ∧ (Lit.int k n).wf = true) := by
  intro fuel cs x h _
  obtain ⟨n, e, _, hw⟩ := DataW.trod_int ht h
  exact ⟨n, e, hw⟩
/-- What a list's cell says. -/
def LstQ (W : World) (B : Nat) (Q : List Value → Prop) (cs : List Value) : Prop := ∃ (A : Option Addr) (c : Nat) (els : List (List Value)), cs = [.slice A els.length c] ∧ els.length ≤ c ∧ els.length ≤ maxLen ∧ els.length * B ≤ reachBytes ∧ (∀ e ∈ els, Q e) ∧ RdV W A els.flatten
theorem Opn.slice {t e : TypeId} {Q : List Value → Prop} {B : Nat} (ht : P.underlying t = some (.slice e)) (hd : Opn enc P W e Q) (hB : P.bytesOf e = B) : Opn enc P W t (LstQ W B Q) := by
  intro fuel cs x h hw
  rcases open_slice ht h with ⟨rfl, _⟩ | ⟨a, len, cap, m, n, D, Pl, rfl, _, hl, hm, hmm, hx, he⟩
  · exact ⟨none, 0, [], rfl, Nat.le_refl _, Nat.zero_le _, by simp, fun x hx => (by cases hx), fun h => absurd h (Nat.lt_irrefl 0)⟩
  · rw [if_pos rfl] at hmm
    subst hmm
    have hw1 : ∀ n ∈ ((((List.range len).map D).length * P.bytesOf e + ((List.range (m - len)).map fun j => D (len + j)).length * P.bytesOf e) :: (DataW.weightsAll P e ((List.range len).map D) ++ DataW.weightsAll P e ((List.range (m - len)).map fun j => D (len + j))) : List Nat), n ≤ reachBytes := by
      rw [hx] at hw
      simp only [DataW.weights, ht] at hw
      rw [Nat.add_mul] at hw
      exact hw
    have hfirst := hw1 _ List.mem_cons_self
    have hex : ∀ i, i < len → ∃ cs', W.cells? 0 (a.add (i * P.cellsOf e)) (P.cellsOf e) = some cs' ∧ Q cs' := by
      intro i hi
      obtain ⟨cs', h1, h2⟩ := he i (by omega)
      exact ⟨cs', h1, hd _ _ _ h2 (fun n hn => hw1 n (List.mem_cons_of_mem _ (List.mem_append_left _ (weightsAll_mem (d := D i) (List.mem_map.2 ⟨i, List.mem_range.2 hi, rfl⟩) n hn))))⟩
    obtain ⟨f, hf⟩ := choose_lt hex
    have hlen : ((List.range len).map f).length = len := by simp
    have hmx : maxLen ≤ 9223372036854775807 := by decide
    have hget : ∀ i e', ((List.range len).map f)[i]? = some e' → i < len ∧ f i = e' := fun i e' hi => by
      have hj : i < len := by
        have := (List.getElem?_eq_some_iff.1 hi).1
        rwa [hlen] at this
      rw [List.getElem?_map, List.getElem?_range hj] at hi
      exact ⟨hj, by simpa using hi⟩
    refine ⟨some a, m, (List.range len).map f, by rw [hlen], by rw [hlen]; exact hl, by rw [hlen]; omega, ?_, ?_, fun _ => ⟨a, rfl, fun j u hu => ?_⟩⟩
    · rw [hlen, ← hB]
      simp only [List.length_map, List.length_range] at hfirst
      exact Nat.le_trans (Nat.le_add_right _ _) hfirst
    · intro x hx
      obtain ⟨i, hi, rfl⟩ := List.mem_map.1 hx
      exact (hf i (List.mem_range.1 hi)).2
    · have hall : ∀ y ∈ (List.range len).map f, y.length = P.cellsOf e := fun y hy => by
        obtain ⟨i, hi, rfl⟩ := List.mem_map.1 hy
        exact (World.cells?_some (hf i (List.mem_range.1 hi)).1).2.1
      obtain ⟨i, r, e', rfl, h2, h3⟩ := flatten_get hall hu
      obtain ⟨hi, rfl⟩ := hget i e' h2
      obtain ⟨_, hl2, hc⟩ := World.cells?_some (hf i hi).1
      have hr : r < P.cellsOf e := by have := (List.getElem?_eq_some_iff.1 h3).1; omega
      have := hc r hr
      rw [h3, add_add] at this
      exact this
/-- A field of one cell. -/
theorem Opn.field {fs : Array Field} {t : TypeId} {fuel : Nat} {cs : List Value} {x : DataW H × List MemPlace} {Q : List Value → Prop} (ht : P.underlying t = some (.struct fs)) (h : DataW.trod enc P W 0 (fun _ => true) true fuel t cs = some x) (hw : ∀ n ∈ x.1.weights P t, n ≤ reachBytes) (i : Nat) {f : Field} (hf : fs[i]? = some f) (ho : f.offset = i) (hc : P.cellsOf f.type = 1) (hd : Opn enc P W f.type Q) : Q ((cs.drop i).take 1) := by
  obtain ⟨xs, n, _, hx, _, hl, hh⟩ := DataW.trod_struct ht h
  have h1 := hh i f hf
  have hi : i < xs.length := by
    rw [hl]
    have := (Array.getElem?_eq_some_iff.1 hf).1
    exact this
  rw [ho, hc, List.getElem?_eq_getElem hi] at h1
  refine hd _ _ _ h1 (fun n hn => hw n ?_)
  rw [hx]
  simp only [DataW.weights, ht]
  refine DataW.weights_mem_each (j := i) (t := f.type) (d := xs[i].1) ?_ ?_ n hn
  · rw [List.getElem?_map, Array.getElem?_toList, hf]; rfl
  · rw [List.getElem?_map, List.getElem?_eq_getElem hi]; rfl
theorem Opn.row {t : TypeId} {Q : List Value → Prop} {v : Value} {D : DataW H} {p : List MemPlace} (ho : Opn enc P W t Q) (h : DataW.Trod enc P W 0 (fun _ => true) true t v D p) (hw : ∀ n ∈ D.weights P t, n ≤ reachBytes) : Q v.cells.toList := by
  obtain ⟨fuel, hf⟩ := h
  exact ho _ _ _ hf hw
end
theorem flat_one : ∀ l : List UInt8, (l.map (fun b : UInt8 => [bv b])).flatten = l.map bv
  | [] => rfl
  | x :: r => by rw [List.map_cons, List.flatten_cons, flat_one r]; rfl
theorem lst_bytes {W : World} {Q : List Value → Prop} {cs : List Value} (h : LstQ W 1 Q cs) (hq : ∀ e, Q e → ∃ n, e = [.int .u8 n] ∧ (Lit.int .u8 n).wf = true) : ∃ A c, ∃ b : List UInt8, cs = [.slice A b.length c] ∧ b.length ≤ c ∧ b.length ≤ 140737488351232 ∧ RdB W A b := by
  obtain ⟨A, c, els, rfl, h1, _, h3, h4, h5⟩ := h
  obtain ⟨l, rfl, _⟩ := all_map (f := fun b : UInt8 => [bv b]) (Q := fun _ => True) (els := els) (fun e he => by
    obtain ⟨n, rfl, hn⟩ := hq e (h4 e he)
    refine ⟨UInt8.ofNat n.toNat, ?_, trivial⟩
    simp [Lit.wf, IntKind.min, IntKind.max, IntKind.signed, IntKind.bits] at hn
    simp only [bv, UInt8.toNat_ofNat']
    rw [Nat.mod_eq_of_lt (by omega)]
    congr 2; omega)
  rw [List.length_map] at h1 h3 ⊢
  have hrb : reachBytes = 140737488351232 := by decide
  rw [flat_one] at h5
  exact ⟨A, c, l, rfl, h1, by omega, fun h0 => h5 (by rw [List.length_map]; exact h0)⟩
end Go.Vel
namespace Go.Proofs
open Go.Vel
set_option maxRecDepth 100000
section
variable {H : Type} {enc : TypeId × Value → H} {W : World}
theorem opnBytes : Opn enc Try.prog W 31 (LstQ W 1 fun cs => ∃ n, cs = [.int .u8 n] ∧ (Lit.int .u8 n).wf = true) := Opn.slice Try.underlying31 (Opn.int Try.underlying5) (by kernel_rfl)
end
end Go.Proofs
end
section
open Go Go.RowKit Go.Deep Go.Proofs.YtgeioealgidkiaaW.PrintWords
namespace Go.Proofs
open Go.Vel
set_option maxRecDepth 100000
section
theorem flat_picks (l:List Pick):(l.map pickCells).flatten=picksV l:=by unfold picksV;rw [List.flatMap_def]
section
variable {H:Type}{enc:TypeId×Value→H}{W:World}
theorem opnPick:Opn enc Try.prog W 145 (fun cs=>∃p:Pick,cs=pickCells p∧True):=by
 intro fuel cs x h hw
 obtain ⟨_,_,_,_,hl,_,_⟩:=DataW.trod_struct Try.underlying145 h
 have h4:Try.prog.cellsOf 145=3:=by kernel_rfl
 rw [h4] at hl
 obtain ⟨n0,k0,_⟩:=Opn.field Try.underlying145 h hw 0 rfl rfl kr_ (Opn.int Try.underlying3)
 obtain ⟨n1,k1,_⟩:=Opn.field Try.underlying145 h hw 1 rfl rfl kr_ (Opn.int Try.underlying3)
 obtain ⟨n2,k2,_⟩:=Opn.field Try.underlying145 h hw 2 rfl rfl kr_ (Opn.int Try.underlying3)
 match cs,hl with
 |[v0,v1,v2],_=>
  simp at k0 k1 k2
  subst k0 k1 k2
  exact ⟨(n0,n1,n2),rfl,trivial⟩
theorem opnPicks:Opn enc Try.prog W 48 (LstQ W 24 fun cs=>∃p:Pick,cs=pickCells p∧True):=Opn.slice Try.underlying48 opnPick kr_
theorem opnOp:Opn enc Try.prog W 111 (fun cs=>∃o:OpE,cs=o.cells∧(o.Ok W∧o.d.length≤140737488351232)):=by
 intro fuel cs x h hw
 obtain ⟨_,_,_,_,hl,_,_⟩:=DataW.trod_struct Try.underlying111 h
 have h4:Try.prog.cellsOf 111=5:=by kernel_rfl
 rw [h4] at hl
 obtain ⟨n0,k0,w0⟩:=Opn.field Try.underlying111 h hw 0 rfl rfl kr_ (Opn.int Try.underlying3)
 obtain ⟨n1,k1,w1⟩:=Opn.field Try.underlying111 h hw 1 rfl rfl kr_ (Opn.int Try.underlying3)
 obtain ⟨n2,k2,w2⟩:=Opn.field Try.underlying111 h hw 2 rfl rfl kr_ (Opn.int Try.underlying3)
 obtain ⟨A2,c2,b,k3,i2,m2,r2⟩:=lst_bytes (Opn.field Try.underlying111 h hw 3 rfl rfl kr_ opnBytes) (fun e he=>he)
 obtain ⟨A3,c3,els,k4,_,_,m3,q3,r3⟩:=Opn.field Try.underlying111 h hw 4 rfl rfl kr_ opnPicks
 obtain ⟨ps,rfl,_⟩:=all_map q3
 rw [List.length_map] at k4 m3
 have hrb:reachBytes=140737488351232:=by decide
 have hw1:n1≤9223372036854775807:=by
  simp [Lit.wf,IntKind.min,IntKind.max,IntKind.signed,IntKind.bits] at w1;omega
 match cs,hl with
 |[v0,v1,v2,v3,v4],_=>
  simp at k0 k1 k2 k3 k4
  subst k0 k1 k2 k3 k4
  exact ⟨⟨n0,n1,n2,A2,b,c2,A3,ps,c3⟩,rfl,⟨r2,by rw [flat_picks] at r3;exact r3,i2,by show b.length≤_;omega,by show ps.length*24≤_;omega,hw1⟩,m2⟩
theorem flat_ope (l:List OpE):(l.map OpE.cells).flatten=opeV l:=by unfold opeV;rw [List.flatMap_def]
theorem opnOps:Opn enc Try.prog W 109 (LstQ W 72 fun cs=>∃o:OpE,cs=o.cells∧(o.Ok W∧o.d.length≤140737488351232)):=Opn.slice Try.underlying109 opnOp kr_
theorem open_ope {A:Option Addr}{n c:Nat}{D:DataW H}{p:List MemPlace}(h:DataW.Trod enc Try.prog W 0 (fun _=>true) true 109 (.slice A n c) D p)(hw:∀n∈D.weights Try.prog 109,n≤reachBytes):
  ∃ops:List OpE,n=ops.length∧RdV W A (opeV ops)∧ops.length≤2199023255552∧(∀o∈ops,o.Ok W)∧∀o∈ops,o.d.length≤140737488351232:=by
 obtain ⟨A',c',els,e,_,_,hm,hq,hr⟩:=Opn.row opnOps h hw
 obtain ⟨ops,rfl,ho⟩:=all_map hq
 simp [Value.cells] at e
 obtain ⟨rfl,rfl,rfl⟩:=e
 rw [List.length_map] at hm
 have hrb:reachBytes=140737488351232:=by decide
 exact ⟨ops,rfl,by rw [flat_ope] at hr;exact hr,by omega,fun o h=>(ho o h).1,fun o h=>(ho o h).2⟩
end
end
end Go.Proofs
end
