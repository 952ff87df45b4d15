/- Part 4 of 4 of what the proof stands on: the words, the laws of the walk, the walks, the plain laws; each section is one text. -/
import Derived.Test.YtgeioealgidkiaaM3
import Derived.Deep.Slices
import Derived.ChangeArms
import Derived.SizedLaws
section
open Go Go.RowKit Go.Proofs.YtgeioealgidkiaaW.PrintWords
namespace Go.Proofs
open Go.Vel
set_option linter.unusedVariables false
set_option maxRecDepth 100000
set_option maxHeartbeats 4000000
attribute [local irreducible] gives wpList Code.wp
theorem w_grown {F:Nat→Prop}{w0 w:World}{L:List Ast}{gk:Nat}{ls:List (List UInt8)}(S:St F w0 w (PKept gk ls::L))(hN:ls.length≤6900000000000)(hls:∀l∈ls,l.length≤1048576):Calls Try.prog 39 #[.pointer (some ⟨gk,0,none⟩)] w fun e w'=>e=.returned (.bool true)∧St F w0 w' L:=by
 refine eN (fr [pq gk] 170) Try.func39 rfl (sR ?_)
 obtain ⟨⟨aL,aW,N,V,Wv,Lf⟩,hp,S0⟩:=St.kpo S
 have hlN:N=ls.length:=hp.len
 have hat:∀i,i<N→ls[i]?=some (Lf i):=hp.at_
 obtain ⟨BL,dL,hvL⟩:=St.vecV S0 1 rfl
 have hvL:aL=.slice BL N dL:=hvL
 subst hvL
 obtain ⟨BW,dW,hvW⟩:=St.vecV S0 2 rfl
 have hvW:aW=.slice BW N dW:=hvW
 subst hvW
 change St F w0 w (row gk #[.slice BL N dL,.slice BW N dW] 47::vec 31 1 (.slice BL N dL) N ((List.range N).map V)::vec 31 1 (.slice BW N dW) N ((List.range N).map Wv)::bigs N (ownK V Lf)::manyX ((List.range N).map fun z_=>(Wv z_,Lf z_))::L) at S0
 have hlen:∀i,i<N→(Lf i).length≤1048576:=fun i hi=>hls _ (List.mem_of_getElem? (hat i hi))
 have hV:∀i,i<N→∃A c,V i=.slice A (Lf i).length c:=fun i hi=>own_val S0 3 rfl hi
 have hW:∀i,i<N→∃A c,Wv i=.slice A (Lf i).length c:=fun i hi=>St.many_val S0 4 rfl (List.mem_map.2 ⟨i,List.mem_range.2 hi,rfl⟩)
 refine pv fv (wE (nS (sR (pv (iv 0) (wE (then_n (wp_block (wp_loop_g (G:=Nat) (fun (g_:Nat) (a_:Act) (w_:World)=>∃J:Nat→Value,a_=(fr ([pq gk,ud,J 2,nI_ g_,ud,ud,ud,ud,ud,ud,ud,ud,ud,ud]++jR J 14 25) 132)∧St F w0 w_ (row gk #[.slice BL N dL,.slice BW N dW] 47::vec 31 1 (.slice BL N dL) N ((List.range N).map V)::vec 31 1 (.slice BW N dW) N ((List.range N).map Wv)::bigs N (ownK V Lf)::manyX ((List.range N).map fun z_=>(Wv z_,Lf z_))::L)∧(g_≤N)) (fun g_=>N-g_) 0 (jE_ ⟨S0,Nat.zero_le _⟩) ?_))))))))
 rintro z a_ w1 ⟨J,rfl,S2,hi1⟩
 skip
 have S2:St F w0 w1 (row gk #[.slice BL N dL,.slice BW N dW] 47::vec 31 1 (.slice BL N dL) N ((List.range N).map V)::vec 31 1 (.slice BW N dW) N ((List.range N).map Wv)::bigs N (ownK V Lf)::manyX ((List.range N).map fun z_=>(Wv z_,Lf z_))::L):=S2
 refine wp_seq (sR (pv (nI_ z) (pv (pq gk) (pv (pq gk) (pv (pq gk) (lR (.slice BL N dL) S2 0 0 (pv (iv (N:Nat)) (dC ((((z:Nat):Int):Int)<(N:Nat)) (fun hb4=> ?_) fun hb4=> ?_))))))))
 ·have hi:z<N:=by omega
  obtain ⟨Az,cz,hvi⟩:=hV z hi
  obtain ⟨Bz,dz,hwi⟩:=hW z hi
  have hli:=hlen z hi
  obtain ⟨adL,hAdL,_⟩:=St.vec_rd S2 1 rfl (by simp;omega)
  obtain ⟨adW,hAdW,_⟩:=St.vec_rd S2 2 rfl (by simp;omega)
  have hxL:((List.range N).map V)[z]?=some (.slice Az (Lf z).length cz):=by rw [range_at V hi,hvi]
  have hxW:((List.range N).map Wv)[z]?=some (.slice Bz (Lf z).length dz):=by rw [range_at Wv hi,hwi]
  refine wE (nCT (wp_skip (nS (wp_block (wp_seq (wp_region_phu (γ:=Unit) 16 [14] (fun (c_:Unit) (i_:Nat)=>(match i_ with|0=>pq gk|1=>pq gk|2=>pq gk|3=>.slice BL N dL|4=>nI_ z|5=>.pointer (some (adL.add z))|6=>.slice Az ((Lf z).length) cz|7=>pq gk|8=>pq gk|9=>po gk 1|10=>.slice BW N dW|11=>nI_ z|12=>.pointer (some (adW.add z))|13=>.slice Bz ((Lf z).length) dz|14=>.bool true|15=>.bool false|_=>undef:Value)) (fun (c_:Unit) (p_:Nat) (w_:World)=>(match p_ with|0=>St F w0 w_ (row gk #[.slice BL N dL,.slice BW N dW] 47::vec 31 1 (.slice BL N dL) N ((List.range N).map V)::vec 31 1 (.slice BW N dW) N ((List.range N).map Wv)::bigs N (ownK V Lf)::manyX ((List.range N).map fun z_=>(Wv z_,Lf z_))::L)|_=>St F w0 w_ (row gk #[.slice BL N dL,.slice BW N dW] 47::vec 31 1 (.slice BL N dL) N ((List.range N).map V)::vec 31 1 (.slice BW N dW) N ((List.range N).map Wv)::bigs N (ownK V Lf)::manyX ((List.range N).map fun z_=>(Wv z_,Lf z_))::L):Prop)) () kr_ kr_ kr_ kr_ (S2.drew) ?_ ?_ ?_))))))
  ·intro i_ c_ p_ vals_ w1 hi_ hiE_ hp_ hk_ hu_ hPh_ hd_
   rcases i_ with _|_|_|_|_|_|_|_|_|_|_|_|_|_|_|_|i_
   ·exact tG_ rfl hd_ (gV (pq gk) ⟨rfl,rfl⟩)
   ·exact tG_ rfl hd_ (gV (pq gk) ⟨rfl,rfl⟩)
   ·exact tG_ rfl hd_ (gV (pq gk) ⟨rfl,rfl⟩)
   ·rcases p_ with _|_|p_
    ·have S8:=St.id hPh_
     exact tG_ rfl hd_ (gL (.slice BL N dL) rfl (((S8.blk 0 rfl).cell 0).trans rfl) ⟨rfl,rfl⟩)
    ·exact absurd (hu_ 0 dc_ kr_) dc_
    ·exact absurd hp_ (by simp)
   ·exact tG_ rfl hd_ (gV (nI_ z) ⟨rfl,rfl⟩)
   ·exact tG_ rfl hd_ (gv_ixB (e:=31) (sz:=1) (n:=N) (c:=dL) (i:=((z:Nat):Int)) (k:=.i64) (ad:=adL) (ad':=(adL.add z)) (j:=z) rfl kr_ kr_ (by rw [←hAdL];kernel_rfl) kr_ rfl om_ (by rw [Nat.mul_one]) ⟨rfl,rfl⟩)
   ·rcases p_ with _|_|p_
    ·have S11:=St.id hPh_
     exact tG_ rfl hd_ (gL (.slice Az ((Lf z).length) cz) rfl (vec_ldA S11 1 rfl hAdL hxL) ⟨rfl,rfl⟩)
    ·exact absurd (hu_ 0 dc_ kr_) dc_
    ·exact absurd hp_ (by simp)
   ·exact tG_ rfl hd_ (gV (pq gk) ⟨rfl,rfl⟩)
   ·exact tG_ rfl hd_ (gV (pq gk) ⟨rfl,rfl⟩)
   ·exact tG_ rfl hd_ (gV (po gk 1) ⟨rfl,rfl⟩)
   ·rcases p_ with _|_|p_
    ·have S15:=St.id hPh_
     exact tG_ rfl hd_ (gL (.slice BW N dW) rfl (((S15.blk 0 rfl).cell 1).trans rfl) ⟨rfl,rfl⟩)
    ·exact absurd (hu_ 0 dc_ kr_) dc_
    ·exact absurd hp_ (by simp)
   ·exact tG_ rfl hd_ (gV (nI_ z) ⟨rfl,rfl⟩)
   ·exact tG_ rfl hd_ (gv_ixB (e:=31) (sz:=1) (n:=N) (c:=dW) (i:=((z:Nat):Int)) (k:=.i64) (ad:=adW) (ad':=(adW.add z)) (j:=z) rfl kr_ kr_ (by rw [←hAdW];kernel_rfl) kr_ rfl om_ (by rw [Nat.mul_one]) ⟨rfl,rfl⟩)
   ·rcases p_ with _|_|p_
    ·have S18:=St.id hPh_
     exact tG_ rfl hd_ (gL (.slice Bz ((Lf z).length) dz) rfl (vec_ldA S18 2 rfl hAdW hxW) ⟨rfl,rfl⟩)
    ·exact absurd (hu_ 0 dc_ kr_) dc_
    ·exact absurd hp_ (by simp)
   ·exact absurd hiE_ dc_
   ·exact tG_ rfl hd_ (gV (.bool false) ⟨rfl,rfl⟩)
   ·exact absurd hi_ om_
  ·intro k_ c_ vals_ w1 hk_ hPh_ hd_
   rcases k_ with _|k_
   ·have S20:=St.id hPh_
    refine tG_ rfl hd_ (gv_call (args:=#[.slice Az ((Lf z).length) cz,.slice Bz ((Lf z).length) dz]) rfl Try.func24 kr_ rfl rfl kr_ (Calls.mono (same_b (a:=Lf z) (b:=Lf z) (decide_eq_true rfl) S20 (RoT.own (c:=cz) 3 rfl hi hvi rfl) (RoT.many (c:=dz) 4 rfl (by rw [←hwi];exact List.mem_map.2 ⟨z,List.mem_range.2 hi,rfl⟩)) om_ om_) ?_))
    rintro _ w21 ⟨rfl,S22⟩
    refine ⟨_,rfl,⟨(),rfl, ?_,S22⟩⟩
    intro i_ hi_ hne_ hdp_
    rcases i_ with _|_|_|_|_|_|_|_|_|_|_|_|_|_|_|_|i_
    ·rfl
    ·rfl
    ·rfl
    ·rfl
    ·rfl
    ·rfl
    ·rfl
    ·rfl
    ·rfl
    ·rfl
    ·rfl
    ·rfl
    ·rfl
    ·rfl
    ·exact absurd rfl hne_
    ·exact (dep_no hdp_ kr_).elim
    ·exact absurd hi_ om_
   ·exact absurd hk_ (by simp)
  ·intro c_ w1 hPh_
   have S23:=St.id hPh_
   exact (wE (nCF (wp_skip (inb_n (nR (pv (nI_ z) (gI .i64 (IntKind.i64.wrap (((z:Nat):Int)+1)) ((z+1:Nat):Int) (wr_eq om_ om_ om_) (pv (nI_ (z+1)) (wE (then_n ⟨z+1,(jE_ ⟨S23,(by show z+1≤N;omega)⟩),(by show N-(z+1)<N-z;omega)⟩))))))))))
 ·refine wE (nCF (wp_exit (then_x (then_x (inb_x (nS (sR (pv (iv 0) (wE (then_n (wp_block (wp_loop_g (G:=Nat×(Nat→List UInt8)) (fun (g_:Nat×(Nat→List UInt8)) (a_:Act) (w_:World)=>∃J:Nat→Value,a_=(fr ([pq gk,ud,J 2,nI_ z,nI_ g_.1]++jR J 5 9++[nI_ z,pq gk,pq gk,pq gk,.slice BL N dL,iv (N:Nat),fv]++jR J 21 150) 0)∧St F w0 w_ (row gk #[.slice BL N dL,.slice BW N dW] 47::vec 31 1 (.slice BL N dL) N ((List.range N).map V)::vec 31 1 (.slice BW N dW) N ((List.range N).map Wv)::bigs N (ownK V g_.2)::manyX ((List.range N).map fun z_=>(Wv z_,Lf z_))::L)∧(g_.1≤2∧∀i,i<N→(g_.2 i).length=(Lf i).length)) (fun g_=>2-g_.1) (0,Lf) (jE_ ⟨S2,⟨Nat.zero_le _,fun i hi=>rfl⟩⟩) ?_))))))))))))
  rintro ⟨p,C⟩ a_ w24 ⟨J,rfl,S25,⟨hp1,hC⟩⟩
  skip
  have S25:St F w0 w24 (row gk #[.slice BL N dL,.slice BW N dW] 47::vec 31 1 (.slice BL N dL) N ((List.range N).map V)::vec 31 1 (.slice BW N dW) N ((List.range N).map Wv)::bigs N (ownK V C)::manyX ((List.range N).map fun z_=>(Wv z_,Lf z_))::L):=S25
  refine wp_seq (sR (pv (nI_ p) (dC ((((p:Nat):Int):Int)<2) (fun hb27=> ?_) fun hb27=> ?_)))
  ·refine wE (nCT (wp_skip (nS (wp_block (sR (pv (.slice none 0 0) (wE (nS (sR (pv (iv 0) (wE (then_n (wp_block ?_)))))))))))))
   have hC:∀i,i<N→(C i).length=(Lf i).length:=hC
   have hp1:p≤2:=hp1
   have S28:St F w0 w24 (bigs N (ownK V C)::row gk #[.slice BL N dL,.slice BW N dW] 47::vec 31 1 (.slice BL N dL) N ((List.range N).map V)::vec 31 1 (.slice BW N dW) N ((List.range N).map Wv)::manyX ((List.range N).map fun z_=>(Wv z_,Lf z_))::L):=St.pm 5 [3,0,1,2,4] S25
   have S29:St F w0 w24 (bigs N (fillF V Lf C p 0)::row gk #[.slice BL N dL,.slice BW N dW] 47::vec 31 1 (.slice BL N dL) N ((List.range N).map V)::vec 31 1 (.slice BW N dW) N ((List.range N).map Wv)::manyX ((List.range N).map fun z_=>(Wv z_,Lf z_))::L):=(by rw [fillF_zero];exact S28)
   have S30:St F w0 w24 (vec 5 1 (.slice none 0 0) 0 (((List.range 0).map (mkf p)).map bv)::bigs N (fillF V Lf C p 0)::row gk #[.slice BL N dL,.slice BW N dW] 47::vec 31 1 (.slice BL N dL) N ((List.range N).map V)::vec 31 1 (.slice BW N dW) N ((List.range N).map Wv)::manyX ((List.range N).map fun z_=>(Wv z_,Lf z_))::L):=St.vec_nil S29
   refine wp_loop_g (G:=Nat×Option Addr×Nat) (fun (g_:Nat×Option Addr×Nat) (a_:Act) (w_:World)=>∃J:Nat→Value,a_=(fr ([pq gk,ud,J 2,nI_ z,nI_ p,.slice g_.2.1 g_.1 g_.2.2,nI_ g_.1]++jR J 7 7++[nI_ z,pq gk,pq gk,pq gk,.slice BL N dL,iv (N:Nat),fv]++jR J 21 18++[nI_ p,tv]++jR J 41 130) 0)∧St F w0 w_ (vec 5 1 (.slice g_.2.1 g_.1 g_.2.2) g_.1 (((List.range g_.1).map (mkf p)).map bv)::bigs N (fillF V Lf C p g_.1)::row gk #[.slice BL N dL,.slice BW N dW] 47::vec 31 1 (.slice BL N dL) N ((List.range N).map V)::vec 31 1 (.slice BW N dW) N ((List.range N).map Wv)::manyX ((List.range N).map fun z_=>(Wv z_,Lf z_))::L)∧(g_.1≤N)) (fun g_=>N-g_.1) (0,none,0) (jE_ ⟨S30,Nat.zero_le _⟩) ?_
   rintro ⟨i,AK,cK⟩ a_ w31 ⟨J,rfl,S32,hi1⟩
   skip
   have S32:St F w0 w31 (vec 5 1 (.slice AK i cK) i (((List.range i).map (mkf p)).map bv)::bigs N (fillF V Lf C p i)::row gk #[.slice BL N dL,.slice BW N dW] 47::vec 31 1 (.slice BL N dL) N ((List.range N).map V)::vec 31 1 (.slice BW N dW) N ((List.range N).map Wv)::manyX ((List.range N).map fun z_=>(Wv z_,Lf z_))::L):=S32
   refine wp_seq (sR (pv (nI_ i) (pv (pq gk) (pv (pq gk) (pv (pq gk) (lR (.slice BL N dL) S32 2 0 (pv (iv (N:Nat)) (dC ((((i:Nat):Int):Int)<(N:Nat)) (fun hb34=> ?_) fun hb34=> ?_))))))))
   ·have hi:i<N:=by omega
    obtain ⟨Ai,ci,hvi⟩:=hV i hi
    have hli:=hlen i hi
    have hCi:=hC i hi
    obtain ⟨adL,hAdL,_⟩:=St.vec_rd S32 3 rfl (by simp;omega)
    have hxL:((List.range N).map V)[i]?=some (.slice Ai (Lf i).length ci):=by rw [range_at V hi,hvi]
    refine wE (nCT (wp_skip (nS (wp_block (sR ?_)))))
    by_cases hpp:p=1
    ·refine pv (nI_ i) (gI .i64 (Int.tmod ((i:Nat):Int) 251) ((i%251:Nat):Int) (tmod_nat rfl rfl) (gI .i64 (IntKind.i64.wrap (((i%251:Nat):Int)+1)) ((i%251+1:Nat):Int) (wr_eq om_ om_ om_) (gI .u8 (IntKind.u8.wrap ((i%251+1:Nat):Int)) ((i%251+1:Nat):Int) (by rw [IntKind.wrap_u8];omega) (pv (.int .u8 ((i%251+1:Nat):Int)) (wE (nS (sR (pv (nI_ p) (dE ((p:Nat):Int) 1 (fun _=>wE (nCT (wp_region_lit (pv (nI_ i) ?_)))) fun hd35=>False.elim om_)))))))))
     refine gI .i64 (IntKind.i64.wrap (Int.tdiv ((i:Nat):Int) 251)) ((i/251:Nat):Int) (wr_eq (by rw [Int.tdiv_eq_ediv_of_nonneg om_];omega) om_ om_) (gI .i64 (Int.tmod ((i/251:Nat):Int) 251) ((i/251%251:Nat):Int) (tmod_nat rfl rfl) (gI .i64 (IntKind.i64.wrap (((i/251%251:Nat):Int)+1)) ((i/251%251+1:Nat):Int) (wr_eq om_ om_ om_) (gI .u8 (IntKind.u8.wrap ((i/251%251+1:Nat):Int)) ((mkf p i).toNat:Int) (by rw [mkf_one hpp,IntKind.wrap_u8];omega) (pv (.int .u8 ((mkf p i).toNat:Int)) (wER (pv (.slice AK i cK) (pv (.int .u8 ((mkf p i).toNat:Int)) (g_ (gv_slit (e:=5) (sz:=1) (z:=.int .u8 0) (by_:=1) (vs:=#[(0,.int .u8 ((mkf p i).toNat:Int))]) (cells:=#[.int .u8 ((mkf p i).toNat:Int)]) S32 rfl kr_ ⟨by kernel_rfl⟩ kr_ kr_ kr_ kr_ (fun g36 w37 hg38 S39=>g_ (gv_append (e:=5) (sz:=1) (n:=i) (v:=.slice AK i cK) (vals:=((List.range i).map (mkf p)).map bv) (z:=.int .u8 0) (by_:=1) (m:=1) (c':=1) (ad:=⟨g36,0,none⟩) (news:=[bv (mkf p i)]) (St.swap S39) rfl kr_ ⟨by kernel_rfl⟩ rfl kr_ kr_ dc_ rfl (row_news (S39.blk 0 rfl)) (by intro u hu;simp at hu;subst hu;rfl) om_ om_ (fun v42 w40 S41=> ?_))))))))))))
     obtain ⟨AN,cN,rfl⟩:=St.vecV S41 0 rfl
     have hmk:((List.range i).map (mkf p)).map bv++[bv (mkf p i)]=((List.range (i+1)).map (mkf p)).map bv:=by rw [List.range_succ,List.map_append,List.map_append];rfl
     rw [hmk] at S41
     have S8_:St F w0 w40 (vec 5 1 (.slice AN (i+1) cN) (i+1) (((List.range (i+1)).map (mkf p)).map bv)::bigs N (fillF V Lf C p i)::row gk #[.slice BL N dL,.slice BW N dW] 47::vec 31 1 (.slice BL N dL) N ((List.range N).map V)::vec 31 1 (.slice BW N dW) N ((List.range N).map Wv)::manyX ((List.range N).map fun z_=>(Wv z_,Lf z_))::L):=(St.swap S41).tail
     refine pv (.slice AN (i+1) cN) (wER (pv (iv 0) (wE (then_n (wp_block ?_)))))
     have S43:St F w0 w40 (bigs N (fillF V Lf C p i)::vec 5 1 (.slice AN (i+1) cN) (i+1) (((List.range (i+1)).map (mkf p)).map bv)::row gk #[.slice BL N dL,.slice BW N dW] 47::vec 31 1 (.slice BL N dL) N ((List.range N).map V)::vec 31 1 (.slice BW N dW) N ((List.range N).map Wv)::manyX ((List.range N).map fun z_=>(Wv z_,Lf z_))::L):=St.pm 6 [1,0,2,3,4,5] S8_
     have S44:St F w0 w40 (vec 5 1 (.slice Ai (Lf i).length ci) (Lf i).length ((C i).map bv)::bigs N (hole (fillF V Lf C p i) i)::vec 5 1 (.slice AN (i+1) cN) (i+1) (((List.range (i+1)).map (mkf p)).map bv)::row gk #[.slice BL N dL,.slice BW N dW] 47::vec 31 1 (.slice BL N dL) N ((List.range N).map V)::vec 31 1 (.slice BW N dW) N ((List.range N).map Wv)::manyX ((List.range N).map fun z_=>(Wv z_,Lf z_))::L):=(by have h_:=St.pickB hi S43;rw [fillF_self] at h_;unfold ownK at h_;rw [hvi,hCi] at h_;exact h_)
     have S45:St F w0 w40 (vec 5 1 (.slice Ai (Lf i).length ci) (Lf i).length ((mks (mkf p i) 0++(C i).drop 0).map bv)::bigs N (hole (fillF V Lf C p i) i)::vec 5 1 (.slice AN (i+1) cN) (i+1) (((List.range (i+1)).map (mkf p)).map bv)::row gk #[.slice BL N dL,.slice BW N dW] 47::vec 31 1 (.slice BL N dL) N ((List.range N).map V)::vec 31 1 (.slice BW N dW) N ((List.range N).map Wv)::manyX ((List.range N).map fun z_=>(Wv z_,Lf z_))::L):=S44
     refine wp_loop_g (G:=Nat) (fun (g_:Nat) (a_:Act) (w_:World)=>∃J:Nat→Value,a_=(fr ([pq gk,ud,J 2,nI_ z,nI_ p,.slice AN (i+1) cN,nI_ i,.int .u8 ((mkf p i).toNat:Int),nI_ g_]++jR J 9 5++[nI_ z,pq gk,pq gk,pq gk,.slice BL N dL,iv (N:Nat),fv]++jR J 21 18++[nI_ p,tv,J 41,J 42,nI_ i,pq gk,pq gk,pq gk,.slice BL N dL,iv (N:Nat),tv,J 50,J 51,nI_ i,nI_ (i%251),nI_ (i%251+1),.int .u8 ((i%251+1:Nat):Int),nI_ p,tv,nI_ i,nI_ (i/251),nI_ (i/251%251),nI_ (i/251%251+1),.int .u8 ((mkf p i).toNat:Int),.slice AK i cK,.int .u8 ((mkf p i).toNat:Int),sl g36 0 1 1,.slice AN (i+1) cN]++jR J 67 104) 0)∧St F w0 w_ (vec 5 1 (.slice Ai (Lf i).length ci) (Lf i).length ((mks (mkf p i) g_++(C i).drop g_).map bv)::bigs N (hole (fillF V Lf C p i) i)::vec 5 1 (.slice AN (i+1) cN) (i+1) (((List.range (i+1)).map (mkf p)).map bv)::row gk #[.slice BL N dL,.slice BW N dW] 47::vec 31 1 (.slice BL N dL) N ((List.range N).map V)::vec 31 1 (.slice BW N dW) N ((List.range N).map Wv)::manyX ((List.range N).map fun z_=>(Wv z_,Lf z_))::L)∧(g_≤(Lf i).length)) (fun g_=>(Lf i).length-g_) 0 (jE_ ⟨S45,Nat.zero_le _⟩) ?_
     rintro q a_ w46 ⟨J,rfl,S47,hq1⟩
     skip
     have S47:St F w0 w46 (vec 5 1 (.slice Ai (Lf i).length ci) (Lf i).length ((mks (mkf p i) q++(C i).drop q).map bv)::bigs N (hole (fillF V Lf C p i) i)::vec 5 1 (.slice AN (i+1) cN) (i+1) (((List.range (i+1)).map (mkf p)).map bv)::row gk #[.slice BL N dL,.slice BW N dW] 47::vec 31 1 (.slice BL N dL) N ((List.range N).map V)::vec 31 1 (.slice BW N dW) N ((List.range N).map Wv)::manyX ((List.range N).map fun z_=>(Wv z_,Lf z_))::L):=S47
     refine wp_seq (sR (pv (nI_ q) (pv (pq gk) (pv (pq gk) (pv (pq gk) (lR (.slice BL N dL) S47 3 0 (pv (nI_ i) (g_ (gv_ixB (e:=31) (sz:=1) (n:=N) (c:=dL) (i:=((i:Nat):Int)) (k:=.i64) (ad:=adL) (ad':=(adL.add i)) (j:=i) rfl kr_ kr_ (by rw [←hAdL];kernel_rfl) kr_ rfl om_ (by rw [Nat.mul_one]) (lQ (.slice Ai ((Lf i).length) ci) (vec_ldA S47 4 rfl hAdL hxL) (pv (iv ((Lf i).length:Nat)) (dC ((((q:Nat):Int):Int)<((Lf i).length:Nat)) (fun hb49=> ?_) fun hb49=> ?_))))))))))))
     ·have hq:q<(Lf i).length:=by omega
      have hfl:=fill_len (mkf p i) (C i) (i:=q) om_
      obtain ⟨adi,hAdi,_⟩:=St.vec_rd S47 0 rfl (by rw [List.length_map,hfl];omega)
      refine wE (nCT (wp_skip (nS (wp_block (wp_region_lit (pv (pq gk) (pv (pq gk) (pv (pq gk) (lR (.slice BL N dL) S47 3 0 (pv (nI_ i) (g_ (gv_ixB (e:=31) (sz:=1) (n:=N) (c:=dL) (i:=((i:Nat):Int)) (k:=.i64) (ad:=adL) (ad':=(adL.add i)) (j:=i) rfl kr_ kr_ (by rw [←hAdL];kernel_rfl) kr_ rfl om_ (by rw [Nat.mul_one]) (lQ (.slice Ai ((Lf i).length) ci) (vec_ldA S47 4 rfl hAdL hxL) (pv (nI_ q) ?_))))))))))))))
      refine pv (.int .u8 ((mkf p i).toNat:Int)) (g_ (gv_ixB (e:=5) (sz:=1) (n:=((Lf i).length)) (c:=ci) (i:=((q:Nat):Int)) (k:=.i64) (ad:=adi) (ad':=(adi.add q)) (j:=q) rfl kr_ kr_ (by rw [←hAdi];kernel_rfl) kr_ rfl om_ (by rw [Nat.mul_one]) (g_ (gv_stV (i:=q) (ad:=adi) (b:=mkf p i) S47 rfl kr_ hAdi kr_ kr_ hq (fun w50 S51=> ?_)))))
      rw [fill_set' (mkf p i) (C i) om_] at S51
      exact wE (inb_n (nR (pv (nI_ q) (gI .i64 (IntKind.i64.wrap (((q:Nat):Int)+1)) ((q+1:Nat):Int) (wr_eq om_ om_ om_) (pv (nI_ (q+1)) (wE (then_n ⟨q+1,(jE_ ⟨S51,(by show q+1≤(Lf i).length;omega)⟩),(by show (Lf i).length-(q+1)<(Lf i).length-q;omega)⟩)))))))
     ·have hqe:q=(Lf i).length:=by omega
      have S52:St F w0 w46 (ownM V Lf p i::bigs N (hole (fillF V Lf C p i) i)::vec 5 1 (.slice AN (i+1) cN) (i+1) (((List.range (i+1)).map (mkf p)).map bv)::row gk #[.slice BL N dL,.slice BW N dW] 47::vec 31 1 (.slice BL N dL) N ((List.range N).map V)::vec 31 1 (.slice BW N dW) N ((List.range N).map Wv)::manyX ((List.range N).map fun z_=>(Wv z_,Lf z_))::L):=(by have h_:=S47;rw [hqe,List.drop_of_length_le om_,List.append_nil,←hvi] at h_;exact h_)
      have S53:St F w0 w46 (bigs N (fillF V Lf C p (i+1))::vec 5 1 (.slice AN (i+1) cN) (i+1) (((List.range (i+1)).map (mkf p)).map bv)::row gk #[.slice BL N dL,.slice BW N dW] 47::vec 31 1 (.slice BL N dL) N ((List.range N).map V)::vec 31 1 (.slice BW N dW) N ((List.range N).map Wv)::manyX ((List.range N).map fun z_=>(Wv z_,Lf z_))::L):=St.putB hi (fun j _=>fillF_next V Lf C p i j) S52
      refine wE (nCF (wp_exit (then_x (then_x (inb_x (inb_n (nR (pv (nI_ i) (gI .i64 (IntKind.i64.wrap (((i:Nat):Int)+1)) ((i+1:Nat):Int) (wr_eq om_ om_ om_) (pv (nI_ (i+1)) (wE (then_n ?_))))))))))))
      have S54:=St.pm 6 [1,0,2,3,4,5] S53
      exact ⟨(i+1,AN,cN),(jE_ ⟨S54,(by show i+1≤N;omega)⟩),(by show N-(i+1)<N-i;omega)⟩
    ·refine pv (nI_ i) (gI .i64 (Int.tmod ((i:Nat):Int) 251) ((i%251:Nat):Int) (tmod_nat rfl rfl) (gI .i64 (IntKind.i64.wrap (((i%251:Nat):Int)+1)) ((i%251+1:Nat):Int) (wr_eq om_ om_ om_) (gI .u8 (IntKind.u8.wrap ((i%251+1:Nat):Int)) ((mkf p i).toNat:Int) (by rw [mkf_two hpp,IntKind.wrap_u8];omega) (pv (.int .u8 ((mkf p i).toNat:Int)) (wE (nS (sR (pv (nI_ p) (dE ((p:Nat):Int) 1 (fun hd55=>False.elim om_) fun _=>wE (nCF (wp_skip (nSR ?_))))))))))))
     refine pv (.slice AK i cK) (pv (.int .u8 ((mkf p i).toNat:Int)) (g_ (gv_slit (e:=5) (sz:=1) (z:=.int .u8 0) (by_:=1) (vs:=#[(0,.int .u8 ((mkf p i).toNat:Int))]) (cells:=#[.int .u8 ((mkf p i).toNat:Int)]) S32 rfl kr_ ⟨by kernel_rfl⟩ kr_ kr_ kr_ kr_ (fun g56 w57 hg58 S59=>g_ (gv_append (e:=5) (sz:=1) (n:=i) (v:=.slice AK i cK) (vals:=((List.range i).map (mkf p)).map bv) (z:=.int .u8 0) (by_:=1) (m:=1) (c':=1) (ad:=⟨g56,0,none⟩) (news:=[bv (mkf p i)]) (St.swap S59) rfl kr_ ⟨by kernel_rfl⟩ rfl kr_ kr_ dc_ rfl (row_news (S59.blk 0 rfl)) (by intro u hu;simp at hu;subst hu;rfl) om_ om_ (fun v62 w60 S61=> ?_))))))
     obtain ⟨AN,cN,rfl⟩:=St.vecV S61 0 rfl
     have hmk:((List.range i).map (mkf p)).map bv++[bv (mkf p i)]=((List.range (i+1)).map (mkf p)).map bv:=by rw [List.range_succ,List.map_append,List.map_append];rfl
     rw [hmk] at S61
     have S8_:St F w0 w60 (vec 5 1 (.slice AN (i+1) cN) (i+1) (((List.range (i+1)).map (mkf p)).map bv)::bigs N (fillF V Lf C p i)::row gk #[.slice BL N dL,.slice BW N dW] 47::vec 31 1 (.slice BL N dL) N ((List.range N).map V)::vec 31 1 (.slice BW N dW) N ((List.range N).map Wv)::manyX ((List.range N).map fun z_=>(Wv z_,Lf z_))::L):=(St.swap S61).tail
     refine pv (.slice AN (i+1) cN) (wER (pv (iv 0) (wE (then_n (wp_block ?_)))))
     have S63:St F w0 w60 (bigs N (fillF V Lf C p i)::vec 5 1 (.slice AN (i+1) cN) (i+1) (((List.range (i+1)).map (mkf p)).map bv)::row gk #[.slice BL N dL,.slice BW N dW] 47::vec 31 1 (.slice BL N dL) N ((List.range N).map V)::vec 31 1 (.slice BW N dW) N ((List.range N).map Wv)::manyX ((List.range N).map fun z_=>(Wv z_,Lf z_))::L):=St.pm 6 [1,0,2,3,4,5] S8_
     have S64:St F w0 w60 (vec 5 1 (.slice Ai (Lf i).length ci) (Lf i).length ((C i).map bv)::bigs N (hole (fillF V Lf C p i) i)::vec 5 1 (.slice AN (i+1) cN) (i+1) (((List.range (i+1)).map (mkf p)).map bv)::row gk #[.slice BL N dL,.slice BW N dW] 47::vec 31 1 (.slice BL N dL) N ((List.range N).map V)::vec 31 1 (.slice BW N dW) N ((List.range N).map Wv)::manyX ((List.range N).map fun z_=>(Wv z_,Lf z_))::L):=(by have h_:=St.pickB hi S63;rw [fillF_self] at h_;unfold ownK at h_;rw [hvi,hCi] at h_;exact h_)
     have S65:St F w0 w60 (vec 5 1 (.slice Ai (Lf i).length ci) (Lf i).length ((mks (mkf p i) 0++(C i).drop 0).map bv)::bigs N (hole (fillF V Lf C p i) i)::vec 5 1 (.slice AN (i+1) cN) (i+1) (((List.range (i+1)).map (mkf p)).map bv)::row gk #[.slice BL N dL,.slice BW N dW] 47::vec 31 1 (.slice BL N dL) N ((List.range N).map V)::vec 31 1 (.slice BW N dW) N ((List.range N).map Wv)::manyX ((List.range N).map fun z_=>(Wv z_,Lf z_))::L):=S64
     refine wp_loop_g (G:=Nat) (fun (g_:Nat) (a_:Act) (w_:World)=>∃J:Nat→Value,a_=(fr ([pq gk,ud,J 2,nI_ z,nI_ p,.slice AN (i+1) cN,nI_ i,.int .u8 ((mkf p i).toNat:Int),nI_ g_]++jR J 9 5++[nI_ z,pq gk,pq gk,pq gk,.slice BL N dL,iv (N:Nat),fv]++jR J 21 18++[nI_ p,tv,J 41,J 42,nI_ i,pq gk,pq gk,pq gk,.slice BL N dL,iv (N:Nat),tv,J 50,J 51,nI_ i,nI_ (i%251),nI_ (i%251+1),.int .u8 ((mkf p i).toNat:Int),nI_ p,fv]++jR J 58 5++[.slice AK i cK,.int .u8 ((mkf p i).toNat:Int),sl g56 0 1 1,.slice AN (i+1) cN]++jR J 67 104) 0)∧St F w0 w_ (vec 5 1 (.slice Ai (Lf i).length ci) (Lf i).length ((mks (mkf p i) g_++(C i).drop g_).map bv)::bigs N (hole (fillF V Lf C p i) i)::vec 5 1 (.slice AN (i+1) cN) (i+1) (((List.range (i+1)).map (mkf p)).map bv)::row gk #[.slice BL N dL,.slice BW N dW] 47::vec 31 1 (.slice BL N dL) N ((List.range N).map V)::vec 31 1 (.slice BW N dW) N ((List.range N).map Wv)::manyX ((List.range N).map fun z_=>(Wv z_,Lf z_))::L)∧(g_≤(Lf i).length)) (fun g_=>(Lf i).length-g_) 0 (jE_ ⟨S65,Nat.zero_le _⟩) ?_
     rintro q a_ w66 ⟨J,rfl,S67,hq1⟩
     skip
     have S67:St F w0 w66 (vec 5 1 (.slice Ai (Lf i).length ci) (Lf i).length ((mks (mkf p i) q++(C i).drop q).map bv)::bigs N (hole (fillF V Lf C p i) i)::vec 5 1 (.slice AN (i+1) cN) (i+1) (((List.range (i+1)).map (mkf p)).map bv)::row gk #[.slice BL N dL,.slice BW N dW] 47::vec 31 1 (.slice BL N dL) N ((List.range N).map V)::vec 31 1 (.slice BW N dW) N ((List.range N).map Wv)::manyX ((List.range N).map fun z_=>(Wv z_,Lf z_))::L):=S67
     refine wp_seq (sR (pv (nI_ q) (pv (pq gk) (pv (pq gk) (pv (pq gk) (lR (.slice BL N dL) S67 3 0 (pv (nI_ i) (g_ (gv_ixB (e:=31) (sz:=1) (n:=N) (c:=dL) (i:=((i:Nat):Int)) (k:=.i64) (ad:=adL) (ad':=(adL.add i)) (j:=i) rfl kr_ kr_ (by rw [←hAdL];kernel_rfl) kr_ rfl om_ (by rw [Nat.mul_one]) (lQ (.slice Ai ((Lf i).length) ci) (vec_ldA S67 4 rfl hAdL hxL) (pv (iv ((Lf i).length:Nat)) (dC ((((q:Nat):Int):Int)<((Lf i).length:Nat)) (fun hb69=> ?_) fun hb69=> ?_))))))))))))
     ·have hq:q<(Lf i).length:=by omega
      have hfl:=fill_len (mkf p i) (C i) (i:=q) om_
      obtain ⟨adi,hAdi,_⟩:=St.vec_rd S67 0 rfl (by rw [List.length_map,hfl];omega)
      refine wE (nCT (wp_skip (nS (wp_block (wp_region_lit (pv (pq gk) (pv (pq gk) (pv (pq gk) (lR (.slice BL N dL) S67 3 0 (pv (nI_ i) (g_ (gv_ixB (e:=31) (sz:=1) (n:=N) (c:=dL) (i:=((i:Nat):Int)) (k:=.i64) (ad:=adL) (ad':=(adL.add i)) (j:=i) rfl kr_ kr_ (by rw [←hAdL];kernel_rfl) kr_ rfl om_ (by rw [Nat.mul_one]) (lQ (.slice Ai ((Lf i).length) ci) (vec_ldA S67 4 rfl hAdL hxL) (pv (nI_ q) ?_))))))))))))))
      refine pv (.int .u8 ((mkf p i).toNat:Int)) (g_ (gv_ixB (e:=5) (sz:=1) (n:=((Lf i).length)) (c:=ci) (i:=((q:Nat):Int)) (k:=.i64) (ad:=adi) (ad':=(adi.add q)) (j:=q) rfl kr_ kr_ (by rw [←hAdi];kernel_rfl) kr_ rfl om_ (by rw [Nat.mul_one]) (g_ (gv_stV (i:=q) (ad:=adi) (b:=mkf p i) S67 rfl kr_ hAdi kr_ kr_ hq (fun w70 S71=> ?_)))))
      rw [fill_set' (mkf p i) (C i) om_] at S71
      exact wE (inb_n (nR (pv (nI_ q) (gI .i64 (IntKind.i64.wrap (((q:Nat):Int)+1)) ((q+1:Nat):Int) (wr_eq om_ om_ om_) (pv (nI_ (q+1)) (wE (then_n ⟨q+1,(jE_ ⟨S71,(by show q+1≤(Lf i).length;omega)⟩),(by show (Lf i).length-(q+1)<(Lf i).length-q;omega)⟩)))))))
     ·have hqe:q=(Lf i).length:=by omega
      have S72:St F w0 w66 (ownM V Lf p i::bigs N (hole (fillF V Lf C p i) i)::vec 5 1 (.slice AN (i+1) cN) (i+1) (((List.range (i+1)).map (mkf p)).map bv)::row gk #[.slice BL N dL,.slice BW N dW] 47::vec 31 1 (.slice BL N dL) N ((List.range N).map V)::vec 31 1 (.slice BW N dW) N ((List.range N).map Wv)::manyX ((List.range N).map fun z_=>(Wv z_,Lf z_))::L):=(by have h_:=S67;rw [hqe,List.drop_of_length_le om_,List.append_nil,←hvi] at h_;exact h_)
      have S73:St F w0 w66 (bigs N (fillF V Lf C p (i+1))::vec 5 1 (.slice AN (i+1) cN) (i+1) (((List.range (i+1)).map (mkf p)).map bv)::row gk #[.slice BL N dL,.slice BW N dW] 47::vec 31 1 (.slice BL N dL) N ((List.range N).map V)::vec 31 1 (.slice BW N dW) N ((List.range N).map Wv)::manyX ((List.range N).map fun z_=>(Wv z_,Lf z_))::L):=St.putB hi (fun j _=>fillF_next V Lf C p i j) S72
      refine wE (nCF (wp_exit (then_x (then_x (inb_x (inb_n (nR (pv (nI_ i) (gI .i64 (IntKind.i64.wrap (((i:Nat):Int)+1)) ((i+1:Nat):Int) (wr_eq om_ om_ om_) (pv (nI_ (i+1)) (wE (then_n ?_))))))))))))
      have S74:=St.pm 6 [1,0,2,3,4,5] S73
      exact ⟨(i+1,AN,cN),(jE_ ⟨S74,(by show i+1≤N;omega)⟩),(by show N-(i+1)<N-i;omega)⟩
   ·have hiN:i=N:=by omega
    have S75:St F w0 w31 (bigs N (fillF V Lf C p i)::vec 5 1 (.slice AK i cK) i (((List.range i).map (mkf p)).map bv)::row gk #[.slice BL N dL,.slice BW N dW] 47::vec 31 1 (.slice BL N dL) N ((List.range N).map V)::vec 31 1 (.slice BW N dW) N ((List.range N).map Wv)::manyX ((List.range N).map fun z_=>(Wv z_,Lf z_))::L):=St.pm 6 [1,0,2,3,4,5] S32
    have S76:St F w0 w31 (bigs N (growF V Lf p (fun _=>undef) 0)::vec 5 1 (.slice AK i cK) i (((List.range i).map (mkf p)).map bv)::row gk #[.slice BL N dL,.slice BW N dW] 47::vec 31 1 (.slice BL N dL) N ((List.range N).map V)::vec 31 1 (.slice BW N dW) N ((List.range N).map Wv)::manyX ((List.range N).map fun z_=>(Wv z_,Lf z_))::L):=(by have h_:=S75;rw [fillF_all2 hiN,←growF_zero V Lf p (fun _=>undef)] at h_;exact h_)
    refine wE (nCF (wp_exit (then_x (then_x (inb_x (nSR (pv (.slice none 0 0) (wE (nS (sR (pv (iv 0) (wE (then_n ?_)))))))))))))
    refine wp_block ?_
    have S77:St F w0 w31 (vec 5 1 (.slice AK i cK) i (((List.range i).map (mkf p)).map bv)::bigs N (growF V Lf p (fun _=>undef) 0)::row gk #[.slice BL N dL,.slice BW N dW] 47::vec 31 1 (.slice BL N dL) N ((List.range N).map V)::vec 31 1 (.slice BW N dW) N ((List.range N).map Wv)::manyX ((List.range N).map fun z_=>(Wv z_,Lf z_))::L):=St.pm 6 [1,0,2,3,4,5] S76
    have S78:St F w0 w31 (vec 31 1 (.slice none 0 0) 0 ((List.range 0).map (fun _=>(undef:Value)))::vec 5 1 (.slice AK i cK) i (((List.range i).map (mkf p)).map bv)::bigs N (growF V Lf p (fun _=>undef) 0)::row gk #[.slice BL N dL,.slice BW N dW] 47::vec 31 1 (.slice BL N dL) N ((List.range N).map V)::vec 31 1 (.slice BW N dW) N ((List.range N).map Wv)::manyX ((List.range N).map fun z_=>(Wv z_,Lf z_))::L):=St.vec_nil S77
    have S79:St F w0 w31 (vec 31 1 (.slice none 0 0) 0 ((List.range 0).map (fun _=>(undef:Value)))::bigs N (growF V Lf p (fun _=>undef) 0)::vec 5 1 (.slice AK i cK) i (((List.range i).map (mkf p)).map bv)::row gk #[.slice BL N dL,.slice BW N dW] 47::vec 31 1 (.slice BL N dL) N ((List.range N).map V)::vec 31 1 (.slice BW N dW) N ((List.range N).map Wv)::manyX ((List.range N).map fun z_=>(Wv z_,Lf z_))::L):=St.pm 7 [0,2,1,3,4,5,6] S78
    refine wp_loop_g (G:=Nat×(Nat→Value)×Option Addr×Nat) (fun (g_:Nat×(Nat→Value)×Option Addr×Nat) (a_:Act) (w_:World)=>∃J:Nat→Value,a_=(fr ([pq gk,ud,J 2,nI_ z,nI_ p,.slice AK i cK,nI_ i,J 7,J 8,.slice g_.2.2.1 g_.1 g_.2.2.2,nI_ g_.1,J 11,J 12,J 13,nI_ z,pq gk,pq gk,pq gk,.slice BL N dL,iv (N:Nat),fv]++jR J 21 18++[nI_ p,tv,J 41,J 42,nI_ i,pq gk,pq gk,pq gk,.slice BL N dL,iv (N:Nat),fv]++jR J 50 121) 0)∧St F w0 w_ (vec 31 1 (.slice g_.2.2.1 g_.1 g_.2.2.2) g_.1 ((List.range g_.1).map g_.2.1)::bigs N (growF V Lf p g_.2.1 g_.1)::vec 5 1 (.slice AK i cK) i (((List.range i).map (mkf p)).map bv)::row gk #[.slice BL N dL,.slice BW N dW] 47::vec 31 1 (.slice BL N dL) N ((List.range N).map V)::vec 31 1 (.slice BW N dW) N ((List.range N).map Wv)::manyX ((List.range N).map fun z_=>(Wv z_,Lf z_))::L)∧(g_.1≤N∧∀j,j<g_.1→∃A c,g_.2.1 j=.slice A ((Lf j).length+96) c)) (fun g_=>N-g_.1) (0,fun _=>undef,none,0) (jE_ ⟨S79,⟨Nat.zero_le _,fun j hj=>absurd hj (Nat.not_lt_zero j)⟩⟩) ?_
    rintro ⟨u,G,AR,cR⟩ a_ w80 ⟨J,rfl,S81,⟨ht1,hG⟩⟩
    skip
    have S81:St F w0 w80 (vec 31 1 (.slice AR u cR) u ((List.range u).map G)::bigs N (growF V Lf p G u)::vec 5 1 (.slice AK i cK) i (((List.range i).map (mkf p)).map bv)::row gk #[.slice BL N dL,.slice BW N dW] 47::vec 31 1 (.slice BL N dL) N ((List.range N).map V)::vec 31 1 (.slice BW N dW) N ((List.range N).map Wv)::manyX ((List.range N).map fun z_=>(Wv z_,Lf z_))::L):=S81
    refine wp_seq (sR (pv (nI_ u) (pv (pq gk) (pv (pq gk) (pv (pq gk) (lR (.slice BL N dL) S81 3 0 (pv (iv (N:Nat)) (dC ((((u:Nat):Int):Int)<(N:Nat)) (fun hb83=> ?_) fun hb83=> ?_))))))))
    ·have ht:u<N:=by omega
     have hG:∀j,j<u→∃A c,G j=.slice A ((Lf j).length+96) c:=hG
     obtain ⟨At,ct,hvt⟩:=hV u ht
     have hlt:=hlen u ht
     obtain ⟨adL,hAdL,_⟩:=St.vec_rd S81 4 rfl (by simp;omega)
     have hxL:((List.range N).map V)[u]?=some (.slice At (Lf u).length ct):=by rw [range_at V ht,hvt]
     obtain ⟨adK,hAdK,_⟩:=St.vec_rd S81 2 rfl (by simp;omega)
     have hxK:(((List.range i).map (mkf p)).map bv)[u]?=some (bv (mkf p u)):=by rw [List.getElem?_map,range_at (mkf p) om_];rfl
     refine wE (nCT (wp_skip (nS (wp_block (sR (pv (pq gk) (pv (pq gk) (pv (pq gk) (lR (.slice BL N dL) S81 3 0 (pv (nI_ u) (g_ (gv_ixB (e:=31) (sz:=1) (n:=N) (c:=dL) (i:=((u:Nat):Int)) (k:=.i64) (ad:=adL) (ad':=(adL.add u)) (j:=u) rfl kr_ kr_ (by rw [←hAdL];kernel_rfl) kr_ rfl om_ (by rw [Nat.mul_one]) (lQ (.slice At ((Lf u).length) ct) (vec_ldA S81 4 rfl hAdL hxL) (pv (.slice At ((Lf u).length) ct) ?_))))))))))))))
     refine wE (nS (sR (pv (iv 0) (wE (then_n (wp_block ?_))))))
     have S84:St F w0 w80 (bigs N (growF V Lf p G u)::vec 31 1 (.slice AR u cR) u ((List.range u).map G)::vec 5 1 (.slice AK i cK) i (((List.range i).map (mkf p)).map bv)::row gk #[.slice BL N dL,.slice BW N dW] 47::vec 31 1 (.slice BL N dL) N ((List.range N).map V)::vec 31 1 (.slice BW N dW) N ((List.range N).map Wv)::manyX ((List.range N).map fun z_=>(Wv z_,Lf z_))::L):=St.pm 7 [1,0,2,3,4,5,6] S81
     have S85:St F w0 w80 (vec 5 1 (.slice At (Lf u).length ct) (Lf u).length ((mks (mkf p u) (Lf u).length).map bv)::bigs N (hole (growF V Lf p G u) u)::vec 31 1 (.slice AR u cR) u ((List.range u).map G)::vec 5 1 (.slice AK i cK) i (((List.range i).map (mkf p)).map bv)::row gk #[.slice BL N dL,.slice BW N dW] 47::vec 31 1 (.slice BL N dL) N ((List.range N).map V)::vec 31 1 (.slice BW N dW) N ((List.range N).map Wv)::manyX ((List.range N).map fun z_=>(Wv z_,Lf z_))::L):=(by have h_:=St.pickB ht S84;rw [growF_self] at h_;unfold ownM at h_;rw [hvt] at h_;exact h_)
     have S86:St F w0 w80 (GrB (mkf p u) (.slice At (Lf u).length ct) (Lf u).length 0 (.slice At ((Lf u).length+0) ct)::bigs N (hole (growF V Lf p G u) u)::vec 31 1 (.slice AR u cR) u ((List.range u).map G)::vec 5 1 (.slice AK i cK) i (((List.range i).map (mkf p)).map bv)::row gk #[.slice BL N dL,.slice BW N dW] 47::vec 31 1 (.slice BL N dL) N ((List.range N).map V)::vec 31 1 (.slice BW N dW) N ((List.range N).map Wv)::manyX ((List.range N).map fun z_=>(Wv z_,Lf z_))::L):=St.gr_start S85
     refine wp_loop_g (G:=Nat×Option Addr×Nat) (fun (g_:Nat×Option Addr×Nat) (a_:Act) (w_:World)=>∃J:Nat→Value,a_=(fr ([pq gk,ud,J 2,nI_ z,nI_ p,.slice AK i cK,nI_ i,J 7,J 8,.slice AR u cR,nI_ u,.slice g_.2.1 ((Lf u).length+g_.1) g_.2.2,nI_ g_.1,J 13,nI_ z,pq gk,pq gk,pq gk,.slice BL N dL,iv (N:Nat),fv]++jR J 21 18++[nI_ p,tv,J 41,J 42,nI_ i,pq gk,pq gk,pq gk,.slice BL N dL,iv (N:Nat),fv]++jR J 50 39++[nI_ u,pq gk,pq gk,pq gk,.slice BL N dL,iv (N:Nat),tv,J 96,J 97,pq gk,pq gk,pq gk,.slice BL N dL,nI_ u,.pointer (some (adL.add u)),.slice At ((Lf u).length) ct]++jR J 105 66) 0)∧St F w0 w_ (GrB (mkf p u) (.slice At (Lf u).length ct) (Lf u).length g_.1 (.slice g_.2.1 ((Lf u).length+g_.1) g_.2.2)::bigs N (hole (growF V Lf p G u) u)::vec 31 1 (.slice AR u cR) u ((List.range u).map G)::vec 5 1 (.slice AK i cK) i (((List.range i).map (mkf p)).map bv)::row gk #[.slice BL N dL,.slice BW N dW] 47::vec 31 1 (.slice BL N dL) N ((List.range N).map V)::vec 31 1 (.slice BW N dW) N ((List.range N).map Wv)::manyX ((List.range N).map fun z_=>(Wv z_,Lf z_))::L)∧(g_.1≤96)) (fun g_=>96-g_.1) (0,At,ct) (jE_ ⟨S86,Nat.zero_le _⟩) ?_
     rintro ⟨k,Ag,cg⟩ a_ w87 ⟨J,rfl,S88,hk1⟩
     skip
     have S88:St F w0 w87 (GrB (mkf p u) (.slice At (Lf u).length ct) (Lf u).length k (.slice Ag ((Lf u).length+k) cg)::bigs N (hole (growF V Lf p G u) u)::vec 31 1 (.slice AR u cR) u ((List.range u).map G)::vec 5 1 (.slice AK i cK) i (((List.range i).map (mkf p)).map bv)::row gk #[.slice BL N dL,.slice BW N dW] 47::vec 31 1 (.slice BL N dL) N ((List.range N).map V)::vec 31 1 (.slice BW N dW) N ((List.range N).map Wv)::manyX ((List.range N).map fun z_=>(Wv z_,Lf z_))::L):=S88
     refine wp_seq (sR (pv (nI_ k) (dC ((((k:Nat):Int):Int)<96) (fun hb90=> ?_) fun hb90=> ?_)))
     ·refine wE (nCT (wp_skip (nS (wp_block (wp_region_lit (pv (.slice Ag ((Lf u).length+k) cg) (pv (.slice AK i cK) (pv (nI_ u) (g_ (gv_ixB (e:=5) (sz:=1) (n:=i) (c:=cK) (i:=((u:Nat):Int)) (k:=.i64) (ad:=adK) (ad':=(adK.add u)) (j:=u) rfl kr_ kr_ (by rw [←hAdK];kernel_rfl) kr_ rfl om_ (by rw [Nat.mul_one]) (lQ (.int .u8 ((mkf p u).toNat:Int)) (vec_ldA S88 3 rfl hAdK hxK) (g_ (gv_slit (e:=5) (sz:=1) (z:=.int .u8 0) (by_:=1) (vs:=#[(0,.int .u8 ((mkf p u).toNat:Int))]) (cells:=#[.int .u8 ((mkf p u).toNat:Int)]) S88 rfl kr_ ⟨by kernel_rfl⟩ kr_ kr_ kr_ kr_ (fun g91 w92 hg93 S94=> ?_))))))))))))))
      have S95:=St.pm 9 [1,0,2,3,4,5,6,7,8] S94
      refine g_ (gv_append_gr (m:=mkf p u) (ad:=⟨g91,0,none⟩) (c':=1) S95 rfl kr_ ⟨by kernel_rfl⟩ kr_ kr_ (row_news (S95.blk 1 rfl)) om_ (fun A96 c97 w98 S99=>pv (.slice A96 ((Lf u).length+k+1) c97) (wE (inb_n (nR (pv (nI_ k) (gI .i64 (IntKind.i64.wrap (((k:Nat):Int)+1)) ((k+1:Nat):Int) (wr_eq om_ om_ om_) (pv (nI_ (k+1)) (wE (then_n ?_))))))))))
      have S100:=St.pm 9 [0,2,3,4,5,6,7,8] S99
      exact ⟨(k+1,A96,c97),(jE_ ⟨S100,(by show k+1≤96;omega)⟩),(by show 96-(k+1)<96-k;omega)⟩
     ·obtain rfl:k=96:=by omega
      refine wE (nCF (wp_exit (then_x (then_x (inb_x (nR (pv (.slice AR u cR) (pv (.slice Ag ((Lf u).length+96) cg) (g_ (gv_slit (e:=31) (sz:=1) (z:=.slice none 0 0) (by_:=24) (vs:=#[(0,.slice Ag ((Lf u).length+96) cg)]) (cells:=#[.slice Ag ((Lf u).length+96) cg]) S88 rfl kr_ ⟨by kernel_rfl⟩ kr_ kr_ kr_ kr_ (fun g101 w102 hg103 S104=> ?_)))))))))))
      have S105:St F w0 w102 (row g101 #[.slice Ag ((Lf u).length+96) cg] 31::vec 31 1 (.slice AR u cR) u ((List.range u).map G)::GrB (mkf p u) (.slice At (Lf u).length ct) (Lf u).length 96 (.slice Ag ((Lf u).length+96) cg)::bigs N (hole (growF V Lf p G u) u)::vec 5 1 (.slice AK i cK) i (((List.range i).map (mkf p)).map bv)::row gk #[.slice BL N dL,.slice BW N dW] 47::vec 31 1 (.slice BL N dL) N ((List.range N).map V)::vec 31 1 (.slice BW N dW) N ((List.range N).map Wv)::manyX ((List.range N).map fun z_=>(Wv z_,Lf z_))::L):=St.pm 9 [0,3,1,2,4,5,6,7,8] S104
      refine g_ (gv_appS (n:=u) (gs:=g101) S105 rfl kr_ ⟨by kernel_rfl⟩ kr_ kr_ rfl om_ (fun v106 w107 S108=> ?_))
      obtain ⟨AN,cN,rfl⟩:=St.vecV S108 0 rfl
      rw [←range_set] at S108
      have S109:=St.pm 8 [1,0,2,3,4,5,6,7] S108
      have S110:=St.pm 8 [0,2,1,3,4,5,6,7] S109
      have S111:St F w0 w107 (bigs N (growF V Lf p (setG G u (.slice Ag ((Lf u).length+96) cg)) (u+1))::vec 31 1 (.slice AN (u+1) cN) (u+1) ((List.range (u+1)).map (setG G u (.slice Ag ((Lf u).length+96) cg)))::vec 5 1 (.slice AK i cK) i (((List.range i).map (mkf p)).map bv)::row gk #[.slice BL N dL,.slice BW N dW] 47::vec 31 1 (.slice BL N dL) N ((List.range N).map V)::vec 31 1 (.slice BW N dW) N ((List.range N).map Wv)::manyX ((List.range N).map fun z_=>(Wv z_,Lf z_))::L):=St.putB ht (fun j _=>growF_next V Lf p G _ u j) (by rw [hvt];exact S110)
      have hG2:∀j,j<u+1→∃A c,setG G u (.slice Ag ((Lf u).length+96) cg) j=.slice A ((Lf j).length+96) c:=fun j hj=>by
             unfold setG
             by_cases e:j=u
             ·subst e;rw [if_pos rfl];exact ⟨_,_,rfl⟩
             ·rw [if_neg e];exact hG j om_
      refine pv (.slice AN (u+1) cN) (wE (inb_n (nR (pv (nI_ u) (gI .i64 (IntKind.i64.wrap (((u:Nat):Int)+1)) ((u+1:Nat):Int) (wr_eq om_ om_ om_) (pv (nI_ (u+1)) (wE (then_n ?_))))))))
      have S112:=St.pm 7 [1,0,2,3,4,5,6] S111
      exact ⟨(u+1,setG G u (.slice Ag ((Lf u).length+96) cg),AN,cN),(jE_ ⟨S112,⟨by show u+1≤N;omega,hG2⟩⟩),(by show N-(u+1)<N-u;omega)⟩
    ·have htN:u=N:=by omega
     have hG:∀j,j<u→∃A c,G j=.slice A ((Lf j).length+96) c:=hG
     have S113:=St.pm 7 [1,0,2,3,4,5,6] S81
     have S114:St F w0 w80 (bigs N (grF V Lf p G)::vec 31 1 (.slice AR u cR) u ((List.range u).map G)::vec 5 1 (.slice AK i cK) i (((List.range i).map (mkf p)).map bv)::row gk #[.slice BL N dL,.slice BW N dW] 47::vec 31 1 (.slice BL N dL) N ((List.range N).map V)::vec 31 1 (.slice BW N dW) N ((List.range N).map Wv)::manyX ((List.range N).map fun z_=>(Wv z_,Lf z_))::L):=(by have h_:=S113;rw [growF_all2 htN] at h_;exact h_)
     refine wE (nCF (wp_exit (then_x (then_x (inb_x (nSR (pv (iv 0) (wE (then_n (wp_block (wp_loop_g (G:=Nat) (fun (g_:Nat) (a_:Act) (w_:World)=>∃J:Nat→Value,a_=(fr ([pq gk,ud,J 2,nI_ z,nI_ p,.slice AK i cK,nI_ i,J 7,J 8,.slice AR u cR,nI_ u,J 11,J 12,nI_ g_,nI_ z,pq gk,pq gk,pq gk,.slice BL N dL,iv (N:Nat),fv]++jR J 21 18++[nI_ p,tv,J 41,J 42,nI_ i,pq gk,pq gk,pq gk,.slice BL N dL,iv (N:Nat),fv]++jR J 50 39++[nI_ u,pq gk,pq gk,pq gk,.slice BL N dL,iv (N:Nat),fv]++jR J 96 75) 0)∧St F w0 w_ (bigs N (grF V Lf p G)::vec 31 1 (.slice AR u cR) u ((List.range u).map G)::vec 5 1 (.slice AK i cK) i (((List.range i).map (mkf p)).map bv)::row gk #[.slice BL N dL,.slice BW N dW] 47::vec 31 1 (.slice BL N dL) N ((List.range N).map V)::vec 31 1 (.slice BW N dW) N ((List.range N).map Wv)::manyX ((List.range N).map fun z_=>(Wv z_,Lf z_))::L)∧(g_≤N)) (fun g_=>N-g_) 0 (jE_ ⟨S114,Nat.zero_le _⟩) ?_)))))))))))
     rintro e a_ w115 ⟨J,rfl,S116,hi1⟩
     skip
     have S116:St F w0 w115 (bigs N (grF V Lf p G)::vec 31 1 (.slice AR u cR) u ((List.range u).map G)::vec 5 1 (.slice AK i cK) i (((List.range i).map (mkf p)).map bv)::row gk #[.slice BL N dL,.slice BW N dW] 47::vec 31 1 (.slice BL N dL) N ((List.range N).map V)::vec 31 1 (.slice BW N dW) N ((List.range N).map Wv)::manyX ((List.range N).map fun z_=>(Wv z_,Lf z_))::L):=S116
     refine wp_seq (sR (pv (nI_ e) (pv (pq gk) (pv (pq gk) (pv (pq gk) (lR (.slice BL N dL) S116 3 0 (pv (iv (N:Nat)) (dC ((((e:Nat):Int):Int)<(N:Nat)) (fun hb118=> ?_) fun hb118=> ?_))))))))
     ·have he:e<N:=by omega
      obtain ⟨Ae,ce,hve⟩:=hV e he
      obtain ⟨Be,de,hwe⟩:=hW e he
      obtain ⟨Ge,cge,hge⟩:=hG e om_
      have hle:=hlen e he
      obtain ⟨adL,hAdL,_⟩:=St.vec_rd S116 4 rfl (by simp;omega)
      obtain ⟨adW,hAdW,_⟩:=St.vec_rd S116 5 rfl (by simp;omega)
      obtain ⟨adK,hAdK,_⟩:=St.vec_rd S116 2 rfl (by simp;omega)
      obtain ⟨adR,hAdR,_⟩:=St.vec_rd S116 1 rfl (by simp;omega)
      have hxL:((List.range N).map V)[e]?=some (.slice Ae (Lf e).length ce):=by rw [range_at V he,hve]
      have hxW:((List.range N).map Wv)[e]?=some (.slice Be (Lf e).length de):=by rw [range_at Wv he,hwe]
      have hxK:(((List.range i).map (mkf p)).map bv)[e]?=some (bv (mkf p e)):=by rw [List.getElem?_map,range_at (mkf p) om_];rfl
      have hxR:((List.range u).map G)[e]?=some (.slice Ge ((Lf e).length+96) cge):=by rw [range_at G om_,hge]
      refine wE (nCT (wp_skip (nS (wp_block (wp_seq (wp_region_phu (γ:=Unit) 42 [19,39] (fun (c2_:Unit) (i_:Nat)=>(match i_ with|0=>pq gk|1=>pq gk|2=>pq gk|3=>.slice BL N dL|4=>nI_ e|5=>.pointer (some (adL.add e))|6=>.slice Ae ((Lf e).length) ce|7=>.slice AK i cK|8=>nI_ e|9=>.pointer (some (adK.add e))|10=>.int .u8 ((mkf p e).toNat:Int)|11=>pq gk|12=>pq gk|13=>po gk 1|14=>.slice BW N dW|15=>nI_ e|16=>.pointer (some (adW.add e))|17=>.slice Be ((Lf e).length) de|18=>iv ((Lf e).length:Nat)|19=>.bool true|20=>.bool false|21=>.bool false|22=>.slice AR u cR|23=>nI_ e|24=>.pointer (some (adR.add e))|25=>.slice Ge ((Lf e).length+96) cge|26=>.slice AK i cK|27=>nI_ e|28=>.pointer (some (adK.add e))|29=>.int .u8 ((mkf p e).toNat:Int)|30=>pq gk|31=>pq gk|32=>po gk 1|33=>.slice BW N dW|34=>nI_ e|35=>.pointer (some (adW.add e))|36=>.slice Be ((Lf e).length) de|37=>iv ((Lf e).length:Nat)|38=>nI_ ((Lf e).length+96)|39=>.bool true|40=>.bool false|41=>.bool false|_=>undef:Value)) (fun (c2_:Unit) (p_:Nat) (w_:World)=>(match p_ with|0=>St F w0 w_ (bigs N (grF V Lf p G)::vec 31 1 (.slice AR u cR) u ((List.range u).map G)::vec 5 1 (.slice AK i cK) i (((List.range i).map (mkf p)).map bv)::row gk #[.slice BL N dL,.slice BW N dW] 47::vec 31 1 (.slice BL N dL) N ((List.range N).map V)::vec 31 1 (.slice BW N dW) N ((List.range N).map Wv)::manyX ((List.range N).map fun z_=>(Wv z_,Lf z_))::L)|1=>St F w0 w_ (bigs N (grF V Lf p G)::vec 31 1 (.slice AR u cR) u ((List.range u).map G)::vec 5 1 (.slice AK i cK) i (((List.range i).map (mkf p)).map bv)::row gk #[.slice BL N dL,.slice BW N dW] 47::vec 31 1 (.slice BL N dL) N ((List.range N).map V)::vec 31 1 (.slice BW N dW) N ((List.range N).map Wv)::manyX ((List.range N).map fun z_=>(Wv z_,Lf z_))::L)|_=>St F w0 w_ (bigs N (grF V Lf p G)::vec 31 1 (.slice AR u cR) u ((List.range u).map G)::vec 5 1 (.slice AK i cK) i (((List.range i).map (mkf p)).map bv)::row gk #[.slice BL N dL,.slice BW N dW] 47::vec 31 1 (.slice BL N dL) N ((List.range N).map V)::vec 31 1 (.slice BW N dW) N ((List.range N).map Wv)::manyX ((List.range N).map fun z_=>(Wv z_,Lf z_))::L):Prop)) () kr_ kr_ kr_ kr_ (S116.drew) ?_ ?_ ?_))))))
      ·intro i_ c2_ p_ vals_ w1 hi_ hiE_ hp_ hk_ hu_ hPh_ hd_
       rcases i_ with _|_|_|_|_|_|_|_|_|_|_|_|_|_|_|_|_|_|_|_|_|_|_|_|_|_|_|_|_|_|_|_|_|_|_|_|_|_|_|_|_|_|i_
       ·exact tG_ rfl hd_ (gV (pq gk) ⟨rfl,rfl⟩)
       ·exact tG_ rfl hd_ (gV (pq gk) ⟨rfl,rfl⟩)
       ·exact tG_ rfl hd_ (gV (pq gk) ⟨rfl,rfl⟩)
       ·rcases p_ with _|_|_|p_
        ·have S122:=St.id hPh_
         exact tG_ rfl hd_ (gL (.slice BL N dL) rfl (((S122.blk 3 rfl).cell 0).trans rfl) ⟨rfl,rfl⟩)
        ·exact absurd (hu_ 0 dc_ kr_) dc_
        ·exact absurd (hu_ 0 dc_ kr_) dc_
        ·exact absurd hp_ (by simp)
       ·exact tG_ rfl hd_ (gV (nI_ e) ⟨rfl,rfl⟩)
       ·exact tG_ rfl hd_ (gv_ixB (e:=31) (sz:=1) (n:=N) (c:=dL) (i:=((e:Nat):Int)) (k:=.i64) (ad:=adL) (ad':=(adL.add e)) (j:=e) rfl kr_ kr_ (by rw [←hAdL];kernel_rfl) kr_ rfl om_ (by rw [Nat.mul_one]) ⟨rfl,rfl⟩)
       ·rcases p_ with _|_|_|p_
        ·have S125:=St.id hPh_
         exact tG_ rfl hd_ (gL (.slice Ae ((Lf e).length) ce) rfl (vec_ldA S125 4 rfl hAdL hxL) ⟨rfl,rfl⟩)
        ·exact absurd (hu_ 0 dc_ kr_) dc_
        ·exact absurd (hu_ 0 dc_ kr_) dc_
        ·exact absurd hp_ (by simp)
       ·exact tG_ rfl hd_ (gV (.slice AK i cK) ⟨rfl,rfl⟩)
       ·exact tG_ rfl hd_ (gV (nI_ e) ⟨rfl,rfl⟩)
       ·exact tG_ rfl hd_ (gv_ixB (e:=5) (sz:=1) (n:=i) (c:=cK) (i:=((e:Nat):Int)) (k:=.i64) (ad:=adK) (ad':=(adK.add e)) (j:=e) rfl kr_ kr_ (by rw [←hAdK];kernel_rfl) kr_ rfl om_ (by rw [Nat.mul_one]) ⟨rfl,rfl⟩)
       ·rcases p_ with _|_|_|p_
        ·have S129:=St.id hPh_
         exact tG_ rfl hd_ (gL (.int .u8 ((mkf p e).toNat:Int)) rfl (vec_ldA S129 2 rfl hAdK hxK) ⟨rfl,rfl⟩)
        ·exact absurd (hu_ 0 dc_ kr_) dc_
        ·exact absurd (hu_ 0 dc_ kr_) dc_
        ·exact absurd hp_ (by simp)
       ·exact tG_ rfl hd_ (gV (pq gk) ⟨rfl,rfl⟩)
       ·exact tG_ rfl hd_ (gV (pq gk) ⟨rfl,rfl⟩)
       ·exact tG_ rfl hd_ (gV (po gk 1) ⟨rfl,rfl⟩)
       ·rcases p_ with _|_|_|p_
        ·have S133:=St.id hPh_
         exact tG_ rfl hd_ (gL (.slice BW N dW) rfl (((S133.blk 3 rfl).cell 1).trans rfl) ⟨rfl,rfl⟩)
        ·exact absurd (hu_ 0 dc_ kr_) dc_
        ·exact absurd (hu_ 0 dc_ kr_) dc_
        ·exact absurd hp_ (by simp)
       ·exact tG_ rfl hd_ (gV (nI_ e) ⟨rfl,rfl⟩)
       ·exact tG_ rfl hd_ (gv_ixB (e:=31) (sz:=1) (n:=N) (c:=dW) (i:=((e:Nat):Int)) (k:=.i64) (ad:=adW) (ad':=(adW.add e)) (j:=e) rfl kr_ kr_ (by rw [←hAdW];kernel_rfl) kr_ rfl om_ (by rw [Nat.mul_one]) ⟨rfl,rfl⟩)
       ·rcases p_ with _|_|_|p_
        ·have S136:=St.id hPh_
         exact tG_ rfl hd_ (gL (.slice Be ((Lf e).length) de) rfl (vec_ldA S136 5 rfl hAdW hxW) ⟨rfl,rfl⟩)
        ·exact absurd (hu_ 0 dc_ kr_) dc_
        ·exact absurd (hu_ 0 dc_ kr_) dc_
        ·exact absurd hp_ (by simp)
       ·exact tG_ rfl hd_ (gV (iv ((Lf e).length:Nat)) ⟨rfl,rfl⟩)
       ·exact absurd hiE_ dc_
       ·exact tG_ rfl hd_ (gV (.bool false) ⟨rfl,rfl⟩)
       ·exact tG_ rfl hd_ (gV (.bool false) ⟨rfl,rfl⟩)
       ·exact tW_ 21 150 21 false rfl hd_ (gv_val (v:=.slice AR u cR) (w':=w1) kr_ ⟨rfl,rfl⟩)
       ·exact tW_ 21 150 21 false rfl hd_ (gv_val (v:=nI_ e) (w':=w1) kr_ ⟨rfl,rfl⟩)
       ·exact tW_ 21 150 21 false rfl hd_ (gv_ixB (e:=31) (sz:=1) (n:=u) (c:=cR) (i:=((e:Nat):Int)) (k:=.i64) (ad:=adR) (ad':=(adR.add e)) (j:=e) rfl kr_ kr_ (by rw [←hAdR];kernel_rfl) kr_ rfl om_ (by rw [Nat.mul_one]) ⟨rfl,rfl⟩)
       ·rcases p_ with _|_|_|p_
        ·exact absurd (hk_ 0 dc_ kr_) dc_
        ·have S143:=St.id hPh_
         exact tW_ 21 150 21 false rfl hd_ (gv_ldR (v:=.slice Ge ((Lf e).length+96) cge) rfl kr_ kr_ (vec_ldA S143 1 rfl hAdR hxR) ⟨rfl,rfl⟩)
        ·exact absurd (hu_ 1 dc_ kr_) dc_
        ·exact absurd hp_ (by simp)
       ·exact tW_ 21 150 21 false rfl hd_ (gv_val (v:=.slice AK i cK) (w':=w1) kr_ ⟨rfl,rfl⟩)
       ·exact tW_ 21 150 21 false rfl hd_ (gv_val (v:=nI_ e) (w':=w1) kr_ ⟨rfl,rfl⟩)
       ·exact tW_ 21 150 21 false rfl hd_ (gv_ixB (e:=5) (sz:=1) (n:=i) (c:=cK) (i:=((e:Nat):Int)) (k:=.i64) (ad:=adK) (ad':=(adK.add e)) (j:=e) rfl kr_ kr_ (by rw [←hAdK];kernel_rfl) kr_ rfl om_ (by rw [Nat.mul_one]) ⟨rfl,rfl⟩)
       ·rcases p_ with _|_|_|p_
        ·exact absurd (hk_ 0 dc_ kr_) dc_
        ·have S147:=St.id hPh_
         exact tW_ 21 150 21 false rfl hd_ (gv_ldR (v:=.int .u8 ((mkf p e).toNat:Int)) rfl kr_ kr_ (vec_ldA S147 2 rfl hAdK hxK) ⟨rfl,rfl⟩)
        ·exact absurd (hu_ 1 dc_ kr_) dc_
        ·exact absurd hp_ (by simp)
       ·exact tW_ 21 150 21 false rfl hd_ (gv_val (v:=pq gk) (w':=w1) kr_ ⟨rfl,rfl⟩)
       ·exact tW_ 21 150 21 false rfl hd_ (gv_val (v:=pq gk) (w':=w1) kr_ ⟨rfl,rfl⟩)
       ·exact tW_ 21 150 21 false rfl hd_ (gv_val (v:=po gk 1) (w':=w1) kr_ ⟨rfl,rfl⟩)
       ·rcases p_ with _|_|_|p_
        ·exact absurd (hk_ 0 dc_ kr_) dc_
        ·have S151:=St.id hPh_
         exact tW_ 21 150 21 false rfl hd_ (gv_ldR (v:=.slice BW N dW) rfl kr_ kr_ (((S151.blk 3 rfl).cell 1).trans rfl) ⟨rfl,rfl⟩)
        ·exact absurd (hu_ 1 dc_ kr_) dc_
        ·exact absurd hp_ (by simp)
       ·exact tW_ 21 150 21 false rfl hd_ (gv_val (v:=nI_ e) (w':=w1) kr_ ⟨rfl,rfl⟩)
       ·exact tW_ 21 150 21 false rfl hd_ (gv_ixB (e:=31) (sz:=1) (n:=N) (c:=dW) (i:=((e:Nat):Int)) (k:=.i64) (ad:=adW) (ad':=(adW.add e)) (j:=e) rfl kr_ kr_ (by rw [←hAdW];kernel_rfl) kr_ rfl om_ (by rw [Nat.mul_one]) ⟨rfl,rfl⟩)
       ·rcases p_ with _|_|_|p_
        ·exact absurd (hk_ 0 dc_ kr_) dc_
        ·have S154:=St.id hPh_
         exact tW_ 21 150 21 false rfl hd_ (gv_ldR (v:=.slice Be ((Lf e).length) de) rfl kr_ kr_ (vec_ldA S154 5 rfl hAdW hxW) ⟨rfl,rfl⟩)
        ·exact absurd (hu_ 1 dc_ kr_) dc_
        ·exact absurd hp_ (by simp)
       ·exact tW_ 21 150 21 false rfl hd_ (gv_val (v:=iv ((Lf e).length:Nat)) (w':=w1) kr_ ⟨rfl,rfl⟩)
       ·exact tW_ 21 150 21 false rfl hd_ (gv_int (k:=.i64) (z:=IntKind.i64.wrap (((Lf e).length:Nat)+96)) (z':=(((Lf e).length+96:Nat):Int)) kr_ (wr_eq om_ om_ om_) ⟨rfl,rfl⟩)
       ·exact absurd hiE_ dc_
       ·exact tW_ 21 150 21 false rfl hd_ (gv_val (v:=.bool false) (w':=w1) kr_ ⟨rfl,rfl⟩)
       ·exact tG_ rfl hd_ (gV (.bool false) ⟨rfl,rfl⟩)
       ·exact absurd hi_ om_
      ·intro k_ c2_ vals_ w1 hk_ hPh_ hd_
       rcases k_ with _|_|k_
       ·have S159:=St.id hPh_
        refine tG_ rfl hd_ (gv_call (args:=#[.slice Ae ((Lf e).length) ce,.int .u8 ((mkf p e).toNat:Int),iv ((Lf e).length:Nat)]) rfl Try.func82 kr_ rfl rfl kr_ (Calls.mono (w_full (m:=mkf p e) (n:=(Lf e).length) S159 (RoT.gr0 0 rfl he hve) rfl rfl om_) ?_))
        rintro _ w160 ⟨rfl,S161⟩
        refine ⟨_,rfl,⟨(),rfl, ?_,S161⟩⟩
        intro i_ hi_ hne_ hdp_
        rcases i_ with _|_|_|_|_|_|_|_|_|_|_|_|_|_|_|_|_|_|_|_|_|_|_|_|_|_|_|_|_|_|_|_|_|_|_|_|_|_|_|_|_|_|i_
        ·rfl
        ·rfl
        ·rfl
        ·rfl
        ·rfl
        ·rfl
        ·rfl
        ·rfl
        ·rfl
        ·rfl
        ·rfl
        ·rfl
        ·rfl
        ·rfl
        ·rfl
        ·rfl
        ·rfl
        ·rfl
        ·rfl
        ·exact absurd rfl hne_
        ·exact (dep_no hdp_ kr_).elim
        ·exact (dep_no hdp_ kr_).elim
        ·exact (dep_no hdp_ kr_).elim
        ·exact (dep_no hdp_ kr_).elim
        ·exact (dep_no hdp_ kr_).elim
        ·exact (dep_no hdp_ kr_).elim
        ·exact (dep_no hdp_ kr_).elim
        ·exact (dep_no hdp_ kr_).elim
        ·exact (dep_no hdp_ kr_).elim
        ·exact (dep_no hdp_ kr_).elim
        ·exact (dep_no hdp_ kr_).elim
        ·exact (dep_no hdp_ kr_).elim
        ·exact (dep_no hdp_ kr_).elim
        ·exact (dep_no hdp_ kr_).elim
        ·exact (dep_no hdp_ kr_).elim
        ·exact (dep_no hdp_ kr_).elim
        ·exact (dep_no hdp_ kr_).elim
        ·exact (dep_no hdp_ kr_).elim
        ·exact (dep_no hdp_ kr_).elim
        ·exact (dep_no hdp_ kr_).elim
        ·exact (dep_no hdp_ kr_).elim
        ·exact (dep_no hdp_ kr_).elim
        ·exact absurd hi_ om_
       ·have S162:=St.id hPh_
        refine tW_ 21 150 21 false rfl hd_ (gv_call (args:=#[.slice Ge ((Lf e).length+96) cge,.int .u8 ((mkf p e).toNat:Int),nI_ ((Lf e).length+96)]) rfl Try.func82 kr_ rfl rfl kr_ (Calls.mono (w_full (m:=mkf p e) (n:=(Lf e).length+96) S162 (RoT.gr1 0 rfl he hge) rfl rfl om_) ?_))
        rintro _ w163 ⟨rfl,S164⟩
        refine ⟨_,rfl,⟨(),rfl, ?_,S164⟩⟩
        intro i_ hi_ hne_ hdp_
        rcases i_ with _|_|_|_|_|_|_|_|_|_|_|_|_|_|_|_|_|_|_|_|_|_|_|_|_|_|_|_|_|_|_|_|_|_|_|_|_|_|_|_|_|_|i_
        ·rfl
        ·rfl
        ·rfl
        ·rfl
        ·rfl
        ·rfl
        ·rfl
        ·rfl
        ·rfl
        ·rfl
        ·rfl
        ·rfl
        ·rfl
        ·rfl
        ·rfl
        ·rfl
        ·rfl
        ·rfl
        ·rfl
        ·rfl
        ·rfl
        ·rfl
        ·rfl
        ·rfl
        ·rfl
        ·rfl
        ·rfl
        ·rfl
        ·rfl
        ·rfl
        ·rfl
        ·rfl
        ·rfl
        ·rfl
        ·rfl
        ·rfl
        ·rfl
        ·rfl
        ·rfl
        ·exact absurd rfl hne_
        ·exact (dep_no hdp_ kr_).elim
        ·exact (dep_no hdp_ kr_).elim
        ·exact absurd hi_ om_
       ·exact absurd hk_ (by simp)
      ·intro c2_ w1 hPh_
       have S165:=St.id hPh_
       refine (wE ?_)
       exact nCF (wp_skip (inb_n (nR (pv (nI_ e) (gI .i64 (IntKind.i64.wrap (((e:Nat):Int)+1)) ((e+1:Nat):Int) (wr_eq om_ om_ om_) (pv (nI_ (e+1)) (wE (then_n ⟨e+1,(jE_ ⟨S165,(by show e+1≤N;omega)⟩),(by show N-(e+1)<N-e;omega)⟩))))))))
     ·refine wE (nCF (wp_exit (then_x (then_x (inb_x (inb_n (nR (pv (nI_ p) (gI .i64 (IntKind.i64.wrap (((p:Nat):Int)+1)) ((p+1:Nat):Int) (wr_eq om_ om_ om_) (pv (nI_ (p+1)) (wE (then_n ?_))))))))))))
      have S166:St F w0 w115 (bigs N (ownK V fun j=>mks (mkf p j) (Lf j).length)::vec 31 1 (.slice AR u cR) u ((List.range u).map G)::vec 5 1 (.slice AK i cK) i (((List.range i).map (mkf p)).map bv)::row gk #[.slice BL N dL,.slice BW N dW] 47::vec 31 1 (.slice BL N dL) N ((List.range N).map V)::vec 31 1 (.slice BW N dW) N ((List.range N).map Wv)::manyX ((List.range N).map fun z_=>(Wv z_,Lf z_))::L):=St.gr_done S116
      have S167:=St.pm 7 [3,4,5,0,6] S166
      exact ⟨(p+1,fun j=>mks (mkf p j) (Lf j).length),(jE_ ⟨S167,⟨by show p+1≤2;omega,fun i hi=>mks_len _ _⟩⟩),(by show 2-(p+1)<2-p;omega)⟩
  ·refine wE (nCF (wp_exit (then_x (then_x (inb_x (nSR (pv tv (wE (then_n (wp_ret (bA (.bool true) ?_)))))))))))
   have S168:=St.pm 5 [] S25
   exact ⟨rfl,S168⟩
section
theorem RoV.pre {F:Nat→Prop}{w0:World}{L:List Ast}{A:Option Addr}{l1 l2:List Value}(h:RoV F w0 L A (l1++l2)):RoV F w0 L A l1:=⟨fun w' L' S h0=>by
 obtain ⟨ad,e,hc⟩:=h.out w' L' S (by rw [List.length_append];omega)
 exact ⟨ad,e,fun j u hu=>hc j u (by rw [List.getElem?_append_left (List.getElem?_eq_some_iff.1 hu).1];exact hu)⟩⟩
theorem RoV.at9 {F:Nat→Prop}{w0 w:World}{L:List Ast}{A:Option Addr}{ad:Addr}{vs:List Value}(h:RoV F w0 L A vs)(hA:A=some ad)(S:St F w0 w L):RdV w (some ad) vs:=hA▸h.out w [] S
theorem picksV_app (A B:List Pick):picksV (A++B)=picksV A++picksV B:=by simp [picksV]
theorem picks_zero:∀n:Nat,picksV (List.replicate n (0,0,0))=List.replicate (n*3) (.int .i64 0)
 |0=>rfl
 |n+1=>by
  rw [List.replicate_succ',picksV_app,picks_zero n,show (n+1)*3=n*3+3 from by omega,←List.replicate_append_replicate];rfl
theorem made_picks (n:Nat):madeCells (Value.agg #[.int .i64 0,.int .i64 0,.int .i64 0]).cells (n*3)=(picksV (List.replicate n (0,0,0))).toArray:=by
 apply Array.ext'
 rw [picks_zero,List.toList_toArray,List.eq_replicate_iff]
 refine ⟨by simp [madeCells],fun b hb=> ?_⟩
 simp [madeCells] at hb
 obtain ⟨i,hi,rfl⟩:=hb
 have h3:i%3<3:=Nat.mod_lt _ dc_
 show (#[.int .i64 0,.int .i64 0,.int .i64 0]:Array Value)[i%3]! =_
 rcases (by omega:i%3=0∨i%3=1∨i%3=2) with e|e|e<;>rw [e]<;>rfl
theorem picks_copy (ps:List Pick):splice (picksV (List.replicate (ps.length+1) (0,0,0))) 0 (picksV ps)=picksV (ps++[(0,0,0)]):=by
 unfold splice
 rw [List.take_zero,List.nil_append,Nat.zero_add,List.replicate_succ',picksV_app,picksV_app,List.drop_left' (by rw [length_picksV,length_picksV,List.length_replicate])]
theorem picks_store (A B:List Pick)(q p:Pick):splice (picksV (A++q::B)) (A.length*3) (pickCells p)=picksV (A++p::B):=by
 have h1:∀x:Pick,picksV (A++x::B)=picksV A++(pickCells x++picksV B):=fun x=>by simp [picksV]
 have h3:A.length*3+(pickCells p).length=(picksV A++pickCells q).length:=by rw [List.length_append,length_picksV];rfl
 unfold splice
 rw [h3,h1,h1,List.take_left' (length_picksV A),←List.append_assoc (picksV A) (pickCells q),List.drop_left' rfl]
def hpk (ps:List Pick)(i:Nat):List Pick:=List.replicate i (1,1,1)++(ps.drop i++[(5,6,7)])
theorem hpk_zero (ps:List Pick):hpk ps 0=ps++(5,6,7)::[]:=rfl
theorem hpk_split {ps:List Pick}{i:Nat}{p:Pick}(h:ps[i]?=some p):hpk ps i=List.replicate i (1,1,1)++p::(ps.drop (i+1)++[(5,6,7)]):=by
 obtain ⟨hi,e⟩:=List.getElem?_eq_some_iff.1 h
 unfold hpk
 rw [List.drop_eq_getElem_cons hi,e];rfl
theorem hpk_next (ps:List Pick)(i:Nat):hpk ps (i+1)=List.replicate i (1,1,1)++(1,1,1)::(ps.drop (i+1)++[(5,6,7)]):=by
 unfold hpk
 rw [List.replicate_succ',List.append_assoc];rfl
theorem hpk_at {ps:List Pick}{i:Nat}{p:Pick}(h:ps[i]?=some p):(hpk ps i)[i]?=some p:=by
 rw [hpk_split h,List.getElem?_append_right (by rw [List.length_replicate];exact Nat.le_refl _),List.length_replicate,Nat.sub_self];rfl
theorem hpk_last (ps:List Pick):(hpk ps 0)[ps.length]?=some (5,6,7):=by
 rw [hpk_zero,List.getElem?_append_right (Nat.le_refl _),Nat.sub_self];rfl
theorem pick_cell {F:Nat→Prop}{w0 w:World}{L:List Ast}{g k:Nat}{qs:List Pick}{p:Pick}{t:TypeId}(S:St F w0 w L)(i:Nat)(hi:L[i]?=some (row g (picksV qs).toArray t))(h:qs[k]?=some p)(j:Nat)(u:Value)(hu:(pickCells p)[j]?=some u):w.cell? ⟨g,k*3+j,none⟩=some u:=by
 rw [(S.blk i hi).cell,List.getElem?_toArray];exact picksV_at qs k p h j u hu
section
variable {P:Program}{ops:Array Oper}{rest:List Oper}{o:Oper}{a:Act}{w w0:World}{F:Nat→Prop}{L:List Ast}{ρ:Operand→Value}{K:Value→World→Prop}
theorem gv_stP {T t:TypeId}{x y:Operand}{g k:Nat}{A B:List Pick}{q p:Pick}(S:St F w0 w (row g (picksV (A++q::B)).toArray t::L))(ho:o.op=.store T x y)(hT:(P.info? T).map (·.size)=some 3)(hx:ρ x=.pointer (some ⟨g,k,none⟩))(hy:ρ y=.agg (pickCells p).toArray)(hk:k=A.length*3)
  (h:∀w',St F w0 w' (row g (picksV (A++p::B)).toArray t::L)→K undef w'):gives P K ((execOp ρ o).run P w):=by
 subst hk
 refine gv_stA (vs:=pickCells p) S 0 rfl ho hT hx hy rfl (fun v hv=>by simp [pickCells] at hv;rcases hv with rfl|rfl|rfl<;>rfl) ?_ (L':=row g (picksV (A++p::B)).toArray t::L) ?_ h
 ·simp only [List.size_toArray];rw [length_picksV,List.length_append,List.length_cons];omega
 ·show row g (splice (picksV (A++q::B)) (A.length*3) (pickCells p)).toArray t::L=_
  rw [picks_store]
end
theorem w_handed {F:Nat→Prop}{w0 w:World}{L:List Ast}{gd:Nat}{s:Dsk}{A:Option Addr}{ps:List Pick}{c:Nat}(S:St F w0 w (PDisk gd s::L))(hr:RoV F w0 L A (picksV ps))(hpm:ps.length*24≤140737488351232):Calls Try.prog 36 #[.pointer (some ⟨gd,0,none⟩),.slice A ps.length c] w fun e w'=>e=.returned (.bool true)∧St F w0 w' (PDisk gd (s.crashR ps)::L):=by
 refine eN (fr [pq gd,.slice A ps.length c] 100) Try.func36 rfl (sR (pv fv (wER (pv (.slice A ps.length c) (pv (iv (ps.length:Nat)) (gI .i64 (IntKind.i64.wrap ((ps.length:Nat)+1)) ((ps.length+1:Nat):Int) (wr_eq om_ om_ om_) (g_ (gv_make (e:=145) (u:=((ps.length+1:Nat):Int)) (v:=((ps.length+1:Nat):Int)) (z:=.agg #[iv 0,iv 0,iv 0]) (sz:=3) (by_:=24) (n:=ps.length+1) (c:=ps.length+1) (cs:=(picksV (List.replicate (ps.length+1) (0,0,0))).toArray) S rfl kr_ ⟨by kernel_rfl⟩ kr_ kr_ rfl rfl (Nat.le_refl _) om_ om_ (made_picks _) (fun g1 w2 hg3 S4=>pv (sl g1 0 (ps.length+1) (ps.length+1)) (wER (pv (sl g1 0 (ps.length+1) (ps.length+1)) (pv (.slice A ps.length c) (g_ (gv_copyV (e:=145) (sz:=3) (g:=g1) (off:=0) (dLen:=ps.length+1) (dCap:=ps.length+1) (sLen:=ps.length) (sCap:=c) (A:=A) (cs:=picksV (List.replicate (ps.length+1) (0,0,0))) (news:=picksV ps) S4 0 rfl rfl kr_ kr_ kr_ kr_ (by rw [length_picksV];show _=min ps.length (ps.length+1)*3;rw [Nat.min_eq_left (Nat.le_succ _)]) (hr.more.more.out _ [] S4) (picks_one ps) (by rw [length_picksV,length_picksV,List.length_replicate];omega) (L':=(row g1 ((picksV (ps++(0,0,0)::[])).toArray) 145::PDisk gd s::L)) (by rw [picks_copy];rfl) (fun w5 m6 S7=> ?_)))))))))))))))
 refine wER (pv (sl g1 0 (ps.length+1) (ps.length+1)) (pv (.slice A ps.length c) (pv (iv (ps.length:Nat)) (pv (.agg #[iv 5,iv 6,iv 7]) (g_ (gv_ixE (e:=145) (sz:=3) (g:=g1) (off:=0) (n:=(ps.length+1)) (c:=(ps.length+1)) (i:=(ps.length:Nat)) (k:=.i64) (j:=ps.length) (off':=(ps.length*3)) rfl kr_ kr_ kr_ kr_ rfl om_ om_ (g_ (gv_stP (g:=g1) (k:=ps.length*3) (A:=ps) (B:=[]) (q:=(0,0,0)) (p:=(5,6,7)) S7 rfl kr_ kr_ kr_ (by rfl) (fun w8 S9=> ?_)))))))))
 rw [←hpk_zero] at S9
 refine wER (pv (pq gd) (pv (sl g1 0 (ps.length+1) (ps.length+1)) (pv (.slice A ps.length c) (pv (iv (ps.length:Nat)) (g_ (gv_cutTo (e:=145) (sz:=3) (A:=(some ⟨g1,0,none⟩)) (n:=(ps.length+1)) (c:=(ps.length+1)) (kh:=.i64) (v:=(ps.length:Nat)) (hi:=ps.length) rfl kr_ kr_ kr_ kr_ rfl om_ (g_ (gv_call (args:=#[pq gd,sl g1 0 ps.length (ps.length+1)]) rfl Try.func64 kr_ rfl rfl kr_ ?_))))))))
 have S10:St F w0 w8 (PDisk gd s::row g1 ((picksV (hpk ps 0)).toArray) 145::L):=St.pm 2 [1,0] S9
 have S11:St F w0 w8 (PDisk gd s::row g1 ((picksV (hpk ps 0)).toArray) 145::L):=St.pm 2 [0,1] S10
 refine Calls.mono (pd_crash S11 (RoV.pre (l2:=picksV [(5,6,7)]) (by rw [←picksV_app];exact RoV.item 0 rfl)) rfl om_) ?_
 rintro _ w12 ⟨rfl,S13⟩
 refine ⟨_,rfl,(wER (pv (sl g1 0 (ps.length+1) (ps.length+1)) (pv (.slice A ps.length c) (pv (iv (ps.length:Nat)) (g_ (gv_ixE (e:=145) (sz:=3) (g:=g1) (off:=0) (n:=(ps.length+1)) (c:=(ps.length+1)) (i:=(ps.length:Nat)) (k:=.i64) (j:=ps.length) (off':=(ps.length*3)) rfl kr_ kr_ kr_ kr_ rfl om_ om_ (pv (po g1 (ps.length*3)) (lQ (iv 5) (pick_cell S13 1 rfl (hpk_last ps) 0 _ rfl) (dE 5 5 (fun _=>pv tv (pW (sl g1 0 (ps.length+1) (ps.length+1)) (pW (.slice A ps.length c) (pW (iv (ps.length:Nat)) (wl_when kr_ (gv_ixE (e:=145) (sz:=3) (g:=g1) (off:=0) (n:=(ps.length+1)) (c:=(ps.length+1)) (i:=(ps.length:Nat)) (k:=.i64) (j:=ps.length) (off':=(ps.length*3)) rfl kr_ kr_ kr_ kr_ rfl om_ om_ ?_)))))) fun hd14=>False.elim (hd14 rfl))))))))))⟩
 refine pW (.pointer (some ⟨g1,ps.length*3+1,none⟩)) (wl_when kr_ (gv_ldR (v:=iv 6) rfl kr_ kr_ (pick_cell S13 1 rfl (hpk_last ps) 1 _ rfl) (wl_when kr_ (gv_eq (x:=6) (y:=6) kr_ (fun _=>pv tv (pv tv (pW (sl g1 0 (ps.length+1) (ps.length+1)) (pW (.slice A ps.length c) (pW (iv (ps.length:Nat)) (wl_when kr_ (gv_ixE (e:=145) (sz:=3) (g:=g1) (off:=0) (n:=(ps.length+1)) (c:=(ps.length+1)) (i:=(ps.length:Nat)) (k:=.i64) (j:=ps.length) (off':=(ps.length*3)) rfl kr_ kr_ kr_ kr_ rfl om_ om_ (pW (.pointer (some ⟨g1,ps.length*3+2,none⟩)) (wl_when kr_ (gv_ldR (v:=iv 7) rfl kr_ kr_ (pick_cell S13 1 rfl (hpk_last ps) 2 _ rfl) (wl_when kr_ (gv_eq (x:=7) (y:=7) kr_ (fun _=>pv tv (pv tv ?_)) (fun hd16=>False.elim (hd16 rfl)))))))))))))) (fun hd15=>False.elim (hd15 rfl))))))
 refine wE (nS (sR (pv (iv 0) (wE (then_n (wp_block ?_))))))
 have S17:St F w0 w12 (row g1 ((picksV (hpk ps 0)).toArray) 145::PDisk gd (s.crashR ps)::L):=St.pm 2 [1,0] S13
 refine wp_loop_g (G:=Nat) (fun (g_:Nat) (a_:Act) (w_:World)=>∃J:Nat→Value,a_=(fr ([pq gd,.slice A ps.length c,ud,ud,fv,sl g1 0 (ps.length+1) (ps.length+1),tv,nI_ g_,.slice A ps.length c,iv (ps.length:Nat),nI_ (ps.length+1),sl g1 0 (ps.length+1) (ps.length+1),sl g1 0 (ps.length+1) (ps.length+1),.slice A ps.length c,goInt m6,sl g1 0 (ps.length+1) (ps.length+1),.slice A ps.length c,iv (ps.length:Nat),.agg #[iv 5,iv 6,iv 7],po g1 (ps.length*3),pq gd,sl g1 0 (ps.length+1) (ps.length+1),.slice A ps.length c,iv (ps.length:Nat),sl g1 0 ps.length (ps.length+1),.tuple #[],sl g1 0 (ps.length+1) (ps.length+1),.slice A ps.length c,iv (ps.length:Nat),po g1 (ps.length*3),po g1 (ps.length*3),iv 5,tv,tv,sl g1 0 (ps.length+1) (ps.length+1),.slice A ps.length c,iv (ps.length:Nat),po g1 (ps.length*3),po g1 (ps.length*3+1),iv 6,tv,tv,tv,sl g1 0 (ps.length+1) (ps.length+1),.slice A ps.length c,iv (ps.length:Nat),po g1 (ps.length*3),po g1 (ps.length*3+2),iv 7,tv,tv]++jR J 51 50) 1)∧St F w0 w_ (row g1 ((picksV (hpk ps g_)).toArray) 145::PDisk gd (s.crashR ps)::L)∧(g_≤ps.length)) (fun g_=>ps.length-g_) 0 (jE_ ⟨S17,Nat.zero_le _⟩) ?_
 rintro i a_ w18 ⟨J,rfl,S19,hi1⟩
 skip
 have S19:St F w0 w18 (row g1 ((picksV (hpk ps i)).toArray) 145::PDisk gd (s.crashR ps)::L):=S19
 refine wp_seq (sR (pv (nI_ i) (pv (.slice A ps.length c) (pv (iv (ps.length:Nat)) (dC ((((i:Nat):Int):Int)<(ps.length:Nat)) (fun hb21=> ?_) fun hb21=> ?_)))))
 ·have hi:i<ps.length:=by omega
  obtain ⟨p,hpi⟩:∃p,ps[i]?=some p:=⟨_,List.getElem?_eq_getElem hi⟩
  obtain ⟨ad,hAd,hrp⟩:=(hr.more.more).out _ [] S19 (by rw [length_picksV];omega)
  refine wE (nCT (wp_skip (nS (wp_block (wp_seq (wp_region_phu (γ:=Unit) 40 [] (fun (c_:Unit) (i_:Nat)=>(match i_ with|0=>.bool true|1=>.bool true|2=>sl g1 0 (ps.length+1) (ps.length+1)|3=>nI_ i|4=>.pointer (some ⟨g1,i*3,none⟩)|5=>.pointer (some ⟨g1,i*3,none⟩)|6=>iv p.1|7=>.slice A ps.length c|8=>nI_ i|9=>.pointer (some (ad.add (i*3)))|10=>.pointer (some (ad.add (i*3)))|11=>iv p.1|12=>.bool true|13=>.bool true|14=>.bool true|15=>sl g1 0 (ps.length+1) (ps.length+1)|16=>nI_ i|17=>.pointer (some ⟨g1,i*3,none⟩)|18=>.pointer (some ⟨g1,i*3+1,none⟩)|19=>iv p.2.1|20=>.slice A ps.length c|21=>nI_ i|22=>.pointer (some (ad.add (i*3)))|23=>.pointer (some ((ad.add (i*3)).add 1))|24=>iv p.2.1|25=>.bool true|26=>.bool true|27=>.bool true|28=>sl g1 0 (ps.length+1) (ps.length+1)|29=>nI_ i|30=>.pointer (some ⟨g1,i*3,none⟩)|31=>.pointer (some ⟨g1,i*3+2,none⟩)|32=>iv p.2.2|33=>.slice A ps.length c|34=>nI_ i|35=>.pointer (some (ad.add (i*3)))|36=>.pointer (some ((ad.add (i*3)).add 2))|37=>iv p.2.2|38=>.bool true|39=>.bool true|_=>undef:Value)) (fun (c_:Unit) (p_:Nat) (w_:World)=>(match p_ with|_=>St F w0 w_ (row g1 ((picksV (hpk ps i)).toArray) 145::PDisk gd (s.crashR ps)::L):Prop)) () kr_ kr_ kr_ kr_ (S19.drew) ?_ ?_ ?_))))))
  ·intro i_ c_ p_ vals_ w1 hi_ hiE_ hp_ hk_ hu_ hPh_ hd_
   rcases i_ with _|_|_|_|_|_|_|_|_|_|_|_|_|_|_|_|_|_|_|_|_|_|_|_|_|_|_|_|_|_|_|_|_|_|_|_|_|_|_|_|i_
   ·exact tG_ rfl hd_ (gV (.bool true) ⟨rfl,rfl⟩)
   ·exact tG_ rfl hd_ (gV (.bool true) ⟨rfl,rfl⟩)
   ·exact tW_ 1 58 1 true rfl hd_ (gv_val (v:=sl g1 0 (ps.length+1) (ps.length+1)) (w':=w1) kr_ ⟨rfl,rfl⟩)
   ·exact tW_ 1 58 1 true rfl hd_ (gv_val (v:=nI_ i) (w':=w1) kr_ ⟨rfl,rfl⟩)
   ·exact tW_ 1 58 1 true rfl hd_ (gv_ixE (e:=145) (sz:=3) (g:=g1) (off:=0) (n:=(ps.length+1)) (c:=(ps.length+1)) (i:=((i:Nat):Int)) (k:=.i64) (j:=i) (off':=(i*3)) rfl kr_ kr_ kr_ kr_ rfl om_ om_ ⟨rfl,rfl⟩)
   ·exact tW_ 1 58 1 true rfl hd_ (gv_val (v:=.pointer (some ⟨g1,i*3,none⟩)) (w':=w1) kr_ ⟨rfl,rfl⟩)
   ·have S28:=St.id hPh_
    exact tW_ 1 58 1 true rfl hd_ (gv_ldR (v:=iv p.1) rfl kr_ kr_ (pick_cell S28 0 rfl (hpk_at hpi) 0 _ rfl) ⟨rfl,rfl⟩)
   ·exact tW_ 1 58 1 true rfl hd_ (gv_val (v:=.slice A ps.length c) (w':=w1) kr_ ⟨rfl,rfl⟩)
   ·exact tW_ 1 58 1 true rfl hd_ (gv_val (v:=nI_ i) (w':=w1) kr_ ⟨rfl,rfl⟩)
   ·exact tW_ 1 58 1 true rfl hd_ (gv_ixB (e:=145) (sz:=3) (n:=ps.length) (c:=c) (i:=((i:Nat):Int)) (k:=.i64) (ad:=ad) (ad':=(ad.add (i*3))) (j:=i) rfl kr_ kr_ (by rw [←hAd];kernel_rfl) kr_ rfl om_ rfl ⟨rfl,rfl⟩)
   ·exact tW_ 1 58 1 true rfl hd_ (gv_val (v:=.pointer (some (ad.add (i*3)))) (w':=w1) kr_ ⟨rfl,rfl⟩)
   ·have S33:=St.id hPh_
    exact tW_ 1 58 1 true rfl hd_ (gv_ldR (v:=iv p.1) rfl kr_ kr_ (RoV.cells (RoV.at9 (hr.more.more) hAd S33) (i*3) (fun j u hu=>picksV_at ps _ _ hpi j u hu) (Nat.succ_pos _) 0 _ rfl) ⟨rfl,rfl⟩)
   ·exact tW_ 1 58 1 true rfl hd_ (gB_ (b:=p.1==p.1) (b':=true) kr_ (by simp) ⟨rfl,rfl⟩)
   ·exact tG_ rfl hd_ (gV (.bool true) ⟨rfl,rfl⟩)
   ·exact tG_ rfl hd_ (gV (.bool true) ⟨rfl,rfl⟩)
   ·exact tW_ 14 71 14 true rfl hd_ (gv_val (v:=sl g1 0 (ps.length+1) (ps.length+1)) (w':=w1) kr_ ⟨rfl,rfl⟩)
   ·exact tW_ 14 71 14 true rfl hd_ (gv_val (v:=nI_ i) (w':=w1) kr_ ⟨rfl,rfl⟩)
   ·exact tW_ 14 71 14 true rfl hd_ (gv_ixE (e:=145) (sz:=3) (g:=g1) (off:=0) (n:=(ps.length+1)) (c:=(ps.length+1)) (i:=((i:Nat):Int)) (k:=.i64) (j:=i) (off':=(i*3)) rfl kr_ kr_ kr_ kr_ rfl om_ om_ ⟨rfl,rfl⟩)
   ·exact tW_ 14 71 14 true rfl hd_ (gv_val (v:=.pointer (some ⟨g1,i*3+1,none⟩)) (w':=w1) kr_ ⟨rfl,rfl⟩)
   ·have S41:=St.id hPh_
    exact tW_ 14 71 14 true rfl hd_ (gv_ldR (v:=iv p.2.1) rfl kr_ kr_ (pick_cell S41 0 rfl (hpk_at hpi) 1 _ rfl) ⟨rfl,rfl⟩)
   ·exact tW_ 14 71 14 true rfl hd_ (gv_val (v:=.slice A ps.length c) (w':=w1) kr_ ⟨rfl,rfl⟩)
   ·exact tW_ 14 71 14 true rfl hd_ (gv_val (v:=nI_ i) (w':=w1) kr_ ⟨rfl,rfl⟩)
   ·exact tW_ 14 71 14 true rfl hd_ (gv_ixB (e:=145) (sz:=3) (n:=ps.length) (c:=c) (i:=((i:Nat):Int)) (k:=.i64) (ad:=ad) (ad':=(ad.add (i*3))) (j:=i) rfl kr_ kr_ (by rw [←hAd];kernel_rfl) kr_ rfl om_ rfl ⟨rfl,rfl⟩)
   ·exact tW_ 14 71 14 true rfl hd_ (gv_val (v:=.pointer (some ((ad.add (i*3)).add 1))) (w':=w1) kr_ ⟨rfl,rfl⟩)
   ·have S46:=St.id hPh_
    exact tW_ 14 71 14 true rfl hd_ (gv_ldR (v:=iv p.2.1) rfl kr_ kr_ (RoV.cells (RoV.at9 (hr.more.more) hAd S46) (i*3) (fun j u hu=>picksV_at ps _ _ hpi j u hu) (Nat.succ_pos _) 1 _ rfl) ⟨rfl,rfl⟩)
   ·exact tW_ 14 71 14 true rfl hd_ (gB_ (b:=p.2.1==p.2.1) (b':=true) kr_ (by simp) ⟨rfl,rfl⟩)
   ·exact tG_ rfl hd_ (gV (.bool true) ⟨rfl,rfl⟩)
   ·exact tG_ rfl hd_ (gV (.bool true) ⟨rfl,rfl⟩)
   ·exact tW_ 27 84 27 true rfl hd_ (gv_val (v:=sl g1 0 (ps.length+1) (ps.length+1)) (w':=w1) kr_ ⟨rfl,rfl⟩)
   ·exact tW_ 27 84 27 true rfl hd_ (gv_val (v:=nI_ i) (w':=w1) kr_ ⟨rfl,rfl⟩)
   ·exact tW_ 27 84 27 true rfl hd_ (gv_ixE (e:=145) (sz:=3) (g:=g1) (off:=0) (n:=(ps.length+1)) (c:=(ps.length+1)) (i:=((i:Nat):Int)) (k:=.i64) (j:=i) (off':=(i*3)) rfl kr_ kr_ kr_ kr_ rfl om_ om_ ⟨rfl,rfl⟩)
   ·exact tW_ 27 84 27 true rfl hd_ (gv_val (v:=.pointer (some ⟨g1,i*3+2,none⟩)) (w':=w1) kr_ ⟨rfl,rfl⟩)
   ·have S54:=St.id hPh_
    exact tW_ 27 84 27 true rfl hd_ (gv_ldR (v:=iv p.2.2) rfl kr_ kr_ (pick_cell S54 0 rfl (hpk_at hpi) 2 _ rfl) ⟨rfl,rfl⟩)
   ·exact tW_ 27 84 27 true rfl hd_ (gv_val (v:=.slice A ps.length c) (w':=w1) kr_ ⟨rfl,rfl⟩)
   ·exact tW_ 27 84 27 true rfl hd_ (gv_val (v:=nI_ i) (w':=w1) kr_ ⟨rfl,rfl⟩)
   ·exact tW_ 27 84 27 true rfl hd_ (gv_ixB (e:=145) (sz:=3) (n:=ps.length) (c:=c) (i:=((i:Nat):Int)) (k:=.i64) (ad:=ad) (ad':=(ad.add (i*3))) (j:=i) rfl kr_ kr_ (by rw [←hAd];kernel_rfl) kr_ rfl om_ rfl ⟨rfl,rfl⟩)
   ·exact tW_ 27 84 27 true rfl hd_ (gv_val (v:=.pointer (some ((ad.add (i*3)).add 2))) (w':=w1) kr_ ⟨rfl,rfl⟩)
   ·have S59:=St.id hPh_
    exact tW_ 27 84 27 true rfl hd_ (gv_ldR (v:=iv p.2.2) rfl kr_ kr_ (RoV.cells (RoV.at9 (hr.more.more) hAd S59) (i*3) (fun j u hu=>picksV_at ps _ _ hpi j u hu) (Nat.succ_pos _) 2 _ rfl) ⟨rfl,rfl⟩)
   ·exact tW_ 27 84 27 true rfl hd_ (gB_ (b:=p.2.2==p.2.2) (b':=true) kr_ (by simp) ⟨rfl,rfl⟩)
   ·exact tG_ rfl hd_ (gV (.bool true) ⟨rfl,rfl⟩)
   ·exact absurd hi_ om_
  ·intro k_ c_ vals_ w1 hk_ hPh_ hd_
   exact absurd hk_ (Nat.not_lt_zero _)
  ·intro c_ w1 hPh_
   have S62:=St.id hPh_
   refine pv tv (wE ?_)
   refine nR (pv (sl g1 0 (ps.length+1) (ps.length+1)) (pv (nI_ i) (pv (.agg #[iv 1,iv 1,iv 1]) (g_ (gv_ixE (e:=145) (sz:=3) (g:=g1) (off:=0) (n:=(ps.length+1)) (c:=(ps.length+1)) (i:=((i:Nat):Int)) (k:=.i64) (j:=i) (off':=(i*3)) rfl kr_ kr_ kr_ kr_ rfl om_ om_ ?_)))))
   rw [hpk_split hpi] at S62
   refine g_ (gv_stP (g:=g1) (k:=i*3) (A:=List.replicate i (1,1,1)) (B:=(ps.drop (i+1)++[(5,6,7)])) (q:=p) (p:=(1,1,1)) S62 rfl kr_ kr_ kr_ (by rw [List.length_replicate]) (fun w63 S64=> ?_))
   rw [←hpk_next] at S64
   exact wE (inb_n (nR (pv (nI_ i) (gI .i64 (IntKind.i64.wrap (((i:Nat):Int)+1)) ((i+1:Nat):Int) (wr_eq om_ om_ om_) (pv (nI_ (i+1)) (wE (then_n ⟨i+1,(jE_ ⟨S64,(by show i+1≤ps.length;omega)⟩),(by show ps.length-(i+1)<ps.length-i;omega)⟩)))))))
 ·refine wE (nCF (wp_exit (then_x (then_x (inb_x (nSR (pv tv (pv tv (wE (then_n (wp_ret (bA (.bool true) ?_))))))))))))
  have S65:=St.pm 2 [1] S19
  exact ⟨rfl,S65⟩
end
section
variable {F:Nat→Prop} {w0 w:World} {L:List Ast}
def plc (a:Int)(i:Nat):Int:=if i=1 then inc a else a
theorem plc_cell {g i:Nat}{a:Int}{t:TypeId}(S:St F w0 w L)(j:Nat)(hj:L[j]?=some (row g #[.int .i64 a,.int .i64 (inc a),.int .i64 a] t))(hi:i<3):w.cell? ⟨g,i,none⟩=some (.int .i64 (plc a i)):=by
 rw [(S.blk j hj).cell]
 rcases (by omega:i=0∨i=1∨i=2) with rfl|rfl|rfl<;>rfl
theorem St.bytes_vec {A:Option Addr}{n:Nat}{l:List UInt8}(S:St F w0 w (bytesA (.slice A n n) l::L))(hn:n=l.length):St F w0 w (vec 5 1 (.slice A n n) n (l.map bv)::L):=S.map1 fun p hp=>by
 subst hn
 rcases hp with ⟨e,e2,he⟩|⟨g,e,hr⟩
 ·subst e2;exact .inl ⟨e,rfl,rfl,he⟩
 ·simp at e
  refine .inr ⟨g,l.length,[],by rw [e],Nat.le_refl _,by rw [List.length_map,Nat.mul_one],by rw [List.append_nil,List.length_map,Nat.mul_one], ?_⟩
  rw [List.append_nil,←List.map_toArray]
  exact (by simpa [bvs] using hr)
theorem St.readR_512 {g:Nat}{s:Dsk}(S:St F w0 w (PDisk g s::L))(a:Int):(s.readR a).2.1.length≤512:=by
 obtain ⟨gd,gm,clock,es,fused,left,hf,_⟩:=St.popen S
 unfold Dsk.readR
 split
 ·exact Nat.zero_le _
 ·split
  ·exact Nat.zero_le _
  ·rename_i h1 h2
   have hk:a.toNat<s.last.length:=by omega
   show (s.now a.toNat).length≤_
   unfold Dsk.now
   split
   ·rename_i d hd
    have hm:=List.mem_of_getLast? hd
    unfold pendOf at hm
    obtain ⟨y,hy,rfl⟩:=List.mem_map.1 hm
    have:=(hf.plen y (List.mem_filter.1 hy).1).1;omega
   ·have:=hf.len _ (List.mem_of_getElem? (mem_getD hk));omega
theorem same_bn {A B:Option Addr}{a b:List UInt8}{ca cb n m:Nat}(ht:a=b)(S:St F w0 w L)(hx:RoT F w0 L A a)(hy:RoT F w0 L B b)(hn:n=a.length)(hm:m=b.length)(hk:n≤9223372036854775807):
  Calls Try.prog 24 #[.slice A n ca,.slice B m cb] w fun e w'=>e=.returned (.bool true)∧St F w0 w' L:=by
 subst hn hm ht
 exact same_b (decide_eq_true rfl) S hx hy hk hk
theorem w_turned_n {g n:Nat}{b:List UInt8}{c:Nat}(S:St F w0 w (row g (bvs b) 5::L))(hn:n=b.length)(hm:b.length≤140737488355328):Calls Try.prog 25 #[.slice (some ⟨g,0,none⟩) n c] w fun e w'=>∃A c',e=.returned (.slice A n c')∧St F w0 w' (vec 5 1 (.slice A n c') n ((turnB b).map bv)::row g (bvs (turnB b)) 5::L):=by
 subst hn;exact w_turned S hm
theorem pd_write_n {g:Nat}{s:Dsk}{at_:Int}{A:Option Addr}{d:List UInt8}{cd n:Nat}(S:St F w0 w (PDisk g s::L))(hr:RoT F w0 L A d)(hn:n=d.length)(hdm:d.length≤9223372036854775807)(hpn:s.pend.length<6597069766656):
  Calls Try.prog 33 #[.pointer (some ⟨g,0,none⟩),.int .i64 at_,.slice A n cd] w fun e w'=>e=.returned (.int .i64 (s.writeR at_ d).2)∧St F w0 w' (PDisk g (s.writeR at_ d).1::L):=by
 subst hn;exact Big.pd_write S hr hdm hpn
theorem rd_write_n {g:Nat}{s:Dsk}{at_:Int}{A:Option Addr}{d:List UInt8}{cd n:Nat}(S:St F w0 w (RDisk g s::L))(hr:RoT F w0 L A d)(hn:n=d.length)(hdm:d.length≤9223372036854775807)(hpn:s.pend.length<6597069766656):
  Calls Try.prog 34 #[.pointer (some ⟨g,0,none⟩),.int .i64 at_,.slice A n cd] w fun e w'=>e=.returned (.int .i64 (s.writeR at_ d).2)∧St F w0 w' (RDisk g (s.writeR at_ d).1::L):=by
 subst hn;exact Big.rd_write S hr hdm hpn
theorem w_reads {gk gd gr:Nat}{ls:List (List UInt8)}{s:Dsk}{at_:Int}(S:St F w0 w (PKept gk ls::PDisk gd s::RDisk gr s::L))(hN:ls.length≤6899999999000)(hls:(∀l∈ls,l.length≤1048576)):Calls Try.prog 30 #[.pointer (some ⟨gk,0,none⟩),.pointer (some ⟨gd,0,none⟩),.pointer (some ⟨gr,0,none⟩),.int .i64 at_] w fun e w'=>e=.returned (.bool true)∧∃s' ls',St F w0 w' (PKept gk ls'::PDisk gd s'::RDisk gr s'::L)∧s'.pend.length=s.pend.length∧ls'.length=ls.length+3∧(∀l∈ls',l.length≤1048576):=by
 refine eN (fr [pq gk,pq gd,pq gr,iv at_] 52) Try.func30 rfl (sR (pv fv (wER (pv (iv at_) (pv (iv at_) (pv (iv (inc at_)) (pv (iv at_) (g_ (gv_slit (e:=3) (sz:=1) (z:=iv 0) (by_:=8) (vs:=#[(0,iv at_),(1,iv (inc at_)),(2,iv at_)]) (cells:=#[iv at_,iv (inc at_),iv at_]) S rfl kr_ ⟨by kernel_rfl⟩ kr_ kr_ kr_ kr_ (fun g1 w2 hg3 S4=>pv (sl g1 0 3 3) (wE (nS (sR (pv (iv 0) ?_))))))))))))))
 refine wE (then_n (wp_block ?_))
 have S5:=St.pm 4 [1,2,3,0] S4
 refine wp_loop_g (G:=Nat×Dsk×List (List UInt8)) (fun (g_:Nat×Dsk×List (List UInt8)) (a_:Act) (w_:World)=>∃J:Nat→Value,a_=(fr ([pq gk,pq gd,pq gr,iv at_,ud,ud,ud,ud,J 8,sl g1 0 3 3,nI_ g_.1]++jR J 11 4++[iv at_,iv at_,iv (inc at_),iv at_,sl g1 0 3 3]++jR J 20 36) 0)∧St F w0 w_ (PKept gk g_.2.2::PDisk gd g_.2.1::RDisk gr g_.2.1::row g1 #[iv at_,iv (inc at_),iv at_] 3::L)∧(g_.1≤3∧g_.2.1.pend.length=s.pend.length∧g_.2.2.length=ls.length+g_.1∧(∀l∈g_.2.2,l.length≤1048576))) (fun g_=>3-g_.1) (0,s,ls) (jE_ ⟨S5,⟨Nat.zero_le _,rfl,rfl,hls⟩⟩) ?_
 rintro ⟨i,s1,ls1⟩ a_ w6 ⟨J,rfl,S7,hI1⟩
 skip
 have S7:St F w0 w6 (PKept gk ls1::PDisk gd s1::RDisk gr s1::row g1 #[iv at_,iv (inc at_),iv at_] 3::L):=S7
 refine wp_seq (sR (pv (nI_ i) (pv (sl g1 0 3 3) (pv (iv 3) (dC ((((i:Nat):Int):Int)<3) (fun hb9=> ?_) fun hb9=> ?_)))))
 ·have hi:i<3:=by omega
  have h512:(s1.readR (plc at_ i)).2.1.length≤512:=St.readR_512 (St.tail S7) _
  have hls1:ls1.length=ls.length+i:=hI1.2.2.1
  refine wE (nCT (wp_skip (nS (wp_block (sR (pv (pq gd) (pv (sl g1 0 3 3) (pv (nI_ i) (g_ (gv_ixE (e:=3) (sz:=1) (g:=g1) (off:=0) (n:=3) (c:=3) (i:=((i:Nat):Int)) (k:=.i64) (j:=i) (off':=i) rfl kr_ kr_ kr_ kr_ rfl om_ om_ (lQ (iv (plc at_ i)) (plc_cell S7 3 rfl hi) (g_ (gv_call (args:=#[pq gd,iv (plc at_ i)]) rfl Try.func26 kr_ rfl rfl kr_ ?_)))))))))))))
  have S10:=St.pm 4 [1,0,2,3] S7
  refine Calls.mono (pd_read S10) ?_
  rintro _ w11 ⟨v,rfl,S12⟩
  obtain ⟨AP,rfl,S12'⟩:=St.bytes_eq S12
  refine ⟨_,rfl,(pv (.tuple #[.slice AP ((s1.readR (plc at_ i)).2.1.length) ((s1.readR (plc at_ i)).2.1.length),iv ((s1.readR (plc at_ i)).2.2)]) (pv (.slice AP ((s1.readR (plc at_ i)).2.1.length) ((s1.readR (plc at_ i)).2.1.length)) (pv (iv ((s1.readR (plc at_ i)).2.2)) (pv (.slice AP ((s1.readR (plc at_ i)).2.1.length) ((s1.readR (plc at_ i)).2.1.length)) (pv (iv ((s1.readR (plc at_ i)).2.2)) (wER (pv (pq gr) (pv (sl g1 0 3 3) (pv (nI_ i) (g_ (gv_ixE (e:=3) (sz:=1) (g:=g1) (off:=0) (n:=3) (c:=3) (i:=((i:Nat):Int)) (k:=.i64) (j:=i) (off':=i) rfl kr_ kr_ kr_ kr_ rfl om_ om_ (lQ (iv (plc at_ i)) (plc_cell S12' 4 rfl hi) (g_ (gv_call (args:=#[pq gr,iv (plc at_ i)]) rfl Try.func27 kr_ rfl rfl kr_ ?_))))))))))))))⟩
  have S13:=St.pm 5 [3,0,1,2,4] S12'
  refine Calls.mono (Big.rd_read S13) ?_
  rintro _ w14 ⟨v,rfl,S15⟩
  obtain ⟨AQ,rfl,S15'⟩:=St.bytes_eq S15
  refine ⟨_,rfl,(pv (.tuple #[.slice AQ ((s1.readR (plc at_ i)).2.1.length) ((s1.readR (plc at_ i)).2.1.length),iv ((s1.readR (plc at_ i)).2.2)]) (pv (.slice AQ ((s1.readR (plc at_ i)).2.1.length) ((s1.readR (plc at_ i)).2.1.length)) (pv (iv ((s1.readR (plc at_ i)).2.2)) (pv (.slice AQ ((s1.readR (plc at_ i)).2.1.length) ((s1.readR (plc at_ i)).2.1.length)) (pv (iv ((s1.readR (plc at_ i)).2.2)) (wE (nS (sR (pv (iv ((s1.readR (plc at_ i)).2.2)) (pv (iv ((s1.readR (plc at_ i)).2.2)) (dN ((s1.readR (plc at_ i)).2.2) ((s1.readR (plc at_ i)).2.2) (fun hd16=>False.elim (hd16 rfl)) fun _=>pv fv (pW (.slice AP ((s1.readR (plc at_ i)).2.1.length) ((s1.readR (plc at_ i)).2.1.length)) ?_))))))))))))⟩
  refine pW (.slice AQ ((s1.readR (plc at_ i)).2.1.length) ((s1.readR (plc at_ i)).2.1.length)) (wl_when kr_ (gv_call (args:=#[.slice AP ((s1.readR (plc at_ i)).2.1.length) ((s1.readR (plc at_ i)).2.1.length),.slice AQ ((s1.readR (plc at_ i)).2.1.length) ((s1.readR (plc at_ i)).2.1.length)]) rfl Try.func24 kr_ rfl rfl kr_ (Calls.mono (same_b (decide_eq_true rfl) S15' (RoT.bytes 2 rfl rfl) (RoT.bytes 0 rfl rfl) om_ om_) ?_)))
  rintro _ w17 ⟨rfl,S18⟩
  refine ⟨_,rfl,(pW (.bool false) (pv fv (wE ?_)))⟩
  refine nCF (wp_skip (nR (pv (pq gk) (pv (.slice AP ((s1.readR (plc at_ i)).2.1.length) ((s1.readR (plc at_ i)).2.1.length)) (g_ (gv_call (args:=#[pq gk,.slice AP ((s1.readR (plc at_ i)).2.1.length) ((s1.readR (plc at_ i)).2.1.length)]) rfl Try.func32 kr_ rfl rfl kr_ ?_))))))
  have S19:=St.pm 6 [2,0,1,3,4,5] S18
  have S20:St F w0 w17 (vec 5 1 (.slice AP (s1.readR (plc at_ i)).2.1.length (s1.readR (plc at_ i)).2.1.length) (s1.readR (plc at_ i)).2.1.length ((s1.readR (plc at_ i)).2.1.map bv)::bytesA (.slice AQ ((s1.readR (plc at_ i)).2.1.length) ((s1.readR (plc at_ i)).2.1.length)) (s1.readR (plc at_ i)).2.1::RDisk gr (s1.readR (plc at_ i)).1::PDisk gd (s1.readR (plc at_ i)).1::PKept gk ls1::row g1 #[iv at_,iv (inc at_),iv at_] 3::L):=St.bytes_vec S19 rfl
  have S21:=St.pm 6 [4,0,1,2,3,5] S20
  refine Calls.mono (w_add S21 rfl om_ om_) ?_
  rintro _ w22 ⟨rfl,S23⟩
  refine ⟨_,rfl,(wE (inb_n (nR (pv (nI_ i) (gI .i64 (IntKind.i64.wrap (((i:Nat):Int)+1)) ((i+1:Nat):Int) (wr_eq om_ om_ om_) (pv (nI_ (i+1)) (wE (then_n ?_))))))))⟩
  have S24:=St.pm 5 [0,3,2,4] S23
  exact ⟨(i+1,(s1.readR (plc at_ i)).1,ls1++[(s1.readR (plc at_ i)).2.1]),(jE_ ⟨S24,⟨by show i+1≤3;omega,(by show (s1.readR (plc at_ i)).1.pend.length=s.pend.length;rw [Big.readR_pend];exact hI1.2.1),(by show (ls1++[(s1.readR (plc at_ i)).2.1]).length=ls.length+(i+1);rw [List.length_append,List.length_singleton,hI1.2.2.1];omega),fun l hl=>(List.mem_append.1 hl).elim (hI1.2.2.2 l) (fun h=>by rw [List.mem_singleton] at h;subst h;omega)⟩⟩),(by show 3-(i+1)<3-i;omega)⟩
 ·refine wE (nCF (wp_exit (then_x (then_x (inb_x (nSR (pv tv (wE (then_n (wp_ret (bA (.bool true) ?_)))))))))))
  obtain rfl:i=3:=by omega
  have S25:=St.pm 4 [0,1,2] S7
  exact ⟨rfl,_,_,S25,hI1.2.1,hI1.2.2.1,hI1.2.2.2⟩
theorem w_writes {gd gr:Nat}{s:Dsk}{kind at_:Int}{A A2:Option Addr}{d:List UInt8}{ps:List Pick}{cd cp:Nat}(S:St F w0 w (PDisk gd s::RDisk gr s::L))(hd:RoT F w0 L A d)(hdm:d.length≤140737488351232)(hpn:s.pend.length+1<6597069766656):Calls Try.prog 35 #[.pointer (some ⟨gd,0,none⟩),.pointer (some ⟨gr,0,none⟩),.agg #[.int .i64 kind,.int .i64 at_,.slice A d.length cd,.slice A2 ps.length cp]] w fun e w'=>e=.returned (.bool true)∧∃s',St F w0 w' (PDisk gd s'::RDisk gr s'::L)∧s'.pend.length≤s.pend.length+2:=by
 refine eN (fr [pq gd,pq gr,.agg #[iv kind,iv at_,.slice A d.length cd,.slice A2 ps.length cp]] 57) Try.func35 rfl (sR (nB rfl (.agg #[iv kind,iv at_,.slice A d.length cd,.slice A2 ps.length cp]) S fun g1 w2 hg3 S4=>pv fv (wER (pv (po g1 2) (lR (.slice A d.length cd) S4 0 2 (sP1 Try.func23 #[.slice A d.length cd] (w_exact S4 (hd.more.more.more) om_) fun g5 w6 S7=>pv (sl g5 0 d.length d.length) (wER (pv (pq gd) (pv (po g1 1) (lR (iv at_) S7 1 1 (pv (sl g5 0 d.length d.length) ?_)))))))))))
 refine g_ (gv_call (args:=#[pq gd,iv at_,sl g5 0 d.length d.length]) rfl Try.func33 kr_ rfl rfl kr_ ?_)
 have S8:=St.pm 4 [2,0,1,3] S7
 refine Calls.mono (Big.pd_write S8 (RoT.item 0 rfl 0 d.length d (by rw [List.drop_zero,List.take_length])) om_ om_) ?_
 rintro _ w9 ⟨rfl,S10⟩
 refine ⟨_,rfl,(pv (iv ((s.writeR at_ d).2)) (wER (pv (pq gr) (pv (po g1 1) (lR (iv at_) S10 2 1 (pv (po g1 2) (lR (.slice A d.length cd) S10 2 2 (g_ (gv_call (args:=#[pq gr,iv at_,.slice A d.length cd]) rfl Try.func34 kr_ rfl rfl kr_ ?_)))))))))⟩
 have S11:=St.pm 4 [3,0,1,2] S10
 refine Calls.mono (Big.rd_write S11 (hd.more.more.more) om_ om_) ?_
 rintro _ w12 ⟨rfl,S13⟩
 refine ⟨_,rfl,(pv (iv ((s.writeR at_ d).2)) (wE (nS (sR (pv (iv ((s.writeR at_ d).2)) (pv (iv ((s.writeR at_ d).2)) (dN ((s.writeR at_ d).2) ((s.writeR at_ d).2) (fun hd14=>False.elim (hd14 rfl)) fun _=>pv fv (pW (sl g5 0 d.length d.length) (pW (po g1 2) (wl_when kr_ (gv_ldR (v:=.slice A d.length cd) rfl kr_ kr_ (((S13.blk 3 rfl).cell 2).trans rfl) (wl_when kr_ (gv_call (args:=#[sl g5 0 d.length d.length,.slice A d.length cd]) rfl Try.func24 kr_ rfl rfl kr_ (Calls.mono (same_b (a:=d) (b:=d) (decide_eq_true rfl) S13 (RoT.item 2 rfl 0 d.length d (by rw [List.drop_zero,List.take_length])) (hd.more.more.more.more) om_ om_) ?_))))))))))))))⟩
 rintro _ w15 ⟨rfl,S16⟩
 refine ⟨_,rfl,(pW (.bool false) (pv fv (wE (nCF (wp_skip (nSR (pv (sl g5 0 d.length d.length) (g_ (gv_call (args:=#[sl g5 0 d.length d.length]) rfl Try.func25 kr_ rfl rfl kr_ ?_)))))))))⟩
 have S17:=St.pm 4 [2,0,1,3] S16
 refine Calls.mono (w_turned_n S17 rfl om_) ?_
 rintro _ w20 ⟨A18,c19,rfl,S21⟩
 refine ⟨_,rfl,(pv (.slice A18 d.length c19) (wER (pv (pq gd) (pv (po g1 1) (lR (iv at_) S21 4 1 (pv (iv (inc at_)) (pv (sl g5 0 d.length d.length) (g_ (gv_call (args:=#[pq gd,iv (inc at_),sl g5 0 d.length d.length]) rfl Try.func33 kr_ rfl rfl kr_ ?_)))))))))⟩
 have hp1:=Big.writeR_pend s at_ d
 have htl:=turnB_len d
 have S22:=St.pm 5 [3,0,1,2,4] S21
 refine Calls.mono (pd_write_n S22 (RoT.item 1 rfl 0 d.length (turnB d) (by rw [List.drop_zero,show d.length=(turnB d).length from (turnB_len d).symm,List.take_length])) htl.symm om_ om_) ?_
 rintro _ w23 ⟨rfl,S24⟩
 refine ⟨_,rfl,(pv (iv (((s.writeR at_ d).1.writeR (inc at_) (turnB d)).2)) (wER (pv (pq gr) (pv (po g1 1) (lR (iv at_) S24 4 1 (pv (iv (inc at_)) (pv (.slice A18 d.length c19) (g_ (gv_call (args:=#[pq gr,iv (inc at_),.slice A18 d.length c19]) rfl Try.func34 kr_ rfl rfl kr_ ?_)))))))))⟩
 have S25:=St.pm 5 [3,0,1,2,4] S24
 refine Calls.mono (rd_write_n S25 (Big.rot_vec 1 rfl) htl.symm om_ om_) ?_
 rintro _ w26 ⟨rfl,S27⟩
 refine ⟨_,rfl,(pv (iv (((s.writeR at_ d).1.writeR (inc at_) (turnB d)).2)) (wE (nS (sR (pv (iv (((s.writeR at_ d).1.writeR (inc at_) (turnB d)).2)) (pv (iv (((s.writeR at_ d).1.writeR (inc at_) (turnB d)).2)) (dN (((s.writeR at_ d).1.writeR (inc at_) (turnB d)).2) (((s.writeR at_ d).1.writeR (inc at_) (turnB d)).2) (fun hd28=>False.elim (hd28 rfl)) fun _=>pv fv (pW (sl g5 0 d.length d.length) (pW (.slice A18 d.length c19) (wl_when kr_ (gv_call (args:=#[sl g5 0 d.length d.length,.slice A18 d.length c19]) rfl Try.func24 kr_ rfl rfl kr_ ?_)))))))))))⟩
 refine Calls.mono (same_bn (a:=turnB d) (b:=turnB d) rfl S27 (RoT.item 3 rfl 0 d.length (turnB d) (by rw [List.drop_zero,show d.length=(turnB d).length from (turnB_len d).symm,List.take_length])) (Big.rot_vec 2 rfl) htl.symm htl.symm om_) ?_
 rintro _ w29 ⟨rfl,S30⟩
 refine ⟨_,rfl,(pW (.bool false) (pv fv (wE (nCF (wp_skip (nSR (pv (sl g5 0 d.length d.length) (g_ (gv_call (args:=#[sl g5 0 d.length d.length]) rfl Try.func25 kr_ rfl rfl kr_ ?_)))))))))⟩
 have S31:=St.pm 5 [3,0,1,2,4] S30
 refine Calls.mono (w_turned_n S31 htl.symm om_) ?_
 rintro _ w34 ⟨A32,c33,rfl,S35⟩
 refine ⟨_,rfl,(wER (pv tv (wE (then_n (wp_ret (bA (.bool true) ?_))))))⟩
 have S36:=St.pm 6 [3,2] S35
 exact ⟨rfl,_,S36,by have:=Big.writeR_pend (s.writeR at_ d).1 (inc at_) (turnB d);omega⟩
end
theorem w_whole9 {F:Nat→Prop}{w0 w:World}{L:List Ast}{gb N:Nat}(S:St F w0 w (PBook gb N::L))(hN:N≤7000000000000):Calls Try.prog 28 #[.pointer (some ⟨gb,0,none⟩)] w fun e w'=>e=.returned (.bool true)∧St F w0 w' (PBook gb N::L):=by
 refine eN (fr [pq gb] 96) Try.func28 rfl (sR (pv fv (wE (nS (sR ?_)))))
 obtain ⟨⟨a0,a1,a2,a3,a4,a5,E,X⟩,hb,S0⟩:=St.bko S
 have hlN:E.length=N:=hb.len
 have hall:∀e∈E,e.Ok X:=hb.all
 obtain ⟨B0,d0,hv0⟩:=St.vecV S0 1 rfl
 have hv0:a0=.slice B0 E.length d0:=hv0
 subst hv0
 obtain ⟨B1,d1,hv1⟩:=St.vecV S0 2 rfl
 have hv1:a1=.slice B1 E.length d1:=hv1
 subst hv1
 obtain ⟨B2,d2,hv2⟩:=St.vecV S0 3 rfl
 have hv2:a2=.slice B2 E.length d2:=hv2
 subst hv2
 obtain ⟨B3,d3,hv3⟩:=St.vecV S0 4 rfl
 have hv3:a3=.slice B3 E.length d3:=hv3
 subst hv3
 obtain ⟨B4,d4,hv4⟩:=St.vecV S0 5 rfl
 have hv4:a4=.slice B4 E.length d4:=hv4
 subst hv4
 obtain ⟨B5,d5,hv5⟩:=St.vecV S0 6 rfl
 have hv5:a5=.slice B5 E.length d5:=hv5
 subst hv5
 change St F w0 w (row gb #[.slice B0 E.length d0,.slice B1 E.length d1,.slice B2 E.length d2,.slice B3 E.length d3,.slice B4 E.length d4,.slice B5 E.length d5] 44::vec 31 1 (.slice B0 E.length d0) E.length (E.map BkE.v0)::vec 31 1 (.slice B1 E.length d1) E.length (E.map BkE.v1)::vec 31 1 (.slice B2 E.length d2) E.length (E.map BkE.v2)::vec 31 1 (.slice B3 E.length d3) E.length (E.map BkE.v3)::vec 31 1 (.slice B4 E.length d4) E.length (E.map BkE.v4)::vec 5 1 (.slice B5 E.length d5) E.length ((E.map BkE.m).map bv)::manyX X::L) at S0
 refine pv (iv 0) (wE (then_n (wp_block (wp_loop_g (G:=Nat) (fun (g_:Nat) (a_:Act) (w_:World)=>∃J:Nat→Value,a_=(fr ([pq gb,ud,J 2,nI_ g_]++jR J 4 93) 0)∧St F w0 w_ (row gb #[.slice B0 E.length d0,.slice B1 E.length d1,.slice B2 E.length d2,.slice B3 E.length d3,.slice B4 E.length d4,.slice B5 E.length d5] 44::vec 31 1 (.slice B0 E.length d0) E.length (E.map BkE.v0)::vec 31 1 (.slice B1 E.length d1) E.length (E.map BkE.v1)::vec 31 1 (.slice B2 E.length d2) E.length (E.map BkE.v2)::vec 31 1 (.slice B3 E.length d3) E.length (E.map BkE.v3)::vec 31 1 (.slice B4 E.length d4) E.length (E.map BkE.v4)::vec 5 1 (.slice B5 E.length d5) E.length ((E.map BkE.m).map bv)::manyX X::L)∧(g_≤E.length)) (fun g_=>E.length-g_) 0 (jE_ ⟨S0,Nat.zero_le _⟩) ?_))))
 rintro i a_ w1 ⟨J,rfl,S2,hi1⟩
 skip
 have S2:St F w0 w1 (row gb #[.slice B0 E.length d0,.slice B1 E.length d1,.slice B2 E.length d2,.slice B3 E.length d3,.slice B4 E.length d4,.slice B5 E.length d5] 44::vec 31 1 (.slice B0 E.length d0) E.length (E.map BkE.v0)::vec 31 1 (.slice B1 E.length d1) E.length (E.map BkE.v1)::vec 31 1 (.slice B2 E.length d2) E.length (E.map BkE.v2)::vec 31 1 (.slice B3 E.length d3) E.length (E.map BkE.v3)::vec 31 1 (.slice B4 E.length d4) E.length (E.map BkE.v4)::vec 5 1 (.slice B5 E.length d5) E.length ((E.map BkE.m).map bv)::manyX X::L):=S2
 refine wp_seq (sR (pv (nI_ i) (pv (pq gb) (pv (pq gb) (pv (pq gb) (lR (.slice B0 E.length d0) S2 0 0 (pv (iv (E.length:Nat)) (dC ((((i:Nat):Int):Int)<(E.length:Nat)) (fun hb4=> ?_) fun hb4=> ?_))))))))
 ·have hi:i<E.length:=by omega
  obtain ⟨e,he⟩:∃e,E[i]?=some e:=⟨_,List.getElem?_eq_getElem hi⟩
  have hek:=hall e (List.mem_of_getElem? he)
  have hen:=hek.n
  obtain ⟨ad0,hAd0,hrs0⟩:=St.vec_rd S2 1 rfl (by rw [List.length_map];omega)
  obtain ⟨C0,k0,hc0⟩:=BkE.val S2 7 rfl hek.h0 (mks_len _ _)
  have hx0:(E.map BkE.v0)[i]?=some (.slice C0 (e.n) k0):=by rw [List.getElem?_map,he];exact congrArg some hc0
  obtain ⟨ad1,hAd1,hrs1⟩:=St.vec_rd S2 2 rfl (by rw [List.length_map];omega)
  obtain ⟨C1,k1,hc1⟩:=BkE.val S2 7 rfl hek.h1 (mks_len _ _)
  have hx1:(E.map BkE.v1)[i]?=some (.slice C1 (e.n+1) k1):=by rw [List.getElem?_map,he];exact congrArg some hc1
  obtain ⟨ad2,hAd2,hrs2⟩:=St.vec_rd S2 3 rfl (by rw [List.length_map];omega)
  obtain ⟨C2,k2,hc2⟩:=BkE.val S2 7 rfl hek.h2 (mks_len _ _)
  have hx2:(E.map BkE.v2)[i]?=some (.slice C2 (e.n+2) k2):=by rw [List.getElem?_map,he];exact congrArg some hc2
  obtain ⟨ad3,hAd3,hrs3⟩:=St.vec_rd S2 4 rfl (by rw [List.length_map];omega)
  obtain ⟨C3,k3,hc3⟩:=BkE.val S2 7 rfl hek.h3 (mks_len _ _)
  have hx3:(E.map BkE.v3)[i]?=some (.slice C3 (e.n+3) k3):=by rw [List.getElem?_map,he];exact congrArg some hc3
  obtain ⟨ad4,hAd4,hrs4⟩:=St.vec_rd S2 5 rfl (by rw [List.length_map];omega)
  obtain ⟨C4,k4,hc4⟩:=BkE.val S2 7 rfl hek.h4 (mks_len _ _)
  have hx4:(E.map BkE.v4)[i]?=some (.slice C4 (e.n+96) k4):=by rw [List.getElem?_map,he];exact congrArg some hc4
  obtain ⟨ad5,hAd5,hrs5⟩:=St.vec_rd S2 6 rfl (by rw [List.length_map,List.length_map];omega)
  have hx5:((E.map BkE.m).map bv)[i]?=some (bv e.m):=by rw [List.getElem?_map,List.getElem?_map,he];rfl
  refine wE (nCT (wp_skip (nS (wp_block (sR (pv (pq gb) (pv (pq gb) (pv (pq gb) (lR (.slice B0 E.length d0) S2 0 0 (pv (nI_ i) (g_ (gv_ixB (e:=31) (sz:=1) (n:=E.length) (c:=d0) (i:=((i:Nat):Int)) (k:=.i64) (ad:=ad0) (ad':=(ad0.add i)) (j:=i) rfl kr_ kr_ (by rw [←hAd0];kernel_rfl) kr_ rfl om_ (by rw [Nat.mul_one]) (lQ (.slice C0 e.n k0) (vec_ldA S2 1 rfl hAd0 hx0) (pv (iv (e.n:Nat)) ?_))))))))))))))
  refine pv (iv (e.n:Nat)) (wER (pv (pq gb) (pv (pq gb) (pv (po gb 5) (lR (.slice B5 E.length d5) S2 0 5 (pv (nI_ i) (g_ (gv_ixB (e:=5) (sz:=1) (n:=E.length) (c:=d5) (i:=((i:Nat):Int)) (k:=.i64) (ad:=ad5) (ad':=(ad5.add i)) (j:=i) rfl kr_ kr_ (by rw [←hAd5];kernel_rfl) kr_ rfl om_ (by rw [Nat.mul_one]) (lQ (.int .u8 ((e.m.toNat:Nat):Int)) (vec_ldA S2 6 rfl hAd5 hx5) (pv (.int .u8 ((e.m.toNat:Nat):Int)) (wER (pv (pq gb) (pv (pq gb) (pv (pq gb) ?_))))))))))))))
  refine lR (.slice B0 E.length d0) S2 0 0 (pv (nI_ i) (g_ (gv_ixB (e:=31) (sz:=1) (n:=E.length) (c:=d0) (i:=((i:Nat):Int)) (k:=.i64) (ad:=ad0) (ad':=(ad0.add i)) (j:=i) rfl kr_ kr_ (by rw [←hAd0];kernel_rfl) kr_ rfl om_ (by rw [Nat.mul_one]) (lQ (.slice C0 e.n k0) (vec_ldA S2 1 rfl hAd0 hx0) (pv (.int .u8 ((e.m.toNat:Nat):Int)) (pv (iv (e.n:Nat)) (sP Try.func82 #[.slice C0 e.n k0,.int .u8 ((e.m.toNat:Nat):Int),iv (e.n:Nat)] (w_full (m:=e.m) (n:=e.n) S2 (RoT.many (c:=k0) 7 rfl (by rw [←hc0];exact hek.h0)) rfl rfl om_) fun w5 S6=>pv fv (pv fv (pW (pq gb) (pW (pq gb) (pW (po gb 1) (wl_when kr_ (gv_ldR (v:=.slice B1 E.length d1) rfl kr_ kr_ (((S6.blk 0 rfl).cell 1).trans rfl) (pW (nI_ i) ?_))))))))))))))
  refine wl_when kr_ (gv_ixB (e:=31) (sz:=1) (n:=E.length) (c:=d1) (i:=((i:Nat):Int)) (k:=.i64) (ad:=ad1) (ad':=(ad1.add i)) (j:=i) rfl kr_ kr_ (by rw [←hAd1];kernel_rfl) kr_ rfl om_ (by rw [Nat.mul_one]) (wl_when kr_ (gv_ldR (v:=.slice C1 (e.n+1) k1) rfl kr_ kr_ (vec_ldA S6 2 rfl hAd1 hx1) (pW (.int .u8 ((e.m.toNat:Nat):Int)) (pW (iv (e.n:Nat)) (wl_when kr_ (gv_int (k:=.i64) (z:=IntKind.i64.wrap ((e.n:Nat)+1)) (z':=((e.n+1:Nat):Int)) kr_ (wr_eq om_ om_ om_) (wl_when kr_ (gv_call (args:=#[.slice C1 (e.n+1) k1,.int .u8 ((e.m.toNat:Nat):Int),nI_ (e.n+1)]) rfl Try.func82 kr_ rfl rfl kr_ (Calls.mono (w_full (m:=e.m) (n:=(e.n+1)) S6 (RoT.many (c:=k1) 7 rfl (by rw [←hc1];exact hek.h1)) rfl rfl om_) ?_))))))))))
  rintro _ w7 ⟨rfl,S8⟩
  refine ⟨_,rfl,(pW (.bool false) (pv fv (pv fv (pW (pq gb) (pW (pq gb) (pW (po gb 2) (wl_when kr_ (gv_ldR (v:=.slice B2 E.length d2) rfl kr_ kr_ (((S8.blk 0 rfl).cell 2).trans rfl) (pW (nI_ i) (wl_when kr_ (gv_ixB (e:=31) (sz:=1) (n:=E.length) (c:=d2) (i:=((i:Nat):Int)) (k:=.i64) (ad:=ad2) (ad':=(ad2.add i)) (j:=i) rfl kr_ kr_ (by rw [←hAd2];kernel_rfl) kr_ rfl om_ (by rw [Nat.mul_one]) (wl_when kr_ (gv_ldR (v:=.slice C2 (e.n+2) k2) rfl kr_ kr_ (vec_ldA S8 3 rfl hAd2 hx2) (pW (.int .u8 ((e.m.toNat:Nat):Int)) (pW (iv (e.n:Nat)) (wl_when kr_ (gv_int (k:=.i64) (z:=IntKind.i64.wrap ((e.n:Nat)+2)) (z':=((e.n+2:Nat):Int)) kr_ (wr_eq om_ om_ om_) ?_)))))))))))))))))⟩
  refine wl_when kr_ (gv_call (args:=#[.slice C2 (e.n+2) k2,.int .u8 ((e.m.toNat:Nat):Int),nI_ (e.n+2)]) rfl Try.func82 kr_ rfl rfl kr_ (Calls.mono (w_full (m:=e.m) (n:=(e.n+2)) S8 (RoT.many (c:=k2) 7 rfl (by rw [←hc2];exact hek.h2)) rfl rfl om_) ?_))
  rintro _ w9 ⟨rfl,S10⟩
  refine ⟨_,rfl,(pW (.bool false) (pv fv (pv fv (pW (pq gb) (pW (pq gb) (pW (po gb 3) (wl_when kr_ (gv_ldR (v:=.slice B3 E.length d3) rfl kr_ kr_ (((S10.blk 0 rfl).cell 3).trans rfl) (pW (nI_ i) (wl_when kr_ (gv_ixB (e:=31) (sz:=1) (n:=E.length) (c:=d3) (i:=((i:Nat):Int)) (k:=.i64) (ad:=ad3) (ad':=(ad3.add i)) (j:=i) rfl kr_ kr_ (by rw [←hAd3];kernel_rfl) kr_ rfl om_ (by rw [Nat.mul_one]) (wl_when kr_ (gv_ldR (v:=.slice C3 (e.n+3) k3) rfl kr_ kr_ (vec_ldA S10 4 rfl hAd3 hx3) (pW (.int .u8 ((e.m.toNat:Nat):Int)) (pW (iv (e.n:Nat)) (wl_when kr_ (gv_int (k:=.i64) (z:=IntKind.i64.wrap ((e.n:Nat)+3)) (z':=((e.n+3:Nat):Int)) kr_ (wr_eq om_ om_ om_) ?_)))))))))))))))))⟩
  refine wl_when kr_ (gv_call (args:=#[.slice C3 (e.n+3) k3,.int .u8 ((e.m.toNat:Nat):Int),nI_ (e.n+3)]) rfl Try.func82 kr_ rfl rfl kr_ (Calls.mono (w_full (m:=e.m) (n:=(e.n+3)) S10 (RoT.many (c:=k3) 7 rfl (by rw [←hc3];exact hek.h3)) rfl rfl om_) ?_))
  rintro _ w11 ⟨rfl,S12⟩
  refine ⟨_,rfl,(pW (.bool false) (pv fv (pv fv (pW (pq gb) (pW (pq gb) (pW (po gb 4) (wl_when kr_ (gv_ldR (v:=.slice B4 E.length d4) rfl kr_ kr_ (((S12.blk 0 rfl).cell 4).trans rfl) (pW (nI_ i) (wl_when kr_ (gv_ixB (e:=31) (sz:=1) (n:=E.length) (c:=d4) (i:=((i:Nat):Int)) (k:=.i64) (ad:=ad4) (ad':=(ad4.add i)) (j:=i) rfl kr_ kr_ (by rw [←hAd4];kernel_rfl) kr_ rfl om_ (by rw [Nat.mul_one]) (wl_when kr_ (gv_ldR (v:=.slice C4 (e.n+96) k4) rfl kr_ kr_ (vec_ldA S12 5 rfl hAd4 hx4) (pW (.int .u8 ((e.m.toNat:Nat):Int)) (pW (iv (e.n:Nat)) (wl_when kr_ (gv_int (k:=.i64) (z:=IntKind.i64.wrap ((e.n:Nat)+96)) (z':=((e.n+96:Nat):Int)) kr_ (wr_eq om_ om_ om_) ?_)))))))))))))))))⟩
  refine wl_when kr_ (gv_call (args:=#[.slice C4 (e.n+96) k4,.int .u8 ((e.m.toNat:Nat):Int),nI_ (e.n+96)]) rfl Try.func82 kr_ rfl rfl kr_ (Calls.mono (w_full (m:=e.m) (n:=(e.n+96)) S12 (RoT.many (c:=k4) 7 rfl (by rw [←hc4];exact hek.h4)) rfl rfl om_) ?_))
  rintro _ w13 ⟨rfl,S14⟩
  refine ⟨_,rfl,(pW (.bool false) (pv fv (wE ?_)))⟩
  exact nCF (wp_skip (inb_n (nR (pv (nI_ i) (gI .i64 (IntKind.i64.wrap (((i:Nat):Int)+1)) ((i+1:Nat):Int) (wr_eq om_ om_ om_) (pv (nI_ (i+1)) (wE (then_n ⟨i+1,(jE_ ⟨S14,(by show i+1≤E.length;omega)⟩),(by show E.length-(i+1)<E.length-i;omega)⟩))))))))
 ·exact wE (nCF (wp_exit (then_x (then_x (inb_x (nSR (pv tv (wE (then_n (wp_ret (bA (.bool true) ⟨rfl,St.bkc (p:=⟨.slice B0 E.length d0,.slice B1 E.length d1,.slice B2 E.length d2,.slice B3 E.length d3,.slice B4 E.length d4,.slice B5 E.length d5,E,X⟩) hb S2⟩)))))))))))
theorem w_note {F:Nat→Prop}{w0 w:World}{L:List Ast}{gb N n c:Nat}{A:Option Addr}{l:List UInt8}(S:St F w0 w (PBook gb N::vec 5 1 (.slice A n c) n (l.map bv)::L))(hnl:n=l.length)(hN:N≤6900000000000)(hn:n≤1048576):Calls Try.prog 29 #[.pointer (some ⟨gb,0,none⟩),.slice A n c] w fun e w'=>e=.returned (.tuple #[])∧St F w0 w' (PBook gb (N+1)::L):=by
 obtain ⟨m,hm⟩:=mark_num N
 refine eN (fr [pq gb,.slice A n c] 114) Try.func29 rfl (sR ?_)
 obtain ⟨⟨a0,a1,a2,a3,a4,a5,E,X⟩,hb,S0⟩:=St.bko S
 have hlN:E.length=N:=hb.len
 have hall:∀e∈E,e.Ok X:=hb.all
 obtain ⟨B0,d0,hv0⟩:=St.vecV S0 1 rfl
 have hv0:a0=.slice B0 E.length d0:=hv0
 subst hv0
 obtain ⟨B1,d1,hv1⟩:=St.vecV S0 2 rfl
 have hv1:a1=.slice B1 E.length d1:=hv1
 subst hv1
 obtain ⟨B2,d2,hv2⟩:=St.vecV S0 3 rfl
 have hv2:a2=.slice B2 E.length d2:=hv2
 subst hv2
 obtain ⟨B3,d3,hv3⟩:=St.vecV S0 4 rfl
 have hv3:a3=.slice B3 E.length d3:=hv3
 subst hv3
 obtain ⟨B4,d4,hv4⟩:=St.vecV S0 5 rfl
 have hv4:a4=.slice B4 E.length d4:=hv4
 subst hv4
 obtain ⟨B5,d5,hv5⟩:=St.vecV S0 6 rfl
 have hv5:a5=.slice B5 E.length d5:=hv5
 subst hv5
 change St F w0 w (row gb #[.slice B0 E.length d0,.slice B1 E.length d1,.slice B2 E.length d2,.slice B3 E.length d3,.slice B4 E.length d4,.slice B5 E.length d5] 44::vec 31 1 (.slice B0 E.length d0) E.length (E.map BkE.v0)::vec 31 1 (.slice B1 E.length d1) E.length (E.map BkE.v1)::vec 31 1 (.slice B2 E.length d2) E.length (E.map BkE.v2)::vec 31 1 (.slice B3 E.length d3) E.length (E.map BkE.v3)::vec 31 1 (.slice B4 E.length d4) E.length (E.map BkE.v4)::vec 5 1 (.slice B5 E.length d5) E.length ((E.map BkE.m).map bv)::manyX X::vec 5 1 (.slice A n c) n (l.map bv)::L) at S0
 refine pv (pq gb) (pv (pq gb) (pv (pq gb) (lR (.slice B0 E.length d0) S0 0 0 (pv (iv (E.length:Nat)) (gI .i64 (Int.tmod (E.length:Nat) 251) ((N%251:Nat):Int) (by rw [hlN];exact tmod_nat rfl rfl) (gI .i64 (IntKind.i64.wrap (((N%251:Nat):Int)+1)) ((N%251+1:Nat):Int) (wr_eq om_ om_ om_) (gI .u8 (IntKind.u8.wrap ((N%251+1:Nat):Int)) ((m.toNat:Nat):Int) (by rw [←hm,IntKind.wrap_u8];have:=m.toNat_lt;omega) (pv (.int .u8 ((m.toNat:Nat):Int)) (wE (nS (sR (pv (iv 0) (wE ?_)))))))))))))
 refine then_n (wp_block ?_)
 have S1:St F w0 w (vec 5 1 (.slice A n c) n (l.map bv)::row gb #[.slice B0 E.length d0,.slice B1 E.length d1,.slice B2 E.length d2,.slice B3 E.length d3,.slice B4 E.length d4,.slice B5 E.length d5] 44::vec 31 1 (.slice B0 E.length d0) E.length (E.map BkE.v0)::vec 31 1 (.slice B1 E.length d1) E.length (E.map BkE.v1)::vec 31 1 (.slice B2 E.length d2) E.length (E.map BkE.v2)::vec 31 1 (.slice B3 E.length d3) E.length (E.map BkE.v3)::vec 31 1 (.slice B4 E.length d4) E.length (E.map BkE.v4)::vec 5 1 (.slice B5 E.length d5) E.length ((E.map BkE.m).map bv)::manyX X::L):=St.pm 9 [8,0,1,2,3,4,5,6,7] S0
 have S2:St F w0 w (vec 5 1 (.slice A n c) n ((mks m 0++l.drop 0).map bv)::row gb #[.slice B0 E.length d0,.slice B1 E.length d1,.slice B2 E.length d2,.slice B3 E.length d3,.slice B4 E.length d4,.slice B5 E.length d5] 44::vec 31 1 (.slice B0 E.length d0) E.length (E.map BkE.v0)::vec 31 1 (.slice B1 E.length d1) E.length (E.map BkE.v1)::vec 31 1 (.slice B2 E.length d2) E.length (E.map BkE.v2)::vec 31 1 (.slice B3 E.length d3) E.length (E.map BkE.v3)::vec 31 1 (.slice B4 E.length d4) E.length (E.map BkE.v4)::vec 5 1 (.slice B5 E.length d5) E.length ((E.map BkE.m).map bv)::manyX X::L):=S1
 refine wp_loop_g (G:=Nat) (fun (g_:Nat) (a_:Act) (w_:World)=>∃J:Nat→Value,a_=(fr ([pq gb,.slice A n c,ud,ud,.int .u8 ((m.toNat:Nat):Int),nI_ g_,ud,pq gb,pq gb,pq gb,.slice B0 E.length d0,iv (E.length:Nat),nI_ (N%251),nI_ (N%251+1),.int .u8 ((m.toNat:Nat):Int)]++jR J 15 10) 91)∧St F w0 w_ (vec 5 1 (.slice A n c) n ((mks m g_++l.drop g_).map bv)::row gb #[.slice B0 E.length d0,.slice B1 E.length d1,.slice B2 E.length d2,.slice B3 E.length d3,.slice B4 E.length d4,.slice B5 E.length d5] 44::vec 31 1 (.slice B0 E.length d0) E.length (E.map BkE.v0)::vec 31 1 (.slice B1 E.length d1) E.length (E.map BkE.v1)::vec 31 1 (.slice B2 E.length d2) E.length (E.map BkE.v2)::vec 31 1 (.slice B3 E.length d3) E.length (E.map BkE.v3)::vec 31 1 (.slice B4 E.length d4) E.length (E.map BkE.v4)::vec 5 1 (.slice B5 E.length d5) E.length ((E.map BkE.m).map bv)::manyX X::L)∧(g_≤n)) (fun g_=>n-g_) 0 (jE_ ⟨S2,Nat.zero_le _⟩) ?_
 rintro i a_ w3 ⟨J,rfl,S4,hi1⟩
 skip
 have S4:St F w0 w3 (vec 5 1 (.slice A n c) n ((mks m i++l.drop i).map bv)::row gb #[.slice B0 E.length d0,.slice B1 E.length d1,.slice B2 E.length d2,.slice B3 E.length d3,.slice B4 E.length d4,.slice B5 E.length d5] 44::vec 31 1 (.slice B0 E.length d0) E.length (E.map BkE.v0)::vec 31 1 (.slice B1 E.length d1) E.length (E.map BkE.v1)::vec 31 1 (.slice B2 E.length d2) E.length (E.map BkE.v2)::vec 31 1 (.slice B3 E.length d3) E.length (E.map BkE.v3)::vec 31 1 (.slice B4 E.length d4) E.length (E.map BkE.v4)::vec 5 1 (.slice B5 E.length d5) E.length ((E.map BkE.m).map bv)::manyX X::L):=S4
 refine wp_seq (sR (pv (nI_ i) (pv (.slice A n c) (pv (iv (n:Nat)) (dC ((((i:Nat):Int):Int)<(n:Nat)) (fun hb6=> ?_) fun hb6=> ?_)))))
 ·have hi:i<n:=by omega
  have hfl:=fill_len m l (i:=i) om_
  obtain ⟨ad,hAd,_⟩:=St.vec_rd S4 0 rfl (by rw [List.length_map,hfl];omega)
  refine wE (nCT (wp_skip (nS (wp_block (wp_region_lit (pv (.slice A n c) (pv (nI_ i) (pv (.int .u8 ((m.toNat:Nat):Int)) (g_ (gv_ixB (e:=5) (sz:=1) (n:=n) (c:=c) (i:=((i:Nat):Int)) (k:=.i64) (ad:=ad) (ad':=(ad.add i)) (j:=i) rfl kr_ kr_ (by rw [←hAd];kernel_rfl) kr_ rfl om_ (by rw [Nat.mul_one]) (g_ (gv_stV (i:=i) (ad:=ad) (b:=m) S4 rfl kr_ hAd kr_ kr_ hi (fun w7 S8=> ?_)))))))))))))
  rw [fill_set' m l om_] at S8
  exact wE (inb_n (nR (pv (nI_ i) (gI .i64 (IntKind.i64.wrap (((i:Nat):Int)+1)) ((i+1:Nat):Int) (wr_eq om_ om_ om_) (pv (nI_ (i+1)) (wE (then_n ⟨i+1,(jE_ ⟨S8,(by show i+1≤n;omega)⟩),(by show n-(i+1)<n-i;omega)⟩)))))))
 ·have hie:i=n:=by omega
  rw [hie] at S4
  have S9:St F w0 w3 (vec 5 1 (.slice A n c) n ((mks m n).map bv)::row gb #[.slice B0 E.length d0,.slice B1 E.length d1,.slice B2 E.length d2,.slice B3 E.length d3,.slice B4 E.length d4,.slice B5 E.length d5] 44::vec 31 1 (.slice B0 E.length d0) E.length (E.map BkE.v0)::vec 31 1 (.slice B1 E.length d1) E.length (E.map BkE.v1)::vec 31 1 (.slice B2 E.length d2) E.length (E.map BkE.v2)::vec 31 1 (.slice B3 E.length d3) E.length (E.map BkE.v3)::vec 31 1 (.slice B4 E.length d4) E.length (E.map BkE.v4)::vec 5 1 (.slice B5 E.length d5) E.length ((E.map BkE.m).map bv)::manyX X::L):=(by have h_:=S4;rw [List.drop_of_length_le om_,List.append_nil] at h_;exact h_)
  have S10:St F w0 w3 (MkB m (.slice A n c) n []::row gb #[.slice B0 E.length d0,.slice B1 E.length d1,.slice B2 E.length d2,.slice B3 E.length d3,.slice B4 E.length d4,.slice B5 E.length d5] 44::vec 31 1 (.slice B0 E.length d0) E.length (E.map BkE.v0)::vec 31 1 (.slice B1 E.length d1) E.length (E.map BkE.v1)::vec 31 1 (.slice B2 E.length d2) E.length (E.map BkE.v2)::vec 31 1 (.slice B3 E.length d3) E.length (E.map BkE.v3)::vec 31 1 (.slice B4 E.length d4) E.length (E.map BkE.v4)::vec 5 1 (.slice B5 E.length d5) E.length ((E.map BkE.m).map bv)::manyX X::L):=St.mk_start S9
  refine wE (nCF (wp_exit (then_x (then_x (inb_x (nSR (pv (pq gb) (pv (pq gb) (pv (pq gb) (pv (pq gb) (lR (.slice B0 E.length d0) S10 1 0 (pv (.slice A n c) (g_ (gv_slit (e:=31) (sz:=1) (z:=.slice none 0 0) (by_:=24) (vs:=#[(0,.slice A n c)]) (cells:=#[.slice A n c]) S10 rfl kr_ ⟨by kernel_rfl⟩ kr_ kr_ kr_ kr_ (fun g11 w12 hg13 S14=> ?_)))))))))))))))
  have S15:St F w0 w12 (row g11 #[.slice A n c] 31::vec 31 1 (.slice B0 E.length d0) E.length (E.map BkE.v0)::MkB m (.slice A n c) n []::row gb #[.slice B0 E.length d0,.slice B1 E.length d1,.slice B2 E.length d2,.slice B3 E.length d3,.slice B4 E.length d4,.slice B5 E.length d5] 44::vec 31 1 (.slice B1 E.length d1) E.length (E.map BkE.v1)::vec 31 1 (.slice B2 E.length d2) E.length (E.map BkE.v2)::vec 31 1 (.slice B3 E.length d3) E.length (E.map BkE.v3)::vec 31 1 (.slice B4 E.length d4) E.length (E.map BkE.v4)::vec 5 1 (.slice B5 E.length d5) E.length ((E.map BkE.m).map bv)::manyX X::L):=St.pm 10 [0,3,1,2,4,5,6,7,8,9] S14
  refine g_ (gv_appS (n:=E.length) (gs:=g11) S15 rfl kr_ ⟨by kernel_rfl⟩ kr_ kr_ rfl om_ (fun v16 w17 S18=>pv (pq gb) (pv (pq gb) (g_ (gv_st (k:=0) (v:=v16) S18 2 rfl rfl kr_ kr_ kr_ (vec_one S18 0 rfl) rfl (L':=(vec 31 1 v16 (E.length+1) (E.map BkE.v0++[.slice A n c])::MkB m (.slice A n c) n []::row gb #[v16,.slice B1 E.length d1,.slice B2 E.length d2,.slice B3 E.length d3,.slice B4 E.length d4,.slice B5 E.length d5] 44::vec 31 1 (.slice B1 E.length d1) E.length (E.map BkE.v1)::vec 31 1 (.slice B2 E.length d2) E.length (E.map BkE.v2)::vec 31 1 (.slice B3 E.length d3) E.length (E.map BkE.v3)::vec 31 1 (.slice B4 E.length d4) E.length (E.map BkE.v4)::vec 5 1 (.slice B5 E.length d5) E.length ((E.map BkE.m).map bv)::manyX X::L)) rfl (fun w19 S20=>wE (nS (wp_region_phu (γ:=Nat×Option Addr×Nat×Nat×Value) 14 [7,8,9,10,13] (fun (c_:Nat×Option Addr×Nat×Nat×Value) (i_:Nat)=>(match i_ with|0=>pq gb|1=>pq gb|2=>pq gb|3=>po gb 1|4=>.slice B1 E.length d1|5=>.slice A n c|6=>.int .u8 ((m.toNat:Nat):Int)|7=>sl c_.1 0 1 1|8=>.slice c_.2.1 (n+1) c_.2.2.1|9=>sl c_.2.2.2.1 0 1 1|10=>c_.2.2.2.2|11=>pq gb|12=>po gb 1|13=>undef|_=>undef:Value)) (fun (c_:Nat×Option Addr×Nat×Nat×Value) (p_:Nat) (w_:World)=>(match p_ with|0=>St F w0 w_ (vec 31 1 v16 (E.length+1) (E.map BkE.v0++[.slice A n c])::MkB m (.slice A n c) n []::row gb #[v16,.slice B1 E.length d1,.slice B2 E.length d2,.slice B3 E.length d3,.slice B4 E.length d4,.slice B5 E.length d5] 44::vec 31 1 (.slice B1 E.length d1) E.length (E.map BkE.v1)::vec 31 1 (.slice B2 E.length d2) E.length (E.map BkE.v2)::vec 31 1 (.slice B3 E.length d3) E.length (E.map BkE.v3)::vec 31 1 (.slice B4 E.length d4) E.length (E.map BkE.v4)::vec 5 1 (.slice B5 E.length d5) E.length ((E.map BkE.m).map bv)::manyX X::L)|1=>St F w0 w_ (row c_.1 #[.int .u8 ((m.toNat:Nat):Int)] 5::vec 31 1 v16 (E.length+1) (E.map BkE.v0++[.slice A n c])::MkB m (.slice A n c) n []::row gb #[v16,.slice B1 E.length d1,.slice B2 E.length d2,.slice B3 E.length d3,.slice B4 E.length d4,.slice B5 E.length d5] 44::vec 31 1 (.slice B1 E.length d1) E.length (E.map BkE.v1)::vec 31 1 (.slice B2 E.length d2) E.length (E.map BkE.v2)::vec 31 1 (.slice B3 E.length d3) E.length (E.map BkE.v3)::vec 31 1 (.slice B4 E.length d4) E.length (E.map BkE.v4)::vec 5 1 (.slice B5 E.length d5) E.length ((E.map BkE.m).map bv)::manyX X::L)|2=>St F w0 w_ (MkB m (.slice A n c) n [((.slice c_.2.1 (n+1) c_.2.2.1:Value),mks m (n+1))]::row c_.1 #[.int .u8 ((m.toNat:Nat):Int)] 5::vec 31 1 v16 (E.length+1) (E.map BkE.v0++[.slice A n c])::row gb #[v16,.slice B1 E.length d1,.slice B2 E.length d2,.slice B3 E.length d3,.slice B4 E.length d4,.slice B5 E.length d5] 44::vec 31 1 (.slice B1 E.length d1) E.length (E.map BkE.v1)::vec 31 1 (.slice B2 E.length d2) E.length (E.map BkE.v2)::vec 31 1 (.slice B3 E.length d3) E.length (E.map BkE.v3)::vec 31 1 (.slice B4 E.length d4) E.length (E.map BkE.v4)::vec 5 1 (.slice B5 E.length d5) E.length ((E.map BkE.m).map bv)::manyX X::L)|3=>St F w0 w_ (row c_.2.2.2.1 #[.slice c_.2.1 (n+1) c_.2.2.1] 31::MkB m (.slice A n c) n [((.slice c_.2.1 (n+1) c_.2.2.1:Value),mks m (n+1))]::row c_.1 #[.int .u8 ((m.toNat:Nat):Int)] 5::vec 31 1 v16 (E.length+1) (E.map BkE.v0++[.slice A n c])::row gb #[v16,.slice B1 E.length d1,.slice B2 E.length d2,.slice B3 E.length d3,.slice B4 E.length d4,.slice B5 E.length d5] 44::vec 31 1 (.slice B1 E.length d1) E.length (E.map BkE.v1)::vec 31 1 (.slice B2 E.length d2) E.length (E.map BkE.v2)::vec 31 1 (.slice B3 E.length d3) E.length (E.map BkE.v3)::vec 31 1 (.slice B4 E.length d4) E.length (E.map BkE.v4)::vec 5 1 (.slice B5 E.length d5) E.length ((E.map BkE.m).map bv)::manyX X::L)|4=>St F w0 w_ (vec 31 1 c_.2.2.2.2 (E.length+1) (E.map BkE.v1++[.slice c_.2.1 (n+1) c_.2.2.1])::MkB m (.slice A n c) n [((.slice c_.2.1 (n+1) c_.2.2.1:Value),mks m (n+1))]::row c_.1 #[.int .u8 ((m.toNat:Nat):Int)] 5::vec 31 1 v16 (E.length+1) (E.map BkE.v0++[.slice A n c])::row gb #[v16,.slice B1 E.length d1,.slice B2 E.length d2,.slice B3 E.length d3,.slice B4 E.length d4,.slice B5 E.length d5] 44::vec 31 1 (.slice B2 E.length d2) E.length (E.map BkE.v2)::vec 31 1 (.slice B3 E.length d3) E.length (E.map BkE.v3)::vec 31 1 (.slice B4 E.length d4) E.length (E.map BkE.v4)::vec 5 1 (.slice B5 E.length d5) E.length ((E.map BkE.m).map bv)::manyX X::L)|_=>St F w0 w_ (vec 31 1 c_.2.2.2.2 (E.length+1) (E.map BkE.v1++[.slice c_.2.1 (n+1) c_.2.2.1])::MkB m (.slice A n c) n [((.slice c_.2.1 (n+1) c_.2.2.1:Value),mks m (n+1))]::row c_.1 #[.int .u8 ((m.toNat:Nat):Int)] 5::vec 31 1 v16 (E.length+1) (E.map BkE.v0++[.slice A n c])::row gb #[v16,c_.2.2.2.2,.slice B2 E.length d2,.slice B3 E.length d3,.slice B4 E.length d4,.slice B5 E.length d5] 44::vec 31 1 (.slice B2 E.length d2) E.length (E.map BkE.v2)::vec 31 1 (.slice B3 E.length d3) E.length (E.map BkE.v3)::vec 31 1 (.slice B4 E.length d4) E.length (E.map BkE.v4)::vec 5 1 (.slice B5 E.length d5) E.length ((E.map BkE.m).map bv)::manyX X::L):Prop)) (0,none,0,0,undef) kr_ kr_ kr_ kr_ (S20.drew) ?_ ?_ ?_))))))))
  ·intro i_ c_ p_ vals_ w1 hi_ hiE_ hp_ hk_ hu_ hPh_ hd_
   rcases i_ with _|_|_|_|_|_|_|_|_|_|_|_|_|_|i_
   ·exact tG_ rfl hd_ (gV (pq gb) ⟨rfl,rfl⟩)
   ·exact tG_ rfl hd_ (gV (pq gb) ⟨rfl,rfl⟩)
   ·exact tG_ rfl hd_ (gV (pq gb) ⟨rfl,rfl⟩)
   ·exact tG_ rfl hd_ (gV (po gb 1) ⟨rfl,rfl⟩)
   ·rcases p_ with _|_|_|_|_|_|p_
    ·have S25:=St.id hPh_
     exact tG_ rfl hd_ (gL (.slice B1 E.length d1) rfl (((S25.blk 2 rfl).cell 1).trans rfl) ⟨rfl,rfl⟩)
    ·have S26:=St.id hPh_
     exact tG_ rfl hd_ (gL (.slice B1 E.length d1) rfl (((S26.blk 3 rfl).cell 1).trans rfl) ⟨rfl,rfl⟩)
    ·have S27:=St.id hPh_
     exact tG_ rfl hd_ (gL (.slice B1 E.length d1) rfl (((S27.blk 3 rfl).cell 1).trans rfl) ⟨rfl,rfl⟩)
    ·have S28:=St.id hPh_
     exact tG_ rfl hd_ (gL (.slice B1 E.length d1) rfl (((S28.blk 4 rfl).cell 1).trans rfl) ⟨rfl,rfl⟩)
    ·exact absurd (hu_ 3 dc_ kr_) dc_
    ·exact absurd (hu_ 3 dc_ kr_) dc_
    ·exact absurd hp_ (by simp)
   ·exact tG_ rfl hd_ (gV (.slice A n c) ⟨rfl,rfl⟩)
   ·exact tG_ rfl hd_ (gV (.int .u8 ((m.toNat:Nat):Int)) ⟨rfl,rfl⟩)
   ·exact absurd hiE_ dc_
   ·exact absurd hiE_ dc_
   ·exact absurd hiE_ dc_
   ·exact absurd hiE_ dc_
   ·exact tG_ rfl hd_ (gV (pq gb) ⟨rfl,rfl⟩)
   ·exact tG_ rfl hd_ (gV (po gb 1) ⟨rfl,rfl⟩)
   ·exact absurd hiE_ dc_
   ·exact absurd hi_ om_
  ·intro k_ c_ vals_ w1 hk_ hPh_ hd_
   rcases k_ with _|_|_|_|_|k_
   ·have S33:=St.id hPh_
    refine tG_ rfl hd_ (gv_slit (e:=5) (sz:=1) (z:=.int .u8 0) (by_:=1) (vs:=#[(0,.int .u8 ((m.toNat:Nat):Int))]) (cells:=#[.int .u8 ((m.toNat:Nat):Int)]) S33 rfl kr_ ⟨by kernel_rfl⟩ kr_ kr_ kr_ kr_ (fun g34 w35 hg36 S37=>⟨(g34,c_.2.1,c_.2.2.1,c_.2.2.2.1,c_.2.2.2.2),rfl, ?_,S37⟩))
    intro i_ hi_ hne_ hdp_
    rcases i_ with _|_|_|_|_|_|_|_|_|_|_|_|_|_|i_
    ·rfl
    ·rfl
    ·rfl
    ·rfl
    ·rfl
    ·rfl
    ·rfl
    ·exact absurd rfl hne_
    ·exact (dep_no hdp_ kr_).elim
    ·exact (dep_no hdp_ kr_).elim
    ·exact (dep_no hdp_ kr_).elim
    ·exact (dep_no hdp_ kr_).elim
    ·exact (dep_no hdp_ kr_).elim
    ·exact (dep_no hdp_ kr_).elim
    ·exact absurd hi_ om_
   ·have S38:=St.id hPh_
    have S43:=St.pm 10 [2,0,1,3,4,5,6,7,8,9] S38
    refine tG_ rfl hd_ (gv_append_mk (m:=m) (ad:=⟨c_.1,0,none⟩) (c':=1) (k:=1) S43 rfl kr_ ⟨by kernel_rfl⟩ kr_ kr_ om_ (fun j u hu=>by have hB:=S43.blk 1 rfl;rw [Addr.add_lit,Nat.zero_add,hB.cell];show (((mks m 1).map bv).toArray)[j]?=some u;rw [List.getElem?_toArray];exact hu) om_ (fun A39 c40 w41 S42=> ?_))
    refine ⟨(c_.1,A39,c40,c_.2.2.2.1,c_.2.2.2.2),rfl, ?_,S42⟩
    intro i_ hi_ hne_ hdp_
    rcases i_ with _|_|_|_|_|_|_|_|_|_|_|_|_|_|i_
    ·rfl
    ·rfl
    ·rfl
    ·rfl
    ·rfl
    ·rfl
    ·rfl
    ·rfl
    ·exact absurd rfl hne_
    ·exact (dep_no hdp_ kr_).elim
    ·exact (dep_no hdp_ kr_).elim
    ·exact (dep_no hdp_ kr_).elim
    ·exact (dep_no hdp_ kr_).elim
    ·exact (dep_no hdp_ kr_).elim
    ·exact absurd hi_ om_
   ·have S44:=St.id hPh_
    refine tG_ rfl hd_ (gv_slit (e:=31) (sz:=1) (z:=.slice none 0 0) (by_:=24) (vs:=#[(0,.slice c_.2.1 (n+1) c_.2.2.1)]) (cells:=#[.slice c_.2.1 (n+1) c_.2.2.1]) S44 rfl kr_ ⟨by kernel_rfl⟩ kr_ kr_ kr_ kr_ (fun g45 w46 hg47 S48=>⟨(c_.1,c_.2.1,c_.2.2.1,g45,c_.2.2.2.2),rfl, ?_,S48⟩))
    intro i_ hi_ hne_ hdp_
    rcases i_ with _|_|_|_|_|_|_|_|_|_|_|_|_|_|i_
    ·rfl
    ·rfl
    ·rfl
    ·rfl
    ·rfl
    ·rfl
    ·rfl
    ·rfl
    ·rfl
    ·exact absurd rfl hne_
    ·exact (dep_no hdp_ kr_).elim
    ·exact (dep_no hdp_ kr_).elim
    ·exact (dep_no hdp_ kr_).elim
    ·exact (dep_no hdp_ kr_).elim
    ·exact absurd hi_ om_
   ·have S49:=St.id hPh_
    have S50:=St.pm 11 [0,5,1,2,3,4,6,7,8,9,10] S49
    refine tG_ rfl hd_ (gv_appS (n:=E.length) (gs:=c_.2.2.2.1) S50 rfl kr_ ⟨by kernel_rfl⟩ kr_ kr_ rfl om_ (fun v51 w52 S53=>⟨(c_.1,c_.2.1,c_.2.2.1,c_.2.2.2.1,v51),rfl, ?_,S53⟩))
    intro i_ hi_ hne_ hdp_
    rcases i_ with _|_|_|_|_|_|_|_|_|_|_|_|_|_|i_
    ·rfl
    ·rfl
    ·rfl
    ·rfl
    ·rfl
    ·rfl
    ·rfl
    ·rfl
    ·rfl
    ·rfl
    ·exact absurd rfl hne_
    ·exact (dep_no hdp_ kr_).elim
    ·exact (dep_no hdp_ kr_).elim
    ·exact (dep_no hdp_ kr_).elim
    ·exact absurd hi_ om_
   ·have S54:=St.id hPh_
    refine tG_ rfl hd_ (gv_st (k:=1) (v:=c_.2.2.2.2) S54 4 rfl rfl kr_ kr_ kr_ (vec_one S54 0 rfl) rfl (L':=(vec 31 1 c_.2.2.2.2 (E.length+1) (E.map BkE.v1++[.slice c_.2.1 (n+1) c_.2.2.1])::MkB m (.slice A n c) n [((.slice c_.2.1 (n+1) c_.2.2.1:Value),mks m (n+1))]::row c_.1 #[.int .u8 ((m.toNat:Nat):Int)] 5::vec 31 1 v16 (E.length+1) (E.map BkE.v0++[.slice A n c])::row gb #[v16,c_.2.2.2.2,.slice B2 E.length d2,.slice B3 E.length d3,.slice B4 E.length d4,.slice B5 E.length d5] 44::vec 31 1 (.slice B2 E.length d2) E.length (E.map BkE.v2)::vec 31 1 (.slice B3 E.length d3) E.length (E.map BkE.v3)::vec 31 1 (.slice B4 E.length d4) E.length (E.map BkE.v4)::vec 5 1 (.slice B5 E.length d5) E.length ((E.map BkE.m).map bv)::manyX X::L)) rfl (fun w55 S56=>⟨(c_.1,c_.2.1,c_.2.2.1,c_.2.2.2.1,c_.2.2.2.2),rfl, ?_,S56⟩))
    intro i_ hi_ hne_ hdp_
    rcases i_ with _|_|_|_|_|_|_|_|_|_|_|_|_|_|i_
    ·rfl
    ·rfl
    ·rfl
    ·rfl
    ·rfl
    ·rfl
    ·rfl
    ·rfl
    ·rfl
    ·rfl
    ·rfl
    ·rfl
    ·rfl
    ·exact absurd rfl hne_
    ·exact absurd hi_ om_
   ·exact absurd hk_ (by simp)
  ·intro c_ w1 hPh_
   have S57:=St.id hPh_
   refine (wE (nS (wp_region_phu (γ:=Nat×Option Addr×Nat×Nat×Value) 15 [8,9,10,11,14] (fun (c2_:Nat×Option Addr×Nat×Nat×Value) (i_:Nat)=>(match i_ with|0=>pq gb|1=>pq gb|2=>pq gb|3=>po gb 2|4=>.slice B2 E.length d2|5=>.slice A n c|6=>.int .u8 ((m.toNat:Nat):Int)|7=>.int .u8 ((m.toNat:Nat):Int)|8=>sl c2_.1 0 2 2|9=>.slice c2_.2.1 (n+2) c2_.2.2.1|10=>sl c2_.2.2.2.1 0 1 1|11=>c2_.2.2.2.2|12=>pq gb|13=>po gb 2|14=>undef|_=>undef:Value)) (fun (c2_:Nat×Option Addr×Nat×Nat×Value) (p_:Nat) (w_:World)=>(match p_ with|0=>St F w0 w_ (vec 31 1 c_.2.2.2.2 (E.length+1) (E.map BkE.v1++[.slice c_.2.1 (n+1) c_.2.2.1])::MkB m (.slice A n c) n [((.slice c_.2.1 (n+1) c_.2.2.1:Value),mks m (n+1))]::row c_.1 #[.int .u8 ((m.toNat:Nat):Int)] 5::vec 31 1 v16 (E.length+1) (E.map BkE.v0++[.slice A n c])::row gb #[v16,c_.2.2.2.2,.slice B2 E.length d2,.slice B3 E.length d3,.slice B4 E.length d4,.slice B5 E.length d5] 44::vec 31 1 (.slice B2 E.length d2) E.length (E.map BkE.v2)::vec 31 1 (.slice B3 E.length d3) E.length (E.map BkE.v3)::vec 31 1 (.slice B4 E.length d4) E.length (E.map BkE.v4)::vec 5 1 (.slice B5 E.length d5) E.length ((E.map BkE.m).map bv)::manyX X::L)|1=>St F w0 w_ (row c2_.1 #[.int .u8 ((m.toNat:Nat):Int),.int .u8 ((m.toNat:Nat):Int)] 5::vec 31 1 c_.2.2.2.2 (E.length+1) (E.map BkE.v1++[.slice c_.2.1 (n+1) c_.2.2.1])::MkB m (.slice A n c) n [((.slice c_.2.1 (n+1) c_.2.2.1:Value),mks m (n+1))]::row c_.1 #[.int .u8 ((m.toNat:Nat):Int)] 5::vec 31 1 v16 (E.length+1) (E.map BkE.v0++[.slice A n c])::row gb #[v16,c_.2.2.2.2,.slice B2 E.length d2,.slice B3 E.length d3,.slice B4 E.length d4,.slice B5 E.length d5] 44::vec 31 1 (.slice B2 E.length d2) E.length (E.map BkE.v2)::vec 31 1 (.slice B3 E.length d3) E.length (E.map BkE.v3)::vec 31 1 (.slice B4 E.length d4) E.length (E.map BkE.v4)::vec 5 1 (.slice B5 E.length d5) E.length ((E.map BkE.m).map bv)::manyX X::L)|2=>St F w0 w_ (MkB m (.slice A n c) n [((.slice c_.2.1 (n+1) c_.2.2.1:Value),mks m (n+1)),((.slice c2_.2.1 (n+2) c2_.2.2.1:Value),mks m (n+2))]::row c2_.1 #[.int .u8 ((m.toNat:Nat):Int),.int .u8 ((m.toNat:Nat):Int)] 5::vec 31 1 c_.2.2.2.2 (E.length+1) (E.map BkE.v1++[.slice c_.2.1 (n+1) c_.2.2.1])::row c_.1 #[.int .u8 ((m.toNat:Nat):Int)] 5::vec 31 1 v16 (E.length+1) (E.map BkE.v0++[.slice A n c])::row gb #[v16,c_.2.2.2.2,.slice B2 E.length d2,.slice B3 E.length d3,.slice B4 E.length d4,.slice B5 E.length d5] 44::vec 31 1 (.slice B2 E.length d2) E.length (E.map BkE.v2)::vec 31 1 (.slice B3 E.length d3) E.length (E.map BkE.v3)::vec 31 1 (.slice B4 E.length d4) E.length (E.map BkE.v4)::vec 5 1 (.slice B5 E.length d5) E.length ((E.map BkE.m).map bv)::manyX X::L)|3=>St F w0 w_ (row c2_.2.2.2.1 #[.slice c2_.2.1 (n+2) c2_.2.2.1] 31::MkB m (.slice A n c) n [((.slice c_.2.1 (n+1) c_.2.2.1:Value),mks m (n+1)),((.slice c2_.2.1 (n+2) c2_.2.2.1:Value),mks m (n+2))]::row c2_.1 #[.int .u8 ((m.toNat:Nat):Int),.int .u8 ((m.toNat:Nat):Int)] 5::vec 31 1 c_.2.2.2.2 (E.length+1) (E.map BkE.v1++[.slice c_.2.1 (n+1) c_.2.2.1])::row c_.1 #[.int .u8 ((m.toNat:Nat):Int)] 5::vec 31 1 v16 (E.length+1) (E.map BkE.v0++[.slice A n c])::row gb #[v16,c_.2.2.2.2,.slice B2 E.length d2,.slice B3 E.length d3,.slice B4 E.length d4,.slice B5 E.length d5] 44::vec 31 1 (.slice B2 E.length d2) E.length (E.map BkE.v2)::vec 31 1 (.slice B3 E.length d3) E.length (E.map BkE.v3)::vec 31 1 (.slice B4 E.length d4) E.length (E.map BkE.v4)::vec 5 1 (.slice B5 E.length d5) E.length ((E.map BkE.m).map bv)::manyX X::L)|4=>St F w0 w_ (vec 31 1 c2_.2.2.2.2 (E.length+1) (E.map BkE.v2++[.slice c2_.2.1 (n+2) c2_.2.2.1])::MkB m (.slice A n c) n [((.slice c_.2.1 (n+1) c_.2.2.1:Value),mks m (n+1)),((.slice c2_.2.1 (n+2) c2_.2.2.1:Value),mks m (n+2))]::row c2_.1 #[.int .u8 ((m.toNat:Nat):Int),.int .u8 ((m.toNat:Nat):Int)] 5::vec 31 1 c_.2.2.2.2 (E.length+1) (E.map BkE.v1++[.slice c_.2.1 (n+1) c_.2.2.1])::row c_.1 #[.int .u8 ((m.toNat:Nat):Int)] 5::vec 31 1 v16 (E.length+1) (E.map BkE.v0++[.slice A n c])::row gb #[v16,c_.2.2.2.2,.slice B2 E.length d2,.slice B3 E.length d3,.slice B4 E.length d4,.slice B5 E.length d5] 44::vec 31 1 (.slice B3 E.length d3) E.length (E.map BkE.v3)::vec 31 1 (.slice B4 E.length d4) E.length (E.map BkE.v4)::vec 5 1 (.slice B5 E.length d5) E.length ((E.map BkE.m).map bv)::manyX X::L)|_=>St F w0 w_ (vec 31 1 c2_.2.2.2.2 (E.length+1) (E.map BkE.v2++[.slice c2_.2.1 (n+2) c2_.2.2.1])::MkB m (.slice A n c) n [((.slice c_.2.1 (n+1) c_.2.2.1:Value),mks m (n+1)),((.slice c2_.2.1 (n+2) c2_.2.2.1:Value),mks m (n+2))]::row c2_.1 #[.int .u8 ((m.toNat:Nat):Int),.int .u8 ((m.toNat:Nat):Int)] 5::vec 31 1 c_.2.2.2.2 (E.length+1) (E.map BkE.v1++[.slice c_.2.1 (n+1) c_.2.2.1])::row c_.1 #[.int .u8 ((m.toNat:Nat):Int)] 5::vec 31 1 v16 (E.length+1) (E.map BkE.v0++[.slice A n c])::row gb #[v16,c_.2.2.2.2,c2_.2.2.2.2,.slice B3 E.length d3,.slice B4 E.length d4,.slice B5 E.length d5] 44::vec 31 1 (.slice B3 E.length d3) E.length (E.map BkE.v3)::vec 31 1 (.slice B4 E.length d4) E.length (E.map BkE.v4)::vec 5 1 (.slice B5 E.length d5) E.length ((E.map BkE.m).map bv)::manyX X::L):Prop)) (0,none,0,0,undef) kr_ kr_ kr_ kr_ (S57.drew) ?_ ?_ ?_)))
   ·intro i_ c2_ p_ vals_ w1 hi_ hiE_ hp_ hk_ hu_ hPh_ hd_
    rcases i_ with _|_|_|_|_|_|_|_|_|_|_|_|_|_|_|i_
    ·exact tG_ rfl hd_ (gV (pq gb) ⟨rfl,rfl⟩)
    ·exact tG_ rfl hd_ (gV (pq gb) ⟨rfl,rfl⟩)
    ·exact tG_ rfl hd_ (gV (pq gb) ⟨rfl,rfl⟩)
    ·exact tG_ rfl hd_ (gV (po gb 2) ⟨rfl,rfl⟩)
    ·rcases p_ with _|_|_|_|_|_|p_
     ·have S62:=St.id hPh_
      exact tG_ rfl hd_ (gL (.slice B2 E.length d2) rfl (((S62.blk 4 rfl).cell 2).trans rfl) ⟨rfl,rfl⟩)
     ·have S63:=St.id hPh_
      exact tG_ rfl hd_ (gL (.slice B2 E.length d2) rfl (((S63.blk 5 rfl).cell 2).trans rfl) ⟨rfl,rfl⟩)
     ·have S64:=St.id hPh_
      exact tG_ rfl hd_ (gL (.slice B2 E.length d2) rfl (((S64.blk 5 rfl).cell 2).trans rfl) ⟨rfl,rfl⟩)
     ·have S65:=St.id hPh_
      exact tG_ rfl hd_ (gL (.slice B2 E.length d2) rfl (((S65.blk 6 rfl).cell 2).trans rfl) ⟨rfl,rfl⟩)
     ·exact absurd (hu_ 3 dc_ kr_) dc_
     ·exact absurd (hu_ 3 dc_ kr_) dc_
     ·exact absurd hp_ (by simp)
    ·exact tG_ rfl hd_ (gV (.slice A n c) ⟨rfl,rfl⟩)
    ·exact tG_ rfl hd_ (gV (.int .u8 ((m.toNat:Nat):Int)) ⟨rfl,rfl⟩)
    ·exact tG_ rfl hd_ (gV (.int .u8 ((m.toNat:Nat):Int)) ⟨rfl,rfl⟩)
    ·exact absurd hiE_ dc_
    ·exact absurd hiE_ dc_
    ·exact absurd hiE_ dc_
    ·exact absurd hiE_ dc_
    ·exact tG_ rfl hd_ (gV (pq gb) ⟨rfl,rfl⟩)
    ·exact tG_ rfl hd_ (gV (po gb 2) ⟨rfl,rfl⟩)
    ·exact absurd hiE_ dc_
    ·exact absurd hi_ om_
   ·intro k_ c2_ vals_ w1 hk_ hPh_ hd_
    rcases k_ with _|_|_|_|_|k_
    ·have S71:=St.id hPh_
     refine tG_ rfl hd_ (gv_slit (e:=5) (sz:=1) (z:=.int .u8 0) (by_:=1) (vs:=#[(0,.int .u8 ((m.toNat:Nat):Int)),(1,.int .u8 ((m.toNat:Nat):Int))]) (cells:=#[.int .u8 ((m.toNat:Nat):Int),.int .u8 ((m.toNat:Nat):Int)]) S71 rfl kr_ ⟨by kernel_rfl⟩ kr_ kr_ kr_ kr_ (fun g72 w73 hg74 S75=>⟨(g72,c2_.2.1,c2_.2.2.1,c2_.2.2.2.1,c2_.2.2.2.2),rfl, ?_,S75⟩))
     intro i_ hi_ hne_ hdp_
     rcases i_ with _|_|_|_|_|_|_|_|_|_|_|_|_|_|_|i_
     ·rfl
     ·rfl
     ·rfl
     ·rfl
     ·rfl
     ·rfl
     ·rfl
     ·rfl
     ·exact absurd rfl hne_
     ·exact (dep_no hdp_ kr_).elim
     ·exact (dep_no hdp_ kr_).elim
     ·exact (dep_no hdp_ kr_).elim
     ·exact (dep_no hdp_ kr_).elim
     ·exact (dep_no hdp_ kr_).elim
     ·exact (dep_no hdp_ kr_).elim
     ·exact absurd hi_ om_
    ·have S76:=St.id hPh_
     have S81:=St.pm 11 [2,0,1,3,4,5,6,7,8,9,10] S76
     refine tG_ rfl hd_ (gv_append_mk (m:=m) (ad:=⟨c2_.1,0,none⟩) (c':=2) (k:=2) S81 rfl kr_ ⟨by kernel_rfl⟩ kr_ kr_ om_ (fun j u hu=>by have hB:=S81.blk 1 rfl;rw [Addr.add_lit,Nat.zero_add,hB.cell];show (((mks m 2).map bv).toArray)[j]?=some u;rw [List.getElem?_toArray];exact hu) om_ (fun A77 c78 w79 S80=> ?_))
     refine ⟨(c2_.1,A77,c78,c2_.2.2.2.1,c2_.2.2.2.2),rfl, ?_,S80⟩
     intro i_ hi_ hne_ hdp_
     rcases i_ with _|_|_|_|_|_|_|_|_|_|_|_|_|_|_|i_
     ·rfl
     ·rfl
     ·rfl
     ·rfl
     ·rfl
     ·rfl
     ·rfl
     ·rfl
     ·rfl
     ·exact absurd rfl hne_
     ·exact (dep_no hdp_ kr_).elim
     ·exact (dep_no hdp_ kr_).elim
     ·exact (dep_no hdp_ kr_).elim
     ·exact (dep_no hdp_ kr_).elim
     ·exact (dep_no hdp_ kr_).elim
     ·exact absurd hi_ om_
    ·have S82:=St.id hPh_
     refine tG_ rfl hd_ (gv_slit (e:=31) (sz:=1) (z:=.slice none 0 0) (by_:=24) (vs:=#[(0,.slice c2_.2.1 (n+2) c2_.2.2.1)]) (cells:=#[.slice c2_.2.1 (n+2) c2_.2.2.1]) S82 rfl kr_ ⟨by kernel_rfl⟩ kr_ kr_ kr_ kr_ (fun g83 w84 hg85 S86=>⟨(c2_.1,c2_.2.1,c2_.2.2.1,g83,c2_.2.2.2.2),rfl, ?_,S86⟩))
     intro i_ hi_ hne_ hdp_
     rcases i_ with _|_|_|_|_|_|_|_|_|_|_|_|_|_|_|i_
     ·rfl
     ·rfl
     ·rfl
     ·rfl
     ·rfl
     ·rfl
     ·rfl
     ·rfl
     ·rfl
     ·rfl
     ·exact absurd rfl hne_
     ·exact (dep_no hdp_ kr_).elim
     ·exact (dep_no hdp_ kr_).elim
     ·exact (dep_no hdp_ kr_).elim
     ·exact (dep_no hdp_ kr_).elim
     ·exact absurd hi_ om_
    ·have S87:=St.id hPh_
     have S88:=St.pm 12 [0,7,1,2,3,4,5,6,8,9,10,11] S87
     refine tG_ rfl hd_ (gv_appS (n:=E.length) (gs:=c2_.2.2.2.1) S88 rfl kr_ ⟨by kernel_rfl⟩ kr_ kr_ rfl om_ (fun v89 w90 S91=>⟨(c2_.1,c2_.2.1,c2_.2.2.1,c2_.2.2.2.1,v89),rfl, ?_,S91⟩))
     intro i_ hi_ hne_ hdp_
     rcases i_ with _|_|_|_|_|_|_|_|_|_|_|_|_|_|_|i_
     ·rfl
     ·rfl
     ·rfl
     ·rfl
     ·rfl
     ·rfl
     ·rfl
     ·rfl
     ·rfl
     ·rfl
     ·rfl
     ·exact absurd rfl hne_
     ·exact (dep_no hdp_ kr_).elim
     ·exact (dep_no hdp_ kr_).elim
     ·exact (dep_no hdp_ kr_).elim
     ·exact absurd hi_ om_
    ·have S92:=St.id hPh_
     refine tG_ rfl hd_ (gv_st (k:=2) (v:=c2_.2.2.2.2) S92 6 rfl rfl kr_ kr_ kr_ (vec_one S92 0 rfl) rfl (L':=(vec 31 1 c2_.2.2.2.2 (E.length+1) (E.map BkE.v2++[.slice c2_.2.1 (n+2) c2_.2.2.1])::MkB m (.slice A n c) n [((.slice c_.2.1 (n+1) c_.2.2.1:Value),mks m (n+1)),((.slice c2_.2.1 (n+2) c2_.2.2.1:Value),mks m (n+2))]::row c2_.1 #[.int .u8 ((m.toNat:Nat):Int),.int .u8 ((m.toNat:Nat):Int)] 5::vec 31 1 c_.2.2.2.2 (E.length+1) (E.map BkE.v1++[.slice c_.2.1 (n+1) c_.2.2.1])::row c_.1 #[.int .u8 ((m.toNat:Nat):Int)] 5::vec 31 1 v16 (E.length+1) (E.map BkE.v0++[.slice A n c])::row gb #[v16,c_.2.2.2.2,c2_.2.2.2.2,.slice B3 E.length d3,.slice B4 E.length d4,.slice B5 E.length d5] 44::vec 31 1 (.slice B3 E.length d3) E.length (E.map BkE.v3)::vec 31 1 (.slice B4 E.length d4) E.length (E.map BkE.v4)::vec 5 1 (.slice B5 E.length d5) E.length ((E.map BkE.m).map bv)::manyX X::L)) rfl (fun w93 S94=>⟨(c2_.1,c2_.2.1,c2_.2.2.1,c2_.2.2.2.1,c2_.2.2.2.2),rfl, ?_,S94⟩))
     intro i_ hi_ hne_ hdp_
     rcases i_ with _|_|_|_|_|_|_|_|_|_|_|_|_|_|_|i_
     ·rfl
     ·rfl
     ·rfl
     ·rfl
     ·rfl
     ·rfl
     ·rfl
     ·rfl
     ·rfl
     ·rfl
     ·rfl
     ·rfl
     ·rfl
     ·rfl
     ·exact absurd rfl hne_
     ·exact absurd hi_ om_
    ·exact absurd hk_ (by simp)
   ·intro c2_ w1 hPh_
    have S95:=St.id hPh_
    refine (wE ?_)
    refine nS (wp_region_phu (γ:=Nat×Option Addr×Nat×Nat×Value) 16 [9,10,11,12,15] (fun (c3_:Nat×Option Addr×Nat×Nat×Value) (i_:Nat)=>(match i_ with|0=>pq gb|1=>pq gb|2=>pq gb|3=>po gb 3|4=>.slice B3 E.length d3|5=>.slice A n c|6=>.int .u8 ((m.toNat:Nat):Int)|7=>.int .u8 ((m.toNat:Nat):Int)|8=>.int .u8 ((m.toNat:Nat):Int)|9=>sl c3_.1 0 3 3|10=>.slice c3_.2.1 (n+3) c3_.2.2.1|11=>sl c3_.2.2.2.1 0 1 1|12=>c3_.2.2.2.2|13=>pq gb|14=>po gb 3|15=>undef|_=>undef:Value)) (fun (c3_:Nat×Option Addr×Nat×Nat×Value) (p_:Nat) (w_:World)=>(match p_ with|0=>St F w0 w_ (vec 31 1 c2_.2.2.2.2 (E.length+1) (E.map BkE.v2++[.slice c2_.2.1 (n+2) c2_.2.2.1])::MkB m (.slice A n c) n [((.slice c_.2.1 (n+1) c_.2.2.1:Value),mks m (n+1)),((.slice c2_.2.1 (n+2) c2_.2.2.1:Value),mks m (n+2))]::row c2_.1 #[.int .u8 ((m.toNat:Nat):Int),.int .u8 ((m.toNat:Nat):Int)] 5::vec 31 1 c_.2.2.2.2 (E.length+1) (E.map BkE.v1++[.slice c_.2.1 (n+1) c_.2.2.1])::row c_.1 #[.int .u8 ((m.toNat:Nat):Int)] 5::vec 31 1 v16 (E.length+1) (E.map BkE.v0++[.slice A n c])::row gb #[v16,c_.2.2.2.2,c2_.2.2.2.2,.slice B3 E.length d3,.slice B4 E.length d4,.slice B5 E.length d5] 44::vec 31 1 (.slice B3 E.length d3) E.length (E.map BkE.v3)::vec 31 1 (.slice B4 E.length d4) E.length (E.map BkE.v4)::vec 5 1 (.slice B5 E.length d5) E.length ((E.map BkE.m).map bv)::manyX X::L)|1=>St F w0 w_ (row c3_.1 #[.int .u8 ((m.toNat:Nat):Int),.int .u8 ((m.toNat:Nat):Int),.int .u8 ((m.toNat:Nat):Int)] 5::vec 31 1 c2_.2.2.2.2 (E.length+1) (E.map BkE.v2++[.slice c2_.2.1 (n+2) c2_.2.2.1])::MkB m (.slice A n c) n [((.slice c_.2.1 (n+1) c_.2.2.1:Value),mks m (n+1)),((.slice c2_.2.1 (n+2) c2_.2.2.1:Value),mks m (n+2))]::row c2_.1 #[.int .u8 ((m.toNat:Nat):Int),.int .u8 ((m.toNat:Nat):Int)] 5::vec 31 1 c_.2.2.2.2 (E.length+1) (E.map BkE.v1++[.slice c_.2.1 (n+1) c_.2.2.1])::row c_.1 #[.int .u8 ((m.toNat:Nat):Int)] 5::vec 31 1 v16 (E.length+1) (E.map BkE.v0++[.slice A n c])::row gb #[v16,c_.2.2.2.2,c2_.2.2.2.2,.slice B3 E.length d3,.slice B4 E.length d4,.slice B5 E.length d5] 44::vec 31 1 (.slice B3 E.length d3) E.length (E.map BkE.v3)::vec 31 1 (.slice B4 E.length d4) E.length (E.map BkE.v4)::vec 5 1 (.slice B5 E.length d5) E.length ((E.map BkE.m).map bv)::manyX X::L)|2=>St F w0 w_ (MkB m (.slice A n c) n [((.slice c_.2.1 (n+1) c_.2.2.1:Value),mks m (n+1)),((.slice c2_.2.1 (n+2) c2_.2.2.1:Value),mks m (n+2)),((.slice c3_.2.1 (n+3) c3_.2.2.1:Value),mks m (n+3))]::row c3_.1 #[.int .u8 ((m.toNat:Nat):Int),.int .u8 ((m.toNat:Nat):Int),.int .u8 ((m.toNat:Nat):Int)] 5::vec 31 1 c2_.2.2.2.2 (E.length+1) (E.map BkE.v2++[.slice c2_.2.1 (n+2) c2_.2.2.1])::row c2_.1 #[.int .u8 ((m.toNat:Nat):Int),.int .u8 ((m.toNat:Nat):Int)] 5::vec 31 1 c_.2.2.2.2 (E.length+1) (E.map BkE.v1++[.slice c_.2.1 (n+1) c_.2.2.1])::row c_.1 #[.int .u8 ((m.toNat:Nat):Int)] 5::vec 31 1 v16 (E.length+1) (E.map BkE.v0++[.slice A n c])::row gb #[v16,c_.2.2.2.2,c2_.2.2.2.2,.slice B3 E.length d3,.slice B4 E.length d4,.slice B5 E.length d5] 44::vec 31 1 (.slice B3 E.length d3) E.length (E.map BkE.v3)::vec 31 1 (.slice B4 E.length d4) E.length (E.map BkE.v4)::vec 5 1 (.slice B5 E.length d5) E.length ((E.map BkE.m).map bv)::manyX X::L)|3=>St F w0 w_ (row c3_.2.2.2.1 #[.slice c3_.2.1 (n+3) c3_.2.2.1] 31::MkB m (.slice A n c) n [((.slice c_.2.1 (n+1) c_.2.2.1:Value),mks m (n+1)),((.slice c2_.2.1 (n+2) c2_.2.2.1:Value),mks m (n+2)),((.slice c3_.2.1 (n+3) c3_.2.2.1:Value),mks m (n+3))]::row c3_.1 #[.int .u8 ((m.toNat:Nat):Int),.int .u8 ((m.toNat:Nat):Int),.int .u8 ((m.toNat:Nat):Int)] 5::vec 31 1 c2_.2.2.2.2 (E.length+1) (E.map BkE.v2++[.slice c2_.2.1 (n+2) c2_.2.2.1])::row c2_.1 #[.int .u8 ((m.toNat:Nat):Int),.int .u8 ((m.toNat:Nat):Int)] 5::vec 31 1 c_.2.2.2.2 (E.length+1) (E.map BkE.v1++[.slice c_.2.1 (n+1) c_.2.2.1])::row c_.1 #[.int .u8 ((m.toNat:Nat):Int)] 5::vec 31 1 v16 (E.length+1) (E.map BkE.v0++[.slice A n c])::row gb #[v16,c_.2.2.2.2,c2_.2.2.2.2,.slice B3 E.length d3,.slice B4 E.length d4,.slice B5 E.length d5] 44::vec 31 1 (.slice B3 E.length d3) E.length (E.map BkE.v3)::vec 31 1 (.slice B4 E.length d4) E.length (E.map BkE.v4)::vec 5 1 (.slice B5 E.length d5) E.length ((E.map BkE.m).map bv)::manyX X::L)|4=>St F w0 w_ (vec 31 1 c3_.2.2.2.2 (E.length+1) (E.map BkE.v3++[.slice c3_.2.1 (n+3) c3_.2.2.1])::MkB m (.slice A n c) n [((.slice c_.2.1 (n+1) c_.2.2.1:Value),mks m (n+1)),((.slice c2_.2.1 (n+2) c2_.2.2.1:Value),mks m (n+2)),((.slice c3_.2.1 (n+3) c3_.2.2.1:Value),mks m (n+3))]::row c3_.1 #[.int .u8 ((m.toNat:Nat):Int),.int .u8 ((m.toNat:Nat):Int),.int .u8 ((m.toNat:Nat):Int)] 5::vec 31 1 c2_.2.2.2.2 (E.length+1) (E.map BkE.v2++[.slice c2_.2.1 (n+2) c2_.2.2.1])::row c2_.1 #[.int .u8 ((m.toNat:Nat):Int),.int .u8 ((m.toNat:Nat):Int)] 5::vec 31 1 c_.2.2.2.2 (E.length+1) (E.map BkE.v1++[.slice c_.2.1 (n+1) c_.2.2.1])::row c_.1 #[.int .u8 ((m.toNat:Nat):Int)] 5::vec 31 1 v16 (E.length+1) (E.map BkE.v0++[.slice A n c])::row gb #[v16,c_.2.2.2.2,c2_.2.2.2.2,.slice B3 E.length d3,.slice B4 E.length d4,.slice B5 E.length d5] 44::vec 31 1 (.slice B4 E.length d4) E.length (E.map BkE.v4)::vec 5 1 (.slice B5 E.length d5) E.length ((E.map BkE.m).map bv)::manyX X::L)|_=>St F w0 w_ (vec 31 1 c3_.2.2.2.2 (E.length+1) (E.map BkE.v3++[.slice c3_.2.1 (n+3) c3_.2.2.1])::MkB m (.slice A n c) n [((.slice c_.2.1 (n+1) c_.2.2.1:Value),mks m (n+1)),((.slice c2_.2.1 (n+2) c2_.2.2.1:Value),mks m (n+2)),((.slice c3_.2.1 (n+3) c3_.2.2.1:Value),mks m (n+3))]::row c3_.1 #[.int .u8 ((m.toNat:Nat):Int),.int .u8 ((m.toNat:Nat):Int),.int .u8 ((m.toNat:Nat):Int)] 5::vec 31 1 c2_.2.2.2.2 (E.length+1) (E.map BkE.v2++[.slice c2_.2.1 (n+2) c2_.2.2.1])::row c2_.1 #[.int .u8 ((m.toNat:Nat):Int),.int .u8 ((m.toNat:Nat):Int)] 5::vec 31 1 c_.2.2.2.2 (E.length+1) (E.map BkE.v1++[.slice c_.2.1 (n+1) c_.2.2.1])::row c_.1 #[.int .u8 ((m.toNat:Nat):Int)] 5::vec 31 1 v16 (E.length+1) (E.map BkE.v0++[.slice A n c])::row gb #[v16,c_.2.2.2.2,c2_.2.2.2.2,c3_.2.2.2.2,.slice B4 E.length d4,.slice B5 E.length d5] 44::vec 31 1 (.slice B4 E.length d4) E.length (E.map BkE.v4)::vec 5 1 (.slice B5 E.length d5) E.length ((E.map BkE.m).map bv)::manyX X::L):Prop)) (0,none,0,0,undef) kr_ kr_ kr_ kr_ (S95.drew) ?_ ?_ ?_)
    ·intro i_ c3_ p_ vals_ w1 hi_ hiE_ hp_ hk_ hu_ hPh_ hd_
     rcases i_ with _|_|_|_|_|_|_|_|_|_|_|_|_|_|_|_|i_
     ·exact tG_ rfl hd_ (gV (pq gb) ⟨rfl,rfl⟩)
     ·exact tG_ rfl hd_ (gV (pq gb) ⟨rfl,rfl⟩)
     ·exact tG_ rfl hd_ (gV (pq gb) ⟨rfl,rfl⟩)
     ·exact tG_ rfl hd_ (gV (po gb 3) ⟨rfl,rfl⟩)
     ·rcases p_ with _|_|_|_|_|_|p_
      ·have S100:=St.id hPh_
       exact tG_ rfl hd_ (gL (.slice B3 E.length d3) rfl (((S100.blk 6 rfl).cell 3).trans rfl) ⟨rfl,rfl⟩)
      ·have S101:=St.id hPh_
       exact tG_ rfl hd_ (gL (.slice B3 E.length d3) rfl (((S101.blk 7 rfl).cell 3).trans rfl) ⟨rfl,rfl⟩)
      ·have S102:=St.id hPh_
       exact tG_ rfl hd_ (gL (.slice B3 E.length d3) rfl (((S102.blk 7 rfl).cell 3).trans rfl) ⟨rfl,rfl⟩)
      ·have S103:=St.id hPh_
       exact tG_ rfl hd_ (gL (.slice B3 E.length d3) rfl (((S103.blk 8 rfl).cell 3).trans rfl) ⟨rfl,rfl⟩)
      ·exact absurd (hu_ 3 dc_ kr_) dc_
      ·exact absurd (hu_ 3 dc_ kr_) dc_
      ·exact absurd hp_ (by simp)
     ·exact tG_ rfl hd_ (gV (.slice A n c) ⟨rfl,rfl⟩)
     ·exact tG_ rfl hd_ (gV (.int .u8 ((m.toNat:Nat):Int)) ⟨rfl,rfl⟩)
     ·exact tG_ rfl hd_ (gV (.int .u8 ((m.toNat:Nat):Int)) ⟨rfl,rfl⟩)
     ·exact tG_ rfl hd_ (gV (.int .u8 ((m.toNat:Nat):Int)) ⟨rfl,rfl⟩)
     ·exact absurd hiE_ dc_
     ·exact absurd hiE_ dc_
     ·exact absurd hiE_ dc_
     ·exact absurd hiE_ dc_
     ·exact tG_ rfl hd_ (gV (pq gb) ⟨rfl,rfl⟩)
     ·exact tG_ rfl hd_ (gV (po gb 3) ⟨rfl,rfl⟩)
     ·exact absurd hiE_ dc_
     ·exact absurd hi_ om_
    ·intro k_ c3_ vals_ w1 hk_ hPh_ hd_
     rcases k_ with _|_|_|_|_|k_
     ·have S110:=St.id hPh_
      refine tG_ rfl hd_ (gv_slit (e:=5) (sz:=1) (z:=.int .u8 0) (by_:=1) (vs:=#[(0,.int .u8 ((m.toNat:Nat):Int)),(1,.int .u8 ((m.toNat:Nat):Int)),(2,.int .u8 ((m.toNat:Nat):Int))]) (cells:=#[.int .u8 ((m.toNat:Nat):Int),.int .u8 ((m.toNat:Nat):Int),.int .u8 ((m.toNat:Nat):Int)]) S110 rfl kr_ ⟨by kernel_rfl⟩ kr_ kr_ kr_ kr_ (fun g111 w112 hg113 S114=>⟨(g111,c3_.2.1,c3_.2.2.1,c3_.2.2.2.1,c3_.2.2.2.2),rfl, ?_,S114⟩))
      intro i_ hi_ hne_ hdp_
      rcases i_ with _|_|_|_|_|_|_|_|_|_|_|_|_|_|_|_|i_
      ·rfl
      ·rfl
      ·rfl
      ·rfl
      ·rfl
      ·rfl
      ·rfl
      ·rfl
      ·rfl
      ·exact absurd rfl hne_
      ·exact (dep_no hdp_ kr_).elim
      ·exact (dep_no hdp_ kr_).elim
      ·exact (dep_no hdp_ kr_).elim
      ·exact (dep_no hdp_ kr_).elim
      ·exact (dep_no hdp_ kr_).elim
      ·exact (dep_no hdp_ kr_).elim
      ·exact absurd hi_ om_
     ·have S115:=St.id hPh_
      have S120:=St.pm 12 [2,0,1,3,4,5,6,7,8,9,10,11] S115
      refine tG_ rfl hd_ (gv_append_mk (m:=m) (ad:=⟨c3_.1,0,none⟩) (c':=3) (k:=3) S120 rfl kr_ ⟨by kernel_rfl⟩ kr_ kr_ om_ (fun j u hu=>by have hB:=S120.blk 1 rfl;rw [Addr.add_lit,Nat.zero_add,hB.cell];show (((mks m 3).map bv).toArray)[j]?=some u;rw [List.getElem?_toArray];exact hu) om_ (fun A116 c117 w118 S119=> ?_))
      refine ⟨(c3_.1,A116,c117,c3_.2.2.2.1,c3_.2.2.2.2),rfl, ?_,S119⟩
      intro i_ hi_ hne_ hdp_
      rcases i_ with _|_|_|_|_|_|_|_|_|_|_|_|_|_|_|_|i_
      ·rfl
      ·rfl
      ·rfl
      ·rfl
      ·rfl
      ·rfl
      ·rfl
      ·rfl
      ·rfl
      ·rfl
      ·exact absurd rfl hne_
      ·exact (dep_no hdp_ kr_).elim
      ·exact (dep_no hdp_ kr_).elim
      ·exact (dep_no hdp_ kr_).elim
      ·exact (dep_no hdp_ kr_).elim
      ·exact (dep_no hdp_ kr_).elim
      ·exact absurd hi_ om_
     ·have S121:=St.id hPh_
      refine tG_ rfl hd_ (gv_slit (e:=31) (sz:=1) (z:=.slice none 0 0) (by_:=24) (vs:=#[(0,.slice c3_.2.1 (n+3) c3_.2.2.1)]) (cells:=#[.slice c3_.2.1 (n+3) c3_.2.2.1]) S121 rfl kr_ ⟨by kernel_rfl⟩ kr_ kr_ kr_ kr_ (fun g122 w123 hg124 S125=>⟨(c3_.1,c3_.2.1,c3_.2.2.1,g122,c3_.2.2.2.2),rfl, ?_,S125⟩))
      intro i_ hi_ hne_ hdp_
      rcases i_ with _|_|_|_|_|_|_|_|_|_|_|_|_|_|_|_|i_
      ·rfl
      ·rfl
      ·rfl
      ·rfl
      ·rfl
      ·rfl
      ·rfl
      ·rfl
      ·rfl
      ·rfl
      ·rfl
      ·exact absurd rfl hne_
      ·exact (dep_no hdp_ kr_).elim
      ·exact (dep_no hdp_ kr_).elim
      ·exact (dep_no hdp_ kr_).elim
      ·exact (dep_no hdp_ kr_).elim
      ·exact absurd hi_ om_
     ·have S126:=St.id hPh_
      have S127:=St.pm 13 [0,9,1,2,3,4,5,6,7,8,10,11,12] S126
      refine tG_ rfl hd_ (gv_appS (n:=E.length) (gs:=c3_.2.2.2.1) S127 rfl kr_ ⟨by kernel_rfl⟩ kr_ kr_ rfl om_ (fun v128 w129 S130=>⟨(c3_.1,c3_.2.1,c3_.2.2.1,c3_.2.2.2.1,v128),rfl, ?_,S130⟩))
      intro i_ hi_ hne_ hdp_
      rcases i_ with _|_|_|_|_|_|_|_|_|_|_|_|_|_|_|_|i_
      ·rfl
      ·rfl
      ·rfl
      ·rfl
      ·rfl
      ·rfl
      ·rfl
      ·rfl
      ·rfl
      ·rfl
      ·rfl
      ·rfl
      ·exact absurd rfl hne_
      ·exact (dep_no hdp_ kr_).elim
      ·exact (dep_no hdp_ kr_).elim
      ·exact (dep_no hdp_ kr_).elim
      ·exact absurd hi_ om_
     ·have S131:=St.id hPh_
      refine tG_ rfl hd_ (gv_st (k:=3) (v:=c3_.2.2.2.2) S131 8 rfl rfl kr_ kr_ kr_ (vec_one S131 0 rfl) rfl (L':=(vec 31 1 c3_.2.2.2.2 (E.length+1) (E.map BkE.v3++[.slice c3_.2.1 (n+3) c3_.2.2.1])::MkB m (.slice A n c) n [((.slice c_.2.1 (n+1) c_.2.2.1:Value),mks m (n+1)),((.slice c2_.2.1 (n+2) c2_.2.2.1:Value),mks m (n+2)),((.slice c3_.2.1 (n+3) c3_.2.2.1:Value),mks m (n+3))]::row c3_.1 #[.int .u8 ((m.toNat:Nat):Int),.int .u8 ((m.toNat:Nat):Int),.int .u8 ((m.toNat:Nat):Int)] 5::vec 31 1 c2_.2.2.2.2 (E.length+1) (E.map BkE.v2++[.slice c2_.2.1 (n+2) c2_.2.2.1])::row c2_.1 #[.int .u8 ((m.toNat:Nat):Int),.int .u8 ((m.toNat:Nat):Int)] 5::vec 31 1 c_.2.2.2.2 (E.length+1) (E.map BkE.v1++[.slice c_.2.1 (n+1) c_.2.2.1])::row c_.1 #[.int .u8 ((m.toNat:Nat):Int)] 5::vec 31 1 v16 (E.length+1) (E.map BkE.v0++[.slice A n c])::row gb #[v16,c_.2.2.2.2,c2_.2.2.2.2,c3_.2.2.2.2,.slice B4 E.length d4,.slice B5 E.length d5] 44::vec 31 1 (.slice B4 E.length d4) E.length (E.map BkE.v4)::vec 5 1 (.slice B5 E.length d5) E.length ((E.map BkE.m).map bv)::manyX X::L)) rfl (fun w132 S133=>⟨(c3_.1,c3_.2.1,c3_.2.2.1,c3_.2.2.2.1,c3_.2.2.2.2),rfl, ?_,S133⟩))
      intro i_ hi_ hne_ hdp_
      rcases i_ with _|_|_|_|_|_|_|_|_|_|_|_|_|_|_|_|i_
      ·rfl
      ·rfl
      ·rfl
      ·rfl
      ·rfl
      ·rfl
      ·rfl
      ·rfl
      ·rfl
      ·rfl
      ·rfl
      ·rfl
      ·rfl
      ·rfl
      ·rfl
      ·exact absurd rfl hne_
      ·exact absurd hi_ om_
     ·exact absurd hk_ (by simp)
    ·intro c3_ w1 hPh_
     have S134:=St.id hPh_
     refine (wE ?_)
     refine nSR (pv (.slice none 0 0) (wE (nS (wp_block ?_))))
     have S135:St F w0 w1 (vec 5 1 (.slice none 0 0) 0 ((mks m 0).map bv)::vec 31 1 c3_.2.2.2.2 (E.length+1) (E.map BkE.v3++[.slice c3_.2.1 (n+3) c3_.2.2.1])::MkB m (.slice A n c) n [((.slice c_.2.1 (n+1) c_.2.2.1:Value),mks m (n+1)),((.slice c2_.2.1 (n+2) c2_.2.2.1:Value),mks m (n+2)),((.slice c3_.2.1 (n+3) c3_.2.2.1:Value),mks m (n+3))]::row c3_.1 #[.int .u8 ((m.toNat:Nat):Int),.int .u8 ((m.toNat:Nat):Int),.int .u8 ((m.toNat:Nat):Int)] 5::vec 31 1 c2_.2.2.2.2 (E.length+1) (E.map BkE.v2++[.slice c2_.2.1 (n+2) c2_.2.2.1])::row c2_.1 #[.int .u8 ((m.toNat:Nat):Int),.int .u8 ((m.toNat:Nat):Int)] 5::vec 31 1 c_.2.2.2.2 (E.length+1) (E.map BkE.v1++[.slice c_.2.1 (n+1) c_.2.2.1])::row c_.1 #[.int .u8 ((m.toNat:Nat):Int)] 5::vec 31 1 v16 (E.length+1) (E.map BkE.v0++[.slice A n c])::row gb #[v16,c_.2.2.2.2,c2_.2.2.2.2,c3_.2.2.2.2,.slice B4 E.length d4,.slice B5 E.length d5] 44::vec 31 1 (.slice B4 E.length d4) E.length (E.map BkE.v4)::vec 5 1 (.slice B5 E.length d5) E.length ((E.map BkE.m).map bv)::manyX X::L):=St.vec_nil S134
     have S136:St F w0 w1 (MkB m (.slice A n c) n [((.slice c_.2.1 (n+1) c_.2.2.1:Value),mks m (n+1)),((.slice c2_.2.1 (n+2) c2_.2.2.1:Value),mks m (n+2)),((.slice c3_.2.1 (n+3) c3_.2.2.1:Value),mks m (n+3))]::vec 5 1 (.slice none 0 0) 0 ((mks m 0).map bv)::vec 31 1 c3_.2.2.2.2 (E.length+1) (E.map BkE.v3++[.slice c3_.2.1 (n+3) c3_.2.2.1])::row c3_.1 #[.int .u8 ((m.toNat:Nat):Int),.int .u8 ((m.toNat:Nat):Int),.int .u8 ((m.toNat:Nat):Int)] 5::vec 31 1 c2_.2.2.2.2 (E.length+1) (E.map BkE.v2++[.slice c2_.2.1 (n+2) c2_.2.2.1])::row c2_.1 #[.int .u8 ((m.toNat:Nat):Int),.int .u8 ((m.toNat:Nat):Int)] 5::vec 31 1 c_.2.2.2.2 (E.length+1) (E.map BkE.v1++[.slice c_.2.1 (n+1) c_.2.2.1])::row c_.1 #[.int .u8 ((m.toNat:Nat):Int)] 5::vec 31 1 v16 (E.length+1) (E.map BkE.v0++[.slice A n c])::row gb #[v16,c_.2.2.2.2,c2_.2.2.2.2,c3_.2.2.2.2,.slice B4 E.length d4,.slice B5 E.length d5] 44::vec 31 1 (.slice B4 E.length d4) E.length (E.map BkE.v4)::vec 5 1 (.slice B5 E.length d5) E.length ((E.map BkE.m).map bv)::manyX X::L):=St.pm 13 [2,0,1,3,4,5,6,7,8,9,10,11,12] S135
     have S137:St F w0 w1 (vec 5 1 (.slice none 0 0) 0 ((mks m 0).map bv)::MkB m (.slice A n c) n [((.slice c_.2.1 (n+1) c_.2.2.1:Value),mks m (n+1)),((.slice c2_.2.1 (n+2) c2_.2.2.1:Value),mks m (n+2)),((.slice c3_.2.1 (n+3) c3_.2.2.1:Value),mks m (n+3))]::vec 31 1 c3_.2.2.2.2 (E.length+1) (E.map BkE.v3++[.slice c3_.2.1 (n+3) c3_.2.2.1])::row c3_.1 #[.int .u8 ((m.toNat:Nat):Int),.int .u8 ((m.toNat:Nat):Int),.int .u8 ((m.toNat:Nat):Int)] 5::vec 31 1 c2_.2.2.2.2 (E.length+1) (E.map BkE.v2++[.slice c2_.2.1 (n+2) c2_.2.2.1])::row c2_.1 #[.int .u8 ((m.toNat:Nat):Int),.int .u8 ((m.toNat:Nat):Int)] 5::vec 31 1 c_.2.2.2.2 (E.length+1) (E.map BkE.v1++[.slice c_.2.1 (n+1) c_.2.2.1])::row c_.1 #[.int .u8 ((m.toNat:Nat):Int)] 5::vec 31 1 v16 (E.length+1) (E.map BkE.v0++[.slice A n c])::row gb #[v16,c_.2.2.2.2,c2_.2.2.2.2,c3_.2.2.2.2,.slice B4 E.length d4,.slice B5 E.length d5] 44::vec 31 1 (.slice B4 E.length d4) E.length (E.map BkE.v4)::vec 5 1 (.slice B5 E.length d5) E.length ((E.map BkE.m).map bv)::manyX X::L):=St.pm 13 [1,0,2,3,4,5,6,7,8,9,10,11,12] S136
     have S138:St F w0 w1 (vec 5 1 (.slice none 0 0) 0 ((mks m 0).map bv)::MkB m (.slice A n c) n [((.slice c_.2.1 (n+1) c_.2.2.1:Value),mks m (n+1)),((.slice c2_.2.1 (n+2) c2_.2.2.1:Value),mks m (n+2)),((.slice c3_.2.1 (n+3) c3_.2.2.1:Value),mks m (n+3))]::vec 31 1 c3_.2.2.2.2 (E.length+1) (E.map BkE.v3++[.slice c3_.2.1 (n+3) c3_.2.2.1])::vec 31 1 c2_.2.2.2.2 (E.length+1) (E.map BkE.v2++[.slice c2_.2.1 (n+2) c2_.2.2.1])::vec 31 1 c_.2.2.2.2 (E.length+1) (E.map BkE.v1++[.slice c_.2.1 (n+1) c_.2.2.1])::vec 31 1 v16 (E.length+1) (E.map BkE.v0++[.slice A n c])::row gb #[v16,c_.2.2.2.2,c2_.2.2.2.2,c3_.2.2.2.2,.slice B4 E.length d4,.slice B5 E.length d5] 44::vec 31 1 (.slice B4 E.length d4) E.length (E.map BkE.v4)::vec 5 1 (.slice B5 E.length d5) E.length ((E.map BkE.m).map bv)::manyX X::L):=St.pm 13 [0,1,2,4,6,8,9,10,11,12] S137
     refine wp_loop_g (G:=Nat×Option Addr×Nat) (fun (g_:Nat×Option Addr×Nat) (a_:Act) (w_:World)=>∃J:Nat→Value,a_=(fr ([pq gb,.slice A n c,ud,ud,.int .u8 ((m.toNat:Nat):Int),nI_ i,.slice g_.2.1 g_.1 g_.2.2,pq gb,pq gb,pq gb,.slice B0 E.length d0,iv (E.length:Nat),nI_ (N%251),nI_ (N%251+1),.int .u8 ((m.toNat:Nat):Int),nI_ i,.slice A n c,iv (n:Nat),fv]++jR J 19 6++[pq gb,pq gb,pq gb,pq gb,.slice B0 E.length d0,.slice A n c,sl g11 0 1 1,v16,pq gb,pq gb,pq gb,pq gb,pq gb,po gb 1,.slice B1 E.length d1,.slice A n c,.int .u8 ((m.toNat:Nat):Int),sl c_.1 0 1 1,.slice c_.2.1 (n+1) c_.2.2.1,sl c_.2.2.2.1 0 1 1,c_.2.2.2.2,pq gb,po gb 1,pq gb,pq gb,pq gb,po gb 2,.slice B2 E.length d2,.slice A n c,.int .u8 ((m.toNat:Nat):Int),.int .u8 ((m.toNat:Nat):Int),sl c2_.1 0 2 2,.slice c2_.2.1 (n+2) c2_.2.2.1,sl c2_.2.2.2.1 0 1 1,c2_.2.2.2.2,pq gb,po gb 2,pq gb,pq gb,pq gb,po gb 3,.slice B3 E.length d3,.slice A n c,.int .u8 ((m.toNat:Nat):Int),.int .u8 ((m.toNat:Nat):Int),.int .u8 ((m.toNat:Nat):Int),sl c3_.1 0 3 3,.slice c3_.2.1 (n+3) c3_.2.2.1,sl c3_.2.2.2.1 0 1 1,c3_.2.2.2.2,pq gb,po gb 3]++jR J 77 17) 22)∧St F w0 w_ (vec 5 1 (.slice g_.2.1 g_.1 g_.2.2) g_.1 ((mks m g_.1).map bv)::MkB m (.slice A n c) n [((.slice c_.2.1 (n+1) c_.2.2.1:Value),mks m (n+1)),((.slice c2_.2.1 (n+2) c2_.2.2.1:Value),mks m (n+2)),((.slice c3_.2.1 (n+3) c3_.2.2.1:Value),mks m (n+3))]::vec 31 1 c3_.2.2.2.2 (E.length+1) (E.map BkE.v3++[.slice c3_.2.1 (n+3) c3_.2.2.1])::vec 31 1 c2_.2.2.2.2 (E.length+1) (E.map BkE.v2++[.slice c2_.2.1 (n+2) c2_.2.2.1])::vec 31 1 c_.2.2.2.2 (E.length+1) (E.map BkE.v1++[.slice c_.2.1 (n+1) c_.2.2.1])::vec 31 1 v16 (E.length+1) (E.map BkE.v0++[.slice A n c])::row gb #[v16,c_.2.2.2.2,c2_.2.2.2.2,c3_.2.2.2.2,.slice B4 E.length d4,.slice B5 E.length d5] 44::vec 31 1 (.slice B4 E.length d4) E.length (E.map BkE.v4)::vec 5 1 (.slice B5 E.length d5) E.length ((E.map BkE.m).map bv)::manyX X::L)∧(g_.1≤96)) (fun g_=>96-g_.1) (0,none,0) (jE_ ⟨S138,Nat.zero_le _⟩) ?_
     rintro ⟨k,AM,cM⟩ a_ w139 ⟨J,rfl,S140,hk1⟩
     skip
     have S140:St F w0 w139 (vec 5 1 (.slice AM k cM) k ((mks m k).map bv)::MkB m (.slice A n c) n [((.slice c_.2.1 (n+1) c_.2.2.1:Value),mks m (n+1)),((.slice c2_.2.1 (n+2) c2_.2.2.1:Value),mks m (n+2)),((.slice c3_.2.1 (n+3) c3_.2.2.1:Value),mks m (n+3))]::vec 31 1 c3_.2.2.2.2 (E.length+1) (E.map BkE.v3++[.slice c3_.2.1 (n+3) c3_.2.2.1])::vec 31 1 c2_.2.2.2.2 (E.length+1) (E.map BkE.v2++[.slice c2_.2.1 (n+2) c2_.2.2.1])::vec 31 1 c_.2.2.2.2 (E.length+1) (E.map BkE.v1++[.slice c_.2.1 (n+1) c_.2.2.1])::vec 31 1 v16 (E.length+1) (E.map BkE.v0++[.slice A n c])::row gb #[v16,c_.2.2.2.2,c2_.2.2.2.2,c3_.2.2.2.2,.slice B4 E.length d4,.slice B5 E.length d5] 44::vec 31 1 (.slice B4 E.length d4) E.length (E.map BkE.v4)::vec 5 1 (.slice B5 E.length d5) E.length ((E.map BkE.m).map bv)::manyX X::L):=S140
     refine wp_seq (sR (pv (.slice AM k cM) (pv (iv (k:Nat)) (dC (((k:Nat):Int)<96) (fun hb142=> ?_) fun hb142=> ?_))))
     ·refine wE (nCT (kN (wp_block (sR (pv (.slice AM k cM) (pv (.int .u8 ((m.toNat:Nat):Int)) (g_ (gv_slit (e:=5) (sz:=1) (z:=.int .u8 0) (by_:=1) (vs:=#[(0,.int .u8 ((m.toNat:Nat):Int))]) (cells:=#[.int .u8 ((m.toNat:Nat):Int)]) S140 rfl kr_ ⟨by kernel_rfl⟩ kr_ kr_ kr_ kr_ (fun g143 w144 hg145 S146=>g_ (gv_append (e:=5) (sz:=1) (n:=k) (v:=.slice AM k cM) (vals:=(mks m k).map bv) (z:=.int .u8 0) (by_:=1) (m:=1) (c':=1) (ad:=⟨g143,0,none⟩) (news:=[bv m]) (St.swap S146) rfl kr_ ⟨by kernel_rfl⟩ rfl kr_ kr_ dc_ rfl (row_news (S146.blk 0 rfl)) (by intro u hu;simp at hu;subst hu;rfl) om_ om_ (fun v149 w147 S148=> ?_)))))))))))
      obtain ⟨AN,cN,rfl⟩:=St.vecV S148 0 rfl
      have hmk:(mks m k).map bv++[bv m]=(mks m (k+1)).map bv:=by rw [mks_map,mks_map,List.replicate_succ']
      rw [hmk] at S148
      have S8_:St F w0 w147 (vec 5 1 (.slice AN (k+1) cN) (k+1) ((mks m (k+1)).map bv)::row g143 #[.int .u8 ((m.toNat:Nat):Int)] 5::MkB m (.slice A n c) n [((.slice c_.2.1 (n+1) c_.2.2.1:Value),mks m (n+1)),((.slice c2_.2.1 (n+2) c2_.2.2.1:Value),mks m (n+2)),((.slice c3_.2.1 (n+3) c3_.2.2.1:Value),mks m (n+3))]::vec 31 1 c3_.2.2.2.2 (E.length+1) (E.map BkE.v3++[.slice c3_.2.1 (n+3) c3_.2.2.1])::vec 31 1 c2_.2.2.2.2 (E.length+1) (E.map BkE.v2++[.slice c2_.2.1 (n+2) c2_.2.2.1])::vec 31 1 c_.2.2.2.2 (E.length+1) (E.map BkE.v1++[.slice c_.2.1 (n+1) c_.2.2.1])::vec 31 1 v16 (E.length+1) (E.map BkE.v0++[.slice A n c])::row gb #[v16,c_.2.2.2.2,c2_.2.2.2.2,c3_.2.2.2.2,.slice B4 E.length d4,.slice B5 E.length d5] 44::vec 31 1 (.slice B4 E.length d4) E.length (E.map BkE.v4)::vec 5 1 (.slice B5 E.length d5) E.length ((E.map BkE.m).map bv)::manyX X::L):=S148
      refine pv (.slice AN (k+1) cN) (wER ?_)
      obtain ⟨adM,hAdM,hcellM⟩:=St.vec_rd S8_ 0 rfl (by rw [List.length_map,mks_len];omega)
      subst hAdM
      refine pv (.slice A n c) (pv (.slice (some adM) (k+1) cN) ?_)
      have S154:=St.pm 11 [2,0,1,3,4,5,6,7,8,9,10] S8_
      refine g_ (gv_append_mk (m:=m) (ad:=adM) (c':=cN) (k:=(k+1)) S154 rfl kr_ ⟨by kernel_rfl⟩ kr_ kr_ om_ (fun j u hu=>vec_cells S154 1 rfl hu) om_ (fun A150 c151 w152 S153=>pv (iv ((n+(k+1)):Nat)) (pv (.slice A n c) (pv (iv (n:Nat)) (pv (.slice (some adM) (k+1) cN) (pv (iv ((k+1):Nat)) (gI .i64 (IntKind.i64.wrap ((n:Nat)+((k+1):Nat))) ((n+(k+1):Nat):Int) (wr_eq om_ om_ om_) (dN ((n+(k+1)):Nat) ((n+(k+1):Nat):Int) (fun hd155=>False.elim (hd155 rfl)) fun _=>wE (nCF (wp_skip (iN ?_)))))))))))
      have S156:=St.pm 11 [1,0,2,3,4,5,6,7,8,9,10] S153
      have S157:=St.pm 11 [1,0,2,3,4,5,6,7,8,9,10] S156
      have S158:St F w0 w152 (MkB m (.slice A n c) n [((.slice c_.2.1 (n+1) c_.2.2.1:Value),mks m (n+1)),((.slice c2_.2.1 (n+2) c2_.2.2.1:Value),mks m (n+2)),((.slice c3_.2.1 (n+3) c3_.2.2.1:Value),mks m (n+3))]::vec 5 1 (.slice (some adM) (k+1) cN) (k+1) ((mks m (k+1)).map bv)::row g143 #[.int .u8 ((m.toNat:Nat):Int)] 5::vec 31 1 c3_.2.2.2.2 (E.length+1) (E.map BkE.v3++[.slice c3_.2.1 (n+3) c3_.2.2.1])::vec 31 1 c2_.2.2.2.2 (E.length+1) (E.map BkE.v2++[.slice c2_.2.1 (n+2) c2_.2.2.1])::vec 31 1 c_.2.2.2.2 (E.length+1) (E.map BkE.v1++[.slice c_.2.1 (n+1) c_.2.2.1])::vec 31 1 v16 (E.length+1) (E.map BkE.v0++[.slice A n c])::row gb #[v16,c_.2.2.2.2,c2_.2.2.2.2,c3_.2.2.2.2,.slice B4 E.length d4,.slice B5 E.length d5] 44::vec 31 1 (.slice B4 E.length d4) E.length (E.map BkE.v4)::vec 5 1 (.slice B5 E.length d5) E.length ((E.map BkE.m).map bv)::manyX X::L):=St.mk_sub (fun y hy=>by simp only [List.mem_cons,List.not_mem_nil,or_false] at hy ⊢;rcases hy with h|h|h<;>simp [h]) S157
      have S159:=St.pm 11 [1,0,2,3,4,5,6,7,8,9,10] S158
      have S160:=St.pm 11 [0,1,3,4,5,6,7,8,9,10] S159
      exact ⟨(k+1,(some adM),cN),(jE_ ⟨S160,(by show k+1≤96;omega)⟩),(by show 96-(k+1)<96-k;omega)⟩
     ·obtain rfl:k=96:=by omega
      obtain ⟨adM,hAdM,_⟩:=St.vec_rd S140 0 rfl (by rw [List.length_map,mks_len];decide)
      subst hAdM
      refine wE (nCF (wp_exit (then_x (then_x (inb_x (nS (wp_region_phu (γ:=Option Addr×Nat×Nat×Value) 13 [7,8,9,12] (fun (c4_:Option Addr×Nat×Nat×Value) (i_:Nat)=>(match i_ with|0=>pq gb|1=>pq gb|2=>pq gb|3=>po gb 4|4=>.slice B4 E.length d4|5=>.slice A n c|6=>.slice (some adM) 96 cM|7=>.slice c4_.1 (n+96) c4_.2.1|8=>sl c4_.2.2.1 0 1 1|9=>c4_.2.2.2|10=>pq gb|11=>po gb 4|12=>undef|_=>undef:Value)) (fun (c4_:Option Addr×Nat×Nat×Value) (p_:Nat) (w_:World)=>(match p_ with|0=>St F w0 w_ (vec 5 1 (.slice (some adM) 96 cM) 96 ((mks m 96).map bv)::MkB m (.slice A n c) n [((.slice c_.2.1 (n+1) c_.2.2.1:Value),mks m (n+1)),((.slice c2_.2.1 (n+2) c2_.2.2.1:Value),mks m (n+2)),((.slice c3_.2.1 (n+3) c3_.2.2.1:Value),mks m (n+3))]::vec 31 1 c3_.2.2.2.2 (E.length+1) (E.map BkE.v3++[.slice c3_.2.1 (n+3) c3_.2.2.1])::vec 31 1 c2_.2.2.2.2 (E.length+1) (E.map BkE.v2++[.slice c2_.2.1 (n+2) c2_.2.2.1])::vec 31 1 c_.2.2.2.2 (E.length+1) (E.map BkE.v1++[.slice c_.2.1 (n+1) c_.2.2.1])::vec 31 1 v16 (E.length+1) (E.map BkE.v0++[.slice A n c])::row gb #[v16,c_.2.2.2.2,c2_.2.2.2.2,c3_.2.2.2.2,.slice B4 E.length d4,.slice B5 E.length d5] 44::vec 31 1 (.slice B4 E.length d4) E.length (E.map BkE.v4)::vec 5 1 (.slice B5 E.length d5) E.length ((E.map BkE.m).map bv)::manyX X::L)|1=>St F w0 w_ (MkB m (.slice A n c) n [((.slice c_.2.1 (n+1) c_.2.2.1:Value),mks m (n+1)),((.slice c2_.2.1 (n+2) c2_.2.2.1:Value),mks m (n+2)),((.slice c3_.2.1 (n+3) c3_.2.2.1:Value),mks m (n+3)),((.slice c4_.1 (n+96) c4_.2.1:Value),mks m (n+96))]::vec 5 1 (.slice (some adM) 96 cM) 96 ((mks m 96).map bv)::vec 31 1 c3_.2.2.2.2 (E.length+1) (E.map BkE.v3++[.slice c3_.2.1 (n+3) c3_.2.2.1])::vec 31 1 c2_.2.2.2.2 (E.length+1) (E.map BkE.v2++[.slice c2_.2.1 (n+2) c2_.2.2.1])::vec 31 1 c_.2.2.2.2 (E.length+1) (E.map BkE.v1++[.slice c_.2.1 (n+1) c_.2.2.1])::vec 31 1 v16 (E.length+1) (E.map BkE.v0++[.slice A n c])::row gb #[v16,c_.2.2.2.2,c2_.2.2.2.2,c3_.2.2.2.2,.slice B4 E.length d4,.slice B5 E.length d5] 44::vec 31 1 (.slice B4 E.length d4) E.length (E.map BkE.v4)::vec 5 1 (.slice B5 E.length d5) E.length ((E.map BkE.m).map bv)::manyX X::L)|2=>St F w0 w_ (row c4_.2.2.1 #[.slice c4_.1 (n+96) c4_.2.1] 31::MkB m (.slice A n c) n [((.slice c_.2.1 (n+1) c_.2.2.1:Value),mks m (n+1)),((.slice c2_.2.1 (n+2) c2_.2.2.1:Value),mks m (n+2)),((.slice c3_.2.1 (n+3) c3_.2.2.1:Value),mks m (n+3)),((.slice c4_.1 (n+96) c4_.2.1:Value),mks m (n+96))]::vec 5 1 (.slice (some adM) 96 cM) 96 ((mks m 96).map bv)::vec 31 1 c3_.2.2.2.2 (E.length+1) (E.map BkE.v3++[.slice c3_.2.1 (n+3) c3_.2.2.1])::vec 31 1 c2_.2.2.2.2 (E.length+1) (E.map BkE.v2++[.slice c2_.2.1 (n+2) c2_.2.2.1])::vec 31 1 c_.2.2.2.2 (E.length+1) (E.map BkE.v1++[.slice c_.2.1 (n+1) c_.2.2.1])::vec 31 1 v16 (E.length+1) (E.map BkE.v0++[.slice A n c])::row gb #[v16,c_.2.2.2.2,c2_.2.2.2.2,c3_.2.2.2.2,.slice B4 E.length d4,.slice B5 E.length d5] 44::vec 31 1 (.slice B4 E.length d4) E.length (E.map BkE.v4)::vec 5 1 (.slice B5 E.length d5) E.length ((E.map BkE.m).map bv)::manyX X::L)|3=>St F w0 w_ (vec 31 1 c4_.2.2.2 (E.length+1) (E.map BkE.v4++[.slice c4_.1 (n+96) c4_.2.1])::MkB m (.slice A n c) n [((.slice c_.2.1 (n+1) c_.2.2.1:Value),mks m (n+1)),((.slice c2_.2.1 (n+2) c2_.2.2.1:Value),mks m (n+2)),((.slice c3_.2.1 (n+3) c3_.2.2.1:Value),mks m (n+3)),((.slice c4_.1 (n+96) c4_.2.1:Value),mks m (n+96))]::vec 5 1 (.slice (some adM) 96 cM) 96 ((mks m 96).map bv)::vec 31 1 c3_.2.2.2.2 (E.length+1) (E.map BkE.v3++[.slice c3_.2.1 (n+3) c3_.2.2.1])::vec 31 1 c2_.2.2.2.2 (E.length+1) (E.map BkE.v2++[.slice c2_.2.1 (n+2) c2_.2.2.1])::vec 31 1 c_.2.2.2.2 (E.length+1) (E.map BkE.v1++[.slice c_.2.1 (n+1) c_.2.2.1])::vec 31 1 v16 (E.length+1) (E.map BkE.v0++[.slice A n c])::row gb #[v16,c_.2.2.2.2,c2_.2.2.2.2,c3_.2.2.2.2,.slice B4 E.length d4,.slice B5 E.length d5] 44::vec 5 1 (.slice B5 E.length d5) E.length ((E.map BkE.m).map bv)::manyX X::L)|_=>St F w0 w_ (vec 31 1 c4_.2.2.2 (E.length+1) (E.map BkE.v4++[.slice c4_.1 (n+96) c4_.2.1])::MkB m (.slice A n c) n [((.slice c_.2.1 (n+1) c_.2.2.1:Value),mks m (n+1)),((.slice c2_.2.1 (n+2) c2_.2.2.1:Value),mks m (n+2)),((.slice c3_.2.1 (n+3) c3_.2.2.1:Value),mks m (n+3)),((.slice c4_.1 (n+96) c4_.2.1:Value),mks m (n+96))]::vec 5 1 (.slice (some adM) 96 cM) 96 ((mks m 96).map bv)::vec 31 1 c3_.2.2.2.2 (E.length+1) (E.map BkE.v3++[.slice c3_.2.1 (n+3) c3_.2.2.1])::vec 31 1 c2_.2.2.2.2 (E.length+1) (E.map BkE.v2++[.slice c2_.2.1 (n+2) c2_.2.2.1])::vec 31 1 c_.2.2.2.2 (E.length+1) (E.map BkE.v1++[.slice c_.2.1 (n+1) c_.2.2.1])::vec 31 1 v16 (E.length+1) (E.map BkE.v0++[.slice A n c])::row gb #[v16,c_.2.2.2.2,c2_.2.2.2.2,c3_.2.2.2.2,c4_.2.2.2,.slice B5 E.length d5] 44::vec 5 1 (.slice B5 E.length d5) E.length ((E.map BkE.m).map bv)::manyX X::L):Prop)) (none,0,0,undef) kr_ kr_ kr_ kr_ (S140.drew) ?_ ?_ ?_)))))))
      ·intro i_ c4_ p_ vals_ w1 hi_ hiE_ hp_ hk_ hu_ hPh_ hd_
       rcases i_ with _|_|_|_|_|_|_|_|_|_|_|_|_|i_
       ·exact tG_ rfl hd_ (gV (pq gb) ⟨rfl,rfl⟩)
       ·exact tG_ rfl hd_ (gV (pq gb) ⟨rfl,rfl⟩)
       ·exact tG_ rfl hd_ (gV (pq gb) ⟨rfl,rfl⟩)
       ·exact tG_ rfl hd_ (gV (po gb 4) ⟨rfl,rfl⟩)
       ·rcases p_ with _|_|_|_|_|p_
        ·have S165:=St.id hPh_
         exact tG_ rfl hd_ (gL (.slice B4 E.length d4) rfl (((S165.blk 6 rfl).cell 4).trans rfl) ⟨rfl,rfl⟩)
        ·have S166:=St.id hPh_
         exact tG_ rfl hd_ (gL (.slice B4 E.length d4) rfl (((S166.blk 6 rfl).cell 4).trans rfl) ⟨rfl,rfl⟩)
        ·have S167:=St.id hPh_
         exact tG_ rfl hd_ (gL (.slice B4 E.length d4) rfl (((S167.blk 7 rfl).cell 4).trans rfl) ⟨rfl,rfl⟩)
        ·exact absurd (hu_ 2 dc_ kr_) dc_
        ·exact absurd (hu_ 2 dc_ kr_) dc_
        ·exact absurd hp_ (by simp)
       ·exact tG_ rfl hd_ (gV (.slice A n c) ⟨rfl,rfl⟩)
       ·exact tG_ rfl hd_ (gV (.slice (some adM) 96 cM) ⟨rfl,rfl⟩)
       ·exact absurd hiE_ dc_
       ·exact absurd hiE_ dc_
       ·exact absurd hiE_ dc_
       ·exact tG_ rfl hd_ (gV (pq gb) ⟨rfl,rfl⟩)
       ·exact tG_ rfl hd_ (gV (po gb 4) ⟨rfl,rfl⟩)
       ·exact absurd hiE_ dc_
       ·exact absurd hi_ om_
      ·intro k_ c4_ vals_ w1 hk_ hPh_ hd_
       rcases k_ with _|_|_|_|k_
       ·have S172:=St.id hPh_
        have S177:=St.pm 10 [1,0,2,3,4,5,6,7,8,9] S172
        refine tG_ rfl hd_ (gv_append_mk (m:=m) (ad:=adM) (c':=cM) (k:=96) S177 rfl kr_ ⟨by kernel_rfl⟩ kr_ kr_ om_ (fun j u hu=>vec_cells S177 1 rfl hu) om_ (fun A173 c174 w175 S176=>⟨(A173,c174,c4_.2.2.1,c4_.2.2.2),rfl, ?_,S176⟩))
        intro i_ hi_ hne_ hdp_
        rcases i_ with _|_|_|_|_|_|_|_|_|_|_|_|_|i_
        ·rfl
        ·rfl
        ·rfl
        ·rfl
        ·rfl
        ·rfl
        ·rfl
        ·exact absurd rfl hne_
        ·exact (dep_no hdp_ kr_).elim
        ·exact (dep_no hdp_ kr_).elim
        ·exact (dep_no hdp_ kr_).elim
        ·exact (dep_no hdp_ kr_).elim
        ·exact (dep_no hdp_ kr_).elim
        ·exact absurd hi_ om_
       ·have S178:=St.id hPh_
        refine tG_ rfl hd_ (gv_slit (e:=31) (sz:=1) (z:=.slice none 0 0) (by_:=24) (vs:=#[(0,.slice c4_.1 (n+96) c4_.2.1)]) (cells:=#[.slice c4_.1 (n+96) c4_.2.1]) S178 rfl kr_ ⟨by kernel_rfl⟩ kr_ kr_ kr_ kr_ (fun g179 w180 hg181 S182=>⟨(c4_.1,c4_.2.1,g179,c4_.2.2.2),rfl, ?_,S182⟩))
        intro i_ hi_ hne_ hdp_
        rcases i_ with _|_|_|_|_|_|_|_|_|_|_|_|_|i_
        ·rfl
        ·rfl
        ·rfl
        ·rfl
        ·rfl
        ·rfl
        ·rfl
        ·rfl
        ·exact absurd rfl hne_
        ·exact (dep_no hdp_ kr_).elim
        ·exact (dep_no hdp_ kr_).elim
        ·exact (dep_no hdp_ kr_).elim
        ·exact (dep_no hdp_ kr_).elim
        ·exact absurd hi_ om_
       ·have S183:=St.id hPh_
        have S184:=St.pm 11 [0,8,1,2,3,4,5,6,7,9,10] S183
        refine tG_ rfl hd_ (gv_appS (n:=E.length) (gs:=c4_.2.2.1) S184 rfl kr_ ⟨by kernel_rfl⟩ kr_ kr_ rfl om_ (fun v185 w186 S187=>⟨(c4_.1,c4_.2.1,c4_.2.2.1,v185),rfl, ?_,S187⟩))
        intro i_ hi_ hne_ hdp_
        rcases i_ with _|_|_|_|_|_|_|_|_|_|_|_|_|i_
        ·rfl
        ·rfl
        ·rfl
        ·rfl
        ·rfl
        ·rfl
        ·rfl
        ·rfl
        ·rfl
        ·exact absurd rfl hne_
        ·exact (dep_no hdp_ kr_).elim
        ·exact (dep_no hdp_ kr_).elim
        ·exact (dep_no hdp_ kr_).elim
        ·exact absurd hi_ om_
       ·have S188:=St.id hPh_
        refine tG_ rfl hd_ (gv_st (k:=4) (v:=c4_.2.2.2) S188 7 rfl rfl kr_ kr_ kr_ (vec_one S188 0 rfl) rfl (L':=(vec 31 1 c4_.2.2.2 (E.length+1) (E.map BkE.v4++[.slice c4_.1 (n+96) c4_.2.1])::MkB m (.slice A n c) n [((.slice c_.2.1 (n+1) c_.2.2.1:Value),mks m (n+1)),((.slice c2_.2.1 (n+2) c2_.2.2.1:Value),mks m (n+2)),((.slice c3_.2.1 (n+3) c3_.2.2.1:Value),mks m (n+3)),((.slice c4_.1 (n+96) c4_.2.1:Value),mks m (n+96))]::vec 5 1 (.slice (some adM) 96 cM) 96 ((mks m 96).map bv)::vec 31 1 c3_.2.2.2.2 (E.length+1) (E.map BkE.v3++[.slice c3_.2.1 (n+3) c3_.2.2.1])::vec 31 1 c2_.2.2.2.2 (E.length+1) (E.map BkE.v2++[.slice c2_.2.1 (n+2) c2_.2.2.1])::vec 31 1 c_.2.2.2.2 (E.length+1) (E.map BkE.v1++[.slice c_.2.1 (n+1) c_.2.2.1])::vec 31 1 v16 (E.length+1) (E.map BkE.v0++[.slice A n c])::row gb #[v16,c_.2.2.2.2,c2_.2.2.2.2,c3_.2.2.2.2,c4_.2.2.2,.slice B5 E.length d5] 44::vec 5 1 (.slice B5 E.length d5) E.length ((E.map BkE.m).map bv)::manyX X::L)) rfl (fun w189 S190=>⟨(c4_.1,c4_.2.1,c4_.2.2.1,c4_.2.2.2),rfl, ?_,S190⟩))
        intro i_ hi_ hne_ hdp_
        rcases i_ with _|_|_|_|_|_|_|_|_|_|_|_|_|i_
        ·rfl
        ·rfl
        ·rfl
        ·rfl
        ·rfl
        ·rfl
        ·rfl
        ·rfl
        ·rfl
        ·rfl
        ·rfl
        ·rfl
        ·exact absurd rfl hne_
        ·exact absurd hi_ om_
       ·exact absurd hk_ (by simp)
      ·intro c4_ w1 hPh_
       have S191:=St.id hPh_
       refine (wE ?_)
       refine nR (pv (pq gb) (pv (pq gb) (pv (pq gb) (pv (po gb 5) (lR (.slice B5 E.length d5) S191 7 5 (pv (.int .u8 ((m.toNat:Nat):Int)) (g_ (gv_slit (e:=5) (sz:=1) (z:=.int .u8 0) (by_:=1) (vs:=#[(0,.int .u8 ((m.toNat:Nat):Int))]) (cells:=#[.int .u8 ((m.toNat:Nat):Int)]) S191 rfl kr_ ⟨by kernel_rfl⟩ kr_ kr_ kr_ kr_ (fun g192 w193 hg194 S195=> ?_)))))))))
       have S196:=St.pm 11 [0,9,1,2,3,4,5,6,7,8,10] S195
       refine g_ (gv_append (e:=5) (sz:=1) (n:=E.length) (v:=(.slice B5 E.length d5)) (vals:=((E.map BkE.m).map bv)) (z:=.int .u8 0) (by_:=1) (m:=1) (c':=1) (ad:=⟨g192,0,none⟩) (news:=[.int .u8 ((m.toNat:Nat):Int)]) (St.swap S196) rfl kr_ ⟨by kernel_rfl⟩ rfl kr_ kr_ dc_ rfl (row_news (S196.blk 0 rfl)) (by intro u hu;simp at hu;subst hu;rfl) om_ om_ (fun v198 w197 S199=>pv (pq gb) (pv (po gb 5) (g_ (gv_st (k:=5) (v:=v198) S199 9 rfl rfl kr_ kr_ kr_ (vec_one S199 0 rfl) rfl (L':=(vec 5 1 v198 (E.length+1) ((E.map BkE.m).map bv++[.int .u8 ((m.toNat:Nat):Int)])::row g192 #[.int .u8 ((m.toNat:Nat):Int)] 5::vec 31 1 c4_.2.2.2 (E.length+1) (E.map BkE.v4++[.slice c4_.1 (n+96) c4_.2.1])::MkB m (.slice A n c) n [((.slice c_.2.1 (n+1) c_.2.2.1:Value),mks m (n+1)),((.slice c2_.2.1 (n+2) c2_.2.2.1:Value),mks m (n+2)),((.slice c3_.2.1 (n+3) c3_.2.2.1:Value),mks m (n+3)),((.slice c4_.1 (n+96) c4_.2.1:Value),mks m (n+96))]::vec 5 1 (.slice (some adM) 96 cM) 96 ((mks m 96).map bv)::vec 31 1 c3_.2.2.2.2 (E.length+1) (E.map BkE.v3++[.slice c3_.2.1 (n+3) c3_.2.2.1])::vec 31 1 c2_.2.2.2.2 (E.length+1) (E.map BkE.v2++[.slice c2_.2.1 (n+2) c2_.2.2.1])::vec 31 1 c_.2.2.2.2 (E.length+1) (E.map BkE.v1++[.slice c_.2.1 (n+1) c_.2.2.1])::vec 31 1 v16 (E.length+1) (E.map BkE.v0++[.slice A n c])::row gb #[v16,c_.2.2.2.2,c2_.2.2.2.2,c3_.2.2.2.2,c4_.2.2.2,v198] 44::manyX X::L)) rfl (fun w200 S201=> ?_))))))
       refine wE (bodyPost_end (v:=.tuple #[]) (results_none rfl _ _ _) rfl ?_)
       have S202:=St.pm 11 [3,10,9,8,7,6,5,2,0] S201
       have S203:St F w0 w200 (manyX (((.slice A n c:Value),mks m n)::[((.slice c_.2.1 (n+1) c_.2.2.1:Value),mks m (n+1)),((.slice c2_.2.1 (n+2) c2_.2.2.1:Value),mks m (n+2)),((.slice c3_.2.1 (n+3) c3_.2.2.1:Value),mks m (n+3)),((.slice c4_.1 (n+96) c4_.2.1:Value),mks m (n+96))])::manyX X::row gb #[v16,c_.2.2.2.2,c2_.2.2.2.2,c3_.2.2.2.2,c4_.2.2.2,v198] 44::vec 31 1 v16 (E.length+1) (E.map BkE.v0++[.slice A n c])::vec 31 1 c_.2.2.2.2 (E.length+1) (E.map BkE.v1++[.slice c_.2.1 (n+1) c_.2.2.1])::vec 31 1 c2_.2.2.2.2 (E.length+1) (E.map BkE.v2++[.slice c2_.2.1 (n+2) c2_.2.2.1])::vec 31 1 c3_.2.2.2.2 (E.length+1) (E.map BkE.v3++[.slice c3_.2.1 (n+3) c3_.2.2.1])::vec 31 1 c4_.2.2.2 (E.length+1) (E.map BkE.v4++[.slice c4_.1 (n+96) c4_.2.1])::vec 5 1 v198 (E.length+1) ((E.map BkE.m).map bv++[.int .u8 ((m.toNat:Nat):Int)])::L):=St.mk_freeze S202
       have S204:St F w0 w200 (manyX ((((.slice A n c:Value),mks m n)::[((.slice c_.2.1 (n+1) c_.2.2.1:Value),mks m (n+1)),((.slice c2_.2.1 (n+2) c2_.2.2.1:Value),mks m (n+2)),((.slice c3_.2.1 (n+3) c3_.2.2.1:Value),mks m (n+3)),((.slice c4_.1 (n+96) c4_.2.1:Value),mks m (n+96))])++X)::row gb #[v16,c_.2.2.2.2,c2_.2.2.2.2,c3_.2.2.2.2,c4_.2.2.2,v198] 44::vec 31 1 v16 (E.length+1) (E.map BkE.v0++[.slice A n c])::vec 31 1 c_.2.2.2.2 (E.length+1) (E.map BkE.v1++[.slice c_.2.1 (n+1) c_.2.2.1])::vec 31 1 c2_.2.2.2.2 (E.length+1) (E.map BkE.v2++[.slice c2_.2.1 (n+2) c2_.2.2.1])::vec 31 1 c3_.2.2.2.2 (E.length+1) (E.map BkE.v3++[.slice c3_.2.1 (n+3) c3_.2.2.1])::vec 31 1 c4_.2.2.2 (E.length+1) (E.map BkE.v4++[.slice c4_.1 (n+96) c4_.2.1])::vec 5 1 v198 (E.length+1) ((E.map BkE.m).map bv++[.int .u8 ((m.toNat:Nat):Int)])::L):=St.many_join S203
       have S205:=St.pm 8 [1,2,3,4,5,6,7,0] S204
       have hmb:∀e∈E++[(⟨.slice A n c,.slice c_.2.1 (n+1) c_.2.2.1,.slice c2_.2.1 (n+2) c2_.2.2.1,.slice c3_.2.1 (n+3) c3_.2.2.1,.slice c4_.1 (n+96) c4_.2.1,n,m⟩:BkE)],e.Ok ((((.slice A n c:Value),mks m n)::[((.slice c_.2.1 (n+1) c_.2.2.1:Value),mks m (n+1)),((.slice c2_.2.1 (n+2) c2_.2.2.1:Value),mks m (n+2)),((.slice c3_.2.1 (n+3) c3_.2.2.1:Value),mks m (n+3)),((.slice c4_.1 (n+96) c4_.2.1:Value),mks m (n+96))])++X):=fun e he=>by
               rcases List.mem_append.1 he with q|q
               ·exact (hall e q).mono fun x hx=>List.mem_append_right _ hx
               ·rw [List.mem_singleton.1 q];exact ⟨by simp,by simp,by simp,by simp,by simp,hn⟩
       refine ⟨rfl,St.bkc (p:=⟨v16,c_.2.2.2.2,c2_.2.2.2.2,c3_.2.2.2.2,c4_.2.2.2,v198,E++[(⟨.slice A n c,.slice c_.2.1 (n+1) c_.2.2.1,.slice c2_.2.1 (n+2) c2_.2.2.1,.slice c3_.2.1 (n+3) c3_.2.2.1,.slice c4_.1 (n+96) c4_.2.1,n,m⟩:BkE)],(((.slice A n c:Value),mks m n)::[((.slice c_.2.1 (n+1) c_.2.2.1:Value),mks m (n+1)),((.slice c2_.2.1 (n+2) c2_.2.2.1:Value),mks m (n+2)),((.slice c3_.2.1 (n+3) c3_.2.2.1:Value),mks m (n+3)),((.slice c4_.1 (n+96) c4_.2.1:Value),mks m (n+96))])++X⟩) ⟨by rw [List.length_append,List.length_singleton,hlN],hmb⟩ ?_⟩
       unfold BKP.parts
       simp only [List.map_append,List.map_cons,List.map_nil,List.length_append,List.length_singleton]
       exact S205
section
variable {F:Nat→Prop} {w0 w:World} {L:List Ast}
theorem St.book0 {gb:Nat}(S:St F w0 w (row gb #[.slice none 0 0,.slice none 0 0,.slice none 0 0,.slice none 0 0,.slice none 0 0,.slice none 0 0] 44::L)):St F w0 w (PBook gb 0::L):=by
 have v:=fun (e:TypeId) (L':List Ast) (S':St F w0 w L')=>St.vec_nil (e:=e) (sz:=1) S'
 have S1:=v 31 _ (v 31 _ (v 31 _ (v 31 _ (v 31 _ (v 5 _ (St.many0 S))))))
 have S2:=St.permT [_,_,_,_,_,_,_,_] [7,0,1,2,3,4,5,6] dc_ rfl S1
 exact St.bkc (p:=⟨.slice none 0 0,.slice none 0 0,.slice none 0 0,.slice none 0 0,.slice none 0 0,.slice none 0 0,[],[]⟩) ⟨rfl,fun e he=>by cases he⟩ S2
theorem St.kept0 {gk:Nat}(S:St F w0 w (row gk #[.slice none 0 0,.slice none 0 0] 47::L)):St F w0 w (PKept gk []::L):=by
 have S1:=St.vec_nil (e:=31) (sz:=1) (St.vec_nil (e:=31) (sz:=1) (St.star (LA:=[]) (St.many0 S)))
 have S2:=St.permT [_,_,_,_,_] [4,0,1,2,3] dc_ rfl S1
 exact St.kpc (p:=⟨.slice none 0 0,.slice none 0 0,0,fun _=>undef,fun _=>undef,fun _=>[]⟩) ⟨rfl,fun i hi=>by cases hi⟩ S2
theorem St.flat_small {g:Nat}{s:Dsk}(S:St F w0 w (PDisk g s::L)):s.last.flatten.length≤1048576:=by
 obtain ⟨h5,h2⟩:=Big.St.pd_small S
 rw [flat_len h5];omega
structure OpK where
 kind:Int
 at_:Int
 A:Option Addr
 d:List UInt8
 cd:Nat
 A2:Option Addr
 ps:List Pick
 cp:Nat
def OpK.cells (o:OpK):List Value:=[.int .i64 o.kind,.int .i64 o.at_,.slice o.A o.d.length o.cd,.slice o.A2 o.ps.length o.cp]
def opkV (l:List OpK):List Value:=l.flatMap OpK.cells
theorem length_opkV (l:List OpK):(opkV l).length=l.length*4:=by
 induction l with
 |nil=>rfl
 |cons p r ih=>simp [opkV,OpK.cells] at ih ⊢;omega
theorem opkV_at:∀(l:List OpK) (i:Nat) (p:OpK),l[i]?=some p→∀j u,p.cells[j]?=some u→(opkV l)[i*4+j]?=some u
 |[],i,p,h,_,_,_=>by simp at h
 |q::r,0,p,h,j,u,hu=>by
  simp at h;subst h
  have:=(List.getElem?_eq_some_iff.1 hu).1
  show ((q.cells++opkV r))[0*4+j]?=some u
  rw [List.getElem?_append_left om_];simpa using hu
 |q::r,i+1,p,h,j,u,hu=>by
  have ih:=opkV_at r i p (by simpa using h) j u hu
  show ((q.cells++opkV r))[(i+1)*4+j]?=some u
  rw [List.getElem?_append_right (by simp [OpK.cells];omega)]
  simpa [OpK.cells,show (i+1)*4+j-4=i*4+j from by omega] using ih
structure OpK.Ok (w:World)(o:OpK):Prop where
 d:RdB w o.A o.d
 p:RdV w o.A2 (picksV o.ps)
 dm:o.d.length≤140737488351232
 pm:o.ps.length*24≤140737488351232
 hat:o.at_≤9223372036854775807
theorem diskBook_odd (w:World){A A3:Option Addr}{l:List UInt8}{ca c3:Nat}{ops:List OpK}(hr:RdB w A l)(hlm:l.length≤140737488351232)(hca:l.length≤ca)(hs:RdV w A3 (opkV ops))(hsm:ops.length≤2199023255488)(hok:∀o∈ops,o.Ok w)(ho:l.length%512≠0):Calls Try.prog 4 #[.slice A l.length ca,.slice A3 ops.length c3] w fun e w'=>e=.returned (.bool true)∧Below w.heap.size w w':=by
 have S0:St none' w w []:=St.init none' w
 have hR:∀L,RoT none' w L A l:=fun L=>(Ro.of_C hr (fun _ h=>h)).T
 refine eN (fr [.slice A l.length ca,.slice A3 ops.length c3] 253) Try.func4 rfl (sR (pv fv (wER (pv (.slice A l.length ca) (sP1 Try.func19 #[.slice A l.length ca] (w_hand S0 (hR _) hlm) fun g1 w2 S3=>pv (sl g1 0 l.length (l.length+3)) (wER (pv (sl g1 0 l.length (l.length+3)) (sP Try.func20 #[sl g1 0 l.length (l.length+3)] (pd_load_odd S3 (RoT.item (B:=l++[171,171,171]) 0 rfl 0 l.length l (by rw [List.drop_zero,List.take_append_of_le_length (Nat.le_refl _),List.take_length])) om_ ho) fun w4 S5=>pv (.tuple #[pn,iv 2]) (pv pn (pv (iv 2) (pv pn ?_)))))))))))
 refine pv (iv 2) (wER (pv (.slice A l.length ca) (sP Try.func21 #[.slice A l.length ca] (rd_load_odd S5 (hR _) om_ ho) fun w6 S7=>pv (.tuple #[pn,iv 2]) (pv pn (pv (iv 2) (pv pn (pv (iv 2) (wE (nS (sR (pv (iv 2) (pv (iv 2) ?_))))))))))))
 refine dN 2 2 (fun hd8=>False.elim (hd8 rfl)) fun _=>pv fv (pW pn (pW (.bool true) (pW pn (pW (.bool true) (pW (.bool false) (pv fv (wE (nCF (wp_skip (nSR (pv (sl g1 0 l.length (l.length+3)) (pv (.slice A l.length ca) ?_))))))))))))
 refine sP Try.func22 #[sl g1 0 l.length (l.length+3),.slice A l.length ca] (w_back S7 (hR _) hlm) fun w9 S10=>pv tv (wE (nS (sR (pv tv (pv fv (wE (nCF (wp_skip (nS (sR (pv pn (pv tv ?_))))))))))))
 exact pv tv (wN (wN (pv tv (wE (nCT (sR (pv tv (wE (then_n (rR (bA (.bool true) ⟨rfl,S10.fr.below⟩)))))))))))
theorem diskBook_bad (w:World){A A3:Option Addr}{l:List UInt8}{ca c3:Nat}{ops:List OpK}(hr:RdB w A l)(hlm:l.length≤140737488351232)(hca:l.length≤ca)(hs:RdV w A3 (opkV ops))(hsm:ops.length≤2199023255488)(hok:∀o∈ops,o.Ok w)(ho:l.length%512=0)(hb:l.length/512<1∨2048<l.length/512):Calls Try.prog 4 #[.slice A l.length ca,.slice A3 ops.length c3] w fun e w'=>e=.returned (.bool true)∧Below w.heap.size w w':=by
 have S0:St none' w w []:=St.init none' w
 have hR:∀L,RoT none' w L A l:=fun L=>(Ro.of_C hr (fun _ h=>h)).T
 refine eN (fr [.slice A l.length ca,.slice A3 ops.length c3] 253) Try.func4 rfl (sR (pv fv (wER (pv (.slice A l.length ca) (sP1 Try.func19 #[.slice A l.length ca] (w_hand S0 (hR _) hlm) fun g1 w2 S3=>pv (sl g1 0 l.length (l.length+3)) (wER (pv (sl g1 0 l.length (l.length+3)) (sP Try.func20 #[sl g1 0 l.length (l.length+3)] (pd_load_bad S3 (RoT.item (B:=l++[171,171,171]) 0 rfl 0 l.length l (by rw [List.drop_zero,List.take_append_of_le_length (Nat.le_refl _),List.take_length])) om_ ho hb) fun w4 S5=>pv (.tuple #[pn,iv 10]) (pv pn (pv (iv 10) (pv pn ?_)))))))))))
 refine pv (iv 10) (wER (pv (.slice A l.length ca) (sP Try.func21 #[.slice A l.length ca] (rd_load_bad S5 (hR _) om_ ho hb) fun w6 S7=>pv (.tuple #[pn,iv 10]) (pv pn (pv (iv 10) (pv pn (pv (iv 10) (wE (nS (sR (pv (iv 10) (pv (iv 10) ?_))))))))))))
 refine dN 10 10 (fun hd8=>False.elim (hd8 rfl)) fun _=>pv fv (pW pn (pW (.bool true) (pW pn (pW (.bool true) (pW (.bool false) (pv fv (wE (nCF (wp_skip (nSR (pv (sl g1 0 l.length (l.length+3)) (pv (.slice A l.length ca) ?_))))))))))))
 refine sP Try.func22 #[sl g1 0 l.length (l.length+3),.slice A l.length ca] (w_back S7 (hR _) hlm) fun w9 S10=>pv tv (wE (nS (sR (pv tv (pv fv (wE (nCF (wp_skip (nS (sR (pv pn (pv tv ?_))))))))))))
 exact pv tv (wN (wN (pv tv (wE (nCT (sR (pv tv (wE (then_n (rR (bA (.bool true) ⟨rfl,S10.fr.below⟩)))))))))))
theorem diskBook_good (w:World){A A3:Option Addr}{l:List UInt8}{ca c3:Nat}{ops:List OpK}(hr:RdB w A l)(hlm:l.length≤140737488351232)(hca:l.length≤ca)(hs:RdV w A3 (opkV ops))(hsm:ops.length≤2199023255488)(hok:∀o∈ops,o.Ok w){m:Nat}(ho:l.length=512*m)(h1:1≤m)(h2:m≤2048):Calls Try.prog 4 #[.slice A l.length ca,.slice A3 ops.length c3] w fun e w'=>e=.returned (.bool true)∧Below w.heap.size w w':=by
 have S0:St none' w w []:=St.init none' w
 have hR:∀L,RoT none' w L A l:=fun L=>(Ro.of_C hr (fun _ h=>h)).T
 refine eN (fr [.slice A l.length ca,.slice A3 ops.length c3] 253) Try.func4 rfl (sR (pv fv (wER (pv (.slice A l.length ca) (sP1 Try.func19 #[.slice A l.length ca] (w_hand S0 (hR _) hlm) fun g1 w2 S3=>pv (sl g1 0 l.length (l.length+3)) (wER (pv (sl g1 0 l.length (l.length+3)) (sP1 Try.func20 #[sl g1 0 l.length (l.length+3)] (pd_load S3 (RoT.item (B:=l++[171,171,171]) 0 rfl 0 l.length l (by rw [List.drop_zero,List.take_append_of_le_length (Nat.le_refl _),List.take_length])) om_ ho h1 h2) fun gd w4 S5=>pv (.tuple #[pq gd,iv 0]) (pv (pq gd) (pv (iv 0) (pv (pq gd) ?_)))))))))))
 refine pv (iv 0) (wER (pv (.slice A l.length ca) (sP1 Try.func21 #[.slice A l.length ca] (rd_load S5 (hR _) om_ hca ho h1 h2) fun gr w6 S7=>pv (.tuple #[pq gr,iv 0]) (pv (pq gr) (pv (iv 0) (pv (pq gr) (pv (iv 0) (wE (nS (sR (pv (iv 0) (pv (iv 0) ?_))))))))))))
 refine dN 0 0 (fun hd8=>False.elim (hd8 rfl)) fun _=>pv fv (pW (pq gd) (pW (.bool false) (pW (pq gr) (pW (.bool false) (pW (.bool false) (pv fv (wE (nCF (wp_skip (nSR (pv (sl g1 0 l.length (l.length+3)) (pv (.slice A l.length ca) ?_))))))))))))
 refine g_ (gv_call (args:=#[sl g1 0 l.length (l.length+3),.slice A l.length ca]) rfl Try.func22 kr_ rfl rfl kr_ ?_)
 have S9:St none' w w6 [row g1 (bvs (l++[171,171,171])) 5,RDisk gr (Dsk.mk0 (secs l m)),PDisk gd (Dsk.mk0 (secs l m))]:=St.pm 3 [2,0,1] S7
 refine Calls.mono (w_back S9 (hR _) hlm) ?_
 rintro _ w10 ⟨rfl,S11⟩
 refine ⟨_,rfl,(pv tv (wE (nS (sR (pv tv (pv fv (wE (nCF (wp_skip (nS (sR (pv (pq gd) (pv fv ?_)))))))))))))⟩
 refine pv fv (pW (pq gr) (pW (.bool false) (pv fv (wE (nCF (wp_skip (nSR (pv (.slice A l.length ca) (sP1 Try.func23 #[.slice A l.length ca] (w_exact S11 (hR _) om_) fun g12 w13 S14=>pv (sl g12 0 l.length l.length) (wE (nSR (pv (sl g12 0 l.length l.length) ?_))))))))))))
 refine sP1 Try.func20 #[sl g12 0 l.length l.length] (pd_load S14 (RoT.item (B:=l) 0 rfl 0 l.length l (by rw [List.drop_zero,List.take_length])) om_ ho h1 h2) fun gx w15 S16=>pv (.tuple #[pq gx,iv 0]) (pv (pq gx) (pv (iv 0) (pv (pq gx) (pv (iv 0) (wE (nS (sR (pv (pq gx) (pv fv (pv fv (pW (iv 0) (wl_when kr_ (gv_ne (x:=0) (y:=0) kr_ (fun hd17=>False.elim (hd17 rfl)) (fun _=> ?_))))))))))))))
 refine pv fv (pv fv (pW (sl g12 0 l.length l.length) (pW (.slice A l.length ca) (wl_when kr_ (gv_call (args:=#[sl g12 0 l.length l.length,.slice A l.length ca]) rfl Try.func24 kr_ rfl rfl kr_ (Calls.mono (same_b (a:=l) (b:=l) (decide_eq_true rfl) S16 (RoT.item (B:=l) 1 rfl 0 l.length l (by rw [List.drop_zero,List.take_length])) (hR _) om_ om_) ?_))))))
 rintro _ w18 ⟨rfl,S19⟩
 refine ⟨_,rfl,(pW (.bool false) (pv fv (wE (nCF (wp_skip (nSR (pv (sl g12 0 l.length l.length) (g_ (gv_call (args:=#[sl g12 0 l.length l.length]) rfl Try.func25 kr_ rfl rfl kr_ ?_)))))))))⟩
 have S20:St none' w w18 [row g12 (bvs l) 5,PDisk gx (Dsk.mk0 (secs l m)),RDisk gr (Dsk.mk0 (secs l m)),PDisk gd (Dsk.mk0 (secs l m))]:=St.pm 4 [1,0,2,3] S19
 refine Calls.mono (w_turned_n S20 rfl om_) ?_
 rintro _ w23 ⟨A21,c22,rfl,S24⟩
 refine ⟨_,rfl, ?_⟩
 have S25:St none' w w23 [PDisk gd (Dsk.mk0 (secs l m)),RDisk gr (Dsk.mk0 (secs l m)),PDisk gx (Dsk.mk0 (secs l m))]:=St.pm 5 [4,3,2] S24
 refine wER (pv (.agg #[.slice none 0 0,.slice none 0 0,.slice none 0 0,.slice none 0 0,.slice none 0 0,.slice none 0 0]) (nB rfl (.agg #[.slice none 0 0,.slice none 0 0,.slice none 0 0,.slice none 0 0,.slice none 0 0,.slice none 0 0]) S25 fun g26 w27 hg28 S29=> ?_))
 obtain ⟨gb,hg_gb⟩:∃x,x=g26:=⟨_,rfl⟩
 rw [←hg_gb]
 rw [←hg_gb] at S29
 have S30:St none' w w27 [PBook gb 0,PDisk gd (Dsk.mk0 (secs l m)),RDisk gr (Dsk.mk0 (secs l m)),PDisk gx (Dsk.mk0 (secs l m))]:=St.book0 S29
 refine pv (pq gb) (wER (pv (.agg #[.slice none 0 0,.slice none 0 0]) (nB rfl (.agg #[.slice none 0 0,.slice none 0 0]) S30 fun g31 w32 hg33 S34=> ?_)))
 obtain ⟨gk,hg_gk⟩:∃x,x=g31:=⟨_,rfl⟩
 rw [←hg_gk]
 rw [←hg_gk] at S34
 have S35:St none' w w32 [PKept gk [],PBook gb 0,PDisk gd (Dsk.mk0 (secs l m)),RDisk gr (Dsk.mk0 (secs l m)),PDisk gx (Dsk.mk0 (secs l m))]:=St.kept0 S34
 refine pv (pq gk) (wE (nS (sR (pv (iv 0) (wE (then_n (wp_block ?_)))))))
 have S36:=St.pm 5 [1,0,2,3,4] S35
 refine wp_loop_g (G:=Nat×Dsk×List (List UInt8)×Nat) (fun (g_:Nat×Dsk×List (List UInt8)×Nat) (a_:Act) (w_:World)=>∃J:Nat→Value,a_=(fr ([.slice A l.length ca,.slice A3 ops.length c3,ud,ud,J 4,sl g1 0 l.length (l.length+3),pq gd,iv 0,pq gr,iv 0,tv,sl g12 0 l.length l.length,pq gx,pq gb,pq gk,nI_ g_.1]++jR J 16 12++[.slice A l.length ca,sl g1 0 l.length (l.length+3),.tuple #[pq gd,iv 0],sl g1 0 l.length (l.length+3),.tuple #[pq gd,iv 0],pq gd,iv 0,.tuple #[pq gr,iv 0],.slice A l.length ca,.tuple #[pq gr,iv 0],pq gr,iv 0,iv 0,iv 0,fv,fv,pq gd,fv,pq gr,fv,fv,fv,sl g1 0 l.length (l.length+3),.slice A l.length ca,tv,tv,fv,pq gd,fv,fv,pq gr,fv,fv,.slice A l.length ca,sl g12 0 l.length l.length,.tuple #[pq gx,iv 0],sl g12 0 l.length l.length,.tuple #[pq gx,iv 0],pq gx,iv 0,pq gx,fv,fv,iv 0,fv,fv,fv,sl g12 0 l.length l.length,.slice A l.length ca,tv,fv,fv,sl g12 0 l.length l.length,.slice A21 l.length c22,.agg #[.slice none 0 0,.slice none 0 0,.slice none 0 0,.slice none 0 0,.slice none 0 0,.slice none 0 0],pq gb,.agg #[.slice none 0 0,.slice none 0 0],pq gk]++jR J 86 139) 30)∧St none' w w_ [PBook gb g_.2.2.2,PKept gk g_.2.2.1,PDisk gd g_.2.1,RDisk gr g_.2.1,PDisk gx (Dsk.mk0 (secs l m))]∧(g_.1≤ops.length∧g_.2.1.pend.length≤3*g_.1∧g_.2.2.1.length≤3*g_.1∧g_.2.2.2≤g_.1∧∀z_∈g_.2.2.1,z_.length≤1048576)) (fun g_=>ops.length-g_.1) (0,(Dsk.mk0 (secs l m)),[],0) (jE_ ⟨S36,⟨Nat.zero_le _,(by show 0≤3*0;exact Nat.zero_le _),Nat.zero_le _,Nat.zero_le _,fun z_ h=>by cases h⟩⟩) ?_
 rintro ⟨i,s1,ls1,nb⟩ a_ w37 ⟨J,rfl,S38,hI1⟩
 skip
 have S38:St none' w w37 [PBook gb nb,PKept gk ls1,PDisk gd s1,RDisk gr s1,PDisk gx (Dsk.mk0 (secs l m))]:=S38
 refine wp_seq (sR (pv (nI_ i) (pv (.slice A3 ops.length c3) (pv (iv (ops.length:Nat)) (dC ((((i:Nat):Int):Int)<(ops.length:Nat)) (fun hb40=> ?_) fun hb40=> ?_)))))
 ·have hi:i<ops.length:=by omega
  have hp1:s1.pend.length≤3*i:=hI1.2.1
  have hl1:ls1.length≤3*i:=hI1.2.2.1
  have hn1:nb≤i:=hI1.2.2.2.1
  have hq1:∀z_∈ls1,z_.length≤1048576:=hI1.2.2.2.2
  obtain ⟨o,ho⟩:∃o,ops[i]?=some o:=⟨_,List.getElem?_eq_getElem hi⟩
  have hk:=hok o (List.mem_of_getElem? ho)
  have hd:∀L,RoT none' w L o.A o.d:=fun L=>(Ro.of_C hk.d (fun _ h=>h)).T
  have hdm:=hk.dm
  have hpm:=hk.pm
  have hat:=hk.hat
  obtain ⟨ad,hAd,hrs⟩:=(RoV.of_rd hs []).out w37 _ (show St none' w w37 ([PBook gb nb,PKept gk ls1,PDisk gd s1,RDisk gr s1,PDisk gx (Dsk.mk0 (secs l m))]++[]) from S38) (by rw [length_opkV];omega)
  have hrq:RdV w37 (some ad) (opkV ops):=fun _=>⟨ad,rfl,hrs⟩
  refine wE (nCT (wp_skip (nS (wp_block (sR (pv (.slice A3 ops.length c3) (pv (nI_ i) (g_ (gv_ixB (e:=50) (sz:=4) (n:=ops.length) (c:=c3) (i:=((i:Nat):Int)) (k:=.i64) (ad:=ad) (ad':=(ad.add (i*4))) (j:=i) rfl kr_ kr_ (by rw [←hAd];kernel_rfl) kr_ rfl om_ rfl (g_ (gv_ldRA (ad:=ad.add (i*4)) (vs:=[iv o.kind,iv o.at_,.slice o.A o.d.length o.cd,.slice o.A2 o.ps.length o.cp]) (n:=4) rfl kr_ kr_ rfl (RoV.cells hrq (i*4) (fun j u hu=>opkV_at ops _ _ ho j u hu) (Nat.succ_pos _)) (nW rfl (.agg #[iv 0,iv 0,.slice none 0 0,.slice none 0 0]) S38 fun g41 w42 hg43 S44=>g_ (gv_stA (k:=0) (vs:=[iv o.kind,iv o.at_,.slice o.A o.d.length o.cd,.slice o.A2 o.ps.length o.cp]) S44 0 rfl rfl kr_ kr_ kr_ rfl (by simp [Value.oneCell']) (Nat.le_of_ble_eq_true kr_) (L':=[row g41 #[iv o.kind,iv o.at_,.slice o.A o.d.length o.cd,.slice o.A2 o.ps.length o.cp] 50,PBook gb nb,PKept gk ls1,PDisk gd s1,RDisk gr s1,PDisk gx (Dsk.mk0 (secs l m))]) rfl (fun w45 S46=>wER (pv tv ?_)))))))))))))))
  refine wE (nS (sR (pv (pq g41) (lR (iv o.kind) S46 0 0 (wE (then_n (wp_block (sR (dE o.kind 1 (fun hk1=> ?_) fun hk1=> ?_)))))))))
  ·refine pv tv (wE (nCT (sR (pv (pq gd) (pv (po g41 1) (lR (iv o.at_) S46 0 1 (g_ (gv_call (args:=#[pq gd,iv o.at_]) rfl Try.func26 kr_ rfl rfl kr_ ?_))))))))
   have S47:=St.pm 6 [3,0,1,2,4,5] S46
   have hr5:=St.readR_512 S47 o.at_
   have hrp:=Big.readR_pend s1 o.at_
   refine Calls.mono (pd_read S47) ?_
   rintro _ w48 ⟨v,rfl,S49⟩
   obtain ⟨AP,rfl,S49'⟩:=St.bytes_eq S49
   refine ⟨_,rfl,(pv (.tuple #[.slice AP ((s1.readR o.at_).2.1.length) ((s1.readR o.at_).2.1.length),iv ((s1.readR o.at_).2.2)]) (pv (.slice AP ((s1.readR o.at_).2.1.length) ((s1.readR o.at_).2.1.length)) (pv (iv ((s1.readR o.at_).2.2)) (pv (.slice AP ((s1.readR o.at_).2.1.length) ((s1.readR o.at_).2.1.length)) (pv (iv ((s1.readR o.at_).2.2)) (wER (pv (pq gr) (pv (po g41 1) (lQ (iv o.at_) (((S49'.blk 2 rfl).cell 1).trans rfl) (g_ (gv_call (args:=#[pq gr,iv o.at_]) rfl Try.func27 kr_ rfl rfl kr_ ?_)))))))))))⟩
   have S50:=St.pm 7 [5,0,1,2,3,4,6] S49'
   refine Calls.mono (Big.rd_read S50) ?_
   rintro _ w51 ⟨v,rfl,S52⟩
   obtain ⟨AQ,rfl,S52'⟩:=St.bytes_eq S52
   refine ⟨_,rfl,(pv (.tuple #[.slice AQ ((s1.readR o.at_).2.1.length) ((s1.readR o.at_).2.1.length),iv ((s1.readR o.at_).2.2)]) (pv (.slice AQ ((s1.readR o.at_).2.1.length) ((s1.readR o.at_).2.1.length)) (pv (iv ((s1.readR o.at_).2.2)) (pv (.slice AQ ((s1.readR o.at_).2.1.length) ((s1.readR o.at_).2.1.length)) (pv (iv ((s1.readR o.at_).2.2)) (wE (nS (sR (pv (iv ((s1.readR o.at_).2.2)) (pv (iv ((s1.readR o.at_).2.2)) (dN ((s1.readR o.at_).2.2) ((s1.readR o.at_).2.2) (fun hd53=>False.elim (hd53 rfl)) fun _=>pv fv (pW (.slice AP ((s1.readR o.at_).2.1.length) ((s1.readR o.at_).2.1.length)) ?_))))))))))))⟩
   refine pW (.slice AQ ((s1.readR o.at_).2.1.length) ((s1.readR o.at_).2.1.length)) (wl_when kr_ (gv_call (args:=#[.slice AP ((s1.readR o.at_).2.1.length) ((s1.readR o.at_).2.1.length),.slice AQ ((s1.readR o.at_).2.1.length) ((s1.readR o.at_).2.1.length)]) rfl Try.func24 kr_ rfl rfl kr_ ?_))
   have h512:(s1.readR o.at_).2.1.length≤512:=hr5
   refine Calls.mono (same_b (decide_eq_true rfl) S52' (RoT.bytes 2 rfl rfl) (RoT.bytes 0 rfl rfl) om_ om_) ?_
   rintro _ w54 ⟨rfl,S55⟩
   refine ⟨_,rfl,(pW (.bool false) (pv fv (pv fv (pW (pq gb) (wl_when kr_ (gv_call (args:=#[pq gb]) rfl Try.func28 kr_ rfl rfl kr_ ?_))))))⟩
   have S56:=St.pm 8 [5,0,1,2,3,4,6,7] S55
   refine Calls.mono (w_whole9 S56 om_) ?_
   rintro _ w57 ⟨rfl,S58⟩
   refine ⟨_,rfl,(pW (.bool false) (pv fv (wE (nCF (wp_skip (nSR (pv (pq gb) (pv (.slice AP ((s1.readR o.at_).2.1.length) ((s1.readR o.at_).2.1.length)) (g_ (gv_call (args:=#[pq gb,.slice AP ((s1.readR o.at_).2.1.length) ((s1.readR o.at_).2.1.length)]) rfl Try.func29 kr_ rfl rfl kr_ ?_))))))))))⟩
   have S59:=St.pm 8 [3,0,1,2,4,5,6,7] S58
   have S60:St none' w w57 [vec 5 1 (.slice AP (s1.readR o.at_).2.1.length (s1.readR o.at_).2.1.length) (s1.readR o.at_).2.1.length ((s1.readR o.at_).2.1.map bv),PBook gb nb,bytesA (.slice AQ ((s1.readR o.at_).2.1.length) ((s1.readR o.at_).2.1.length)) (s1.readR o.at_).2.1,RDisk gr (s1.readR o.at_).1,PDisk gd (s1.readR o.at_).1,row g41 #[iv o.kind,iv o.at_,.slice o.A o.d.length o.cd,.slice o.A2 o.ps.length o.cp] 50,PKept gk ls1,PDisk gx (Dsk.mk0 (secs l m))]:=St.bytes_vec S59 rfl
   have S61:=St.pm 8 [1,0,2,3,4,5,6,7] S60
   refine Calls.mono (w_note S61 rfl om_ om_) ?_
   rintro _ w62 ⟨rfl,S63⟩
   refine ⟨_,rfl,(wE (nR (pv (pq gk) (pv (pq gd) (pv (pq gr) (pv (po g41 1) (lR (iv o.at_) S63 4 1 (g_ (gv_call (args:=#[pq gk,pq gd,pq gr,iv o.at_]) rfl Try.func30 kr_ rfl rfl kr_ ?_)))))))))⟩
   have S64:=St.pm 7 [5,3,2,0,1,4,6] S63
   refine Calls.mono (w_reads S64 om_ hq1) ?_
   rintro _ w65 ⟨rfl,s2,ls2,S66,hp2,hl3,hq2⟩
   refine ⟨_,rfl, ?_⟩
   have hs2:s2.pend.length≤3*(i+1):=by rw [hp2,hrp];omega
   have hl2:ls2.length≤3*(i+1):=by omega
   refine pv tv (wE ?_)
   refine inb_n (nSR (pv tv (pv fv (pv fv (pW (pq gb) (wl_when kr_ (gv_call (args:=#[pq gb]) rfl Try.func28 kr_ rfl rfl kr_ ?_)))))))
   have S67:=St.pm 7 [3,0,1,2,4,5,6] S66
   refine Calls.mono (w_whole9 S67 om_) ?_
   rintro _ w68 ⟨rfl,S69⟩
   refine ⟨_,rfl,(pW (.bool false) (pv fv (wE (nCF (wp_skip (inb_n (nR (pv (nI_ i) (gI .i64 (IntKind.i64.wrap (((i:Nat):Int)+1)) ((i+1:Nat):Int) (wr_eq om_ om_ om_) (pv (nI_ (i+1)) (wE (then_n ?_))))))))))))⟩
   have S70:=St.pm 7 [0,1,2,3,6] S69
   exact ⟨(i+1,s2,ls2,(nb+1)),(jE_ ⟨S70,⟨by show i+1≤ops.length;omega,hs2,hl2,(by show (nb+1)≤i+1;omega),hq2⟩⟩),(by show ops.length-(i+1)<ops.length-i;omega)⟩
  ·refine pv fv (wE (nCF (sR (dE o.kind 9 (fun hk9=> ?_) fun hk9=> ?_))))
   ·refine pv tv (wE (nCT (sR (pv (pq gd) (g_ (gv_call (args:=#[pq gd]) rfl Try.func18 kr_ rfl rfl kr_ ?_))))))
    have S71:=St.pm 6 [3,0,1,2,4,5] S46
    have hfl74:=St.flat_small S71
    refine Calls.mono (pd_image S71) ?_
    rintro _ w72 ⟨v,rfl,S73⟩
    obtain ⟨A74,rfl,S73'⟩:=St.bytes_eq S73
    refine ⟨_,rfl,(pv (.slice A74 s1.last.flatten.length s1.last.flatten.length) (wE (nS (sR (pv (.slice A74 s1.last.flatten.length s1.last.flatten.length) (pv (pq gr) (g_ (gv_call (args:=#[pq gr]) rfl Try.func31 kr_ rfl rfl kr_ ?_))))))))⟩
    have S75:=St.pm 7 [5,0,1,2,3,4,6] S73'
    refine Calls.mono (rd_image S75) ?_
    rintro _ w76 ⟨v,rfl,S77⟩
    obtain ⟨A78,c79,rfl⟩:=St.vec_v S77 0 rfl
    refine ⟨_,rfl,(sP Try.func24 #[.slice A74 s1.last.flatten.length s1.last.flatten.length,.slice A78 s1.last.flatten.length c79] (same_b (decide_eq_true rfl) S77 (RoT.bytes 2 rfl rfl) (Big.rot_vec 0 rfl) om_ om_) fun w80 S81=>pv fv (pv fv (pW (pq gb) (wl_when kr_ (gv_call (args:=#[pq gb]) rfl Try.func28 kr_ rfl rfl kr_ ?_)))))⟩
    have S82:=St.pm 8 [5,0,1,2,3,4,6,7] S81
    refine Calls.mono (w_whole9 S82 om_) ?_
    rintro _ w83 ⟨rfl,S84⟩
    refine ⟨_,rfl,(pW (.bool false) (pv fv (wE (nCF (wp_skip (nSR (pv (pq gb) (pv (.slice A74 s1.last.flatten.length s1.last.flatten.length) (g_ (gv_call (args:=#[pq gb,.slice A74 s1.last.flatten.length s1.last.flatten.length]) rfl Try.func29 kr_ rfl rfl kr_ ?_))))))))))⟩
    have S85:=St.pm 8 [3,0,1,2,4,5,6,7] S84
    have S86:St none' w w83 [vec 5 1 (.slice A74 s1.last.flatten.length s1.last.flatten.length) s1.last.flatten.length (s1.last.flatten.map bv),PBook gb nb,vec 5 1 (.slice A78 s1.last.flatten.length c79) s1.last.flatten.length (s1.last.flatten.map bv),RDisk gr s1,PDisk gd s1,row g41 #[iv o.kind,iv o.at_,.slice o.A o.d.length o.cd,.slice o.A2 o.ps.length o.cp] 50,PKept gk ls1,PDisk gx (Dsk.mk0 (secs l m))]:=St.bytes_vec S85 rfl
    have S87:=St.pm 8 [1,0,2,3,4,5,6,7] S86
    refine Calls.mono (w_note S87 rfl om_ om_) ?_
    rintro _ w88 ⟨rfl,S89⟩
    refine ⟨_,rfl,(wER (pv (pq gd) (g_ (gv_call (args:=#[pq gd]) rfl Try.func18 kr_ rfl rfl kr_ ?_))))⟩
    have S90:=St.pm 7 [3,0,1,2,4,5,6] S89
    have hfl93:=St.flat_small S90
    refine Calls.mono (pd_image S90) ?_
    rintro _ w91 ⟨v,rfl,S92⟩
    obtain ⟨A93,rfl,S92'⟩:=St.bytes_eq S92
    refine ⟨_,rfl,(pv (.slice A93 s1.last.flatten.length s1.last.flatten.length) (wER (pv (pq gd) (g_ (gv_call (args:=#[pq gd]) rfl Try.func18 kr_ rfl rfl kr_ ?_)))))⟩
    have S94:=St.pm 8 [1,0,2,3,4,5,6,7] S92'
    have hfl97:=St.flat_small S94
    refine Calls.mono (pd_image S94) ?_
    rintro _ w95 ⟨v,rfl,S96⟩
    obtain ⟨A97,rfl,S96'⟩:=St.bytes_eq S96
    refine ⟨_,rfl,(pv (.slice A97 s1.last.flatten.length s1.last.flatten.length) (wER (pv (.slice A93 s1.last.flatten.length s1.last.flatten.length) (pv (pq gr) (g_ (gv_call (args:=#[pq gr]) rfl Try.func31 kr_ rfl rfl kr_ ?_))))))⟩
    have S98:=St.pm 9 [5,0,1,2,3,4,6,7,8] S96'
    refine Calls.mono (rd_image S98) ?_
    rintro _ w99 ⟨v,rfl,S100⟩
    obtain ⟨A101,c102,rfl⟩:=St.vec_v S100 0 rfl
    refine ⟨_,rfl,(sP Try.func24 #[.slice A93 s1.last.flatten.length s1.last.flatten.length,.slice A101 s1.last.flatten.length c102] (same_b (decide_eq_true rfl) S100 (RoT.bytes 4 rfl rfl) (Big.rot_vec 0 rfl) om_ om_) fun w103 S104=>pv tv (pW (.slice A97 s1.last.flatten.length s1.last.flatten.length) (pW (.slice A93 s1.last.flatten.length s1.last.flatten.length) (wl_when kr_ (gv_call (args:=#[.slice A97 s1.last.flatten.length s1.last.flatten.length,.slice A93 s1.last.flatten.length s1.last.flatten.length]) rfl Try.func24 kr_ rfl rfl kr_ (Calls.mono (same_b (decide_eq_true rfl) S104 (RoT.bytes 2 rfl rfl) (RoT.bytes 4 rfl rfl) om_ om_) ?_))))))⟩
    rintro _ w105 ⟨rfl,S106⟩
    refine ⟨_,rfl,(pv tv (pv tv (wER (pv (pq gk) (pv (.slice A93 s1.last.flatten.length s1.last.flatten.length) (g_ (gv_call (args:=#[pq gk,.slice A93 s1.last.flatten.length s1.last.flatten.length]) rfl Try.func32 kr_ rfl rfl kr_ ?_)))))))⟩
    have S107:=St.pm 10 [4,0,1,2,3,5,6,7,8,9] S106
    have S108:St none' w w105 [vec 5 1 (.slice A93 s1.last.flatten.length s1.last.flatten.length) s1.last.flatten.length (s1.last.flatten.map bv),vec 5 1 (.slice A101 s1.last.flatten.length c102) s1.last.flatten.length (s1.last.flatten.map bv),RDisk gr s1,bytesA (.slice A97 s1.last.flatten.length s1.last.flatten.length) s1.last.flatten,PDisk gd s1,PBook gb (nb+1),vec 5 1 (.slice A78 s1.last.flatten.length c79) s1.last.flatten.length (s1.last.flatten.map bv),row g41 #[iv o.kind,iv o.at_,.slice o.A o.d.length o.cd,.slice o.A2 o.ps.length o.cp] 50,PKept gk ls1,PDisk gx (Dsk.mk0 (secs l m))]:=St.bytes_vec S107 rfl
    have S109:=St.pm 10 [8,0,1,2,3,4,5,6,7,9] S108
    have hlb109:(ls1).length≤3*i+1:=by first|(rw [List.length_append,List.length_singleton];omega)|omega
    refine Calls.mono (w_add S109 rfl om_ om_) ?_
    rintro _ w110 ⟨rfl,S111⟩
    refine ⟨_,rfl,(wE (nR (pv (pq gk) (pv (.slice A97 s1.last.flatten.length s1.last.flatten.length) (g_ (gv_call (args:=#[pq gk,.slice A97 s1.last.flatten.length s1.last.flatten.length]) rfl Try.func32 kr_ rfl rfl kr_ ?_))))))⟩
    have S112:=St.pm 9 [3,0,1,2,4,5,6,7,8] S111
    have S113:St none' w w110 [vec 5 1 (.slice A97 s1.last.flatten.length s1.last.flatten.length) s1.last.flatten.length (s1.last.flatten.map bv),PKept gk (ls1++[s1.last.flatten]),vec 5 1 (.slice A101 s1.last.flatten.length c102) s1.last.flatten.length (s1.last.flatten.map bv),RDisk gr s1,PDisk gd s1,PBook gb (nb+1),vec 5 1 (.slice A78 s1.last.flatten.length c79) s1.last.flatten.length (s1.last.flatten.map bv),row g41 #[iv o.kind,iv o.at_,.slice o.A o.d.length o.cd,.slice o.A2 o.ps.length o.cp] 50,PDisk gx (Dsk.mk0 (secs l m))]:=St.bytes_vec S112 rfl
    have S114:=St.pm 9 [1,0,2,3,4,5,6,7,8] S113
    have hlb114:((ls1++[s1.last.flatten])).length≤3*i+1:=by first|(rw [List.length_append,List.length_singleton];omega)|omega
    refine Calls.mono (w_add S114 rfl om_ om_) ?_
    rintro _ w115 ⟨rfl,S116⟩
    refine ⟨_,rfl, ?_⟩
    have hl2:((ls1++[s1.last.flatten])++[s1.last.flatten]).length≤3*(i+1):=by rw [List.length_append,List.length_append];simp only [List.length_singleton];omega
    have hs2:s1.pend.length≤3*(i+1):=by omega
    have hq2:∀z_∈((ls1++[s1.last.flatten])++[s1.last.flatten]),z_.length≤1048576:=fun z_ hz=>(List.mem_append.1 hz).elim (fun h=>(List.mem_append.1 h).elim (hq1 z_) (fun h=>by rw [List.mem_singleton] at h;subst h;omega)) (fun h=>by rw [List.mem_singleton] at h;subst h;omega)
    refine wE ?_
    refine inb_n (nSR (pv tv (pv fv (pv fv (pW (pq gb) (wl_when kr_ (gv_call (args:=#[pq gb]) rfl Try.func28 kr_ rfl rfl kr_ ?_)))))))
    have S117:=St.pm 8 [4,0,1,2,3,5,6,7] S116
    refine Calls.mono (w_whole9 S117 om_) ?_
    rintro _ w118 ⟨rfl,S119⟩
    refine ⟨_,rfl,(pW (.bool false) (pv fv (wE (nCF (wp_skip (inb_n (nR (pv (nI_ i) (gI .i64 (IntKind.i64.wrap (((i:Nat):Int)+1)) ((i+1:Nat):Int) (wr_eq om_ om_ om_) (pv (nI_ (i+1)) (wE (then_n ?_))))))))))))⟩
    have S120:=St.pm 8 [0,1,4,3,7] S119
    exact ⟨(i+1,s1,((ls1++[s1.last.flatten])++[s1.last.flatten]),(nb+1)),(jE_ ⟨S120,⟨by show i+1≤ops.length;omega,hs2,hl2,(by show (nb+1)≤i+1;omega),hq2⟩⟩),(by show ops.length-(i+1)<ops.length-i;omega)⟩
   ·refine pv fv (wE (nCF (sR (dE o.kind 2 (fun hk2=> ?_) fun hk2=> ?_))))
    ·refine pv tv (wE (nCT (sR (pv (po g41 2) (lR (.slice o.A o.d.length o.cd) S46 0 2 (sP1 Try.func19 #[.slice o.A o.d.length o.cd] (w_hand S46 (hd _) hdm) fun g121 w122 S123=>pv (sl g121 0 o.d.length (o.d.length+3)) (wER (pv (pq gd) (pv (po g41 1) (lR (iv o.at_) S123 1 1 (pv (sl g121 0 o.d.length (o.d.length+3)) (g_ (gv_call (args:=#[pq gd,iv o.at_,sl g121 0 o.d.length (o.d.length+3)]) rfl Try.func33 kr_ rfl rfl kr_ ?_)))))))))))))
     have S124:=St.pm 7 [4,0,1,2,3,5,6] S123
     have hw1:=Big.writeR_pend s1 o.at_ o.d
     refine Calls.mono (Big.pd_write S124 (RoT.item (B:=o.d++[171,171,171]) 0 rfl 0 o.d.length o.d (by rw [List.drop_zero,List.take_append_of_le_length (Nat.le_refl _),List.take_length])) om_ om_) ?_
     rintro _ w125 ⟨rfl,S126⟩
     refine ⟨_,rfl,(pv (iv ((s1.writeR o.at_ o.d).2)) (wER (pv (pq gr) (pv (po g41 1) (lR (iv o.at_) S126 2 1 (pv (po g41 2) (lR (.slice o.A o.d.length o.cd) S126 2 2 (g_ (gv_call (args:=#[pq gr,iv o.at_,.slice o.A o.d.length o.cd]) rfl Try.func34 kr_ rfl rfl kr_ ?_)))))))))⟩
     have S127:=St.pm 7 [5,0,1,2,3,4,6] S126
     refine Calls.mono (Big.rd_write S127 (hd _) om_ om_) ?_
     rintro _ w128 ⟨rfl,S129⟩
     refine ⟨_,rfl,(pv (iv ((s1.writeR o.at_ o.d).2)) (wE (nR (pv (sl g121 0 o.d.length (o.d.length+3)) (pv (po g41 2) (lR (.slice o.A o.d.length o.cd) S129 3 2 (g_ (gv_call (args:=#[sl g121 0 o.d.length (o.d.length+3),.slice o.A o.d.length o.cd]) rfl Try.func22 kr_ rfl rfl kr_ ?_))))))))⟩
     have S130:=St.pm 7 [2,0,1,3,4,5,6] S129
     refine Calls.mono (w_back S130 (hd _) hdm) ?_
     rintro _ w131 ⟨rfl,S132⟩
     refine ⟨_,rfl,(pv tv (pW (iv ((s1.writeR o.at_ o.d).2)) (pW (iv ((s1.writeR o.at_ o.d).2)) (wl_when kr_ (gv_eq (x:=((s1.writeR o.at_ o.d).2)) (y:=((s1.writeR o.at_ o.d).2)) kr_ (fun _=>pv tv (pv tv (pW (pq gd) (pW (pq gr) (wl_when kr_ (gv_ldA (k:=0) (n:=4) (vs:=[iv o.kind,iv o.at_,.slice o.A o.d.length o.cd,.slice o.A2 o.ps.length o.cp]) S132 2 rfl rfl kr_ kr_ rfl rfl (wl_when kr_ (gv_call (args:=#[pq gd,pq gr,.agg #[iv o.kind,iv o.at_,.slice o.A o.d.length o.cd,.slice o.A2 o.ps.length o.cp]]) rfl Try.func35 kr_ rfl rfl kr_ ?_)))))))) (fun hd133=>False.elim (hd133 rfl)))))))⟩
     have S134:=St.pm 6 [1,0,2,3,4,5] S132
     refine Calls.mono (w_writes S134 (hd _) hdm om_) ?_
     rintro _ w135 ⟨rfl,s2,S136,hp2⟩
     refine ⟨_,rfl, ?_⟩
     have hs2:s2.pend.length≤3*(i+1):=by omega
     have hl2:ls1.length≤3*(i+1):=by omega
     have hq2:=hq1
     refine pv tv (pv tv (wE (inb_n (nSR (pv tv (pv fv (pv fv (pW (pq gb) (wl_when kr_ (gv_call (args:=#[pq gb]) rfl Try.func28 kr_ rfl rfl kr_ ?_))))))))))
     have S137:=St.pm 6 [3,0,1,2,4,5] S136
     refine Calls.mono (w_whole9 S137 om_) ?_
     rintro _ w138 ⟨rfl,S139⟩
     refine ⟨_,rfl,(pW (.bool false) (pv fv (wE ?_)))⟩
     refine nCF (wp_skip (inb_n (nR (pv (nI_ i) (gI .i64 (IntKind.i64.wrap (((i:Nat):Int)+1)) ((i+1:Nat):Int) (wr_eq om_ om_ om_) (pv (nI_ (i+1)) (wE (then_n ?_))))))))
     have S140:=St.pm 6 [0,4,1,2,5] S139
     exact ⟨(i+1,s2,ls1,nb),(jE_ ⟨S140,⟨by show i+1≤ops.length;omega,hs2,hl2,(by show nb≤i+1;omega),hq2⟩⟩),(by show ops.length-(i+1)<ops.length-i;omega)⟩
    ·refine pv fv (wE (nCF (sR (dE o.kind 6 (fun hk6=> ?_) fun hk6=> ?_))))
     ·refine pv tv (wE (nCT (sR (pv (pq gd) (pv (po g41 3) (lR (.slice o.A2 o.ps.length o.cp) S46 0 3 (g_ (gv_call (args:=#[pq gd,.slice o.A2 o.ps.length o.cp]) rfl Try.func36 kr_ rfl rfl kr_ ?_))))))))
      have S141:=St.pm 6 [3,0,1,2,4,5] S46
      refine Calls.mono (w_handed S141 (RoV.of_rd hk.p _) hpm) ?_
      rintro _ w142 ⟨rfl,S143⟩
      refine ⟨_,rfl,(pv tv (wE (nR (pv (pq gr) (pv (po g41 3) (lR (.slice o.A2 o.ps.length o.cp) S143 1 3 (g_ (gv_call (args:=#[pq gr,.slice o.A2 o.ps.length o.cp]) rfl Try.func37 kr_ rfl rfl kr_ ?_))))))))⟩
      have S144:=St.pm 6 [4,0,1,2,3,5] S143
      have hs2:(s1.crashR o.ps).pend.length≤3*(i+1):=Nat.zero_le _
      have hl2:ls1.length≤3*(i+1):=by omega
      have hq2:=hq1
      refine Calls.mono (Big.rd_crash S144 (RoV.of_rd hk.p _) rfl om_ om_) ?_
      rintro _ w145 ⟨rfl,S146⟩
      refine ⟨_,rfl,(wE (inb_n (nSR (pv tv (pv fv (pv fv (pW (pq gb) (wl_when kr_ (gv_call (args:=#[pq gb]) rfl Try.func28 kr_ rfl rfl kr_ ?_)))))))))⟩
      have S147:=St.pm 6 [3,0,1,2,4,5] S146
      refine Calls.mono (w_whole9 S147 om_) ?_
      rintro _ w148 ⟨rfl,S149⟩
      refine ⟨_,rfl,(pW (.bool false) (pv fv (wE (nCF (wp_skip (inb_n (nR (pv (nI_ i) (gI .i64 (IntKind.i64.wrap (((i:Nat):Int)+1)) ((i+1:Nat):Int) (wr_eq om_ om_ om_) (pv (nI_ (i+1)) (wE (then_n ?_))))))))))))⟩
      have S150:=St.pm 6 [0,4,2,1,5] S149
      exact ⟨(i+1,(s1.crashR o.ps),ls1,nb),(jE_ ⟨S150,⟨by show i+1≤ops.length;omega,hs2,hl2,(by show nb≤i+1;omega),hq2⟩⟩),(by show ops.length-(i+1)<ops.length-i;omega)⟩
     ·refine pv fv (wE (nCF (wp_region_lit (pv (pq gd) (pv (pq gr) (g_ (gv_ldA (k:=0) (n:=4) (vs:=[iv o.kind,iv o.at_,.slice o.A o.d.length o.cd,.slice o.A2 o.ps.length o.cp]) S46 0 rfl rfl kr_ kr_ rfl rfl (g_ (gv_call (args:=#[pq gd,pq gr,.agg #[iv o.kind,iv o.at_,.slice o.A o.d.length o.cd,.slice o.A2 o.ps.length o.cp]]) rfl Try.func38 kr_ rfl rfl kr_ ?_)))))))))
      have S151:=St.pm 6 [3,4,0,1,2,5] S46
      refine Calls.mono (Big.step_all S151 (hd _) (RoV.of_rd hk.p _) hat om_ om_ om_) ?_
      rintro _ w152 ⟨rfl,s2,S153,hp2⟩
      refine ⟨_,rfl, ?_⟩
      have hs2:s2.pend.length≤3*(i+1):=by omega
      have hl2:ls1.length≤3*(i+1):=by omega
      have hq2:=hq1
      refine pv tv (wE (inb_n (nSR (pv tv (pv fv (pv fv (pW (pq gb) (wl_when kr_ (gv_call (args:=#[pq gb]) rfl Try.func28 kr_ rfl rfl kr_ ?_)))))))))
      have S154:=St.pm 6 [3,0,1,2,4,5] S153
      refine Calls.mono (w_whole9 S154 om_) ?_
      rintro _ w155 ⟨rfl,S156⟩
      refine ⟨_,rfl,(pW (.bool false) (pv fv (wE (nCF (wp_skip (inb_n (nR (pv (nI_ i) (gI .i64 (IntKind.i64.wrap (((i:Nat):Int)+1)) ((i+1:Nat):Int) (wr_eq om_ om_ om_) (pv (nI_ (i+1)) (wE (then_n ?_))))))))))))⟩
      have S157:=St.pm 6 [0,4,1,2,5] S156
      exact ⟨(i+1,s2,ls1,nb),(jE_ ⟨S157,⟨by show i+1≤ops.length;omega,hs2,hl2,(by show nb≤i+1;omega),hq2⟩⟩),(by show ops.length-(i+1)<ops.length-i;omega)⟩
 ·have hp1:s1.pend.length≤3*i:=hI1.2.1
  have hl1:ls1.length≤3*i:=hI1.2.2.1
  have hn1:nb≤i:=hI1.2.2.2.1
  have hi1:i≤ops.length:=hI1.1
  have hq1:∀z_∈ls1,z_.length≤1048576:=hI1.2.2.2.2
  refine wE (nCF (wp_exit (then_x (then_x (inb_x (nSR (pv (pq gd) (g_ (gv_call (args:=#[pq gd]) rfl Try.func18 kr_ rfl rfl kr_ ?_)))))))))
  have S158:=St.pm 5 [2,0,1,3,4] S38
  have hfl161:=St.flat_small S158
  refine Calls.mono (pd_image S158) ?_
  rintro _ w159 ⟨v,rfl,S160⟩
  obtain ⟨A161,rfl,S160'⟩:=St.bytes_eq S160
  refine ⟨_,rfl,(pv (pq gr) (g_ (gv_call (args:=#[pq gr]) rfl Try.func31 kr_ rfl rfl kr_ ?_)))⟩
  have S162:=St.pm 6 [4,0,1,2,3,5] S160'
  refine Calls.mono (rd_image S162) ?_
  rintro _ w163 ⟨v,rfl,S164⟩
  obtain ⟨A165,c166,rfl⟩:=St.vec_v S164 0 rfl
  refine ⟨_,rfl,(sP Try.func24 #[.slice A161 s1.last.flatten.length s1.last.flatten.length,.slice A165 s1.last.flatten.length c166] (same_b (decide_eq_true rfl) S164 (RoT.bytes 2 rfl rfl) (Big.rot_vec 0 rfl) om_ om_) fun w167 S168=>pv tv (pW (pq gb) (wl_when kr_ (gv_call (args:=#[pq gb]) rfl Try.func28 kr_ rfl rfl kr_ ?_))))⟩
  have S169:=St.pm 7 [4,0,1,2,3,5,6] S168
  refine Calls.mono (w_whole9 S169 om_) ?_
  rintro _ w170 ⟨rfl,S171⟩
  refine ⟨_,rfl,(pv tv (pv tv (pW (pq gk) (wl_when kr_ (gv_call (args:=#[pq gk]) rfl Try.func39 kr_ rfl rfl kr_ ?_)))))⟩
  have S172:=St.pm 7 [5,0,1,2,3,4,6] S171
  refine Calls.mono (w_grown S172 om_ hq1) ?_
  rintro _ w173 ⟨rfl,S174⟩
  refine ⟨_,rfl,(pv tv (pv tv (pW (pq gb) (wl_when kr_ (gv_call (args:=#[pq gb]) rfl Try.func28 kr_ rfl rfl kr_ (Calls.mono (w_whole9 S174 om_) ?_))))))⟩
  rintro _ w175 ⟨rfl,S176⟩
  refine ⟨_,rfl,(pv tv (pv tv (pW (pq gd) (wl_when kr_ (gv_call (args:=#[pq gd]) rfl Try.func18 kr_ rfl rfl kr_ ?_)))))⟩
  have S177:=St.pm 6 [4,0,1,2,3,5] S176
  have hfl180:=St.flat_small S177
  refine Calls.mono (pd_image S177) ?_
  rintro _ w178 ⟨v,rfl,S179⟩
  obtain ⟨A180,rfl,S179'⟩:=St.bytes_eq S179
  refine ⟨_,rfl,(pW (pq gr) (wl_when kr_ (gv_call (args:=#[pq gr]) rfl Try.func31 kr_ rfl rfl kr_ ?_)))⟩
  have S181:=St.pm 7 [4,0,1,2,3,5,6] S179'
  refine Calls.mono (rd_image S181) ?_
  rintro _ w182 ⟨v,rfl,S183⟩
  obtain ⟨A184,c185,rfl⟩:=St.vec_v S183 0 rfl
  refine ⟨_,rfl,(wl_when kr_ (gv_call (args:=#[.slice A180 s1.last.flatten.length s1.last.flatten.length,.slice A184 s1.last.flatten.length c185]) rfl Try.func24 kr_ rfl rfl kr_ (Calls.mono (same_b (decide_eq_true rfl) S183 (RoT.bytes 2 rfl rfl) (Big.rot_vec 0 rfl) om_ om_) ?_)))⟩
  rintro _ w186 ⟨rfl,S187⟩
  refine ⟨_,rfl,(pv tv (pv tv (pW (pq gx) (wl_when kr_ (gv_call (args:=#[pq gx]) rfl Try.func18 kr_ rfl rfl kr_ ?_)))))⟩
  have S188:=St.pm 8 [7,0,1,2,3,4,5,6] S187
  have hfl191:=St.flat_small S188
  refine Calls.mono (pd_image S188) ?_
  rintro _ w189 ⟨v,rfl,S190⟩
  obtain ⟨A191,rfl,S190'⟩:=St.bytes_eq S190
  refine ⟨_,rfl,(pW (.slice A l.length ca) (wl_when kr_ (gv_call (args:=#[.slice A191 ((Dsk.mk0 (secs l m)).last.flatten.length) ((Dsk.mk0 (secs l m)).last.flatten.length),.slice A l.length ca]) rfl Try.func24 kr_ rfl rfl kr_ (Calls.mono (same_bn (a:=(Dsk.mk0 (secs l m)).last.flatten) (b:=l) (secs_flat m l ho) S190' (RoT.bytes 0 rfl rfl) (hR _) rfl rfl om_) ?_))))⟩
  rintro _ w192 ⟨rfl,S193⟩
  refine ⟨_,rfl,(pv tv (pv tv (wE ?_)))⟩
  exact then_n (wp_ret (bA (.bool true) ⟨rfl,S193.fr.below⟩))
theorem diskBook_all (w:World){A A3:Option Addr}{l:List UInt8}{ca c3:Nat}{ops:List OpK}(hr:RdB w A l)(hlm:l.length≤140737488351232)(hca:l.length≤ca)(hs:RdV w A3 (opkV ops))(hsm:ops.length≤2199023255488)(hok:∀o∈ops,o.Ok w):Calls Try.prog 4 #[.slice A l.length ca,.slice A3 ops.length c3] w fun e w'=>e=.returned (.bool true)∧Below w.heap.size w w':=by
 by_cases ho:l.length%512=0
 ·by_cases hb:l.length/512<1∨2048<l.length/512
  ·exact diskBook_bad w hr hlm hca hs hsm hok ho hb
  ·exact diskBook_good w hr hlm hca hs hsm hok (m:=l.length/512) om_ om_ om_
 ·exact diskBook_odd w hr hlm hca hs hsm hok ho
end
end Go.Proofs
end
section
open Go Go.RowKit Go.Deep Go.Proofs.YtgeioealgidkiaaW.PrintWords
namespace Go.Vel
section
def Opens {H:Type}(enc:TypeId×Value→H)(P:Program)(W:World)(t:TypeId){α:Type}(d:Kd α)(Q:α→Prop):Prop:=
 ∀fuel cs x,DataW.trod enc P W 0 (fun _=>true) true fuel t cs=some x→(∀n∈x.1.weights P t,n≤reachBytes)→∃a,d.K W a cs∧Q a
section
variable {H:Type}{enc:TypeId×Value→H}{P:Program}{W:World}{α:Type}
theorem Opens.bool {t:TypeId}(ht:P.underlying t=some .bool):Opens enc P W t Kd.bool (fun _=>True):=by
 intro fuel cs x h _
 obtain ⟨n,e,_⟩:=DataW.trod_bool ht h
 exact ⟨n,e,trivial⟩
theorem Opens.mono {t:TypeId}{d:Kd α}{Q Q':α→Prop}(h:Opens enc P W t d Q)(hq:∀a,Q a→Q' a):Opens enc P W t d Q':=fun fuel cs x hx hw=>by
 obtain ⟨a,h1,h2⟩:=h fuel cs x hx hw
 exact ⟨a,h1,hq a h2⟩
theorem add_add (a:Addr)(i j:Nat):(a.add i).add j=a.add (i+j):=by
 unfold Addr.add
 by_cases h0:i=0
 ·subst h0;simp
 ·by_cases h1:j=0
  ·subst h1;simp
  ·have h2:¬(i+j=0):=by omega
   simp only [h0,h1,h2,if_false,Nat.add_assoc]
theorem weightsAll_mem {e:TypeId}:∀{ds:List (DataW H)} {d:DataW H},d∈ds→∀n∈d.weights P e,n∈DataW.weightsAll P e ds
 |[],_,h=>by cases h
 |x::r,d,h=>fun n hn=>by
  unfold DataW.weightsAll
  rcases List.mem_cons.1 h with rfl|h
  ·exact List.mem_append_left _ hn
  ·exact List.mem_append_right _ (weightsAll_mem h n hn)
theorem Opens.slice [Inhabited α]{t e:TypeId}{d:Kd α}{Q:α→Prop}{B:Nat}(ht:P.underlying t=some (.slice e))(hd:Opens enc P W e d Q)(hsz:d.sz=P.cellsOf e)(hB:P.bytesOf e=B):Opens enc P W t (Kd.slice e d) (fun xs=>xs.length≤maxLen∧xs.length*B≤reachBytes∧∀x∈xs,Q x):=by
 intro fuel cs x h hw
 rcases open_slice ht h with ⟨rfl,_⟩|⟨a,len,cap,m,n,D,Pl,rfl,_,hl,hm,hmm,hx,he⟩
 ·exact ⟨[],⟨none,0,rfl,Nat.le_refl _,rfl,Nat.zero_le _,fun h=>absurd h (Nat.lt_irrefl 0)⟩,Nat.zero_le _,by simp,fun x hx=>by cases hx⟩
 ·rw [if_pos rfl] at hmm
  subst hmm
  have hw1:∀n∈((((List.range len).map D).length*P.bytesOf e+((List.range (m-len)).map fun j=>D (len+j)).length*P.bytesOf e)::(DataW.weightsAll P e ((List.range len).map D)++DataW.weightsAll P e ((List.range (m-len)).map fun j=>D (len+j))):List Nat),n≤reachBytes:=by
   rw [hx] at hw
   simp only [DataW.weights,ht] at hw
   rw [Nat.add_mul] at hw
   exact hw
  have hfirst:=hw1 _ List.mem_cons_self
  have hex:∀i,i<len→∃y:α,∃cs',W.cells? 0 (a.add (i*P.cellsOf e)) (P.cellsOf e)=some cs'∧d.K W y cs'∧Q y:=by
   intro i hi
   obtain ⟨cs',h1,h2⟩:=he i om_
   obtain ⟨y,h3,h4⟩:=hd _ _ _ h2 (fun n hn=>hw1 n (List.mem_cons_of_mem _ (List.mem_append_left _ (weightsAll_mem (d:=D i) (List.mem_map.2 ⟨i,List.mem_range.2 hi,rfl⟩) n hn))))
   exact ⟨y,cs',h1,h3,h4⟩
  obtain ⟨f,hf⟩:=choose_lt hex
  have hlen:((List.range len).map f).length=len:=by simp
  have hmx:maxLen≤9223372036854775807:=by decide
  refine ⟨(List.range len).map f,⟨some a,m,by rw [hlen],by rw [hlen];exact hl,rfl,by rw [hlen];omega,fun _=>⟨a,rfl,fun j p hp=> ?_⟩⟩,by rw [hlen];omega, ?_, ?_⟩
  ·have hj:j<len:=by
    have:=(List.getElem?_eq_some_iff.1 hp).1
    rwa [hlen] at this
   rw [List.getElem?_map,List.getElem?_range hj] at hp
   simp only [Option.map_some,Option.some.injEq] at hp
   subst hp
   obtain ⟨cs',h1,h2,_⟩:=hf j hj
   obtain ⟨_,hl2,hc⟩:=World.cells?_some h1
   refine ⟨cs',by rw [hl2,hsz],h2,fun i u hu=> ?_⟩
   have hi:i<P.cellsOf e:=by
    have:=(List.getElem?_eq_some_iff.1 hu).1
    omega
   have:=hc i hi
   rw [hu,add_add] at this
   rw [hsz];exact this
  ·rw [hlen,←hB]
   simp only [List.length_map,List.length_range] at hfirst
   exact Nat.le_trans (Nat.le_add_right _ _) hfirst
  ·intro x hx
   obtain ⟨i,hi,rfl⟩:=List.mem_map.1 hx
   obtain ⟨_,_,_,hq⟩:=hf i (List.mem_range.1 hi)
   exact hq
end
end
end Go.Vel
end
section
open Go Go.RowKit Go.Deep Go.Proofs.YtgeioealgidkiaaW.PrintWords
namespace Go.Vel
/-- Whatever is read as type t has cells of which Q holds. -/
def Opn {H : Type} (enc : TypeId × Value → H) (P : Program) (W : World) (t : TypeId) (Q : List Value → Prop) : Prop :=
  ∀ fuel cs x, DataW.trod enc P W 0 (fun _ => true) true fuel t cs = some x → (∀ n ∈ x.1.weights P t, n ≤ reachBytes) → Q cs
theorem flatten_get {sz : Nat} : ∀ {els : List (List Value)} {j : Nat} {u : Value}, (∀ e ∈ els, e.length = sz) → els.flatten[j]? = some u → ∃ i r e, j = i * sz + r ∧ els[i]? = some e ∧ e[r]? = some u
  | [], j, u, _, h => by simp at h
  | e :: l, j, u, hl, h => by
    have he := hl e List.mem_cons_self
    rw [List.flatten_cons] at h
    by_cases hj : j < e.length
    · rw [List.getElem?_append_left hj] at h
      exact ⟨0, j, e, by rw [Nat.zero_mul, Nat.zero_add], rfl, h⟩
    · rw [List.getElem?_append_right (by omega)] at h
      obtain ⟨i, r, e', h1, h2, h3⟩ := flatten_get (fun y hy => hl y (List.mem_cons_of_mem _ hy)) h
      exact ⟨i + 1, r, e', by rw [Nat.add_mul, Nat.one_mul]; omega, by simpa using h2, h3⟩
theorem all_map {α : Type} {f : α → List Value} {Q : α → Prop} : ∀ {els : List (List Value)}, (∀ e ∈ els, ∃ a, e = f a ∧ Q a) → ∃ l : List α, els = l.map f ∧ ∀ a ∈ l, Q a
  | [], _ => ⟨[], rfl, fun a h => by cases h⟩
  | e :: r, h => by
    obtain ⟨a, rfl, ha⟩ := h e List.mem_cons_self
    obtain ⟨l, rfl, hl⟩ := all_map fun y hy => h y (List.mem_cons_of_mem _ hy)
    exact ⟨a :: l, rfl, fun b hb => (List.mem_cons.1 hb).elim (fun e => e ▸ ha) (hl b)⟩
section
variable {H : Type} {enc : TypeId × Value → H} {P : Program} {W : World}
theorem Opn.int {t : TypeId} {k : IntKind} (ht : P.underlying t = some (.int k)) : Opn enc P W t (fun cs => ∃ n, cs = [.int k n] ∧ (Lit.int k n).wf = true) := by
  intro fuel cs x h _
  obtain ⟨n, e, _, hw⟩ := DataW.trod_int ht h
  exact ⟨n, e, hw⟩
/-- What a list's cell says. -/
def LstQ (W : World) (B : Nat) (Q : List Value → Prop) (cs : List Value) : Prop := ∃ (A : Option Addr) (c : Nat) (els : List (List Value)), cs = [.slice A els.length c] ∧ els.length ≤ c ∧ els.length ≤ maxLen ∧ els.length * B ≤ reachBytes ∧ (∀ e ∈ els, Q e) ∧ RdV W A els.flatten
theorem Opn.slice {t e : TypeId} {Q : List Value → Prop} {B : Nat} (ht : P.underlying t = some (.slice e)) (hd : Opn enc P W e Q) (hB : P.bytesOf e = B) : Opn enc P W t (LstQ W B Q) := by
  intro fuel cs x h hw
  rcases open_slice ht h with ⟨rfl, _⟩ | ⟨a, len, cap, m, n, D, Pl, rfl, _, hl, hm, hmm, hx, he⟩
  · exact ⟨none, 0, [], rfl, Nat.le_refl _, Nat.zero_le _, by simp, fun x hx => (by cases hx), fun h => absurd h (Nat.lt_irrefl 0)⟩
  · rw [if_pos rfl] at hmm
    subst hmm
    have hw1 : ∀ n ∈ ((((List.range len).map D).length * P.bytesOf e + ((List.range (m - len)).map fun j => D (len + j)).length * P.bytesOf e) :: (DataW.weightsAll P e ((List.range len).map D) ++ DataW.weightsAll P e ((List.range (m - len)).map fun j => D (len + j))) : List Nat), n ≤ reachBytes := by
      rw [hx] at hw
      simp only [DataW.weights, ht] at hw
      rw [Nat.add_mul] at hw
      exact hw
    have hfirst := hw1 _ List.mem_cons_self
    have hex : ∀ i, i < len → ∃ cs', W.cells? 0 (a.add (i * P.cellsOf e)) (P.cellsOf e) = some cs' ∧ Q cs' := by
      intro i hi
      obtain ⟨cs', h1, h2⟩ := he i (by omega)
      exact ⟨cs', h1, hd _ _ _ h2 (fun n hn => hw1 n (List.mem_cons_of_mem _ (List.mem_append_left _ (weightsAll_mem (d := D i) (List.mem_map.2 ⟨i, List.mem_range.2 hi, rfl⟩) n hn))))⟩
    obtain ⟨f, hf⟩ := choose_lt hex
    have hlen : ((List.range len).map f).length = len := by simp
    have hmx : maxLen ≤ 9223372036854775807 := by decide
    have hget : ∀ i e', ((List.range len).map f)[i]? = some e' → i < len ∧ f i = e' := fun i e' hi => by
      have hj : i < len := by
        have := (List.getElem?_eq_some_iff.1 hi).1
        rwa [hlen] at this
      rw [List.getElem?_map, List.getElem?_range hj] at hi
      exact ⟨hj, by simpa using hi⟩
    refine ⟨some a, m, (List.range len).map f, by rw [hlen], by rw [hlen]; exact hl, by rw [hlen]; omega, ?_, ?_, fun _ => ⟨a, rfl, fun j u hu => ?_⟩⟩
    · rw [hlen, ← hB]
      simp only [List.length_map, List.length_range] at hfirst
      exact Nat.le_trans (Nat.le_add_right _ _) hfirst
    · intro x hx
      obtain ⟨i, hi, rfl⟩ := List.mem_map.1 hx
      exact (hf i (List.mem_range.1 hi)).2
    · have hall : ∀ y ∈ (List.range len).map f, y.length = P.cellsOf e := fun y hy => by
        obtain ⟨i, hi, rfl⟩ := List.mem_map.1 hy
        exact (World.cells?_some (hf i (List.mem_range.1 hi)).1).2.1
      obtain ⟨i, r, e', rfl, h2, h3⟩ := flatten_get hall hu
      obtain ⟨hi, rfl⟩ := hget i e' h2
      obtain ⟨_, hl2, hc⟩ := World.cells?_some (hf i hi).1
      have hr : r < P.cellsOf e := by have := (List.getElem?_eq_some_iff.1 h3).1; omega
      have := hc r hr
      rw [h3, add_add] at this
      exact this
/-- A field of one cell. -/
theorem Opn.field {fs : Array Field} {t : TypeId} {fuel : Nat} {cs : List Value} {x : DataW H × List MemPlace} {Q : List Value → Prop} (ht : P.underlying t = some (.struct fs)) (h : DataW.trod enc P W 0 (fun _ => true) true fuel t cs = some x) (hw : ∀ n ∈ x.1.weights P t, n ≤ reachBytes) (i : Nat) {f : Field} (hf : fs[i]? = some f) (ho : f.offset = i) (hc : P.cellsOf f.type = 1) (hd : Opn enc P W f.type Q) : Q ((cs.drop i).take 1) := by
  obtain ⟨xs, n, _, hx, _, hl, hh⟩ := DataW.trod_struct ht h
  have h1 := hh i f hf
  have hi : i < xs.length := by
    rw [hl]
    have := (Array.getElem?_eq_some_iff.1 hf).1
    exact this
  rw [ho, hc, List.getElem?_eq_getElem hi] at h1
  refine hd _ _ _ h1 (fun n hn => hw n ?_)
  rw [hx]
  simp only [DataW.weights, ht]
  refine DataW.weights_mem_each (j := i) (t := f.type) (d := xs[i].1) ?_ ?_ n hn
  · rw [List.getElem?_map, Array.getElem?_toList, hf]; rfl
  · rw [List.getElem?_map, List.getElem?_eq_getElem hi]; rfl
theorem Opn.row {t : TypeId} {Q : List Value → Prop} {v : Value} {D : DataW H} {p : List MemPlace} (ho : Opn enc P W t Q) (h : DataW.Trod enc P W 0 (fun _ => true) true t v D p) (hw : ∀ n ∈ D.weights P t, n ≤ reachBytes) : Q v.cells.toList := by
  obtain ⟨fuel, hf⟩ := h
  exact ho _ _ _ hf hw
end
theorem flat_one : ∀ l : List UInt8, (l.map (fun b : UInt8 => [bv b])).flatten = l.map bv
  | [] => rfl
  | x :: r => by rw [List.map_cons, List.flatten_cons, flat_one r]; rfl
theorem lst_bytes {W : World} {Q : List Value → Prop} {cs : List Value} (h : LstQ W 1 Q cs) (hq : ∀ e, Q e → ∃ n, e = [.int .u8 n] ∧ (Lit.int .u8 n).wf = true) : ∃ A c, ∃ b : List UInt8, cs = [.slice A b.length c] ∧ b.length ≤ c ∧ b.length ≤ 140737488351232 ∧ RdB W A b := by
  obtain ⟨A, c, els, rfl, h1, _, h3, h4, h5⟩ := h
  obtain ⟨l, rfl, _⟩ := all_map (f := fun b : UInt8 => [bv b]) (Q := fun _ => True) (els := els) (fun e he => by
    obtain ⟨n, rfl, hn⟩ := hq e (h4 e he)
    refine ⟨UInt8.ofNat n.toNat, ?_, trivial⟩
    simp [Lit.wf, IntKind.min, IntKind.max, IntKind.signed, IntKind.bits] at hn
    simp only [bv, UInt8.toNat_ofNat']
    rw [Nat.mod_eq_of_lt (by omega)]
    congr 2; omega)
  rw [List.length_map] at h1 h3 ⊢
  have hrb : reachBytes = 140737488351232 := by decide
  rw [flat_one] at h5
  exact ⟨A, c, l, rfl, h1, by omega, fun h0 => h5 (by rw [List.length_map]; exact h0)⟩
end Go.Vel
namespace Go.Proofs
open Go.Vel
set_option maxRecDepth 100000
section
variable {H : Type} {enc : TypeId × Value → H} {W : World}
theorem opnBytes : Opn enc Try.prog W 31 (LstQ W 1 fun cs => ∃ n, cs = [.int .u8 n] ∧ (Lit.int .u8 n).wf = true) := Opn.slice Try.underlying31 (Opn.int Try.underlying5) (by kernel_rfl)
/-- Bytes that came in. -/
theorem open_bytes9 {A : Option Addr} {n c : Nat} {D : DataW H} {p : List MemPlace} (h : DataW.Trod enc Try.prog W 0 (fun _ => true) true 31 (.slice A n c) D p) (hw : ∀ n ∈ D.weights Try.prog 31, n ≤ reachBytes) :
    ∃ b : List UInt8, n = b.length ∧ b.length ≤ c ∧ RdB W A b ∧ b.length ≤ 140737488351232 := by
  obtain ⟨A', c', b, e, h1, h2, h3⟩ := lst_bytes (Opn.row opnBytes h hw) (fun e he => he)
  simp [Value.cells] at e
  obtain ⟨rfl, rfl, rfl⟩ := e
  exact ⟨b, rfl, h1, h3, h2⟩
end
end Go.Proofs
end
section
open Go Go.RowKit Go.Proofs.YtgeioealgidkiaaW.PrintWords
namespace Go.Proofs
open Go.Vel
set_option linter.unusedVariables false
set_option maxRecDepth 100000
set_option maxHeartbeats 4000000
attribute [local irreducible] gives wpList Code.wp
section
structure RingI (i n T H:Nat)(s:Dsk):Prop where
 core:∃R low Y,Core s n 2 T Y H H R low
 left:s.left= -1
 h:H≤17*i
 life:s.life=3
theorem FrN.core {n:Nat}{s:Dsk}(h:FrN n s 8589934592)(hp:s.pend=[])(h1:18≤n)(h2:n≤256):Core s n 2 0 0 0 0 [] 0:=by
 have hpc:∀k,k<n→pcF (s.lst (2+k))=pcNo:=fun k hk=>by rw [←now_lst hp,h.ring _ om_ om_];exact pc_zero
 obtain ⟨x,hx⟩:=h.pair
 refine ⟨⟨h1,h2⟩,h.len,Sgl.nil hp,by omega,(by rw [hp];intro y hy;cases hy),⟨x,by rw [←now_lst hp,←now_lst hp];exact hx⟩,fun k hk=> ?_,.nil,Nat.le_refl _,.nil⟩
 rw [hpc k hk]
 exact ⟨Nat.zero_le _,fun e=>absurd (show (0:Nat)=2 from e) dc_⟩
theorem RingI.next {i n T H:Nat}{s:Dsk}(h:RingI i n T H s):RingI (i+1) n T H s:=⟨h.core,h.left,by have:=h.h;omega,h.life⟩
section
variable {F:Nat→Prop}{w0 w:World}{L:List Ast}{gl gd i n T H:Nat}{s:Dsk}
end
end
section
theorem RoL.take {F:Nat→Prop}{w0:World}{L:List Ast}{A:Option Addr}{R:List RecV}(h:RoL F w0 L A R)(m:Nat):RoL F w0 L A (R.take m):=
 ⟨⟨fun w' L' S h0=>by
  have h1:0<(R.map (·.1)).length:=by rw [List.length_map] at h0 ⊢;rw [List.length_take] at h0;omega
  obtain ⟨ad,e,q⟩:=h.vs.out w' L' S h1
  refine ⟨ad,e,fun j u hu=>q j u ?_⟩
  rw [List.map_take,List.getElem?_take] at hu
  split at hu
  ·exact hu
  ·cases hu⟩,fun x hx=>h.el x (List.mem_of_mem_take hx)⟩
structure PBk where
 gd:Nat
 gl:Nat
 gb:Nat
 v:Value
 RV:List RecV
 XS:List RecV
 s:Dsk
 l:Lg
 low:Nat
 nn:Bool
def PBk.parts (gp n:Nat)(p:PBk):List Ast:=[row gp #[.pointer (some ⟨p.gd,0,none⟩),.pointer (some ⟨p.gl,0,none⟩),.int .i64 (n:Nat),.pointer (some ⟨p.gb,0,none⟩)] 123,row p.gb #[p.v,.int .i64 (p.low:Nat),.bool p.nn] 121,vec 31 1 p.v (p.RV++p.XS).length ((p.RV++p.XS).map (·.1)),stars (p.RV.map recD),PLog p.gl p.gd p.l,PW p.gd p.s]
def XOk (F:Nat→Prop)(w0:World)(XS:List RecV):Prop:=∀x∈XS,∃B c,x.1=.slice B x.2.length c∧(∀L,RoT F w0 L B x.2)∧x.2.length≤140737488355328
structure PBok (F:Nat→Prop)(w0:World)(k n:Nat)(p:PBk):Prop where
 xs:XOk F w0 p.XS
 rv:∀x∈p.RV,1≤x.2.length∧x.2.length≤8364
 len:(p.RV++p.XS).length≤256+k
 lo:p.low≤256+k
 lf:p.l.life≤p.s.life
section
variable {F:Nat→Prop}{w0 w:World}{L:List Ast}{gp k n:Nat}
theorem PBok.next {p:PBk}(h:PBok F w0 k n p):PBok F w0 (k+1) n p:=⟨h.xs,h.rv,by have:=h.len;omega,by have:=h.lo;omega,h.lf⟩
end
end
section
structure OpY where
 g:Nat
 A:Option Addr
 c:Nat
 m:Nat
def OpY.zero:OpY:=⟨0,none,0,0⟩
section
variable {F:Nat→Prop}{w0 w:World}{L:List Ast}{gd gp k n:Nat}{B:List (List UInt8)}{low:Nat}{nn:Bool}
end
end
section
section
variable {k n low:Nat}{s:Dsk}{l:Lg}{nn:Bool}
end
structure OpE where
 kind:Int
 a:Int
 b:Int
 A:Option Addr
 d:List UInt8
 cd:Nat
 A2:Option Addr
 ps:List Pick
 cq:Nat
def OpE.cells (o:OpE):List Value:=[.int .i64 o.kind,.int .i64 o.a,.int .i64 o.b,.slice o.A o.d.length o.cd,.slice o.A2 o.ps.length o.cq]
end
end Go.Proofs
end
section
open Go Go.RowKit Go.Deep Go.Proofs.YtgeioealgidkiaaW.PrintWords
namespace Go.Proofs
open Go.Vel
set_option maxRecDepth 100000
section
theorem flat_picks (l:List Pick):(l.map pickCells).flatten=picksV l:=by unfold picksV;rw [List.flatMap_def]
section
variable {H:Type}{enc:TypeId×Value→H}{W:World}
theorem opnPick:Opn enc Try.prog W 145 (fun cs=>∃p:Pick,cs=pickCells p∧True):=by
 intro fuel cs x h hw
 obtain ⟨_,_,_,_,hl,_,_⟩:=DataW.trod_struct Try.underlying145 h
 have h4:Try.prog.cellsOf 145=3:=by kernel_rfl
 rw [h4] at hl
 obtain ⟨n0,k0,_⟩:=Opn.field Try.underlying145 h hw 0 rfl rfl kr_ (Opn.int Try.underlying3)
 obtain ⟨n1,k1,_⟩:=Opn.field Try.underlying145 h hw 1 rfl rfl kr_ (Opn.int Try.underlying3)
 obtain ⟨n2,k2,_⟩:=Opn.field Try.underlying145 h hw 2 rfl rfl kr_ (Opn.int Try.underlying3)
 match cs,hl with
 |[v0,v1,v2],_=>
  simp at k0 k1 k2
  subst k0 k1 k2
  exact ⟨(n0,n1,n2),rfl,trivial⟩
theorem opnPicks:Opn enc Try.prog W 48 (LstQ W 24 fun cs=>∃p:Pick,cs=pickCells p∧True):=Opn.slice Try.underlying48 opnPick kr_
end
end
section
section
variable {H:Type}{enc:TypeId×Value→H}{W:World}
theorem opnOpK:Opn enc Try.prog W 50 (fun cs=>∃o:OpK,cs=o.cells∧o.Ok W):=by
 intro fuel cs x h hw
 obtain ⟨_,_,_,_,hl,_,_⟩:=DataW.trod_struct Try.underlying50 h
 have h4:Try.prog.cellsOf 50=4:=by kernel_rfl
 rw [h4] at hl
 obtain ⟨n0,k0,w0⟩:=Opn.field Try.underlying50 h hw 0 rfl rfl kr_ (Opn.int Try.underlying3)
 obtain ⟨n1,k1,w1⟩:=Opn.field Try.underlying50 h hw 1 rfl rfl kr_ (Opn.int Try.underlying3)
 obtain ⟨A2,c2,b,k3,i2,m2,r2⟩:=lst_bytes (Opn.field Try.underlying50 h hw 2 rfl rfl kr_ opnBytes) (fun e he=>he)
 obtain ⟨A3,c3,els,k4,_,_,m3,q3,r3⟩:=Opn.field Try.underlying50 h hw 3 rfl rfl kr_ opnPicks
 obtain ⟨ps,rfl,_⟩:=all_map q3
 rw [List.length_map] at k4 m3
 have hrb:reachBytes=140737488351232:=by decide
 have hw1:n1≤9223372036854775807:=by
  simp [Lit.wf,IntKind.min,IntKind.max,IntKind.signed,IntKind.bits] at w1;omega
 match cs,hl with
 |[v0,v1,v2,v3],_=>
  simp at k0 k1 k3 k4
  subst k0 k1 k3 k4
  exact ⟨⟨n0,n1,A2,b,c2,A3,ps,c3⟩,rfl,⟨r2,by rw [flat_picks] at r3;exact r3,by show b.length≤_;omega,by show ps.length*24≤_;omega,hw1⟩⟩
theorem flat_opks (l:List OpK):(l.map OpK.cells).flatten=opkV l:=by unfold opkV;rw [List.flatMap_def]
theorem opnOpKs:Opn enc Try.prog W 34 (LstQ W 64 fun cs=>∃o:OpK,cs=o.cells∧o.Ok W):=Opn.slice Try.underlying34 opnOpK kr_
theorem open_opks {A:Option Addr}{n c:Nat}{D:DataW H}{p:List MemPlace}(h:DataW.Trod enc Try.prog W 0 (fun _=>true) true 34 (.slice A n c) D p)(hw:∀n∈D.weights Try.prog 34,n≤reachBytes):
  ∃ops:List OpK,n=ops.length∧RdV W A (opkV ops)∧ops.length≤2199023255488∧∀o∈ops,o.Ok W:=by
 obtain ⟨A',c',els,e,_,_,hm,hq,hr⟩:=Opn.row opnOpKs h hw
 obtain ⟨ops,rfl,ho⟩:=all_map hq
 simp [Value.cells] at e
 obtain ⟨rfl,rfl,rfl⟩:=e
 rw [List.length_map] at hm
 have hrb:reachBytes=140737488351232:=by decide
 exact ⟨ops,rfl,by rw [flat_opks] at hr;exact hr,by omega,ho⟩
end
end
end Go.Proofs
end
