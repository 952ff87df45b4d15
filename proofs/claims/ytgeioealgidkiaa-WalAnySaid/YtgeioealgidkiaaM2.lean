/- Part 2 of 5 of what the proof stands on: the words, the laws of the walk, the walks, the plain laws; each section is one text. -/
import Derived.Test.YtgeioealgidkiaaM1
import Derived.Test.YtgeioealgidkiaaChecked
import Derived.StillTailTactics
section
open Go Go.RowKit Go.Proofs.YtgeioealgidkiaaW.PrintWords Go.Proofs.YtgeioealgidkiaaW.PrintMore
namespace Go.Proofs
open Go.Vel
set_option linter.unusedVariables false
set_option maxRecDepth 100000
set_option maxHeartbeats 4000000
attribute [local irreducible] gives wpList Code.wp
theorem tmod_nat {a b:Int}{m n:Nat}(ha:a=(m:Int))(hb:b=(n:Int)):Int.tmod a b=((m%n:Nat):Int):=by subst ha hb;rfl
theorem max_nat (n:Int):(if (0:Int)>n then 0 else n)=((n.toNat:Nat):Int):=by split<;>omega
def CandA (gd k m:Nat)(ws:List (Nat×List UInt8))(i:Nat)(A:Option Addr)(c:Nat):Prop:=(i=0∧A=some ⟨gd,512*k,none⟩∧c=512*m-512*k)∨∃x,i≠0∧ws[i-1]?=some x∧A=some ⟨x.1,0,none⟩∧c=512
theorem cand_ro {w:World}{g gd gm m g7 g3 g4:Nat}{fused:Bool}{left life r wr fl rf pn:Int}{p:PEnt}{t7 t3 t4:TypeId}{n:Int}{A:Option Addr}{ca:Nat}(HB:Blk w g (dcells gd (512*m) (512*m) gm fused left life r wr fl rf pn) 135)(H7:Blk w g7 #[p.v] t7)(H3:Blk w g3 #[.pointer (some ⟨g,0,none⟩)] t3)(H4:Blk w g4 #[.int .i64 ((p.at_:Nat):Int)] t4)(hm:m≤2048)(hk:p.at_<m)(hq:p.ws.length≤4611686018427387904)
  (hv:∃(gb cb:Nat) (cells:Array Value),p.v=.slice (some ⟨gb,0,none⟩) p.ws.length cb∧Blk w gb cells 31∧(∀(m:Nat) (x:Nat×List UInt8),p.ws[m]?=some x→cells[m]?=some (PEnt.val x))) (hA:CandA gd p.at_ m p.ws (n.toNat%(p.ws.length+1)) A ca):
  Calls Try.prog 143 #[iv n,pq g7,pq g3,pq g4] w fun e w'=>e=.returned (.slice A 512 ca)∧w=w':=by
 obtain ⟨gb,cb,cells,hv,HV,hcell⟩:=hv
 rw [hv] at H7
 rcases hA with ⟨h0,rfl,rfl⟩|⟨x,h0,hx,rfl,rfl⟩
 ·refine eN (fr [iv n,pq g7,pq g3,pq g4] 18) Try.func143 rfl (sR (pv (nS_) (wE (nS (sR (pv (iv n) (gI .i64 (if 0>n then 0 else n) ((n.toNat:Nat):Int) (max_nat n) (lQ (sl gb 0 p.ws.length cb) ((H7.cell 0).trans rfl) (pv (iv (p.ws.length:Nat)) (gI .i64 (IntKind.i64.wrap ((p.ws.length:Nat)+1)) ((p.ws.length+1:Nat):Int) wq_ (gI .i64 (Int.tmod ((n.toNat:Nat):Int) ((p.ws.length+1:Nat):Int)) ((n.toNat%(p.ws.length+1):Nat):Int) (tmod_nat rfl rfl) (pv (nI_ (n.toNat%(p.ws.length+1))) (wER ?_)))))))))))))
  exact pv (nI_ (n.toNat%(p.ws.length+1))) (dC ((((n.toNat%(p.ws.length+1):Nat):Int):Int)>0) (fun hd1=>False.elim om_) fun _=>wE (nCF (wp_skip (nSR (lQ (pq g) ((H3.cell 0).trans rfl) (lQ (nI_ p.at_) ((H4.cell 0).trans rfl) (sO Try.func114 #[pq g,nI_ p.at_] (home_ro HB rfl rfl hm hk) (pv (sl gd (512*p.at_) 512 (512*m-512*p.at_)) (wE (then_n (wp_ret (bA (.slice (some ⟨gd,512*p.at_,none⟩) 512 (512*m-512*p.at_)) ⟨rfl,rfl⟩))))))))))))
 ·have hlt:=(List.getElem?_eq_some_iff.1 hx).1
  refine eN (fr [iv n,pq g7,pq g3,pq g4] 18) Try.func143 rfl (sR (pv (nS_) (wE (nS (sR (pv (iv n) (gI .i64 (if 0>n then 0 else n) ((n.toNat:Nat):Int) (max_nat n) (lQ (sl gb 0 p.ws.length cb) ((H7.cell 0).trans rfl) (pv (iv (p.ws.length:Nat)) (gI .i64 (IntKind.i64.wrap ((p.ws.length:Nat)+1)) ((p.ws.length+1:Nat):Int) wq_ (gI .i64 (Int.tmod ((n.toNat:Nat):Int) ((p.ws.length+1:Nat):Int)) ((n.toNat%(p.ws.length+1):Nat):Int) (tmod_nat rfl rfl) (pv (nI_ (n.toNat%(p.ws.length+1))) (wER ?_)))))))))))))
  refine pv (nI_ (n.toNat%(p.ws.length+1))) (dC ((((n.toNat%(p.ws.length+1):Nat):Int):Int)>0) (fun _=>wE (nCT (sR (lQ (sl gb 0 p.ws.length cb) ((H7.cell 0).trans rfl) (pv (nI_ (n.toNat%(p.ws.length+1))) (gI .i64 (IntKind.i64.wrap (((n.toNat%(p.ws.length+1):Nat):Int)-1)) ((n.toNat%(p.ws.length+1)-1:Nat):Int) wq_ (g_ (gv_ixE (e:=31) (sz:=1) (g:=gb) (off:=0) (n:=p.ws.length) (c:=cb) (i:=((n.toNat%(p.ws.length+1)-1:Nat):Int)) (k:=.i64) (j:=(n.toNat%(p.ws.length+1)-1)) (off':=(n.toNat%(p.ws.length+1)-1)) rfl kr_ kr_ kr_ kr_ rfl om_ om_ (lQ (sl x.1 0 512 512) ((HV.cell _).trans (hcell _ x hx)) (pv (sl x.1 0 512 512) (wE (then_n (rR ?_))))))))))))) fun hd1=>False.elim om_)
  exact bA (sl x.1 0 512 512) ⟨rfl,rfl⟩
theorem cand_pick {F:Nat→Prop}{w0 w:World}{L:List Ast}{g gd gm m clock:Nat}{fused:Bool}{left life r wr fl rf pn:Int}{D x:List UInt8}{es:List PEnt}{j:Nat}{p:PEnt}(S:St F w0 w ([row g (dcells gd (512*m) (512*m) gm fused left life r wr fl rf pn) 135,row gd (bvs D) 5,pt gm (mapO (es.map PEnt.ent) clock),stars (es.map PEnt.ast)]++L))(hj:es[j]?=some p)(hne:p.ws≠[])(hx:x=(D.drop (512*p.at_)).take 512)(h5:∀x∈p.ws,x.2.length=512)(i:Nat)(hi:i<p.ws.length+1):
  ∃A ca,CandA gd p.at_ m p.ws i A ca∧RoT F w0 ([row g (dcells gd (512*m) (512*m) gm fused left life r wr fl rf pn) 135,row gd (bvs D) 5,pt gm (mapO (es.map PEnt.ent) clock),stars (es.map PEnt.ast)]++L) A ((x::p.ws.map (·.2)).getD i []):=by
 rcases Nat.eq_zero_or_pos i with rfl|h0
 ·exact ⟨_,_,.inl ⟨rfl,rfl,rfl⟩,RoT.item 1 rfl _ 512 _ hx⟩
 ·have hl:i-1<p.ws.length:=by omega
  refine ⟨_,_,.inr ⟨p.ws[i-1],by omega,List.getElem?_eq_getElem hl,rfl,rfl⟩,⟨fun w' L' S'=> ?_⟩⟩
  have h1:(L'++([row g (dcells gd (512*m) (512*m) gm fused left life r wr fl rf pn) 135,row gd (bvs D) 5,pt gm (mapO (es.map PEnt.ent) clock),stars (es.map PEnt.ast)]++L))[L'.length+3]?=some (stars (es.map PEnt.ast)):=by rw [List.getElem?_append_right om_];simp
  obtain ⟨_,_,_,_,_,_,hdat⟩:=pend_facts S' _ h1 hj hne
  have hm:p.ws[i-1]∈p.ws:=List.getElem_mem hl
  refine RdB.row (hdat _ hm) 0 512 _ ?_
  rw [List.drop_zero,List.take_of_length_le (by rw [h5 _ hm];exact Nat.le_refl _)]
  obtain ⟨q,rfl⟩:∃q,i=q+1:=⟨i-1,by omega⟩
  simp at hl
  simp [hl]
theorem outcome_own {F:Nat→Prop}{w0 w:World}{L:List Ast}{g gd gm m clock:Nat}{fused:Bool}{left life r wr fl rf pn:Int}{D x:List UInt8}{es:List PEnt}{j:Nat}{p:PEnt}{pa pb pc:Int}(S:St F w0 w ([row g (dcells gd (512*m) (512*m) gm fused left life r wr fl rf pn) 135,row gd (bvs D) 5,pt gm (mapO (es.map PEnt.ent) clock),stars (es.map PEnt.ast)]++L))(hj:es[j]?=some p)(hje:(es.map PEnt.ent)[j]?=some p.ent)(hke:p.ent.k=((p.at_:Nat):Int))(hfe:∀(m:Nat) (e:Ent),m<j→(es.map PEnt.ent)[m]?=some e→e.k≠((p.at_:Nat):Int))(hne:p.ws≠[])(hx:x=(D.drop (512*p.at_)).take 512)(hx5:x.length=512)(h5:∀x∈p.ws,x.2.length=512)(hm:m≤2048)(hk:p.at_<m)(hq:p.ws.length≤4611686018427387904):
  Calls Try.prog 115 #[pq g,nI_ p.at_,.agg #[iv pa,iv pb,iv pc]] w fun e w'=>∃go,e=.returned (.slice (some ⟨go,0,none⟩) 512 512)∧St F w0 w' (row go (bvs (tornS (x::p.ws.map (·.2)) (pa,pb,pc))) 5::([row g (dcells gd (512*m) (512*m) gm fused left life r wr fl rf pn) 135,row gd (bvs D) 5,pt gm (mapO (es.map PEnt.ent) clock),stars (es.map PEnt.ast)]++L)):=by
 obtain ⟨Aa,caa,hAa,hRa⟩:=cand_pick S hj hne hx h5 (pa.toNat%(p.ws.length+1)) (Nat.mod_lt _ (Nat.succ_pos _))
 obtain ⟨Ab,cab,hAb,hRb⟩:=cand_pick S hj hne hx h5 (pb.toNat%(p.ws.length+1)) (Nat.mod_lt _ (Nat.succ_pos _))
 have hone:p.v.oneCell'=true:=by
  obtain ⟨_,_,_,hv,_⟩:=pend_facts S 3 rfl hj hne
  rw [hv];rfl
 have hcl:∀y∈(x::p.ws.map (·.2)),y.length=512:=fun y hy=>by
  rcases List.mem_cons.1 hy with rfl|hy
  ·exact hx5
  ·obtain ⟨z,hz,rfl⟩:=List.mem_map.1 hy;exact h5 z hz
 have hlen:(x::p.ws.map (·.2)).length=p.ws.length+1:=by simp
 have hcl2:∀i,i<p.ws.length+1→((x::p.ws.map (·.2)).getD i []).length=512:=fun i hi=>by
  rw [List.getD_eq_getElem?_getD,List.getElem?_eq_getElem (by rw [hlen];exact hi)];exact hcl _ (List.getElem_mem _)
 have hla:=hcl2 _ (Nat.mod_lt pa.toNat (Nat.succ_pos p.ws.length))
 have hlb:=hcl2 _ (Nat.mod_lt pb.toNat (Nat.succ_pos p.ws.length))
 have hcm:pc.toNat%513<513:=Nat.mod_lt _ dc_
 change St F w0 w (dR g gd (512*m) gm fused left life r wr fl rf pn::row gd (bvs D) 5::pt gm (mapO (es.map PEnt.ent) clock)::stars (es.map PEnt.ast)::L) at S
 refine eN (fr [pq g,nI_ p.at_,.agg #[iv pa,iv pb,iv pc]] 35) Try.func115 rfl (sR (nB rfl (pq g) S fun g1 w2 hg3 S4=>nB rfl (nI_ p.at_) S4 fun g5 w6 hg7 S8=>nB rfl (.agg #[iv pa,iv pb,iv pc]) S8 fun g9 w10 hg11 S12=>pv (nS_) (wE (nS (wp_region_phu (γ:=Nat) 7 [6] (fun (c_:Nat) (i_:Nat)=>(match i_ with|0=>pq g|1=>pq g|2=>po g 1|3=>.map (some gm)|4=>nI_ p.at_|5=>p.v|6=>pq c_|_=>undef:Value)) (fun (c_:Nat) (p_:Nat) (w_:World)=>(match p_ with|0=>St F w0 w_ (row g9 #[iv pa,iv pb,iv pc] 145::row g5 #[nI_ p.at_] 3::row g1 #[pq g] 22::dR g gd (512*m) gm fused left life r wr fl rf pn::row gd (bvs D) 5::pt gm (mapO (es.map PEnt.ent) clock)::stars (es.map PEnt.ast)::L)|_=>St F w0 w_ (row c_ #[nS_] 42::row g9 #[iv pa,iv pb,iv pc] 145::row g5 #[nI_ p.at_] 3::row g1 #[pq g] 22::dR g gd (512*m) gm fused left life r wr fl rf pn::row gd (bvs D) 5::pt gm (mapO (es.map PEnt.ent) clock)::stars (es.map PEnt.ast)::L):Prop)) (0) kr_ kr_ kr_ kr_ (S12.drew) ?_ ?_ ?_)))))
 ·intro i_ c_ p_ vals_ w1 hi_ hiE_ hp_ hk_ hu_ hPh_ hd_
  rcases i_ with _|_|_|_|_|_|_|i_
  ·rcases p_ with _|_|p_
   ·have S13:=St.id hPh_
    exact tG_ rfl hd_ (gL (pq g) rfl (((S13.blk 2 rfl).cell 0).trans rfl) ⟨rfl,rfl⟩)
   ·have S14:=St.id hPh_
    exact tG_ rfl hd_ (gL (pq g) rfl (((S14.blk 3 rfl).cell 0).trans rfl) ⟨rfl,rfl⟩)
   ·exact absurd hp_ (by simp)
  ·exact tG_ rfl hd_ (gV (pq g) ⟨rfl,rfl⟩)
  ·exact tG_ rfl hd_ (gV (po g 1) ⟨rfl,rfl⟩)
  ·rcases p_ with _|_|p_
   ·have S17:=St.id hPh_
    exact tG_ rfl hd_ (gL (.map (some gm)) rfl (((S17.blk 3 rfl).cell 1).trans rfl) ⟨rfl,rfl⟩)
   ·have S18:=St.id hPh_
    exact tG_ rfl hd_ (gL (.map (some gm)) rfl (((S18.blk 4 rfl).cell 1).trans rfl) ⟨rfl,rfl⟩)
   ·exact absurd hp_ (by simp)
  ·rcases p_ with _|_|p_
   ·have S19:=St.id hPh_
    exact tG_ rfl hd_ (gL (nI_ p.at_) rfl (((S19.blk 1 rfl).cell 0).trans rfl) ⟨rfl,rfl⟩)
   ·have S20:=St.id hPh_
    exact tG_ rfl hd_ (gL (nI_ p.at_) rfl (((S20.blk 2 rfl).cell 0).trans rfl) ⟨rfl,rfl⟩)
   ·exact absurd hp_ (by simp)
  ·rcases p_ with _|_|p_
   ·have S21:=St.id hPh_
    exact tG_ rfl hd_ (gv_look_some (kT:=3) (eT:=42) (k:=((p.at_:Nat):Int)) (S21.get 5 rfl) rfl kr_ kr_ kr_ kr_ hje hke hfe ⟨rfl,rfl⟩)
   ·have S22:=St.id hPh_
    exact tG_ rfl hd_ (gv_look_some (kT:=3) (eT:=42) (k:=((p.at_:Nat):Int)) (S22.get 6 rfl) rfl kr_ kr_ kr_ kr_ hje hke hfe ⟨rfl,rfl⟩)
   ·exact absurd hp_ (by simp)
  ·exact absurd hiE_ dc_
  ·exact absurd hi_ om_
 ·intro k_ c_ vals_ w1 hk_ hPh_ hd_
  rcases k_ with _|k_
  ·have S23:=St.id hPh_
   refine tG_ rfl hd_ (gv_new (z:=nS_) S23 rfl kr_ (fun g24 w25 hg26 S27=>⟨(g24),rfl, ?_,S27⟩))
   intro i_ hi_ hne_ hdp_
   rcases i_ with _|_|_|_|_|_|_|i_
   ·rfl
   ·rfl
   ·rfl
   ·rfl
   ·rfl
   ·rfl
   ·exact absurd rfl hne_
   ·exact absurd hi_ om_
  ·exact absurd hk_ (by simp)
 ·intro c_ w1 hPh_
  have S28:=St.id hPh_
  refine (g_ (gv_st (k:=0) (v:=p.v) S28 0 rfl rfl kr_ kr_ kr_ hone rfl (L':=(row c_ #[p.v] 42::row g9 #[iv pa,iv pb,iv pc] 145::row g5 #[nI_ p.at_] 3::row g1 #[pq g] 22::dR g gd (512*m) gm fused left life r wr fl rf pn::row gd (bvs D) 5::pt gm (mapO (es.map PEnt.ent) clock)::stars (es.map PEnt.ast)::L)) rfl (fun w29 S30=>wE (nSR (pv (.func (.func 143) #[] #[pq c_,pq g1,pq g5]) (pv (.func (.func 143) #[] #[pq c_,pq g1,pq g5]) (wER (pv (po g9 2) (lR (iv pc) S30 1 2 (gI .i64 (if 0>pc then 0 else pc) ((pc.toNat:Nat):Int) (max_nat pc) (gI .i64 (Int.tmod ((pc.toNat:Nat):Int) 513) ((pc.toNat%513:Nat):Int) (tmod_nat rfl rfl) (pv (nI_ (pc.toNat%513)) (wER (g_ (gv_make (e:=5) (u:=512) (v:=512) (z:=.int .u8 0) (sz:=1) (by_:=1) (n:=512) (c:=512) (cs:=(bvs (List.replicate 512 0))) S30 rfl kr_ ⟨by kernel_rfl⟩ kr_ kr_ rfl rfl (Nat.le_refl _) dc_ dc_ (mk_bytes _) (fun g31 w32 hg33 S34=> ?_))))))))))))))))
  refine pv (sl g31 0 512 512) (wER (pv (sl g31 0 512 512) (pv (.func (.func 143) #[] #[pq c_,pq g1,pq g5]) (pv (po g9 1) (lR (iv pb) S34 2 1 (g_ (gv_callC (f:=143) (args:=#[iv pb,pq c_,pq g1,pq g5]) (caps:=#[pq c_,pq g1,pq g5]) rfl Try.func143 kr_ rfl kr_ kr_ (Calls.mono (cand_ro (p:=p) (S34.blk 5 rfl) (S34.blk 1 rfl) (S34.blk 4 rfl) (S34.blk 3 rfl) hm hk hq ((pend_facts S34 8 rfl hj hne).elim fun a h=>h.elim fun b h=>h.elim fun c h=>⟨a,b,c,h.1,h.2.1,h.2.2.1⟩) hAb) ?_))))))))
  rintro _ _ ⟨rfl,rfl⟩
  refine ⟨_,rfl,(g_ (gv_copy (e:=5) (off:=0) (dLen:=512) (dCap:=512) (sLen:=512) (sCap:=cab) (A:=Ab) (B:=(List.replicate 512 0)) (l:=((x::p.ws.map (·.2)).getD (pb.toNat%(p.ws.length+1)) [])) S34 0 rfl rfl kr_ kr_ kr_ kr_ hlb.symm (hRb.out _ [row g31 (bvs (List.replicate 512 0)) 5,row c_ #[p.v] 42,row g9 #[iv pa,iv pb,iv pc] 145,row g5 #[nI_ p.at_] 3,row g1 #[pq g] 22] S34) (by rw [List.length_replicate];omega) (L':=(row g31 (bvs ((x::p.ws.map (·.2)).getD (pb.toNat%(p.ws.length+1)) [])) 5::row c_ #[p.v] 42::row g9 #[iv pa,iv pb,iv pc] 145::row g5 #[nI_ p.at_] 3::row g1 #[pq g] 22::dR g gd (512*m) gm fused left life r wr fl rf pn::row gd (bvs D) 5::pt gm (mapO (es.map PEnt.ent) clock)::stars (es.map PEnt.ast)::L)) (by rw [copy512 hlb];rfl) (fun w35 m37 S36=>wE (nS (wp_region_phu (γ:=Int) 8 [7] (fun (c2_:Int) (i_:Nat)=>(match i_ with|0=>sl g31 0 512 512|1=>nI_ (pc.toNat%513)|2=>sl g31 0 (pc.toNat%513) 512|3=>.func (.func 143) #[] #[pq c_,pq g1,pq g5]|4=>pq g9|5=>iv pa|6=>.slice Aa 512 caa|7=>goInt c2_|_=>undef:Value)) (fun (c2_:Int) (p_:Nat) (w_:World)=>(match p_ with|0=>St F w0 w_ (row g31 (bvs ((x::p.ws.map (·.2)).getD (pb.toNat%(p.ws.length+1)) [])) 5::row c_ #[p.v] 42::row g9 #[iv pa,iv pb,iv pc] 145::row g5 #[nI_ p.at_] 3::row g1 #[pq g] 22::dR g gd (512*m) gm fused left life r wr fl rf pn::row gd (bvs D) 5::pt gm (mapO (es.map PEnt.ent) clock)::stars (es.map PEnt.ast)::L)|_=>St F w0 w_ (row g31 (bvs (tornS (x::p.ws.map (·.2)) (pa,pb,pc))) 5::row c_ #[p.v] 42::row g9 #[iv pa,iv pb,iv pc] 145::row g5 #[nI_ p.at_] 3::row g1 #[pq g] 22::dR g gd (512*m) gm fused left life r wr fl rf pn::row gd (bvs D) 5::pt gm (mapO (es.map PEnt.ent) clock)::stars (es.map PEnt.ast)::L):Prop)) (0) kr_ kr_ kr_ kr_ (S36.drew) ?_ ?_ ?_)))))⟩
  ·intro i_ c2_ p_ vals_ w1 hi_ hiE_ hp_ hk_ hu_ hPh_ hd_
   rcases i_ with _|_|_|_|_|_|_|_|i_
   ·exact tG_ rfl hd_ (gV (sl g31 0 512 512) ⟨rfl,rfl⟩)
   ·exact tG_ rfl hd_ (gV (nI_ (pc.toNat%513)) ⟨rfl,rfl⟩)
   ·exact tG_ rfl hd_ (gv_cutTo (e:=5) (sz:=1) (A:=(some ⟨g31,0,none⟩)) (n:=512) (c:=512) (kh:=.i64) (v:=((pc.toNat%513:Nat):Int)) (hi:=(pc.toNat%513)) rfl kr_ kr_ kr_ kr_ rfl om_ ⟨rfl,rfl⟩)
   ·exact tG_ rfl hd_ (gV (.func (.func 143) #[] #[pq c_,pq g1,pq g5]) ⟨rfl,rfl⟩)
   ·exact tG_ rfl hd_ (gV (pq g9) ⟨rfl,rfl⟩)
   ·rcases p_ with _|_|p_
    ·have S43:=St.id hPh_
     exact tG_ rfl hd_ (gL (iv pa) rfl (((S43.blk 2 rfl).cell 0).trans rfl) ⟨rfl,rfl⟩)
    ·exact absurd (hu_ 0 dc_ kr_) dc_
    ·exact absurd hp_ (by simp)
   ·rcases p_ with _|_|p_
    ·have S44:=St.id hPh_
     refine tG_ rfl hd_ (gv_callC (f:=143) (args:=#[iv pa,pq c_,pq g1,pq g5]) (caps:=#[pq c_,pq g1,pq g5]) rfl Try.func143 kr_ rfl kr_ kr_ (Calls.mono (cand_ro (p:=p) (S44.blk 5 rfl) (S44.blk 1 rfl) (S44.blk 4 rfl) (S44.blk 3 rfl) hm hk hq ((pend_facts S44 8 rfl hj hne).elim fun a h=>h.elim fun b h=>h.elim fun c h=>⟨a,b,c,h.1,h.2.1,h.2.2.1⟩) hAa) ?_))
     rintro _ _ ⟨rfl,rfl⟩
     exact ⟨_,rfl,⟨rfl,rfl⟩⟩
    ·exact absurd (hu_ 0 dc_ kr_) dc_
    ·exact absurd hp_ (by simp)
   ·exact absurd hiE_ dc_
   ·exact absurd hi_ om_
  ·intro k_ c2_ vals_ w1 hk_ hPh_ hd_
   rcases k_ with _|k_
   ·have S45:=St.id hPh_
    refine tG_ rfl hd_ (gv_copy (e:=5) (off:=0) (dLen:=(pc.toNat%513)) (dCap:=512) (sLen:=512) (sCap:=caa) (A:=Aa) (B:=((x::p.ws.map (·.2)).getD (pb.toNat%(p.ws.length+1)) [])) (l:=((x::p.ws.map (·.2)).getD (pa.toNat%(p.ws.length+1)) [])) S45 0 rfl rfl kr_ kr_ kr_ kr_ hla.symm (hRa.out _ [row g31 (bvs ((x::p.ws.map (·.2)).getD (pb.toNat%(p.ws.length+1)) [])) 5,row c_ #[p.v] 42,row g9 #[iv pa,iv pb,iv pc] 145,row g5 #[nI_ p.at_] 3,row g1 #[pq g] 22] S45) (by rw [hlb];omega) (L':=(row g31 (bvs (tornS (x::p.ws.map (·.2)) (pa,pb,pc))) 5::row c_ #[p.v] 42::row g9 #[iv pa,iv pb,iv pc] 145::row g5 #[nI_ p.at_] 3::row g1 #[pq g] 22::dR g gd (512*m) gm fused left life r wr fl rf pn::row gd (bvs D) 5::pt gm (mapO (es.map PEnt.ent) clock)::stars (es.map PEnt.ast)::L)) (by rw [show splice ((x::p.ws.map (·.2)).getD (pb.toNat%(p.ws.length+1)) []) 0 (List.take (pc.toNat%513) ((x::p.ws.map (·.2)).getD (pa.toNat%(p.ws.length+1)) []))=(tornS (x::p.ws.map (·.2)) (pa,pb,pc)) from by unfold tornS splice;rw [hlen,List.take_zero,List.nil_append,Nat.zero_add,List.length_take,hla,Nat.min_eq_left om_]];rfl) (fun w46 m48 S47=> ?_))
    refine ⟨(m48),rfl, ?_,S47⟩
    intro i_ hi_ hne_ hdp_
    rcases i_ with _|_|_|_|_|_|_|_|i_
    ·rfl
    ·rfl
    ·rfl
    ·rfl
    ·rfl
    ·rfl
    ·rfl
    ·exact absurd rfl hne_
    ·exact absurd hi_ om_
   ·exact absurd hk_ (by simp)
  ·intro c2_ w1 hPh_
   have S49:=St.id hPh_
   refine (wE ?_)
   refine nSR (pv (sl g31 0 512 512) (pv (sl g31 0 512 512) (wE (then_n (wp_ret (bA (sl g31 0 512 512) ?_))))))
   have S50:=St.pm 9 [0,5,6,7,8] S49
   exact ⟨_,rfl,S50⟩
theorem nodup_sub {α:Type}[BEq α][LawfulBEq α]:∀(l m:List α),l.Nodup→(∀x∈l,x∈m)→l.length≤m.length
 |[],_,_,_=>Nat.zero_le _
 |x::r,m,hn,h=>by
  have hx:=h x List.mem_cons_self
  have h1:=nodup_sub r (m.erase x) (List.nodup_cons.1 hn).2 fun y hy=>(List.mem_erase_of_ne (fun e=>(List.nodup_cons.1 hn).1 (by subst e;exact hy))).2 (h y (List.mem_cons_of_mem _ hy))
  rw [List.length_erase_of_mem hx] at h1
  have:=List.length_pos_of_mem hx
  rw [List.length_cons];omega
theorem PFacts.few {s:Dsk}{clock:Nat}{es:List PEnt}{fused:Bool}{left:Int}(h:PFacts s clock es fused left){ps:List PEnt}(hps:∀p∈ps,p∈es)(hnd:(ps.map (·.b)).Nodup):ps.length≤2048:=by
 have h1:=nodup_sub (ps.map (·.b)) (es.map (·.b)) hnd fun x hx=>by
  obtain ⟨p,hp,rfl⟩:=List.mem_map.1 hx
  exact List.mem_map.2 ⟨p,hps p hp,rfl⟩
 have h2:=nodup_sub (es.map (·.at_)) (List.range s.last.length) h.keyN fun x hx=>by
  obtain ⟨p,hp,rfl⟩:=List.mem_map.1 hx
  obtain ⟨j,_,_,_,_,hk,_⟩:=h.find_mem hp
  exact List.mem_range.2 hk
 have:=h.n2
 simp only [List.length_map,List.length_range] at h1 h2;omega
theorem St.vec_rdv {F:Nat→Prop}{w0 w:World}{L:List Ast}{e:TypeId}{A:Option Addr}{n c:Nat}{vals:List Value}(S:St F w0 w L)(i:Nat)(hi:L[i]?=some (vec e 1 (.slice A n c) n vals)):RdV w A vals:=by
 have S1:=S.mem i hi
 rcases S1.vec_cases with ⟨h,rfl,rfl,_⟩|⟨g,c',junk,h,_,h3,_,S2⟩
 ·exact fun h=>absurd h (Nat.lt_irrefl 0)
 ·simp at h
  obtain ⟨rfl,_⟩:=h
  exact fun _=>⟨_,rfl,fun j u hu=>by
   rw [Addr.add_lit,Nat.zero_add,(S2.blk 0 rfl).cell,List.getElem?_toArray,List.getElem?_append_left (List.getElem?_eq_some_iff.1 hu).1];exact hu⟩
theorem pd_crash {F:Nat→Prop}{w0 w:World}{L:List Ast}{g:Nat}{s:Dsk}{A:Option Addr}{ps:List Pick}{n c:Nat}(S:St F w0 w (PDisk g s::L))(hr:RoV F w0 L A (picksV ps))(hn:n=ps.length)(hpm:ps.length≤9223372036854775807):
  Calls Try.prog 64 #[pq g,.slice A n c] w fun e w'=>e=.returned (.tuple #[])∧St F w0 w' (PDisk g (s.crashR ps)::L):=by
 obtain ⟨gd,gm,clock,es,fused,left,hf,S⟩:=St.popen S
 have hn2:=hf.n2
 have hol:=hf.out_len ps
 have hkl:=keysTo_len s s.last.length
 change (crashKeys s).length≤_ at hkl
 have hA:∀i,(applyP s.last ((crashOuts s ps).take i)).length=s.last.length∧∀l∈applyP s.last ((crashOuts s ps).take i),l.length=512:=fun i=>⟨length_applyP _ _,applyP_all _ _ hf.len (fun x hx=>hol x (List.mem_of_mem_take hx))⟩
 have hD:∀i,(applyP s.last ((crashOuts s ps).take i)).flatten.length=512*s.last.length:=fun i=>(flat_len (hA i).2).trans (by rw [(hA i).1])
 change St F w0 w (dR g gd (512*s.last.length) gm fused left s.life s.rd s.wr s.fl s.rf (s.pend.length:Int)::row gd (bvs s.last.flatten) 5::pt gm (mapO (es.map PEnt.ent) clock)::stars (es.map PEnt.ast)::L) at S
 refine eN (fr [pq g,.slice A n c] 60) Try.func64 rfl (sR (pv (nS_) (wE (nS (sR (pv (pq g) (pv (pq g) (pv (po g 1) (lR (.map (some gm)) S 0 1 ?_)))))))))
 have S1:St F w0 w (vec 3 1 (nS_) 0 []::dR g gd (512*s.last.length) gm fused left s.life s.rd s.wr s.fl s.rf (s.pend.length:Int)::row gd (bvs s.last.flatten) 5::pt gm (mapO (es.map PEnt.ent) clock)::stars (es.map PEnt.ast)::L):=St.vec_nil S
 refine g_ (gv_range (kT:=3) (eT:=42) (g:=gm) (clock:=clock) (es:=es.map PEnt.ent) S1 3 rfl rfl kr_ kr_ (fun gi2 w3 hg4 S5=> ?_))
 have S6:St F w0 w3 (vec 3 1 (nS_) 0 []::pt gi2 (iterO gm clock [])::dR g gd (512*s.last.length) gm fused left s.life s.rd s.wr s.fl s.rf (s.pend.length:Int)::row gd (bvs s.last.flatten) 5::pt gm (mapO (es.map PEnt.ent) clock)::stars (es.map PEnt.ast)::L):=St.pm 6 [1,0,2,3,4,5] S5
 refine wE (then_n (wp_block (wp_loop_g (G:=List PEnt×Value) (fun (g_:List PEnt×Value) (a_:Act) (w_:World)=>∃J:Nat→Value,a_=(fr ([pq g,.slice A n c,ud,ud,g_.2,J 5,ud,ud,ud,pq g,pq g,po g 1,.map (some gm),pq gi2]++jR J 14 8) 40)∧St F w0 w_ (vec 3 1 g_.2 g_.1.length ((g_.1.map fun p=>((p.at_:Nat):Int)).map (Value.int .i64))::pt gi2 (iterO gm clock (g_.1.map (·.b)))::dR g gd (512*s.last.length) gm fused left s.life s.rd s.wr s.fl s.rf (s.pend.length:Int)::row gd (bvs s.last.flatten) 5::pt gm (mapO (es.map PEnt.ent) clock)::stars (es.map PEnt.ast)::L)∧((∀p∈g_.1,p∈es)∧(g_.1.map (·.b)).Nodup)) (fun g_=>(leftE (es.map PEnt.ent) (g_.1.map (·.b))).length) ([],nS_) (jE_ ⟨S6,⟨(fun p hp=>by cases hp),List.nodup_nil⟩⟩) ?_)))
 rintro ⟨es1,v⟩ a_ w7 ⟨J,rfl,S8,hI9⟩
 skip
 have S8:St F w0 w7 (vec 3 1 v es1.length ((es1.map fun p=>((p.at_:Nat):Int)).map (Value.int .i64))::pt gi2 (iterO gm clock (es1.map (·.b)))::dR g gd (512*s.last.length) gm fused left s.life s.rd s.wr s.fl s.rf (s.pend.length:Int)::row gd (bvs s.last.flatten) 5::pt gm (mapO (es.map PEnt.ent) clock)::stars (es.map PEnt.ast)::L):=S8
 have hI9:((∀p∈es1,p∈es)∧(es1.map (·.b)).Nodup):=hI9
 refine sR ?_
 have hfw:=hf.few hI9.1 hI9.2
 refine g_ (gv_next (g:=gm) (clock:=clock) (es:=es.map PEnt.ent) (gi:=gi2) (seen:=es1.map (·.b)) S8 1 4 rfl rfl (fun e he=>by obtain ⟨p,hp,rfl⟩:=List.mem_map.1 he;exact hf.born p hp) rfl kr_ (fun hl=> ?_) (fun e w10 hel S11=> ?_))
 ·refine pv fv (wE (nS (cF (wp_exit (then_x (then_x (inb_x (nSR (pv v (sP Try.func113 #[v] (sort_own S8 om_) fun w12 S13=> ?_))))))))))
  have hso:=hf.sorted hI9.1 hI9.2 hl
  have hkn:es1.length=(crashKeys s).length:=by have:=congrArg List.length hso;rw [List.length_mergeSort,List.length_map,List.length_map] at this;exact this
  rw [hso,hkn] at S13
  obtain ⟨A1,c1,rfl⟩:=S13.vec_val
  have S14:St F w0 w12 (vec 3 1 (.slice A1 (crashKeys s).length c1) (crashKeys s).length (((crashKeys s).map fun a=>((a:Nat):Int)).map (Value.int .i64))::dR g gd (512*s.last.length) gm fused left s.life s.rd s.wr s.fl s.rf (s.pend.length:Int)::row gd (bvs s.last.flatten) 5::pt gm (mapO (es.map PEnt.ent) clock)::stars (es.map PEnt.ast)::L):=St.pm 6 [0,2,3,4,5] S13
  have e0:s.last.flatten=(applyP s.last ((crashOuts s ps).take 0)).flatten:=by rw [List.take_zero];rfl
  rw [e0] at S14
  refine wE (nS (sR (pv (.slice A1 ((crashKeys s).length) c1) (pv (iv ((crashKeys s).length:Nat)) (pv (iv 0) (wE (then_n (wp_block (wp_loop_g (G:=Nat) (fun (g_:Nat) (a_:Act) (w_:World)=>∃J:Nat→Value,a_=(fr ([pq g,.slice A n c,ud,ud,.slice A1 ((crashKeys s).length) c1]++jR J 5 4++[pq g,pq g,po g 1,.map (some gm),pq gi2,.tuple #[fv],fv]++jR J 16 6++[.slice A1 ((crashKeys s).length) c1,.tuple #[],.slice A1 ((crashKeys s).length) c1,iv ((crashKeys s).length:Nat),nI_ g_]++jR J 27 23) 12)∧St F w0 w_ (vec 3 1 (.slice A1 (crashKeys s).length c1) (crashKeys s).length (((crashKeys s).map fun a=>((a:Nat):Int)).map (Value.int .i64))::dR g gd (512*s.last.length) gm fused left s.life s.rd s.wr s.fl s.rf (s.pend.length:Int)::row gd (bvs (applyP s.last ((crashOuts s ps).take g_)).flatten) 5::pt gm (mapO (es.map PEnt.ent) clock)::stars (es.map PEnt.ast)::L)∧(g_≤(crashKeys s).length)) (fun g_=>(crashKeys s).length-g_) 0 (jE_ ⟨S14,(Nat.zero_le _)⟩) ?_)))))))))
  rintro k a_ w15 ⟨J,rfl,S16,hI17⟩
  skip
  have S16:St F w0 w15 (vec 3 1 (.slice A1 (crashKeys s).length c1) (crashKeys s).length (((crashKeys s).map fun a=>((a:Nat):Int)).map (Value.int .i64))::dR g gd (512*s.last.length) gm fused left s.life s.rd s.wr s.fl s.rf (s.pend.length:Int)::row gd (bvs (applyP s.last ((crashOuts s ps).take k)).flatten) 5::pt gm (mapO (es.map PEnt.ent) clock)::stars (es.map PEnt.ast)::L):=S16
  have hI17:(k≤(crashKeys s).length):=hI17
  refine sR (dC ((((k:Nat):Int):Int)<((crashKeys s).length:Nat)) (fun hb18=> ?_) fun hb18=> ?_)
  ·have hkk:k<(crashKeys s).length:=by omega
   obtain ⟨p,hpe,hat⟩:=hf.key_mem.1 (List.getElem_mem hkk)
   have hK:(crashKeys s)[k]?=some p.at_:=by rw [List.getElem?_eq_getElem hkk,hat]
   obtain ⟨j,hj,hje,hke,hfe,hk,hne,hx512,hle⟩:=hf.find_mem hpe
   have hq:p.ws.length≤4611686018427387904:=by have:=hf.pn;omega
   have hgd:(applyP s.last ((crashOuts s ps).take k))[p.at_]?=some (s.last.getD p.at_ []):=by rw [←applyP_getD _ _ _ (out_fst hK)];exact mem_getD (by rw [(hA k).1];exact hk)
   have hx:=(flat_sec (hA k).2 p.at_ _ hgd).symm
   have hx5:=(hA k).2 _ (List.mem_of_getElem? hgd)
   have hcs:s.last.getD p.at_ []::p.ws.map (·.2)=candS s p.at_:=by rw [hf.ws p hpe];rfl
   have htl:(tornS (candS s p.at_) (pickAt ps k)).length=512:=tornS_len (hf.cand_len hk) (by simp [candS])
   have hDk:=hD k
   obtain ⟨ad1,hAd1,hrd⟩:=(St.vec_rdv S16 0 rfl) (by simp;omega)
   refine wE (nS (cT (wp_skip (nS (wp_block (sR (pv (nI_ k) (g_ (gv_ixB (e:=3) (sz:=1) (n:=((crashKeys s).length)) (c:=c1) (i:=((k:Nat):Int)) (k:=.i64) (ad:=ad1) (ad':=(ad1.add k)) (j:=k) rfl kr_ kr_ (by rw [←hAd1];kernel_rfl) kr_ rfl om_ (by rw [Nat.mul_one]) (lQ (nI_ p.at_) (hrd k _ (by rw [List.getElem?_map,List.getElem?_map,hK];rfl)) ?_))))))))))
   refine pv (nI_ k) (pv (nI_ p.at_) (wER (nW rfl (.agg #[iv 0,iv 0,iv 0]) S16 fun g19 w20 hg21 S22=>wE (nS (sR (pv (.slice A n c) (pv (iv (n:Nat)) (dC (((n:Nat):Int)>0) (fun hb23=> ?_) fun hb23=> ?_))))))))
   ·have hp0:0<ps.length:=by omega
    have hn1:n=n-1+1:=by omega
    obtain ⟨ad,hAd,hrp⟩:=hr.out _ [row g19 #[.int .i64 0,.int .i64 0,.int .i64 0] 145,vec 3 1 (.slice A1 (crashKeys s).length c1) (crashKeys s).length (((crashKeys s).map fun a=>((a:Nat):Int)).map (Value.int .i64)),row g #[.slice (some ⟨gd,0,none⟩) (512*s.last.length) (512*s.last.length),.map (some gm),.bool fused,.int .i64 left,.int .i64 s.life,.int .i64 s.rd,.int .i64 s.wr,.int .i64 s.fl,.int .i64 s.rf,.int .i64 (s.pend.length:Int)] 135,row gd (bvs (applyP s.last ((crashOuts s ps).take k)).flatten) 5,pt gm (mapO (es.map PEnt.ent) clock),stars (es.map PEnt.ast)] S22 (by rw [length_picksV];omega)
    have hrq:RdV w20 (some ad) (picksV ps):=fun _=>⟨ad,rfl,hrp⟩
    have hkm:k%ps.length<ps.length:=Nat.mod_lt _ hp0
    have hpk:ps[k%ps.length]?=some (pickAt ps k):=by unfold pickAt;rw [if_neg om_,List.getD_eq_getElem?_getD,List.getElem?_eq_getElem hkm];rfl
    refine wE (nCT (wp_region_lit (pv (.slice A n c) (pv (nI_ k) (pv (.slice A n c) (pv (iv (n:Nat)) (g_ (gv_int (k:=.i64) (z:=Int.tmod ((k:Nat):Int) (n:Nat)) (z':=((k%ps.length:Nat):Int)) (by rw [hn1];kernel_rfl) (tmod_nat rfl om_) (g_ (gv_ixB (e:=145) (sz:=3) (n:=n) (c:=c) (i:=((k%ps.length:Nat):Int)) (k:=.i64) (ad:=ad) (ad':=(ad.add ((k%ps.length)*3))) (j:=(k%ps.length)) rfl kr_ kr_ (by rw [←hAd];kernel_rfl) kr_ rfl om_ rfl (g_ (gv_ldRA (ad:=ad.add (k%ps.length*3)) (vs:=[iv ((pickAt ps k).1),iv ((pickAt ps k).2.1),iv ((pickAt ps k).2.2)]) (n:=3) rfl kr_ kr_ rfl (RoV.cells hrq (k%ps.length*3) (fun j u hu=>picksV_at ps _ _ hpk j u hu) (Nat.succ_pos _)) (g_ (gv_stA (k:=0) (vs:=[iv ((pickAt ps k).1),iv ((pickAt ps k).2.1),iv ((pickAt ps k).2.2)]) S22 0 rfl rfl kr_ kr_ kr_ rfl (by simp [Value.oneCell']) (Nat.le_of_ble_eq_true kr_) (L':=(row g19 #[iv ((pickAt ps k).1),iv ((pickAt ps k).2.1),iv ((pickAt ps k).2.2)] 145::vec 3 1 (.slice A1 (crashKeys s).length c1) (crashKeys s).length (((crashKeys s).map fun a=>((a:Nat):Int)).map (Value.int .i64))::dR g gd (512*s.last.length) gm fused left s.life s.rd s.wr s.fl s.rf (s.pend.length:Int)::row gd (bvs (applyP s.last ((crashOuts s ps).take k)).flatten) 5::pt gm (mapO (es.map PEnt.ent) clock)::stars (es.map PEnt.ast)::L)) rfl (fun w24 S25=> ?_)))))))))))))))
    refine wE (then_n ?_)
    have S26:St F w0 w24 (dR g gd (512*s.last.length) gm fused left s.life s.rd s.wr s.fl s.rf (s.pend.length:Int)::row gd (bvs (applyP s.last ((crashOuts s ps).take k)).flatten) 5::pt gm (mapO (es.map PEnt.ent) clock)::stars (es.map PEnt.ast)::row g19 #[iv ((pickAt ps k).1),iv ((pickAt ps k).2.1),iv ((pickAt ps k).2.2)] 145::vec 3 1 (.slice A1 (crashKeys s).length c1) (crashKeys s).length (((crashKeys s).map fun a=>((a:Nat):Int)).map (Value.int .i64))::L):=St.pm 6 [2,3,4,5,0,1] S25
    refine wp_region_phu (γ:=Nat×Int) 8 [6,7] (fun (c_:Nat×Int) (i_:Nat)=>(match i_ with|0=>pq g|1=>nI_ p.at_|2=>.slice (some ⟨gd,512*p.at_,none⟩) 512 (512*s.last.length-512*p.at_)|3=>pq g|4=>nI_ p.at_|5=>.agg #[iv ((pickAt ps k).1),iv ((pickAt ps k).2.1),iv ((pickAt ps k).2.2)]|6=>sl c_.1 0 512 512|7=>goInt c_.2|_=>undef:Value)) (fun (c_:Nat×Int) (p_:Nat) (w_:World)=>(match p_ with|0=>St F w0 w_ (dR g gd (512*s.last.length) gm fused left s.life s.rd s.wr s.fl s.rf (s.pend.length:Int)::row gd (bvs (applyP s.last ((crashOuts s ps).take k)).flatten) 5::pt gm (mapO (es.map PEnt.ent) clock)::stars (es.map PEnt.ast)::row g19 #[iv ((pickAt ps k).1),iv ((pickAt ps k).2.1),iv ((pickAt ps k).2.2)] 145::vec 3 1 (.slice A1 (crashKeys s).length c1) (crashKeys s).length (((crashKeys s).map fun a=>((a:Nat):Int)).map (Value.int .i64))::L)|1=>St F w0 w_ (row c_.1 (bvs (tornS (candS s p.at_) (pickAt ps k))) 5::dR g gd (512*s.last.length) gm fused left s.life s.rd s.wr s.fl s.rf (s.pend.length:Int)::row gd (bvs (applyP s.last ((crashOuts s ps).take k)).flatten) 5::pt gm (mapO (es.map PEnt.ent) clock)::stars (es.map PEnt.ast)::row g19 #[iv ((pickAt ps k).1),iv ((pickAt ps k).2.1),iv ((pickAt ps k).2.2)] 145::vec 3 1 (.slice A1 (crashKeys s).length c1) (crashKeys s).length (((crashKeys s).map fun a=>((a:Nat):Int)).map (Value.int .i64))::L)|_=>St F w0 w_ (row c_.1 (bvs (tornS (candS s p.at_) (pickAt ps k))) 5::dR g gd (512*s.last.length) gm fused left s.life s.rd s.wr s.fl s.rf (s.pend.length:Int)::row gd (bvs ((applyP s.last ((crashOuts s ps).take (k+1))).flatten)) 5::pt gm (mapO (es.map PEnt.ent) clock)::stars (es.map PEnt.ast)::row g19 #[iv ((pickAt ps k).1),iv ((pickAt ps k).2.1),iv ((pickAt ps k).2.2)] 145::vec 3 1 (.slice A1 (crashKeys s).length c1) (crashKeys s).length (((crashKeys s).map fun a=>((a:Nat):Int)).map (Value.int .i64))::L):Prop)) (0,0) kr_ kr_ kr_ kr_ (S26.drew) ?_ ?_ ?_
    ·intro i_ c_ p_ vals_ w1 hi_ hiE_ hp_ hk_ hu_ hPh_ hd_
     rcases i_ with _|_|_|_|_|_|_|_|i_
     ·exact tG_ rfl hd_ (gV (pq g) ⟨rfl,rfl⟩)
     ·exact tG_ rfl hd_ (gV (nI_ p.at_) ⟨rfl,rfl⟩)
     ·rcases p_ with _|_|_|p_
      ·have S29:=St.id hPh_
       refine tG_ rfl hd_ (gv_call (args:=#[pq g,nI_ p.at_]) rfl Try.func114 kr_ rfl rfl kr_ (Calls.mono (home_ro (S29.blk 0 rfl) rfl rfl hn2 hk) ?_))
       rintro _ _ ⟨rfl,rfl⟩
       exact ⟨_,rfl,⟨rfl,rfl⟩⟩
      ·exact absurd (hu_ 0 dc_ kr_) dc_
      ·exact absurd (hu_ 0 dc_ kr_) dc_
      ·exact absurd hp_ (by simp)
     ·exact tG_ rfl hd_ (gV (pq g) ⟨rfl,rfl⟩)
     ·exact tG_ rfl hd_ (gV (nI_ p.at_) ⟨rfl,rfl⟩)
     ·rcases p_ with _|_|_|p_
      ·have S32:=St.id hPh_
       exact tG_ rfl hd_ (gv_ldA (k:=0) (n:=3) (vs:=[iv ((pickAt ps k).1),iv ((pickAt ps k).2.1),iv ((pickAt ps k).2.2)]) S32 4 rfl rfl kr_ kr_ rfl rfl ⟨rfl,rfl⟩)
      ·exact absurd (hu_ 0 dc_ kr_) dc_
      ·exact absurd (hu_ 0 dc_ kr_) dc_
      ·exact absurd hp_ (by simp)
     ·exact absurd hiE_ dc_
     ·exact absurd hiE_ dc_
     ·exact absurd hi_ om_
    ·intro k_ c_ vals_ w1 hk_ hPh_ hd_
     rcases k_ with _|_|k_
     ·have S33:=St.id hPh_
      refine tG_ rfl hd_ (gv_call (args:=#[pq g,nI_ p.at_,.agg #[iv ((pickAt ps k).1),iv ((pickAt ps k).2.1),iv ((pickAt ps k).2.2)]]) rfl Try.func115 kr_ rfl rfl kr_ (Calls.mono (outcome_own S33 hj hje hke hfe hne hx hx5 hx512 hn2 hk hq) ?_))
      rintro _ w35 ⟨g34,rfl,S36⟩
      rw [hcs] at S36
      refine ⟨_,rfl,⟨(g34,c_.2),rfl, ?_,S36⟩⟩
      intro i_ hi_ hne_ hdp_
      rcases i_ with _|_|_|_|_|_|_|_|i_
      ·rfl
      ·rfl
      ·rfl
      ·rfl
      ·rfl
      ·rfl
      ·exact absurd rfl hne_
      ·exact dN_ hdp_
      ·exact absurd hi_ om_
     ·have S37:=St.id hPh_
      refine tG_ rfl hd_ (gv_copy (e:=5) (off:=512*p.at_) (dLen:=512) (dCap:=(512*s.last.length-512*p.at_)) (sLen:=512) (sCap:=512) (A:=(some ⟨c_.1,0,none⟩)) (B:=((applyP s.last ((crashOuts s ps).take k)).flatten)) (l:=(tornS (candS s p.at_) (pickAt ps k))) S37 2 rfl rfl kr_ kr_ kr_ kr_ htl.symm (RdB.row (S37.blk 0 rfl) 0 512 _ (by rw [List.drop_zero,List.take_of_length_le om_])) (by rw [hDk];omega) (L':=(row c_.1 (bvs (tornS (candS s p.at_) (pickAt ps k))) 5::dR g gd (512*s.last.length) gm fused left s.life s.rd s.wr s.fl s.rf (s.pend.length:Int)::row gd (bvs ((applyP s.last ((crashOuts s ps).take (k+1))).flatten)) 5::pt gm (mapO (es.map PEnt.ent) clock)::stars (es.map PEnt.ast)::row g19 #[iv ((pickAt ps k).1),iv ((pickAt ps k).2.1),iv ((pickAt ps k).2.2)] 145::vec 3 1 (.slice A1 (crashKeys s).length c1) (crashKeys s).length (((crashKeys s).map fun a=>((a:Nat):Int)).map (Value.int .i64))::L)) (by rw [List.take_of_length_le (l:=tornS (candS s p.at_) (pickAt ps k)) (Nat.le_of_eq htl),flat_set (hA k).2 _ _ (by rw [(hA k).1];exact hk) htl,out_take hK,applyP_snoc];rfl) (fun w38 m40 S39=> ?_))
      refine ⟨(c_.1,m40),rfl, ?_,S39⟩
      intro i_ hi_ hne_ hdp_
      rcases i_ with _|_|_|_|_|_|_|_|i_
      ·rfl
      ·rfl
      ·rfl
      ·rfl
      ·rfl
      ·rfl
      ·rfl
      ·exact absurd rfl hne_
      ·exact absurd hi_ om_
     ·exact absurd hk_ (by simp)
    ·intro c_ w1 hPh_
     have S41:=St.id hPh_
     refine (wE ?_)
     refine inb_n (nR (gI .i64 (IntKind.i64.wrap (((k:Nat):Int)+1)) (((k:Nat):Int)+1) (wr_ok om_ om_) (pv (iv (((k:Nat):Int)+1)) ?_)))
     have S42:=St.pm 7 [6,1,2,3,4] S41
     exact wE (then_n ⟨k+1,(jE_ ⟨S42,om_⟩),(by show (crashKeys s).length-(k+1)<(crashKeys s).length-k;omega)⟩)
   ·have hpk:pickAt ps k=(0,0,0):=if_pos om_
    have S43:St F w0 w20 (row g19 #[iv ((pickAt ps k).1),iv ((pickAt ps k).2.1),iv ((pickAt ps k).2.2)] 145::vec 3 1 (.slice A1 (crashKeys s).length c1) (crashKeys s).length (((crashKeys s).map fun a=>((a:Nat):Int)).map (Value.int .i64))::dR g gd (512*s.last.length) gm fused left s.life s.rd s.wr s.fl s.rf (s.pend.length:Int)::row gd (bvs (applyP s.last ((crashOuts s ps).take k)).flatten) 5::pt gm (mapO (es.map PEnt.ent) clock)::stars (es.map PEnt.ast)::L):=(by rw [hpk];exact S22)
    refine wE (nCF (kN ?_))
    have S44:St F w0 w20 (dR g gd (512*s.last.length) gm fused left s.life s.rd s.wr s.fl s.rf (s.pend.length:Int)::row gd (bvs (applyP s.last ((crashOuts s ps).take k)).flatten) 5::pt gm (mapO (es.map PEnt.ent) clock)::stars (es.map PEnt.ast)::row g19 #[iv ((pickAt ps k).1),iv ((pickAt ps k).2.1),iv ((pickAt ps k).2.2)] 145::vec 3 1 (.slice A1 (crashKeys s).length c1) (crashKeys s).length (((crashKeys s).map fun a=>((a:Nat):Int)).map (Value.int .i64))::L):=St.pm 6 [2,3,4,5,0,1] S43
    refine wp_region_phu (γ:=Nat×Int) 8 [6,7] (fun (c2_:Nat×Int) (i_:Nat)=>(match i_ with|0=>pq g|1=>nI_ p.at_|2=>.slice (some ⟨gd,512*p.at_,none⟩) 512 (512*s.last.length-512*p.at_)|3=>pq g|4=>nI_ p.at_|5=>.agg #[iv ((pickAt ps k).1),iv ((pickAt ps k).2.1),iv ((pickAt ps k).2.2)]|6=>sl c2_.1 0 512 512|7=>goInt c2_.2|_=>undef:Value)) (fun (c2_:Nat×Int) (p_:Nat) (w_:World)=>(match p_ with|0=>St F w0 w_ (dR g gd (512*s.last.length) gm fused left s.life s.rd s.wr s.fl s.rf (s.pend.length:Int)::row gd (bvs (applyP s.last ((crashOuts s ps).take k)).flatten) 5::pt gm (mapO (es.map PEnt.ent) clock)::stars (es.map PEnt.ast)::row g19 #[iv ((pickAt ps k).1),iv ((pickAt ps k).2.1),iv ((pickAt ps k).2.2)] 145::vec 3 1 (.slice A1 (crashKeys s).length c1) (crashKeys s).length (((crashKeys s).map fun a=>((a:Nat):Int)).map (Value.int .i64))::L)|1=>St F w0 w_ (row c2_.1 (bvs (tornS (candS s p.at_) (pickAt ps k))) 5::dR g gd (512*s.last.length) gm fused left s.life s.rd s.wr s.fl s.rf (s.pend.length:Int)::row gd (bvs (applyP s.last ((crashOuts s ps).take k)).flatten) 5::pt gm (mapO (es.map PEnt.ent) clock)::stars (es.map PEnt.ast)::row g19 #[iv ((pickAt ps k).1),iv ((pickAt ps k).2.1),iv ((pickAt ps k).2.2)] 145::vec 3 1 (.slice A1 (crashKeys s).length c1) (crashKeys s).length (((crashKeys s).map fun a=>((a:Nat):Int)).map (Value.int .i64))::L)|_=>St F w0 w_ (row c2_.1 (bvs (tornS (candS s p.at_) (pickAt ps k))) 5::dR g gd (512*s.last.length) gm fused left s.life s.rd s.wr s.fl s.rf (s.pend.length:Int)::row gd (bvs ((applyP s.last ((crashOuts s ps).take (k+1))).flatten)) 5::pt gm (mapO (es.map PEnt.ent) clock)::stars (es.map PEnt.ast)::row g19 #[iv ((pickAt ps k).1),iv ((pickAt ps k).2.1),iv ((pickAt ps k).2.2)] 145::vec 3 1 (.slice A1 (crashKeys s).length c1) (crashKeys s).length (((crashKeys s).map fun a=>((a:Nat):Int)).map (Value.int .i64))::L):Prop)) (0,0) kr_ kr_ kr_ kr_ (S44.drew) ?_ ?_ ?_
    ·intro i_ c2_ p_ vals_ w1 hi_ hiE_ hp_ hk_ hu_ hPh_ hd_
     rcases i_ with _|_|_|_|_|_|_|_|i_
     ·exact tG_ rfl hd_ (gV (pq g) ⟨rfl,rfl⟩)
     ·exact tG_ rfl hd_ (gV (nI_ p.at_) ⟨rfl,rfl⟩)
     ·rcases p_ with _|_|_|p_
      ·have S47:=St.id hPh_
       refine tG_ rfl hd_ (gv_call (args:=#[pq g,nI_ p.at_]) rfl Try.func114 kr_ rfl rfl kr_ (Calls.mono (home_ro (S47.blk 0 rfl) rfl rfl hn2 hk) ?_))
       rintro _ _ ⟨rfl,rfl⟩
       exact ⟨_,rfl,⟨rfl,rfl⟩⟩
      ·exact absurd (hu_ 0 dc_ kr_) dc_
      ·exact absurd (hu_ 0 dc_ kr_) dc_
      ·exact absurd hp_ (by simp)
     ·exact tG_ rfl hd_ (gV (pq g) ⟨rfl,rfl⟩)
     ·exact tG_ rfl hd_ (gV (nI_ p.at_) ⟨rfl,rfl⟩)
     ·rcases p_ with _|_|_|p_
      ·have S50:=St.id hPh_
       exact tG_ rfl hd_ (gv_ldA (k:=0) (n:=3) (vs:=[iv ((pickAt ps k).1),iv ((pickAt ps k).2.1),iv ((pickAt ps k).2.2)]) S50 4 rfl rfl kr_ kr_ rfl rfl ⟨rfl,rfl⟩)
      ·exact absurd (hu_ 0 dc_ kr_) dc_
      ·exact absurd (hu_ 0 dc_ kr_) dc_
      ·exact absurd hp_ (by simp)
     ·exact absurd hiE_ dc_
     ·exact absurd hiE_ dc_
     ·exact absurd hi_ om_
    ·intro k_ c2_ vals_ w1 hk_ hPh_ hd_
     rcases k_ with _|_|k_
     ·have S51:=St.id hPh_
      refine tG_ rfl hd_ (gv_call (args:=#[pq g,nI_ p.at_,.agg #[iv ((pickAt ps k).1),iv ((pickAt ps k).2.1),iv ((pickAt ps k).2.2)]]) rfl Try.func115 kr_ rfl rfl kr_ (Calls.mono (outcome_own S51 hj hje hke hfe hne hx hx5 hx512 hn2 hk hq) ?_))
      rintro _ w53 ⟨g52,rfl,S54⟩
      rw [hcs] at S54
      refine ⟨_,rfl,⟨(g52,c2_.2),rfl, ?_,S54⟩⟩
      intro i_ hi_ hne_ hdp_
      rcases i_ with _|_|_|_|_|_|_|_|i_
      ·rfl
      ·rfl
      ·rfl
      ·rfl
      ·rfl
      ·rfl
      ·exact absurd rfl hne_
      ·exact dN_ hdp_
      ·exact absurd hi_ om_
     ·have S55:=St.id hPh_
      refine tG_ rfl hd_ (gv_copy (e:=5) (off:=512*p.at_) (dLen:=512) (dCap:=(512*s.last.length-512*p.at_)) (sLen:=512) (sCap:=512) (A:=(some ⟨c2_.1,0,none⟩)) (B:=((applyP s.last ((crashOuts s ps).take k)).flatten)) (l:=(tornS (candS s p.at_) (pickAt ps k))) S55 2 rfl rfl kr_ kr_ kr_ kr_ htl.symm (RdB.row (S55.blk 0 rfl) 0 512 _ (by rw [List.drop_zero,List.take_of_length_le om_])) (by rw [hDk];omega) (L':=(row c2_.1 (bvs (tornS (candS s p.at_) (pickAt ps k))) 5::dR g gd (512*s.last.length) gm fused left s.life s.rd s.wr s.fl s.rf (s.pend.length:Int)::row gd (bvs ((applyP s.last ((crashOuts s ps).take (k+1))).flatten)) 5::pt gm (mapO (es.map PEnt.ent) clock)::stars (es.map PEnt.ast)::row g19 #[iv ((pickAt ps k).1),iv ((pickAt ps k).2.1),iv ((pickAt ps k).2.2)] 145::vec 3 1 (.slice A1 (crashKeys s).length c1) (crashKeys s).length (((crashKeys s).map fun a=>((a:Nat):Int)).map (Value.int .i64))::L)) (by rw [List.take_of_length_le (l:=tornS (candS s p.at_) (pickAt ps k)) (Nat.le_of_eq htl),flat_set (hA k).2 _ _ (by rw [(hA k).1];exact hk) htl,out_take hK,applyP_snoc];rfl) (fun w56 m58 S57=> ?_))
      refine ⟨(c2_.1,m58),rfl, ?_,S57⟩
      intro i_ hi_ hne_ hdp_
      rcases i_ with _|_|_|_|_|_|_|_|i_
      ·rfl
      ·rfl
      ·rfl
      ·rfl
      ·rfl
      ·rfl
      ·rfl
      ·exact absurd rfl hne_
      ·exact absurd hi_ om_
     ·exact absurd hk_ (by simp)
    ·intro c2_ w1 hPh_
     have S59:=St.id hPh_
     refine (wE (inb_n (nR (gI .i64 (IntKind.i64.wrap (((k:Nat):Int)+1)) (((k:Nat):Int)+1) (wr_ok om_ om_) ?_))))
     refine pv (iv (((k:Nat):Int)+1)) ?_
     have S60:=St.pm 7 [6,1,2,3,4] S59
     exact wE (then_n ⟨k+1,(jE_ ⟨S60,om_⟩),(by show (crashKeys s).length-(k+1)<(crashKeys s).length-k;omega)⟩)
  ·refine wE (nS (cF (wp_exit (then_x (then_x (inb_x (nSR (pv (pq g) (g_ (gv_call (args:=#[pq g]) rfl Try.func116 kr_ rfl rfl kr_ ?_))))))))))
   have hkL:k=(crashKeys s).length:=by omega
   have hfin:(crashOuts s ps).take k=crashOuts s ps:=List.take_of_length_le (by rw [hkL];unfold crashOuts;rw [List.length_mapIdx];exact Nat.le_refl _)
   rw [hfin] at S16
   have S61:St F w0 w15 (dR g gd (512*s.last.length) gm fused left s.life s.rd s.wr s.fl s.rf (s.pend.length:Int)::row gd (bvs (applyP s.last (crashOuts s ps)).flatten) 5::pt gm (mapO (es.map PEnt.ent) clock)::L):=St.pm 5 [1,2,3] S16
   refine Calls.mono (settle_own S61) ?_
   rintro _ w62 ⟨rfl,S63⟩
   refine ⟨_,rfl,(wER (pv (pq g) (pv (pq g) (pv (po g 2) (sS S63 0 rfl 2 (.bool false) fun w64 S65=>wE (nR (pv (pq g) (pv (pq g) (pv (po g 4) (lR (iv s.life) S65 0 4 (pv (iv (inc s.life)) (pv (pq g) ?_))))))))))))⟩
   refine pv (po g 4) (sS S65 0 rfl 4 (iv (inc s.life)) fun w66 S67=>wE (bodyPost_end (v:=.tuple #[]) (results_none rfl _ _ _) rfl ?_))
   have hlf:(applyP s.last (crashOuts s ps)).length=s.last.length:=length_applyP _ _
   rw [←hlf] at S67
   have S9:=St.rot (LA:=[_,_,_]) (St.star_nil S67)
   exact ⟨rfl,St.pclose (gd:=gd) (gm:=gm) (clock:=clock) (es:=[]) (fused:=false) (left:=left) (s:=s.crashR ps) S9 (PFacts.settled (s':=s.crashR ps) hf hlf (applyP_all _ _ hf.len hol) rfl rfl (fun h=>absurd (show (0:Int)≤ -1 from h) dc_) (show (-1:Int)≤ -1∧(-1:Int)≤9223372036854775807 by decide))⟩
 ·obtain ⟨p,hpe,rfl,hpn⟩:=mem_left hel
  refine pv tv (wE (nS (cT (kN (wp_block (sR (g_ (gv_entry (g:=gm) (clock:=clock) (es:=es.map PEnt.ent) (gi:=gi2) (seen:=es1.map (·.b)) (e:=p.ent) S11 1 4 rfl rfl rfl kr_ (List.mem_map.2 ⟨p,hpe,rfl⟩) (fun y hy hb=>by obtain ⟨q,hq,rfl⟩:=List.mem_map.1 hy;rw [hf.injB hq hpe hb]) (pv (nI_ p.at_) (pv (nI_ p.at_) (wE (nR (pv v (pv (nI_ p.at_) ?_))))))))))))))
  refine g_ (gv_slit (e:=3) (sz:=1) (z:=iv 0) (by_:=8) (vs:=#[(0,nI_ p.at_)]) (cells:=#[nI_ p.at_]) S11 rfl kr_ ⟨by kernel_rfl⟩ kr_ kr_ kr_ kr_ (fun g68 w69 hg70 S71=>g_ (gv_append (e:=3) (sz:=1) (n:=es1.length) (v:=v) (vals:=((es1.map fun p=>((p.at_:Nat):Int)).map (Value.int .i64))) (z:=iv 0) (by_:=8) (m:=1) (c':=1) (ad:=⟨g68,0,none⟩) (news:=[nI_ p.at_]) (St.swap S71) rfl kr_ ⟨by kernel_rfl⟩ rfl kr_ kr_ dc_ rfl (row_news (S71.blk 0 rfl)) (by intro u hu;simp at hu;subst hu;rfl) om_ om_ (fun v73 w72 S74=>pv v73 (wE (iN ?_))))))
  have S75:St F w0 w72 (vec 3 1 v73 (es1.length+1) ((es1.map fun p=>((p.at_:Nat):Int)).map (Value.int .i64)++[nI_ p.at_])::pt gi2 (iterO gm clock (es1.map (·.b)++[p.b]))::dR g gd (512*s.last.length) gm fused left s.life s.rd s.wr s.fl s.rf (s.pend.length:Int)::row gd (bvs s.last.flatten) 5::pt gm (mapO (es.map PEnt.ent) clock)::stars (es.map PEnt.ast)::L):=St.pm 7 [0,2,3,4,5,6] S74
  rw [show es1.map (·.b)++[p.b]=(es1++[p]).map (·.b) from by rw [List.map_append];rfl,show (es1.map fun p=>((p.at_:Nat):Int)).map (Value.int .i64)++[nI_ p.at_]=((es1++[p]).map fun p=>((p.at_:Nat):Int)).map (Value.int .i64) from by rw [List.map_append,List.map_append];rfl,show es1.length+1=(es1++[p]).length from by rw [List.length_append];rfl] at S75
  exact ⟨(es1++[p],v73),(jE_ ⟨S75,⟨fun q hq=>(List.mem_append.1 hq).elim (hI9.1 q) (fun h=>(List.mem_singleton.1 h)▸hpe),(by rw [List.map_append];exact List.nodup_append.2 ⟨hI9.2,List.nodup_cons.2 ⟨List.not_mem_nil,List.nodup_nil⟩,fun a ha b hb=>by rw [List.map_singleton,List.mem_singleton] at hb;subst hb;exact fun e=>hpn (e▸ha)⟩)⟩⟩),(by show (leftE _ ((es1++[p]).map (·.b))).length<_;rw [List.map_append];exact left_less hel)⟩
section
variable {F:Nat→Prop} {w0 w:World} {L:List Ast}
theorem pd_burnt {g:Nat}{s:Dsk}(S:St F w0 w L)(i:Nat)(hi:L[i]?=some (PDisk g s)):Calls Try.prog 15 #[.pointer (some ⟨g,0,none⟩)] w fun e w'=>e=.returned (.bool (decide (s.left=0)))∧w=w':=by
 obtain ⟨gd,gm,clock,es,fused,left,hf,S1⟩:=St.popen (L:=[]) (S.mem i hi)
 exact burnt_b (S1.blk 0 rfl) hf.burnt
theorem pd_life {g:Nat}{s:Dsk}(S:St F w0 w L)(i:Nat)(hi:L[i]?=some (PDisk g s)):Calls Try.prog 16 #[.pointer (some ⟨g,0,none⟩)] w fun e w'=>e=.returned (.int .i64 s.life)∧w=w':=by
 obtain ⟨gd,gm,clock,es,fused,left,hf,S1⟩:=St.popen (L:=[]) (S.mem i hi)
 exact life_ro (S1.blk 0 rfl)
theorem pd_sectors {g:Nat}{s:Dsk}(S:St F w0 w L)(i:Nat)(hi:L[i]?=some (PDisk g s)):Calls Try.prog 14 #[.pointer (some ⟨g,0,none⟩)] w fun e w'=>e=.returned (.int .i64 (s.last.length:Int))∧w=w':=by
 obtain ⟨gd,gm,clock,es,fused,left,hf,S1⟩:=St.popen (L:=[]) (S.mem i hi)
 exact sectors_ro (S1.blk 0 rfl) rfl hf.n2
theorem pd_take {g:Nat}{s:Dsk}(S:St F w0 w (PDisk g s::L)):Calls Try.prog 63 #[.pointer (some ⟨g,0,none⟩)] w fun e w'=>e=.returned (.int .i64 (inc s.life))∧St F w0 w' (PDisk g {s with life:=inc s.life}::L):=by
 obtain ⟨gd,gm,clock,es,fused,left,hf,S⟩:=St.popen S
 refine (take_own S).mono fun e w' h=>⟨h.1,St.pclose (gd:=gd) (gm:=gm) (clock:=clock) (es:=es) (fused:=fused) (left:=left) (s:={s with life:=inc s.life}) h.2 (hf.congr rfl rfl rfl)⟩
theorem pd_counts {g:Nat}{s:Dsk}(S:St F w0 w (PDisk g s::L)):Calls Try.prog 17 #[.pointer (some ⟨g,0,none⟩)] w fun e w'=>e=.returned (.agg #[.int .i64 s.rd,.int .i64 s.wr,.int .i64 s.fl,.int .i64 s.rf,.int .i64 (s.pend.length:Int)])∧St F w0 w' (PDisk g s::L):=by
 obtain ⟨gd,gm,clock,es,fused,left,hf,S⟩:=St.popen S
 change St F w0 w (dR g gd (512*s.last.length) gm fused left s.life s.rd s.wr s.fl s.rf (s.pend.length:Int)::row gd (bvs s.last.flatten) 5::pt gm (mapO (es.map PEnt.ent) clock)::stars (es.map PEnt.ast)::L) at S
 exact eN (fr [pq g] 6) Try.func17 rfl (sR (nW rfl (.agg #[iv 0,iv 0,iv 0,iv 0,iv 0]) S fun g1 w2 hg3 S4=>wER (pv (pq g) (pv (pq g) (pv (po g 5) (g_ (gv_ldA (k:=5) (n:=5) (vs:=[iv s.rd,iv s.wr,iv s.fl,iv s.rf,iv (s.pend.length:Int)]) S4 1 rfl rfl kr_ kr_ rfl rfl (g_ (gv_stA (k:=0) (vs:=[iv s.rd,iv s.wr,iv s.fl,iv s.rf,iv (s.pend.length:Int)]) S4 0 rfl rfl kr_ kr_ kr_ rfl (by simp [Value.oneCell']) (Nat.le_of_ble_eq_true kr_) (L':=(row g1 #[iv s.rd,iv s.wr,iv s.fl,iv s.rf,iv (s.pend.length:Int)] 29::dR g gd (512*s.last.length) gm fused left s.life s.rd s.wr s.fl s.rf (s.pend.length:Int)::row gd (bvs s.last.flatten) 5::pt gm (mapO (es.map PEnt.ent) clock)::stars (es.map PEnt.ast)::L)) rfl (fun w5 S6=>wE (then_n (wp_ret (bodyPost_ret (v:=.agg #[iv s.rd,iv s.wr,iv s.fl,iv s.rf,iv (s.pend.length:Int)]) (results_cell1 rfl _ (S6.get 0 rfl) kr_ kr_) rfl ⟨rfl,St.pclose (gd:=gd) (gm:=gm) (clock:=clock) (es:=es) (fused:=fused) (left:=left) (s:=s) (St.tail S6) (hf.congr rfl rfl rfl)⟩)))))))))))))
theorem pd_image {g:Nat}{s:Dsk}(S:St F w0 w (PDisk g s::L)):Calls Try.prog 18 #[.pointer (some ⟨g,0,none⟩)] w fun e w'=>∃v,e=.returned v∧St F w0 w' (bytesA v s.last.flatten::PDisk g s::L):=by
 obtain ⟨gd,gm,clock,es,fused,left,hf,S⟩:=St.popen S
 have hn2:=hf.n2
 change St F w0 w (dR g gd (512*s.last.length) gm fused left s.life s.rd s.wr s.fl s.rf (s.pend.length:Int)::row gd (bvs s.last.flatten) 5::pt gm (mapO (es.map PEnt.ent) clock)::stars (es.map PEnt.ast)::L) at S
 refine eN (fr [pq g] 16) Try.func18 rfl (sR (pv (nS_) (wER (pv (pq g) (pv (pq g) (pv (pq g) (lR (sl gd 0 (512*s.last.length) (512*s.last.length)) S 0 0 (pv (iv (512*s.last.length:Nat)) (g_ (gv_make (e:=5) (u:=(512*s.last.length:Nat)) (v:=(512*s.last.length:Nat)) (z:=.int .u8 0) (sz:=1) (by_:=1) (n:=(512*s.last.length)) (c:=(512*s.last.length)) (cs:=(bvs (List.replicate (512*s.last.length) 0))) S rfl kr_ ⟨by kernel_rfl⟩ kr_ kr_ rfl rfl (Nat.le_refl _) om_ om_ (mk_bytes _) (fun g1 w2 hg3 S4=>pv (sl g1 0 (512*s.last.length) (512*s.last.length)) (wER (pv (sl g1 0 (512*s.last.length) (512*s.last.length)) (pv (pq g) ?_))))))))))))))
 exact pv (pq g) (pv (pq g) (lR (sl gd 0 (512*s.last.length) (512*s.last.length)) S4 1 0 (g_ (gv_copy (e:=5) (off:=0) (dLen:=(512*s.last.length)) (dCap:=(512*s.last.length)) (sLen:=(512*s.last.length)) (sCap:=(512*s.last.length)) (A:=(some ⟨gd,0,none⟩)) (B:=(List.replicate (512*s.last.length) 0)) (l:=s.last.flatten) S4 0 rfl rfl kr_ kr_ kr_ kr_ (flat_len hf.len).symm (RdB.row (S4.blk 2 rfl) 0 _ _ (by rw [List.drop_zero,List.take_of_length_le (Nat.le_of_eq (flat_len hf.len))])) (by rw [List.length_replicate];omega) (L':=(row g1 (bvs s.last.flatten) 5::dR g gd (512*s.last.length) gm fused left s.life s.rd s.wr s.fl s.rf (s.pend.length:Int)::row gd (bvs s.last.flatten) 5::pt gm (mapO (es.map PEnt.ent) clock)::stars (es.map PEnt.ast)::L)) (by rw [copy_all (flat_len hf.len)];rfl) (fun w5 m7 S6=>wER (pv (sl g1 0 (512*s.last.length) (512*s.last.length)) (pv (sl g1 0 (512*s.last.length) (512*s.last.length)) (wE (then_n (wp_ret (bA (sl g1 0 (512*s.last.length) (512*s.last.length)) ⟨_,rfl,St.bytes_row (St.swap (St.pclose (gd:=gd) (gm:=gm) (clock:=clock) (es:=es) (fused:=fused) (left:=left) (s:=s) (St.rot (LA:=pdParts g gd gm clock es fused left s) S6) (hf.congr rfl rfl rfl))) (flat_len hf.len).symm (flat_len hf.len).symm⟩)))))))))))
theorem pd_read {at_:Int}{g:Nat}{s:Dsk}(S:St F w0 w (PDisk g s::L)):Calls Try.prog 26 #[.pointer (some ⟨g,0,none⟩),.int .i64 at_] w fun e w'=>∃v,e=.returned (.tuple #[v,.int .i64 (s.readR at_).2.2])∧St F w0 w' (bytesA v (s.readR at_).2.1::PDisk g (s.readR at_).1::L):=by
 obtain ⟨gd,gm,clock,es,fused,left,hf,S⟩:=St.popen S
 have hn2:=hf.n2
 have hbu:=hf.burnt
 by_cases hz:s.left=0
 ·have e:s.readR at_=(s,[],3):=by unfold Dsk.readR;rw [if_pos hz]
  rw [e]
  have hb:(fused&&decide (left=0))=true:=by rw [hbu];exact decide_eq_true hz
  change St F w0 w (dR g gd (512*s.last.length) gm fused left s.life s.rd s.wr s.fl s.rf (s.pend.length:Int)::row gd (bvs s.last.flatten) 5::pt gm (mapO (es.map PEnt.ent) clock)::stars (es.map PEnt.ast)::L) at S
  refine eN (fr [pq g,iv at_] 28) Try.func26 rfl (sR (pv (nS_) (pv (iv 0) (wE (nS (sR (pv (pq g) (pv (iv at_) (sP Try.func79 #[pq g,iv at_] (there_dead hb S) fun w1 S2=>pv (iv 3) (wER (pv (iv 3) (dN 3 0 (fun _=> ?_) fun hd3=>False.elim om_))))))))))))
  exact wE (nCT (sR (pv (iv 3) (pv (nS_) (pv (iv 3) (wE (then_n (rR (bB (nS_) (iv 3) ⟨_,rfl,St.bytes_nil (St.pclose (gd:=gd) (gm:=gm) (clock:=clock) (es:=es) (fused:=fused) (left:=left) (s:=s) S2 (hf.congr rfl rfl rfl))⟩)))))))))
 have hb:(fused&&decide (left=0))=false:=by rw [hbu];exact decide_eq_false hz
 by_cases ho:at_<0∨(s.last.length:Int)≤at_
 ·have e:s.readR at_=({s with rf:=inc s.rf},[],11):=by unfold Dsk.readR;rw [if_neg hz,if_pos ho]
  rw [e]
  change St F w0 w (dR g gd (512*s.last.length) gm fused left s.life s.rd s.wr s.fl s.rf (s.pend.length:Int)::row gd (bvs s.last.flatten) 5::pt gm (mapO (es.map PEnt.ent) clock)::stars (es.map PEnt.ast)::L) at S
  refine eN (fr [pq g,iv at_] 28) Try.func26 rfl (sR (pv (nS_) (pv (iv 0) (wE (nS (sR (pv (pq g) (pv (iv at_) (sP Try.func79 #[pq g,iv at_] (there_out hb rfl hn2 ho S) fun w1 S2=>pv (iv 11) (wER (pv (iv 11) (dN 11 0 (fun _=> ?_) fun hd3=>False.elim om_))))))))))))
  exact wE (nCT (sR (pv (iv 11) (pv (nS_) (pv (iv 11) (wE (then_n (rR (bB (nS_) (iv 11) ⟨_,rfl,St.bytes_nil (St.pclose (gd:=gd) (gm:=gm) (clock:=clock) (es:=es) (fused:=fused) (left:=left) (s:={s with rf:=inc s.rf}) S2 (hf.congr rfl rfl rfl))⟩)))))))))
 obtain ⟨k,rfl⟩:∃k:Nat,at_=(k:Int):=⟨at_.toNat,by omega⟩
 have hk:k<s.last.length:=by omega
 have hsk:=mem_getD hk
 have hl5:=hf.len _ (List.mem_of_getElem? hsk)
 have hfl:=flat_sec hf.len k _ hsk
 have e:s.readR (k:Int)=({s with rd:=inc s.rd},s.now k,0):=by unfold Dsk.readR;rw [if_neg hz,if_neg ho,Int.toNat_natCast]
 rw [e]
 rcases hf.find k with ⟨hp,hno⟩|⟨j,p,hj,hat,hp,hne,hje,hke,hfe⟩
 ·rw [Dsk.now_none hp]
  change St F w0 w (dR g gd (512*s.last.length) gm fused left s.life s.rd s.wr s.fl s.rf (s.pend.length:Int)::row gd (bvs s.last.flatten) 5::pt gm (mapO (es.map PEnt.ent) clock)::stars (es.map PEnt.ast)::L) at S
  refine eN (fr [pq g,nI_ k] 28) Try.func26 rfl (sR (pv (nS_) (pv (iv 0) (wE (nS (sR (pv (pq g) (pv (nI_ k) (sP Try.func79 #[pq g,nI_ k] (there_in hb rfl hn2 hk S) fun w1 S2=>pv (iv 0) (wER (pv (iv 0) (dN 0 0 (fun hd3=>False.elim om_) fun _=> ?_))))))))))))
  refine wE (nCF (wp_skip (nSR (pv (pq g) (pv (pq g) (pv (po g 5) (pv (po g 5) (lR (iv s.rd) S2 0 5 (pv (iv (inc s.rd)) (pv (pq g) (pv (po g 5) (pv (po g 5) (sS S2 0 rfl 5 (iv (inc s.rd)) fun w4 S5=> ?_)))))))))))))
  refine wER (g_ (gv_make (e:=5) (u:=512) (v:=512) (z:=.int .u8 0) (sz:=1) (by_:=1) (n:=512) (c:=512) (cs:=(bvs (List.replicate 512 0))) S5 rfl kr_ ⟨by kernel_rfl⟩ kr_ kr_ rfl rfl (Nat.le_refl _) dc_ dc_ (mk_bytes _) (fun g6 w7 hg8 S9=>pv (sl g6 0 512 512) (wER (pv (sl g6 0 512 512) (pv (pq g) (pv (nI_ k) (sO Try.func80 #[pq g,nI_ k] (now_home (S9.blk 1 rfl) rfl rfl hn2 hk (S9.get 3 rfl) hno) (g_ (gv_copy (e:=5) (off:=0) (dLen:=512) (dCap:=512) (sLen:=512) (sCap:=(512*s.last.length-512*k)) (A:=(some ⟨gd,512*k,none⟩)) (B:=(List.replicate 512 0)) (l:=(s.last.getD k [])) S9 0 rfl rfl kr_ kr_ kr_ kr_ hl5.symm (RdB.row (S9.blk 2 rfl) _ 512 _ hfl.symm) (by simp) (L':=(row g6 (bvs (s.last.getD k [])) 5::dR g gd (512*s.last.length) gm fused left s.life (inc s.rd) s.wr s.fl s.rf (s.pend.length:Int)::row gd (bvs s.last.flatten) 5::pt gm (mapO (es.map PEnt.ent) clock)::stars (es.map PEnt.ast)::L)) (by rw [copy512 hl5];rfl) (fun w10 m12 S11=>wER (pv (sl g6 0 512 512) (pv (sl g6 0 512 512) (pv (iv 0) (wE ?_)))))))))))))))
  exact then_n (wp_ret (bB (sl g6 0 512 512) (iv 0) ⟨_,rfl,St.bytes_row (St.swap (St.pclose (gd:=gd) (gm:=gm) (clock:=clock) (es:=es) (fused:=fused) (left:=left) (s:={s with rd:=inc s.rd}) (St.rot (LA:=pdParts g gd gm clock es fused left ({s with rd:=inc s.rd})) S11) (hf.congr rfl rfl rfl))) hl5.symm hl5.symm⟩))
 ·obtain ⟨x,hx,hxl,hxm⟩:=last_some (f:=Prod.snd) hne
  rw [Dsk.now_some hp hxl]
  have hx5:x.2.length=512:=by
   have h1:x.2∈pendOf s k:=by rw [hp];exact List.mem_map.2 ⟨x,hxm,rfl⟩
   obtain ⟨y,hy,e1⟩:=List.mem_map.1 h1
   rw [←e1];exact (hf.plen y (List.mem_filter.1 hy).1).1
  have hq0:=List.length_pos_iff.2 hne
  have hqm:p.ws.length≤9223372036854775807:=by
   have h1:=hf.pn
   have h2:p.ws.length=(pendOf s k).length:=by rw [hp,List.length_map]
   have h3:(pendOf s k).length≤s.pend.length:=by unfold pendOf;rw [List.length_map];exact List.length_filter_le _ _
   omega
  change St F w0 w (dR g gd (512*s.last.length) gm fused left s.life s.rd s.wr s.fl s.rf (s.pend.length:Int)::row gd (bvs s.last.flatten) 5::pt gm (mapO (es.map PEnt.ent) clock)::stars (es.map PEnt.ast)::L) at S
  refine eN (fr [pq g,nI_ k] 28) Try.func26 rfl (sR (pv (nS_) (pv (iv 0) (wE (nS (sR (pv (pq g) (pv (nI_ k) (sP Try.func79 #[pq g,nI_ k] (there_in hb rfl hn2 hk S) fun w1 S2=>pv (iv 0) (wER (pv (iv 0) (dN 0 0 (fun hd3=>False.elim om_) fun _=> ?_))))))))))))
  refine wE (nCF (wp_skip (nSR (pv (pq g) (pv (pq g) (pv (po g 5) (pv (po g 5) (lR (iv s.rd) S2 0 5 (pv (iv (inc s.rd)) (pv (pq g) (pv (po g 5) (pv (po g 5) (sS S2 0 rfl 5 (iv (inc s.rd)) fun w4 S5=> ?_)))))))))))))
  refine wER (g_ (gv_make (e:=5) (u:=512) (v:=512) (z:=.int .u8 0) (sz:=1) (by_:=1) (n:=512) (c:=512) (cs:=(bvs (List.replicate 512 0))) S5 rfl kr_ ⟨by kernel_rfl⟩ kr_ kr_ rfl rfl (Nat.le_refl _) dc_ dc_ (mk_bytes _) (fun g6 w7 hg8 S9=>pv (sl g6 0 512 512) (wER (pv (sl g6 0 512 512) (pv (pq g) (pv (nI_ k) (g_ (gv_call (args:=#[pq g,nI_ k]) rfl Try.func80 kr_ rfl rfl kr_ ?_)))))))))
  obtain ⟨gb,cb,cells,hv,HV,hcell,hdat⟩:=pend_facts S9 4 rfl hj hne
  refine Calls.mono (now_pend (S9.blk 1 rfl) (S9.get 3 rfl) hje hke hfe hv hq0 hqm HV (hcell _ _ hx)) ?_
  rintro _ _ ⟨rfl,rfl⟩
  exact ⟨_,rfl,(g_ (gv_copy (e:=5) (off:=0) (dLen:=512) (dCap:=512) (sLen:=512) (sCap:=512) (A:=(some ⟨x.1,0,none⟩)) (B:=(List.replicate 512 0)) (l:=x.2) S9 0 rfl rfl kr_ kr_ kr_ kr_ hx5.symm (RdB.row (hdat x hxm) 0 512 _ (by rw [List.drop_zero,List.take_of_length_le om_])) (by simp) (L':=(row g6 (bvs x.2) 5::dR g gd (512*s.last.length) gm fused left s.life (inc s.rd) s.wr s.fl s.rf (s.pend.length:Int)::row gd (bvs s.last.flatten) 5::pt gm (mapO (es.map PEnt.ent) clock)::stars (es.map PEnt.ast)::L)) (by rw [copy512 hx5];rfl) (fun w10 m12 S11=>wER (pv (sl g6 0 512 512) (pv (sl g6 0 512 512) (pv (iv 0) (wE (then_n (wp_ret (bB (sl g6 0 512 512) (iv 0) ⟨_,rfl,St.bytes_row (St.swap (St.pclose (gd:=gd) (gm:=gm) (clock:=clock) (es:=es) (fused:=fused) (left:=left) (s:={s with rd:=inc s.rd}) (St.rot (LA:=pdParts g gd gm clock es fused left ({s with rd:=inc s.rd})) S11) (hf.congr rfl rfl rfl))) hx5.symm hx5.symm⟩))))))))))⟩
end
theorem pd_write {F:Nat→Prop}{w0 w:World}{L:List Ast}{g:Nat}{s:Dsk}{at_:Int}{A:Option Addr}{d:List UInt8}{cd:Nat}(S:St F w0 w (PDisk g s::L))(hr:RoT F w0 L A d)(hdm:d.length≤9223372036854775807)(hpn:s.pend.length<4398046511104):
  Calls Try.prog 33 #[pq g,iv at_,.slice A d.length cd] w fun e w'=>e=.returned (iv (s.writeR at_ d).2)∧St F w0 w' (PDisk g (s.writeR at_ d).1::L):=by
 obtain ⟨gd,gm,clock,es,fused,left,hf,S⟩:=St.popen S
 have hn2:=hf.n2
 have hbu:=hf.burnt
 by_cases hz:s.left=0
 ·have e:s.writeR at_ d=(s,3):=by unfold Dsk.writeR;rw [if_pos hz]
  rw [e]
  have hb:(fused&&decide (left=0))=true:=by rw [hbu];exact decide_eq_true hz
  change St F w0 w (dR g gd (512*s.last.length) gm fused left s.life s.rd s.wr s.fl s.rf (s.pend.length:Int)::row gd (bvs s.last.flatten) 5::pt gm (mapO (es.map PEnt.ent) clock)::stars (es.map PEnt.ast)::L) at S
  refine eN (fr [pq g,iv at_,.slice A d.length cd] 62) Try.func33 rfl (sR (pv (iv 0) (wE (nS (sR (pv (pq g) (pv (iv at_) (sP Try.func79 #[pq g,iv at_] (there_dead hb S) fun w1 S2=>pv (iv 3) (wER (pv (iv 3) (dN 3 0 (fun _=>wE ?_) fun hd3=>False.elim om_)))))))))))
  exact nCT (sR (pv (iv 3) (pv (iv 3) (wE (then_n (rR (bA (iv 3) ⟨rfl,St.pclose (gd:=gd) (gm:=gm) (clock:=clock) (es:=es) (fused:=fused) (left:=left) (s:=s) S2 (hf.congr rfl rfl rfl)⟩)))))))
 have hb:(fused&&decide (left=0))=false:=by rw [hbu];exact decide_eq_false hz
 by_cases ho:at_<0∨(s.last.length:Int)≤at_
 ·have e:s.writeR at_ d=({s with rf:=inc s.rf},11):=by unfold Dsk.writeR;rw [if_neg hz,if_pos ho]
  rw [e]
  change St F w0 w (dR g gd (512*s.last.length) gm fused left s.life s.rd s.wr s.fl s.rf (s.pend.length:Int)::row gd (bvs s.last.flatten) 5::pt gm (mapO (es.map PEnt.ent) clock)::stars (es.map PEnt.ast)::L) at S
  refine eN (fr [pq g,iv at_,.slice A d.length cd] 62) Try.func33 rfl (sR (pv (iv 0) (wE (nS (sR (pv (pq g) (pv (iv at_) (sP Try.func79 #[pq g,iv at_] (there_out hb rfl hn2 ho S) fun w1 S2=>pv (iv 11) (wER (pv (iv 11) (dN 11 0 (fun _=>wE ?_) fun hd3=>False.elim om_)))))))))))
  exact nCT (sR (pv (iv 11) (pv (iv 11) (wE (then_n (rR (bA (iv 11) ⟨rfl,St.pclose (gd:=gd) (gm:=gm) (clock:=clock) (es:=es) (fused:=fused) (left:=left) (s:={s with rf:=inc s.rf}) S2 (hf.congr rfl rfl rfl)⟩)))))))
 obtain ⟨k,rfl⟩:∃k:Nat,at_=(k:Int):=⟨at_.toNat,by omega⟩
 have hk:k<s.last.length:=by omega
 by_cases hd5:d.length≠512
 ·have e:s.writeR (k:Int) d=({s with rf:=inc s.rf},2):=by unfold Dsk.writeR;rw [if_neg hz,if_neg ho,if_pos hd5]
  rw [e]
  change St F w0 w (dR g gd (512*s.last.length) gm fused left s.life s.rd s.wr s.fl s.rf (s.pend.length:Int)::row gd (bvs s.last.flatten) 5::pt gm (mapO (es.map PEnt.ent) clock)::stars (es.map PEnt.ast)::L) at S
  refine eN (fr [pq g,nI_ k,.slice A d.length cd] 62) Try.func33 rfl (sR (pv (iv 0) (wE (nS (sR (pv (pq g) (pv (nI_ k) (sP Try.func79 #[pq g,nI_ k] (there_in hb rfl hn2 hk S) fun w1 S2=>pv (iv 0) (wER (pv (iv 0) (dN 0 0 (fun hd3=>False.elim om_) fun _=>wE ?_)))))))))))
  refine nCF (wp_skip (nS (sR (pv (.slice A d.length cd) (pv (iv (d.length:Nat)) (dN (d.length:Nat) 512 (fun _=>wE (nCT (sR (pv (pq g) (pv (pq g) (pv (po g 5) (pv (po g 8) ?_))))))) fun hd4=>False.elim om_))))))
  exact lR (iv s.rf) S2 0 8 (pv (iv (inc s.rf)) (pv (pq g) (pv (po g 5) (pv (po g 8) (sS S2 0 rfl 8 (iv (inc s.rf)) fun w5 S6=>wER (pv (iv 2) (wE (then_n (rR (bA (iv 2) ⟨rfl,St.pclose (gd:=gd) (gm:=gm) (clock:=clock) (es:=es) (fused:=fused) (left:=left) (s:={s with rf:=inc s.rf}) S6 (hf.congr rfl rfl rfl)⟩))))))))))
 have hd:d.length=512:=by omega
 have e:s.writeR (k:Int) d=({s with pend:=s.pend++[(k,d)],wr:=inc s.wr,left:=spent s.left},0):=by unfold Dsk.writeR;rw [if_neg hz,if_neg ho,if_neg hd5,Int.toNat_natCast]
 rw [e]
 have hsp:=hf.spend hz
 have hlb:=spent_lb hf.lb hz
 rcases hf.find k with ⟨hp,hno⟩|⟨j,p,hj,hat,hp,hne,hje,hke,hfe⟩
 ·rcases hsp with ⟨rfl,hdc,hde⟩|⟨rfl,hdc,hde⟩
  ·change St F w0 w (dR g gd (512*s.last.length) gm true left s.life s.rd s.wr s.fl s.rf (s.pend.length:Int)::row gd (bvs s.last.flatten) 5::pt gm (mapO (es.map PEnt.ent) clock)::stars (es.map PEnt.ast)::L) at S
   refine eN (fr [pq g,nI_ k,.slice A d.length cd] 62) Try.func33 rfl (sR (pv (iv 0) (wE (nS (sR (pv (pq g) (pv (nI_ k) (sP Try.func79 #[pq g,nI_ k] (there_in hb rfl hn2 hk S) fun w1 S2=>pv (iv 0) (wER (pv (iv 0) (dN 0 0 (fun hd3=>False.elim om_) fun _=>wE ?_)))))))))))
   refine nCF (wp_skip (nS (sR (pv (.slice A d.length cd) (pv (iv (d.length:Nat)) (dN (d.length:Nat) 512 (fun hd4=>False.elim om_) fun _=>wE (nCF (wp_skip (nSR (g_ (gv_make (e:=5) (u:=512) (v:=512) (z:=.int .u8 0) (sz:=1) (by_:=1) (n:=512) (c:=512) (cs:=(bvs (List.replicate 512 0))) S2 rfl kr_ ⟨by kernel_rfl⟩ kr_ kr_ rfl rfl (Nat.le_refl _) dc_ dc_ (mk_bytes _) (fun g5 w6 hg7 S8=>pv (sl g5 0 512 512) (wER ?_)))))))))))))
   refine pv (sl g5 0 512 512) (pv (.slice A d.length cd) (g_ (gv_copy (e:=5) (off:=0) (dLen:=512) (dCap:=512) (sLen:=d.length) (sCap:=cd) (A:=A) (B:=(List.replicate 512 0)) (l:=d) S8 0 rfl rfl kr_ kr_ kr_ kr_ rfl (hr.out _ [row g5 (bvs (List.replicate 512 0)) 5,dR g gd (512*s.last.length) gm true left s.life s.rd s.wr s.fl s.rf (s.pend.length:Int),row gd (bvs s.last.flatten) 5,pt gm (mapO (es.map PEnt.ent) clock),stars (es.map PEnt.ast)] S8) (by simp) (L':=(row g5 (bvs d) 5::dR g gd (512*s.last.length) gm true left s.life s.rd s.wr s.fl s.rf (s.pend.length:Int)::row gd (bvs s.last.flatten) 5::pt gm (mapO (es.map PEnt.ent) clock)::stars (es.map PEnt.ast)::L)) (by rw [copy512 hd];rfl) (fun w9 m11 S10=>wE (nS ?_)))))
   have S12:St F w0 w9 (vec 31 1 (nS_) 0 []::row g5 (bvs d) 5::dR g gd (512*s.last.length) gm true left s.life s.rd s.wr s.fl s.rf (s.pend.length:Int)::row gd (bvs s.last.flatten) 5::pt gm (mapO (es.map PEnt.ent) clock)::stars (es.map PEnt.ast)::L):=St.vec_nil S10
   refine wp_region_phu (γ:=Nat×Value) 14 [12,13] (fun (c_:Nat×Value) (i_:Nat)=>(match i_ with|0=>pq g|1=>pq g|2=>po g 1|3=>.map (some gm)|4=>nI_ k|5=>pq g|6=>pq g|7=>po g 1|8=>.map (some gm)|9=>nI_ k|10=>nS_|11=>sl g5 0 512 512|12=>sl c_.1 0 1 1|13=>c_.2|_=>undef:Value)) (fun (c_:Nat×Value) (p_:Nat) (w_:World)=>(match p_ with|0=>St F w0 w_ (vec 31 1 (nS_) 0 []::row g5 (bvs d) 5::dR g gd (512*s.last.length) gm true left s.life s.rd s.wr s.fl s.rf (s.pend.length:Int)::row gd (bvs s.last.flatten) 5::pt gm (mapO (es.map PEnt.ent) clock)::stars (es.map PEnt.ast)::L)|1=>St F w0 w_ (row c_.1 #[sl g5 0 512 512] 31::vec 31 1 (nS_) 0 []::row g5 (bvs d) 5::dR g gd (512*s.last.length) gm true left s.life s.rd s.wr s.fl s.rf (s.pend.length:Int)::row gd (bvs s.last.flatten) 5::pt gm (mapO (es.map PEnt.ent) clock)::stars (es.map PEnt.ast)::L)|_=>St F w0 w_ (vec 31 1 c_.2 1 [sl g5 0 512 512]::row c_.1 #[sl g5 0 512 512] 31::row g5 (bvs d) 5::dR g gd (512*s.last.length) gm true left s.life s.rd s.wr s.fl s.rf (s.pend.length:Int)::row gd (bvs s.last.flatten) 5::pt gm (mapO (es.map PEnt.ent) clock)::stars (es.map PEnt.ast)::L):Prop)) (0,undef) kr_ kr_ kr_ kr_ (S12.drew) ?_ ?_ ?_
   ·intro i_ c_ p_ vals_ w1 hi_ hiE_ hp_ hk_ hu_ hPh_ hd_
    rcases i_ with _|_|_|_|_|_|_|_|_|_|_|_|_|_|i_
    ·exact tG_ rfl hd_ (gV (pq g) ⟨rfl,rfl⟩)
    ·exact tG_ rfl hd_ (gV (pq g) ⟨rfl,rfl⟩)
    ·exact tG_ rfl hd_ (gV (po g 1) ⟨rfl,rfl⟩)
    ·rcases p_ with _|_|_|p_
     ·have S16:=St.id hPh_
      exact tG_ rfl hd_ (gL (.map (some gm)) rfl (((S16.blk 2 rfl).cell 1).trans rfl) ⟨rfl,rfl⟩)
     ·have S17:=St.id hPh_
      exact tG_ rfl hd_ (gL (.map (some gm)) rfl (((S17.blk 3 rfl).cell 1).trans rfl) ⟨rfl,rfl⟩)
     ·have S18:=St.id hPh_
      exact tG_ rfl hd_ (gL (.map (some gm)) rfl (((S18.blk 3 rfl).cell 1).trans rfl) ⟨rfl,rfl⟩)
     ·exact absurd hp_ (by simp)
    ·exact tG_ rfl hd_ (gV (nI_ k) ⟨rfl,rfl⟩)
    ·exact tG_ rfl hd_ (gV (pq g) ⟨rfl,rfl⟩)
    ·exact tG_ rfl hd_ (gV (pq g) ⟨rfl,rfl⟩)
    ·exact tG_ rfl hd_ (gV (po g 1) ⟨rfl,rfl⟩)
    ·rcases p_ with _|_|_|p_
     ·have S23:=St.id hPh_
      exact tG_ rfl hd_ (gL (.map (some gm)) rfl (((S23.blk 2 rfl).cell 1).trans rfl) ⟨rfl,rfl⟩)
     ·have S24:=St.id hPh_
      exact tG_ rfl hd_ (gL (.map (some gm)) rfl (((S24.blk 3 rfl).cell 1).trans rfl) ⟨rfl,rfl⟩)
     ·exact absurd (hu_ 1 dc_ kr_) dc_
     ·exact absurd hp_ (by simp)
    ·exact tG_ rfl hd_ (gV (nI_ k) ⟨rfl,rfl⟩)
    ·rcases p_ with _|_|_|p_
     ·have S26:=St.id hPh_
      exact tG_ rfl hd_ (gv_look_none (kT:=3) (eT:=42) (k:=((k:Nat):Int)) (z:=nS_) (S26.get 4 rfl) rfl kr_ kr_ kr_ kr_ kr_ hno ⟨rfl,rfl⟩)
     ·have S27:=St.id hPh_
      exact tG_ rfl hd_ (gv_look_none (kT:=3) (eT:=42) (k:=((k:Nat):Int)) (z:=nS_) (S27.get 5 rfl) rfl kr_ kr_ kr_ kr_ kr_ hno ⟨rfl,rfl⟩)
     ·exact absurd (hu_ 1 dc_ kr_) dc_
     ·exact absurd hp_ (by simp)
    ·exact tG_ rfl hd_ (gV (sl g5 0 512 512) ⟨rfl,rfl⟩)
    ·exact absurd hiE_ dc_
    ·exact absurd hiE_ dc_
    ·exact absurd hi_ om_
   ·intro k_ c_ vals_ w1 hk_ hPh_ hd_
    rcases k_ with _|_|k_
    ·have S29:=St.id hPh_
     refine tG_ rfl hd_ (gv_slit (e:=31) (sz:=1) (z:=nS_) (by_:=24) (vs:=#[(0,sl g5 0 512 512)]) (cells:=#[sl g5 0 512 512]) S29 rfl kr_ ⟨by kernel_rfl⟩ kr_ kr_ kr_ kr_ (fun g30 w31 hg32 S33=>⟨(g30,c_.2),rfl, ?_,S33⟩))
     intro i_ hi_ hne_ hdp_
     rcases i_ with _|_|_|_|_|_|_|_|_|_|_|_|_|_|i_
     ·rfl
     ·rfl
     ·rfl
     ·rfl
     ·rfl
     ·rfl
     ·rfl
     ·rfl
     ·rfl
     ·rfl
     ·rfl
     ·rfl
     ·exact absurd rfl hne_
     ·exact dN_ hdp_
     ·exact absurd hi_ om_
    ·have S34:=St.id hPh_
     refine tG_ rfl hd_ (gv_append (e:=31) (sz:=1) (n:=0) (v:=(nS_)) (vals:=[]) (z:=nS_) (by_:=24) (m:=1) (c':=1) (ad:=⟨c_.1,0,none⟩) (news:=[sl g5 0 512 512]) (St.swap S34) rfl kr_ ⟨by kernel_rfl⟩ rfl kr_ kr_ dc_ rfl (row_news (S34.blk 0 rfl)) (by intro u hu;simp at hu;subst hu;rfl) om_ om_ (fun v36 w35 S37=>⟨(c_.1,v36),rfl, ?_,S37⟩))
     intro i_ hi_ hne_ hdp_
     rcases i_ with _|_|_|_|_|_|_|_|_|_|_|_|_|_|i_
     ·rfl
     ·rfl
     ·rfl
     ·rfl
     ·rfl
     ·rfl
     ·rfl
     ·rfl
     ·rfl
     ·rfl
     ·rfl
     ·rfl
     ·rfl
     ·exact absurd rfl hne_
     ·exact absurd hi_ om_
    ·exact absurd hk_ (by simp)
   ·intro c_ w1 hPh_
    have S38:=St.id hPh_
    refine (g_ (gv_put_new (kT:=3) (eT:=42) (g:=gm) (clock:=clock) (es:=es.map PEnt.ent) (k:=((k:Nat):Int)) (v:=c_.2) S38 5 rfl rfl kr_ kr_ kr_ kr_ kr_ hno (L':=(vec 31 1 c_.2 1 [sl g5 0 512 512]::row c_.1 #[sl g5 0 512 512] 31::row g5 (bvs d) 5::dR g gd (512*s.last.length) gm true left s.life s.rd s.wr s.fl s.rf (s.pend.length:Int)::row gd (bvs s.last.flatten) 5::pt gm (mapO (es.map PEnt.ent++[⟨((k:Nat):Int),c_.2,clock⟩]) (clock+1))::stars (es.map PEnt.ast)::L)) rfl (fun w39 S40=>wE ?_)))
    refine nSR (pv (pq g) (pv (pq g) (pv (po g 5) (pv (po g 6) (lR (iv s.wr) S40 3 6 (pv (iv (inc s.wr)) (pv (pq g) (pv (po g 5) (pv (po g 6) (sS S40 3 rfl 6 (iv (inc s.wr)) fun w41 S42=>wER (pv (pq g) (pv (pq g) ?_))))))))))))
    refine pv (po g 5) (pv (po g 9) (lR (iv (s.pend.length:Int)) S42 3 9 (gI .i64 (IntKind.i64.wrap ((s.pend.length:Int)+1)) ((s.pend.length+1:Nat):Int) wq_ (pv (pq g) (pv (po g 5) (pv (po g 9) (sS S42 3 rfl 9 (nI_ (s.pend.length+1)) fun w43 S44=>wER (pv (pq g) (g_ (gv_call (args:=#[pq g]) rfl Try.func83 kr_ rfl rfl kr_ ?_))))))))))
    have S45:St F w0 w43 (vec 31 1 c_.2 1 [sl g5 0 512 512]::row g5 (bvs d) 5::dR g gd (512*s.last.length) gm true left s.life s.rd (inc s.wr) s.fl s.rf ((s.pend.length+1:Nat):Int)::row gd (bvs s.last.flatten) 5::pt gm (mapO (es.map PEnt.ent++[⟨((k:Nat):Int),c_.2,clock⟩]) (clock+1))::stars (es.map PEnt.ast)::L):=St.pm 7 [0,2,3,4,5,6] S44
    have em:es.map PEnt.ent++[⟨((k:Nat):Int),c_.2,clock⟩]=(es++[(⟨k,c_.2,clock,[(g5,d)]⟩:PEnt)]).map PEnt.ent:=by rw [List.map_append];rfl
    have S46:St F w0 w43 (dR g gd (512*s.last.length) gm true left s.life s.rd (inc s.wr) s.fl s.rf ((s.pend.length+1:Nat):Int)::row gd (bvs s.last.flatten) 5::pt gm (mapO (es.map PEnt.ent++[⟨((k:Nat):Int),c_.2,clock⟩]) (clock+1))::stars ((es++[(⟨k,c_.2,clock,[(g5,d)]⟩:PEnt)]).map PEnt.ast)::L):=entry_new S45
    rw [em] at S46
    refine Calls.mono (spend_true S46) ?_
    rintro _ w47 ⟨rfl,S48⟩
    refine ⟨_,rfl,(wER (pv (iv 0) (wE (then_n (wp_ret (bA (iv 0) ?_))))))⟩
    have hl1:((s.pend.length+1:Nat):Int)=((s.pend++[(k,d)]).length:Nat):=by rw [List.length_append];rfl
    rw [hl1] at S48
    exact ⟨rfl,St.pclose (gd:=gd) (gm:=gm) (clock:=clock+1) (es:=es++[(⟨k,c_.2,clock,[(g5,d)]⟩:PEnt)]) (fused:=true) (left:=dec left) (s:={s with pend:=s.pend++[(k,d)],wr:=inc s.wr,left:=spent s.left}) S48 (PFacts.refuse (s':={s with pend:=s.pend++[(k,d)],wr:=inc s.wr,left:=spent s.left}) (hf.write_new (s':={s with pend:=s.pend++[(k,d)]}) (go:=g5) (d:=d) (v':=c_.2) hp hno hk hd hpn rfl rfl rfl) rfl rfl hdc.symm (fun _=>hde) hlb)⟩
  ·change St F w0 w (dR g gd (512*s.last.length) gm false left s.life s.rd s.wr s.fl s.rf (s.pend.length:Int)::row gd (bvs s.last.flatten) 5::pt gm (mapO (es.map PEnt.ent) clock)::stars (es.map PEnt.ast)::L) at S
   refine eN (fr [pq g,nI_ k,.slice A d.length cd] 62) Try.func33 rfl (sR (pv (iv 0) (wE (nS (sR (pv (pq g) (pv (nI_ k) (sP Try.func79 #[pq g,nI_ k] (there_in hb rfl hn2 hk S) fun w1 S2=>pv (iv 0) (wER (pv (iv 0) (dN 0 0 (fun hd3=>False.elim om_) fun _=>wE ?_)))))))))))
   refine nCF (wp_skip (nS (sR (pv (.slice A d.length cd) (pv (iv (d.length:Nat)) (dN (d.length:Nat) 512 (fun hd4=>False.elim om_) fun _=>wE (nCF (wp_skip (nSR (g_ (gv_make (e:=5) (u:=512) (v:=512) (z:=.int .u8 0) (sz:=1) (by_:=1) (n:=512) (c:=512) (cs:=(bvs (List.replicate 512 0))) S2 rfl kr_ ⟨by kernel_rfl⟩ kr_ kr_ rfl rfl (Nat.le_refl _) dc_ dc_ (mk_bytes _) (fun g5 w6 hg7 S8=>pv (sl g5 0 512 512) (wER ?_)))))))))))))
   refine pv (sl g5 0 512 512) (pv (.slice A d.length cd) (g_ (gv_copy (e:=5) (off:=0) (dLen:=512) (dCap:=512) (sLen:=d.length) (sCap:=cd) (A:=A) (B:=(List.replicate 512 0)) (l:=d) S8 0 rfl rfl kr_ kr_ kr_ kr_ rfl (hr.out _ [row g5 (bvs (List.replicate 512 0)) 5,dR g gd (512*s.last.length) gm false left s.life s.rd s.wr s.fl s.rf (s.pend.length:Int),row gd (bvs s.last.flatten) 5,pt gm (mapO (es.map PEnt.ent) clock),stars (es.map PEnt.ast)] S8) (by simp) (L':=(row g5 (bvs d) 5::dR g gd (512*s.last.length) gm false left s.life s.rd s.wr s.fl s.rf (s.pend.length:Int)::row gd (bvs s.last.flatten) 5::pt gm (mapO (es.map PEnt.ent) clock)::stars (es.map PEnt.ast)::L)) (by rw [copy512 hd];rfl) (fun w9 m11 S10=>wE (nS ?_)))))
   have S12:St F w0 w9 (vec 31 1 (nS_) 0 []::row g5 (bvs d) 5::dR g gd (512*s.last.length) gm false left s.life s.rd s.wr s.fl s.rf (s.pend.length:Int)::row gd (bvs s.last.flatten) 5::pt gm (mapO (es.map PEnt.ent) clock)::stars (es.map PEnt.ast)::L):=St.vec_nil S10
   refine wp_region_phu (γ:=Nat×Value) 14 [12,13] (fun (c_:Nat×Value) (i_:Nat)=>(match i_ with|0=>pq g|1=>pq g|2=>po g 1|3=>.map (some gm)|4=>nI_ k|5=>pq g|6=>pq g|7=>po g 1|8=>.map (some gm)|9=>nI_ k|10=>nS_|11=>sl g5 0 512 512|12=>sl c_.1 0 1 1|13=>c_.2|_=>undef:Value)) (fun (c_:Nat×Value) (p_:Nat) (w_:World)=>(match p_ with|0=>St F w0 w_ (vec 31 1 (nS_) 0 []::row g5 (bvs d) 5::dR g gd (512*s.last.length) gm false left s.life s.rd s.wr s.fl s.rf (s.pend.length:Int)::row gd (bvs s.last.flatten) 5::pt gm (mapO (es.map PEnt.ent) clock)::stars (es.map PEnt.ast)::L)|1=>St F w0 w_ (row c_.1 #[sl g5 0 512 512] 31::vec 31 1 (nS_) 0 []::row g5 (bvs d) 5::dR g gd (512*s.last.length) gm false left s.life s.rd s.wr s.fl s.rf (s.pend.length:Int)::row gd (bvs s.last.flatten) 5::pt gm (mapO (es.map PEnt.ent) clock)::stars (es.map PEnt.ast)::L)|_=>St F w0 w_ (vec 31 1 c_.2 1 [sl g5 0 512 512]::row c_.1 #[sl g5 0 512 512] 31::row g5 (bvs d) 5::dR g gd (512*s.last.length) gm false left s.life s.rd s.wr s.fl s.rf (s.pend.length:Int)::row gd (bvs s.last.flatten) 5::pt gm (mapO (es.map PEnt.ent) clock)::stars (es.map PEnt.ast)::L):Prop)) (0,undef) kr_ kr_ kr_ kr_ (S12.drew) ?_ ?_ ?_
   ·intro i_ c_ p_ vals_ w1 hi_ hiE_ hp_ hk_ hu_ hPh_ hd_
    rcases i_ with _|_|_|_|_|_|_|_|_|_|_|_|_|_|i_
    ·exact tG_ rfl hd_ (gV (pq g) ⟨rfl,rfl⟩)
    ·exact tG_ rfl hd_ (gV (pq g) ⟨rfl,rfl⟩)
    ·exact tG_ rfl hd_ (gV (po g 1) ⟨rfl,rfl⟩)
    ·rcases p_ with _|_|_|p_
     ·have S16:=St.id hPh_
      exact tG_ rfl hd_ (gL (.map (some gm)) rfl (((S16.blk 2 rfl).cell 1).trans rfl) ⟨rfl,rfl⟩)
     ·have S17:=St.id hPh_
      exact tG_ rfl hd_ (gL (.map (some gm)) rfl (((S17.blk 3 rfl).cell 1).trans rfl) ⟨rfl,rfl⟩)
     ·have S18:=St.id hPh_
      exact tG_ rfl hd_ (gL (.map (some gm)) rfl (((S18.blk 3 rfl).cell 1).trans rfl) ⟨rfl,rfl⟩)
     ·exact absurd hp_ (by simp)
    ·exact tG_ rfl hd_ (gV (nI_ k) ⟨rfl,rfl⟩)
    ·exact tG_ rfl hd_ (gV (pq g) ⟨rfl,rfl⟩)
    ·exact tG_ rfl hd_ (gV (pq g) ⟨rfl,rfl⟩)
    ·exact tG_ rfl hd_ (gV (po g 1) ⟨rfl,rfl⟩)
    ·rcases p_ with _|_|_|p_
     ·have S23:=St.id hPh_
      exact tG_ rfl hd_ (gL (.map (some gm)) rfl (((S23.blk 2 rfl).cell 1).trans rfl) ⟨rfl,rfl⟩)
     ·have S24:=St.id hPh_
      exact tG_ rfl hd_ (gL (.map (some gm)) rfl (((S24.blk 3 rfl).cell 1).trans rfl) ⟨rfl,rfl⟩)
     ·exact absurd (hu_ 1 dc_ kr_) dc_
     ·exact absurd hp_ (by simp)
    ·exact tG_ rfl hd_ (gV (nI_ k) ⟨rfl,rfl⟩)
    ·rcases p_ with _|_|_|p_
     ·have S26:=St.id hPh_
      exact tG_ rfl hd_ (gv_look_none (kT:=3) (eT:=42) (k:=((k:Nat):Int)) (z:=nS_) (S26.get 4 rfl) rfl kr_ kr_ kr_ kr_ kr_ hno ⟨rfl,rfl⟩)
     ·have S27:=St.id hPh_
      exact tG_ rfl hd_ (gv_look_none (kT:=3) (eT:=42) (k:=((k:Nat):Int)) (z:=nS_) (S27.get 5 rfl) rfl kr_ kr_ kr_ kr_ kr_ hno ⟨rfl,rfl⟩)
     ·exact absurd (hu_ 1 dc_ kr_) dc_
     ·exact absurd hp_ (by simp)
    ·exact tG_ rfl hd_ (gV (sl g5 0 512 512) ⟨rfl,rfl⟩)
    ·exact absurd hiE_ dc_
    ·exact absurd hiE_ dc_
    ·exact absurd hi_ om_
   ·intro k_ c_ vals_ w1 hk_ hPh_ hd_
    rcases k_ with _|_|k_
    ·have S29:=St.id hPh_
     refine tG_ rfl hd_ (gv_slit (e:=31) (sz:=1) (z:=nS_) (by_:=24) (vs:=#[(0,sl g5 0 512 512)]) (cells:=#[sl g5 0 512 512]) S29 rfl kr_ ⟨by kernel_rfl⟩ kr_ kr_ kr_ kr_ (fun g30 w31 hg32 S33=>⟨(g30,c_.2),rfl, ?_,S33⟩))
     intro i_ hi_ hne_ hdp_
     rcases i_ with _|_|_|_|_|_|_|_|_|_|_|_|_|_|i_
     ·rfl
     ·rfl
     ·rfl
     ·rfl
     ·rfl
     ·rfl
     ·rfl
     ·rfl
     ·rfl
     ·rfl
     ·rfl
     ·rfl
     ·exact absurd rfl hne_
     ·exact dN_ hdp_
     ·exact absurd hi_ om_
    ·have S34:=St.id hPh_
     refine tG_ rfl hd_ (gv_append (e:=31) (sz:=1) (n:=0) (v:=(nS_)) (vals:=[]) (z:=nS_) (by_:=24) (m:=1) (c':=1) (ad:=⟨c_.1,0,none⟩) (news:=[sl g5 0 512 512]) (St.swap S34) rfl kr_ ⟨by kernel_rfl⟩ rfl kr_ kr_ dc_ rfl (row_news (S34.blk 0 rfl)) (by intro u hu;simp at hu;subst hu;rfl) om_ om_ (fun v36 w35 S37=>⟨(c_.1,v36),rfl, ?_,S37⟩))
     intro i_ hi_ hne_ hdp_
     rcases i_ with _|_|_|_|_|_|_|_|_|_|_|_|_|_|i_
     ·rfl
     ·rfl
     ·rfl
     ·rfl
     ·rfl
     ·rfl
     ·rfl
     ·rfl
     ·rfl
     ·rfl
     ·rfl
     ·rfl
     ·rfl
     ·exact absurd rfl hne_
     ·exact absurd hi_ om_
    ·exact absurd hk_ (by simp)
   ·intro c_ w1 hPh_
    have S38:=St.id hPh_
    refine (g_ (gv_put_new (kT:=3) (eT:=42) (g:=gm) (clock:=clock) (es:=es.map PEnt.ent) (k:=((k:Nat):Int)) (v:=c_.2) S38 5 rfl rfl kr_ kr_ kr_ kr_ kr_ hno (L':=(vec 31 1 c_.2 1 [sl g5 0 512 512]::row c_.1 #[sl g5 0 512 512] 31::row g5 (bvs d) 5::dR g gd (512*s.last.length) gm false left s.life s.rd s.wr s.fl s.rf (s.pend.length:Int)::row gd (bvs s.last.flatten) 5::pt gm (mapO (es.map PEnt.ent++[⟨((k:Nat):Int),c_.2,clock⟩]) (clock+1))::stars (es.map PEnt.ast)::L)) rfl (fun w39 S40=>wE ?_)))
    refine nSR (pv (pq g) (pv (pq g) (pv (po g 5) (pv (po g 6) (lR (iv s.wr) S40 3 6 (pv (iv (inc s.wr)) (pv (pq g) (pv (po g 5) (pv (po g 6) (sS S40 3 rfl 6 (iv (inc s.wr)) fun w41 S42=>wER (pv (pq g) (pv (pq g) ?_))))))))))))
    refine pv (po g 5) (pv (po g 9) (lR (iv (s.pend.length:Int)) S42 3 9 (gI .i64 (IntKind.i64.wrap ((s.pend.length:Int)+1)) ((s.pend.length+1:Nat):Int) wq_ (pv (pq g) (pv (po g 5) (pv (po g 9) (sS S42 3 rfl 9 (nI_ (s.pend.length+1)) fun w43 S44=>wER (pv (pq g) (g_ (gv_call (args:=#[pq g]) rfl Try.func83 kr_ rfl rfl kr_ ?_))))))))))
    have S45:St F w0 w43 (vec 31 1 c_.2 1 [sl g5 0 512 512]::row g5 (bvs d) 5::dR g gd (512*s.last.length) gm false left s.life s.rd (inc s.wr) s.fl s.rf ((s.pend.length+1:Nat):Int)::row gd (bvs s.last.flatten) 5::pt gm (mapO (es.map PEnt.ent++[⟨((k:Nat):Int),c_.2,clock⟩]) (clock+1))::stars (es.map PEnt.ast)::L):=St.pm 7 [0,2,3,4,5,6] S44
    have em:es.map PEnt.ent++[⟨((k:Nat):Int),c_.2,clock⟩]=(es++[(⟨k,c_.2,clock,[(g5,d)]⟩:PEnt)]).map PEnt.ent:=by rw [List.map_append];rfl
    have S46:St F w0 w43 (dR g gd (512*s.last.length) gm false left s.life s.rd (inc s.wr) s.fl s.rf ((s.pend.length+1:Nat):Int)::row gd (bvs s.last.flatten) 5::pt gm (mapO (es.map PEnt.ent++[⟨((k:Nat):Int),c_.2,clock⟩]) (clock+1))::stars ((es++[(⟨k,c_.2,clock,[(g5,d)]⟩:PEnt)]).map PEnt.ast)::L):=entry_new S45
    rw [em] at S46
    refine Calls.mono (spend_false S46) ?_
    rintro _ w47 ⟨rfl,S48⟩
    refine ⟨_,rfl,(wER (pv (iv 0) (wE (then_n (wp_ret (bA (iv 0) ?_))))))⟩
    have hl1:((s.pend.length+1:Nat):Int)=((s.pend++[(k,d)]).length:Nat):=by rw [List.length_append];rfl
    rw [hl1] at S48
    exact ⟨rfl,St.pclose (gd:=gd) (gm:=gm) (clock:=clock+1) (es:=es++[(⟨k,c_.2,clock,[(g5,d)]⟩:PEnt)]) (fused:=false) (left:=left) (s:={s with pend:=s.pend++[(k,d)],wr:=inc s.wr,left:=spent s.left}) S48 (PFacts.refuse (s':={s with pend:=s.pend++[(k,d)],wr:=inc s.wr,left:=spent s.left}) (hf.write_new (s':={s with pend:=s.pend++[(k,d)]}) (go:=g5) (d:=d) (v':=c_.2) hp hno hk hd hpn rfl rfl rfl) rfl rfl hdc.symm (fun h=>absurd h (of_decide_eq_false hdc)) hlb)⟩
 ·have hqm:p.ws.length≤s.pend.length:=by
   have h2:p.ws.length=(pendOf s k).length:=by rw [hp,List.length_map]
   have h3:(pendOf s k).length≤s.pend.length:=by unfold pendOf;rw [List.length_map];exact List.length_filter_le _ _
   omega
  subst hat
  rcases hsp with ⟨rfl,hdc,hde⟩|⟨rfl,hdc,hde⟩
  ·change St F w0 w (dR g gd (512*s.last.length) gm true left s.life s.rd s.wr s.fl s.rf (s.pend.length:Int)::row gd (bvs s.last.flatten) 5::pt gm (mapO (es.map PEnt.ent) clock)::stars (es.map PEnt.ast)::L) at S
   refine eN (fr [pq g,nI_ p.at_,.slice A d.length cd] 62) Try.func33 rfl (sR (pv (iv 0) (wE (nS (sR (pv (pq g) (pv (nI_ p.at_) (sP Try.func79 #[pq g,nI_ p.at_] (there_in hb rfl hn2 hk S) fun w1 S2=>pv (iv 0) (wER (pv (iv 0) (dN 0 0 (fun hd3=>False.elim om_) fun _=>wE ?_)))))))))))
   refine nCF (wp_skip (nS (sR (pv (.slice A d.length cd) (pv (iv (d.length:Nat)) (dN (d.length:Nat) 512 (fun hd4=>False.elim om_) fun _=>wE (nCF (wp_skip (nSR (g_ (gv_make (e:=5) (u:=512) (v:=512) (z:=.int .u8 0) (sz:=1) (by_:=1) (n:=512) (c:=512) (cs:=(bvs (List.replicate 512 0))) S2 rfl kr_ ⟨by kernel_rfl⟩ kr_ kr_ rfl rfl (Nat.le_refl _) dc_ dc_ (mk_bytes _) (fun g5 w6 hg7 S8=>pv (sl g5 0 512 512) (wER ?_)))))))))))))
   refine pv (sl g5 0 512 512) (pv (.slice A d.length cd) (g_ (gv_copy (e:=5) (off:=0) (dLen:=512) (dCap:=512) (sLen:=d.length) (sCap:=cd) (A:=A) (B:=(List.replicate 512 0)) (l:=d) S8 0 rfl rfl kr_ kr_ kr_ kr_ rfl (hr.out _ [row g5 (bvs (List.replicate 512 0)) 5,dR g gd (512*s.last.length) gm true left s.life s.rd s.wr s.fl s.rf (s.pend.length:Int),row gd (bvs s.last.flatten) 5,pt gm (mapO (es.map PEnt.ent) clock),stars (es.map PEnt.ast)] S8) (by simp) (L':=(row g5 (bvs d) 5::dR g gd (512*s.last.length) gm true left s.life s.rd s.wr s.fl s.rf (s.pend.length:Int)::row gd (bvs s.last.flatten) 5::pt gm (mapO (es.map PEnt.ent) clock)::stars (es.map PEnt.ast)::L)) (by rw [copy512 hd];rfl) (fun w9 m11 S10=>wE (nS ?_)))))
   have S12:St F w0 w9 (vec 31 1 p.v p.ws.length (p.ws.map PEnt.val)::stars (p.ws.map PEnt.row)::stars ((es.take j).map PEnt.ast)::stars ((es.drop (j+1)).map PEnt.ast)::row g5 (bvs d) 5::dR g gd (512*s.last.length) gm true left s.life s.rd s.wr s.fl s.rf (s.pend.length:Int)::row gd (bvs s.last.flatten) 5::pt gm (mapO (es.map PEnt.ent) clock)::L):=entry_out [row g5 (bvs d) 5,dR g gd (512*s.last.length) gm true left s.life s.rd s.wr s.fl s.rf (s.pend.length:Int),row gd (bvs s.last.flatten) 5,pt gm (mapO (es.map PEnt.ent) clock)] S10 hj
   refine wp_region_phu (γ:=Nat×Value) 14 [12,13] (fun (c_:Nat×Value) (i_:Nat)=>(match i_ with|0=>pq g|1=>pq g|2=>po g 1|3=>.map (some gm)|4=>nI_ p.at_|5=>pq g|6=>pq g|7=>po g 1|8=>.map (some gm)|9=>nI_ p.at_|10=>p.v|11=>sl g5 0 512 512|12=>sl c_.1 0 1 1|13=>c_.2|_=>undef:Value)) (fun (c_:Nat×Value) (p_:Nat) (w_:World)=>(match p_ with|0=>St F w0 w_ (vec 31 1 p.v p.ws.length (p.ws.map PEnt.val)::stars (p.ws.map PEnt.row)::stars ((es.take j).map PEnt.ast)::stars ((es.drop (j+1)).map PEnt.ast)::row g5 (bvs d) 5::dR g gd (512*s.last.length) gm true left s.life s.rd s.wr s.fl s.rf (s.pend.length:Int)::row gd (bvs s.last.flatten) 5::pt gm (mapO (es.map PEnt.ent) clock)::L)|1=>St F w0 w_ (row c_.1 #[sl g5 0 512 512] 31::vec 31 1 p.v p.ws.length (p.ws.map PEnt.val)::stars (p.ws.map PEnt.row)::stars ((es.take j).map PEnt.ast)::stars ((es.drop (j+1)).map PEnt.ast)::row g5 (bvs d) 5::dR g gd (512*s.last.length) gm true left s.life s.rd s.wr s.fl s.rf (s.pend.length:Int)::row gd (bvs s.last.flatten) 5::pt gm (mapO (es.map PEnt.ent) clock)::L)|_=>St F w0 w_ (vec 31 1 c_.2 (p.ws.length+1) (p.ws.map PEnt.val++[sl g5 0 512 512])::row c_.1 #[sl g5 0 512 512] 31::stars (p.ws.map PEnt.row)::stars ((es.take j).map PEnt.ast)::stars ((es.drop (j+1)).map PEnt.ast)::row g5 (bvs d) 5::dR g gd (512*s.last.length) gm true left s.life s.rd s.wr s.fl s.rf (s.pend.length:Int)::row gd (bvs s.last.flatten) 5::pt gm (mapO (es.map PEnt.ent) clock)::L):Prop)) (0,undef) kr_ kr_ kr_ kr_ (S12.drew) ?_ ?_ ?_
   ·intro i_ c_ p_ vals_ w1 hi_ hiE_ hp_ hk_ hu_ hPh_ hd_
    rcases i_ with _|_|_|_|_|_|_|_|_|_|_|_|_|_|i_
    ·exact tG_ rfl hd_ (gV (pq g) ⟨rfl,rfl⟩)
    ·exact tG_ rfl hd_ (gV (pq g) ⟨rfl,rfl⟩)
    ·exact tG_ rfl hd_ (gV (po g 1) ⟨rfl,rfl⟩)
    ·rcases p_ with _|_|_|p_
     ·have S16:=St.id hPh_
      exact tG_ rfl hd_ (gL (.map (some gm)) rfl (((S16.blk 5 rfl).cell 1).trans rfl) ⟨rfl,rfl⟩)
     ·have S17:=St.id hPh_
      exact tG_ rfl hd_ (gL (.map (some gm)) rfl (((S17.blk 6 rfl).cell 1).trans rfl) ⟨rfl,rfl⟩)
     ·have S18:=St.id hPh_
      exact tG_ rfl hd_ (gL (.map (some gm)) rfl (((S18.blk 6 rfl).cell 1).trans rfl) ⟨rfl,rfl⟩)
     ·exact absurd hp_ (by simp)
    ·exact tG_ rfl hd_ (gV (nI_ p.at_) ⟨rfl,rfl⟩)
    ·exact tG_ rfl hd_ (gV (pq g) ⟨rfl,rfl⟩)
    ·exact tG_ rfl hd_ (gV (pq g) ⟨rfl,rfl⟩)
    ·exact tG_ rfl hd_ (gV (po g 1) ⟨rfl,rfl⟩)
    ·rcases p_ with _|_|_|p_
     ·have S23:=St.id hPh_
      exact tG_ rfl hd_ (gL (.map (some gm)) rfl (((S23.blk 5 rfl).cell 1).trans rfl) ⟨rfl,rfl⟩)
     ·have S24:=St.id hPh_
      exact tG_ rfl hd_ (gL (.map (some gm)) rfl (((S24.blk 6 rfl).cell 1).trans rfl) ⟨rfl,rfl⟩)
     ·exact absurd (hu_ 1 dc_ kr_) dc_
     ·exact absurd hp_ (by simp)
    ·exact tG_ rfl hd_ (gV (nI_ p.at_) ⟨rfl,rfl⟩)
    ·rcases p_ with _|_|_|p_
     ·have S26:=St.id hPh_
      exact tG_ rfl hd_ (gv_look_some (kT:=3) (eT:=42) (k:=((p.at_:Nat):Int)) (S26.get 7 rfl) rfl kr_ kr_ kr_ kr_ hje hke hfe ⟨rfl,rfl⟩)
     ·have S27:=St.id hPh_
      exact tG_ rfl hd_ (gv_look_some (kT:=3) (eT:=42) (k:=((p.at_:Nat):Int)) (S27.get 8 rfl) rfl kr_ kr_ kr_ kr_ hje hke hfe ⟨rfl,rfl⟩)
     ·exact absurd (hu_ 1 dc_ kr_) dc_
     ·exact absurd hp_ (by simp)
    ·exact tG_ rfl hd_ (gV (sl g5 0 512 512) ⟨rfl,rfl⟩)
    ·exact absurd hiE_ dc_
    ·exact absurd hiE_ dc_
    ·exact absurd hi_ om_
   ·intro k_ c_ vals_ w1 hk_ hPh_ hd_
    rcases k_ with _|_|k_
    ·have S29:=St.id hPh_
     refine tG_ rfl hd_ (gv_slit (e:=31) (sz:=1) (z:=nS_) (by_:=24) (vs:=#[(0,sl g5 0 512 512)]) (cells:=#[sl g5 0 512 512]) S29 rfl kr_ ⟨by kernel_rfl⟩ kr_ kr_ kr_ kr_ (fun g30 w31 hg32 S33=>⟨(g30,c_.2),rfl, ?_,S33⟩))
     intro i_ hi_ hne_ hdp_
     rcases i_ with _|_|_|_|_|_|_|_|_|_|_|_|_|_|i_
     ·rfl
     ·rfl
     ·rfl
     ·rfl
     ·rfl
     ·rfl
     ·rfl
     ·rfl
     ·rfl
     ·rfl
     ·rfl
     ·rfl
     ·exact absurd rfl hne_
     ·exact dN_ hdp_
     ·exact absurd hi_ om_
    ·have S34:=St.id hPh_
     refine tG_ rfl hd_ (gv_append (e:=31) (sz:=1) (n:=p.ws.length) (v:=p.v) (vals:=(p.ws.map PEnt.val)) (z:=nS_) (by_:=24) (m:=1) (c':=1) (ad:=⟨c_.1,0,none⟩) (news:=[sl g5 0 512 512]) (St.swap S34) rfl kr_ ⟨by kernel_rfl⟩ rfl kr_ kr_ dc_ rfl (row_news (S34.blk 0 rfl)) (by intro u hu;simp at hu;subst hu;rfl) om_ om_ (fun v36 w35 S37=>⟨(c_.1,v36),rfl, ?_,S37⟩))
     intro i_ hi_ hne_ hdp_
     rcases i_ with _|_|_|_|_|_|_|_|_|_|_|_|_|_|i_
     ·rfl
     ·rfl
     ·rfl
     ·rfl
     ·rfl
     ·rfl
     ·rfl
     ·rfl
     ·rfl
     ·rfl
     ·rfl
     ·rfl
     ·rfl
     ·exact absurd rfl hne_
     ·exact absurd hi_ om_
    ·exact absurd hk_ (by simp)
   ·intro c_ w1 hPh_
    have S38:=St.id hPh_
    refine (g_ (gv_put_old (kT:=3) (eT:=42) (g:=gm) (clock:=clock) (es:=es.map PEnt.ent) (k:=((p.at_:Nat):Int)) (v:=c_.2) S38 8 rfl rfl kr_ kr_ kr_ kr_ kr_ hje hke hfe (L':=(vec 31 1 c_.2 (p.ws.length+1) (p.ws.map PEnt.val++[sl g5 0 512 512])::row c_.1 #[sl g5 0 512 512] 31::stars (p.ws.map PEnt.row)::stars ((es.take j).map PEnt.ast)::stars ((es.drop (j+1)).map PEnt.ast)::row g5 (bvs d) 5::dR g gd (512*s.last.length) gm true left s.life s.rd s.wr s.fl s.rf (s.pend.length:Int)::row gd (bvs s.last.flatten) 5::pt gm (mapO ((es.map PEnt.ent).set j ⟨((p.at_:Nat):Int),c_.2,p.b⟩) clock)::L)) rfl (fun w39 S40=>wE ?_)))
    refine nSR (pv (pq g) (pv (pq g) (pv (po g 5) (pv (po g 6) (lR (iv s.wr) S40 6 6 (pv (iv (inc s.wr)) (pv (pq g) (pv (po g 5) (pv (po g 6) (sS S40 6 rfl 6 (iv (inc s.wr)) fun w41 S42=>wER (pv (pq g) (pv (pq g) ?_))))))))))))
    refine pv (po g 5) (pv (po g 9) (lR (iv (s.pend.length:Int)) S42 6 9 (gI .i64 (IntKind.i64.wrap ((s.pend.length:Int)+1)) ((s.pend.length+1:Nat):Int) wq_ (pv (pq g) (pv (po g 5) (pv (po g 9) (sS S42 6 rfl 9 (nI_ (s.pend.length+1)) fun w43 S44=>wER (pv (pq g) (g_ (gv_call (args:=#[pq g]) rfl Try.func83 kr_ rfl rfl kr_ ?_))))))))))
    have S45:St F w0 w43 (vec 31 1 c_.2 (p.ws.length+1) (p.ws.map PEnt.val++[sl g5 0 512 512])::stars (p.ws.map PEnt.row)::stars ((es.take j).map PEnt.ast)::stars ((es.drop (j+1)).map PEnt.ast)::row g5 (bvs d) 5::dR g gd (512*s.last.length) gm true left s.life s.rd (inc s.wr) s.fl s.rf ((s.pend.length+1:Nat):Int)::row gd (bvs s.last.flatten) 5::pt gm (mapO ((es.map PEnt.ent).set j ⟨((p.at_:Nat):Int),c_.2,p.b⟩) clock)::L):=St.pm 9 [0,2,3,4,5,6,7,8] S44
    have em:(es.map PEnt.ent).set j ⟨((p.at_:Nat):Int),c_.2,p.b⟩=(es.set j ⟨p.at_,c_.2,p.b,p.ws++[(g5,d)]⟩).map PEnt.ent:=by rw [map_set];rfl
    have S46:St F w0 w43 (dR g gd (512*s.last.length) gm true left s.life s.rd (inc s.wr) s.fl s.rf ((s.pend.length+1:Nat):Int)::row gd (bvs s.last.flatten) 5::pt gm (mapO ((es.map PEnt.ent).set j ⟨((p.at_:Nat):Int),c_.2,p.b⟩) clock)::stars ((es.set j ⟨p.at_,c_.2,p.b,p.ws++[(g5,d)]⟩).map PEnt.ast)::L):=entry_in hj S45
    rw [em] at S46
    refine Calls.mono (spend_true S46) ?_
    rintro _ w47 ⟨rfl,S48⟩
    refine ⟨_,rfl,(wER (pv (iv 0) (wE (then_n (wp_ret (bA (iv 0) ?_))))))⟩
    have hl1:((s.pend.length+1:Nat):Int)=((s.pend++[(p.at_,d)]).length:Nat):=by rw [List.length_append];rfl
    rw [hl1] at S48
    exact ⟨rfl,St.pclose (gd:=gd) (gm:=gm) (clock:=clock) (es:=es.set j ⟨p.at_,c_.2,p.b,p.ws++[(g5,d)]⟩) (fused:=true) (left:=dec left) (s:={s with pend:=s.pend++[(p.at_,d)],wr:=inc s.wr,left:=spent s.left}) S48 (PFacts.refuse (s':={s with pend:=s.pend++[(p.at_,d)],wr:=inc s.wr,left:=spent s.left}) (hf.write_old (s':={s with pend:=s.pend++[(p.at_,d)]}) (go:=g5) (d:=d) (v':=c_.2) hj rfl hk hd hpn rfl rfl rfl) rfl rfl hdc.symm (fun _=>hde) hlb)⟩
  ·change St F w0 w (dR g gd (512*s.last.length) gm false left s.life s.rd s.wr s.fl s.rf (s.pend.length:Int)::row gd (bvs s.last.flatten) 5::pt gm (mapO (es.map PEnt.ent) clock)::stars (es.map PEnt.ast)::L) at S
   refine eN (fr [pq g,nI_ p.at_,.slice A d.length cd] 62) Try.func33 rfl (sR (pv (iv 0) (wE (nS (sR (pv (pq g) (pv (nI_ p.at_) (sP Try.func79 #[pq g,nI_ p.at_] (there_in hb rfl hn2 hk S) fun w1 S2=>pv (iv 0) (wER (pv (iv 0) (dN 0 0 (fun hd3=>False.elim om_) fun _=>wE ?_)))))))))))
   refine nCF (wp_skip (nS (sR (pv (.slice A d.length cd) (pv (iv (d.length:Nat)) (dN (d.length:Nat) 512 (fun hd4=>False.elim om_) fun _=>wE (nCF (wp_skip (nSR (g_ (gv_make (e:=5) (u:=512) (v:=512) (z:=.int .u8 0) (sz:=1) (by_:=1) (n:=512) (c:=512) (cs:=(bvs (List.replicate 512 0))) S2 rfl kr_ ⟨by kernel_rfl⟩ kr_ kr_ rfl rfl (Nat.le_refl _) dc_ dc_ (mk_bytes _) (fun g5 w6 hg7 S8=>pv (sl g5 0 512 512) (wER ?_)))))))))))))
   refine pv (sl g5 0 512 512) (pv (.slice A d.length cd) (g_ (gv_copy (e:=5) (off:=0) (dLen:=512) (dCap:=512) (sLen:=d.length) (sCap:=cd) (A:=A) (B:=(List.replicate 512 0)) (l:=d) S8 0 rfl rfl kr_ kr_ kr_ kr_ rfl (hr.out _ [row g5 (bvs (List.replicate 512 0)) 5,dR g gd (512*s.last.length) gm false left s.life s.rd s.wr s.fl s.rf (s.pend.length:Int),row gd (bvs s.last.flatten) 5,pt gm (mapO (es.map PEnt.ent) clock),stars (es.map PEnt.ast)] S8) (by simp) (L':=(row g5 (bvs d) 5::dR g gd (512*s.last.length) gm false left s.life s.rd s.wr s.fl s.rf (s.pend.length:Int)::row gd (bvs s.last.flatten) 5::pt gm (mapO (es.map PEnt.ent) clock)::stars (es.map PEnt.ast)::L)) (by rw [copy512 hd];rfl) (fun w9 m11 S10=>wE (nS ?_)))))
   have S12:St F w0 w9 (vec 31 1 p.v p.ws.length (p.ws.map PEnt.val)::stars (p.ws.map PEnt.row)::stars ((es.take j).map PEnt.ast)::stars ((es.drop (j+1)).map PEnt.ast)::row g5 (bvs d) 5::dR g gd (512*s.last.length) gm false left s.life s.rd s.wr s.fl s.rf (s.pend.length:Int)::row gd (bvs s.last.flatten) 5::pt gm (mapO (es.map PEnt.ent) clock)::L):=entry_out [row g5 (bvs d) 5,dR g gd (512*s.last.length) gm false left s.life s.rd s.wr s.fl s.rf (s.pend.length:Int),row gd (bvs s.last.flatten) 5,pt gm (mapO (es.map PEnt.ent) clock)] S10 hj
   refine wp_region_phu (γ:=Nat×Value) 14 [12,13] (fun (c_:Nat×Value) (i_:Nat)=>(match i_ with|0=>pq g|1=>pq g|2=>po g 1|3=>.map (some gm)|4=>nI_ p.at_|5=>pq g|6=>pq g|7=>po g 1|8=>.map (some gm)|9=>nI_ p.at_|10=>p.v|11=>sl g5 0 512 512|12=>sl c_.1 0 1 1|13=>c_.2|_=>undef:Value)) (fun (c_:Nat×Value) (p_:Nat) (w_:World)=>(match p_ with|0=>St F w0 w_ (vec 31 1 p.v p.ws.length (p.ws.map PEnt.val)::stars (p.ws.map PEnt.row)::stars ((es.take j).map PEnt.ast)::stars ((es.drop (j+1)).map PEnt.ast)::row g5 (bvs d) 5::dR g gd (512*s.last.length) gm false left s.life s.rd s.wr s.fl s.rf (s.pend.length:Int)::row gd (bvs s.last.flatten) 5::pt gm (mapO (es.map PEnt.ent) clock)::L)|1=>St F w0 w_ (row c_.1 #[sl g5 0 512 512] 31::vec 31 1 p.v p.ws.length (p.ws.map PEnt.val)::stars (p.ws.map PEnt.row)::stars ((es.take j).map PEnt.ast)::stars ((es.drop (j+1)).map PEnt.ast)::row g5 (bvs d) 5::dR g gd (512*s.last.length) gm false left s.life s.rd s.wr s.fl s.rf (s.pend.length:Int)::row gd (bvs s.last.flatten) 5::pt gm (mapO (es.map PEnt.ent) clock)::L)|_=>St F w0 w_ (vec 31 1 c_.2 (p.ws.length+1) (p.ws.map PEnt.val++[sl g5 0 512 512])::row c_.1 #[sl g5 0 512 512] 31::stars (p.ws.map PEnt.row)::stars ((es.take j).map PEnt.ast)::stars ((es.drop (j+1)).map PEnt.ast)::row g5 (bvs d) 5::dR g gd (512*s.last.length) gm false left s.life s.rd s.wr s.fl s.rf (s.pend.length:Int)::row gd (bvs s.last.flatten) 5::pt gm (mapO (es.map PEnt.ent) clock)::L):Prop)) (0,undef) kr_ kr_ kr_ kr_ (S12.drew) ?_ ?_ ?_
   ·intro i_ c_ p_ vals_ w1 hi_ hiE_ hp_ hk_ hu_ hPh_ hd_
    rcases i_ with _|_|_|_|_|_|_|_|_|_|_|_|_|_|i_
    ·exact tG_ rfl hd_ (gV (pq g) ⟨rfl,rfl⟩)
    ·exact tG_ rfl hd_ (gV (pq g) ⟨rfl,rfl⟩)
    ·exact tG_ rfl hd_ (gV (po g 1) ⟨rfl,rfl⟩)
    ·rcases p_ with _|_|_|p_
     ·have S16:=St.id hPh_
      exact tG_ rfl hd_ (gL (.map (some gm)) rfl (((S16.blk 5 rfl).cell 1).trans rfl) ⟨rfl,rfl⟩)
     ·have S17:=St.id hPh_
      exact tG_ rfl hd_ (gL (.map (some gm)) rfl (((S17.blk 6 rfl).cell 1).trans rfl) ⟨rfl,rfl⟩)
     ·have S18:=St.id hPh_
      exact tG_ rfl hd_ (gL (.map (some gm)) rfl (((S18.blk 6 rfl).cell 1).trans rfl) ⟨rfl,rfl⟩)
     ·exact absurd hp_ (by simp)
    ·exact tG_ rfl hd_ (gV (nI_ p.at_) ⟨rfl,rfl⟩)
    ·exact tG_ rfl hd_ (gV (pq g) ⟨rfl,rfl⟩)
    ·exact tG_ rfl hd_ (gV (pq g) ⟨rfl,rfl⟩)
    ·exact tG_ rfl hd_ (gV (po g 1) ⟨rfl,rfl⟩)
    ·rcases p_ with _|_|_|p_
     ·have S23:=St.id hPh_
      exact tG_ rfl hd_ (gL (.map (some gm)) rfl (((S23.blk 5 rfl).cell 1).trans rfl) ⟨rfl,rfl⟩)
     ·have S24:=St.id hPh_
      exact tG_ rfl hd_ (gL (.map (some gm)) rfl (((S24.blk 6 rfl).cell 1).trans rfl) ⟨rfl,rfl⟩)
     ·exact absurd (hu_ 1 dc_ kr_) dc_
     ·exact absurd hp_ (by simp)
    ·exact tG_ rfl hd_ (gV (nI_ p.at_) ⟨rfl,rfl⟩)
    ·rcases p_ with _|_|_|p_
     ·have S26:=St.id hPh_
      exact tG_ rfl hd_ (gv_look_some (kT:=3) (eT:=42) (k:=((p.at_:Nat):Int)) (S26.get 7 rfl) rfl kr_ kr_ kr_ kr_ hje hke hfe ⟨rfl,rfl⟩)
     ·have S27:=St.id hPh_
      exact tG_ rfl hd_ (gv_look_some (kT:=3) (eT:=42) (k:=((p.at_:Nat):Int)) (S27.get 8 rfl) rfl kr_ kr_ kr_ kr_ hje hke hfe ⟨rfl,rfl⟩)
     ·exact absurd (hu_ 1 dc_ kr_) dc_
     ·exact absurd hp_ (by simp)
    ·exact tG_ rfl hd_ (gV (sl g5 0 512 512) ⟨rfl,rfl⟩)
    ·exact absurd hiE_ dc_
    ·exact absurd hiE_ dc_
    ·exact absurd hi_ om_
   ·intro k_ c_ vals_ w1 hk_ hPh_ hd_
    rcases k_ with _|_|k_
    ·have S29:=St.id hPh_
     refine tG_ rfl hd_ (gv_slit (e:=31) (sz:=1) (z:=nS_) (by_:=24) (vs:=#[(0,sl g5 0 512 512)]) (cells:=#[sl g5 0 512 512]) S29 rfl kr_ ⟨by kernel_rfl⟩ kr_ kr_ kr_ kr_ (fun g30 w31 hg32 S33=>⟨(g30,c_.2),rfl, ?_,S33⟩))
     intro i_ hi_ hne_ hdp_
     rcases i_ with _|_|_|_|_|_|_|_|_|_|_|_|_|_|i_
     ·rfl
     ·rfl
     ·rfl
     ·rfl
     ·rfl
     ·rfl
     ·rfl
     ·rfl
     ·rfl
     ·rfl
     ·rfl
     ·rfl
     ·exact absurd rfl hne_
     ·exact dN_ hdp_
     ·exact absurd hi_ om_
    ·have S34:=St.id hPh_
     refine tG_ rfl hd_ (gv_append (e:=31) (sz:=1) (n:=p.ws.length) (v:=p.v) (vals:=(p.ws.map PEnt.val)) (z:=nS_) (by_:=24) (m:=1) (c':=1) (ad:=⟨c_.1,0,none⟩) (news:=[sl g5 0 512 512]) (St.swap S34) rfl kr_ ⟨by kernel_rfl⟩ rfl kr_ kr_ dc_ rfl (row_news (S34.blk 0 rfl)) (by intro u hu;simp at hu;subst hu;rfl) om_ om_ (fun v36 w35 S37=>⟨(c_.1,v36),rfl, ?_,S37⟩))
     intro i_ hi_ hne_ hdp_
     rcases i_ with _|_|_|_|_|_|_|_|_|_|_|_|_|_|i_
     ·rfl
     ·rfl
     ·rfl
     ·rfl
     ·rfl
     ·rfl
     ·rfl
     ·rfl
     ·rfl
     ·rfl
     ·rfl
     ·rfl
     ·rfl
     ·exact absurd rfl hne_
     ·exact absurd hi_ om_
    ·exact absurd hk_ (by simp)
   ·intro c_ w1 hPh_
    have S38:=St.id hPh_
    refine (g_ (gv_put_old (kT:=3) (eT:=42) (g:=gm) (clock:=clock) (es:=es.map PEnt.ent) (k:=((p.at_:Nat):Int)) (v:=c_.2) S38 8 rfl rfl kr_ kr_ kr_ kr_ kr_ hje hke hfe (L':=(vec 31 1 c_.2 (p.ws.length+1) (p.ws.map PEnt.val++[sl g5 0 512 512])::row c_.1 #[sl g5 0 512 512] 31::stars (p.ws.map PEnt.row)::stars ((es.take j).map PEnt.ast)::stars ((es.drop (j+1)).map PEnt.ast)::row g5 (bvs d) 5::dR g gd (512*s.last.length) gm false left s.life s.rd s.wr s.fl s.rf (s.pend.length:Int)::row gd (bvs s.last.flatten) 5::pt gm (mapO ((es.map PEnt.ent).set j ⟨((p.at_:Nat):Int),c_.2,p.b⟩) clock)::L)) rfl (fun w39 S40=>wE ?_)))
    refine nSR (pv (pq g) (pv (pq g) (pv (po g 5) (pv (po g 6) (lR (iv s.wr) S40 6 6 (pv (iv (inc s.wr)) (pv (pq g) (pv (po g 5) (pv (po g 6) (sS S40 6 rfl 6 (iv (inc s.wr)) fun w41 S42=>wER (pv (pq g) (pv (pq g) ?_))))))))))))
    refine pv (po g 5) (pv (po g 9) (lR (iv (s.pend.length:Int)) S42 6 9 (gI .i64 (IntKind.i64.wrap ((s.pend.length:Int)+1)) ((s.pend.length+1:Nat):Int) wq_ (pv (pq g) (pv (po g 5) (pv (po g 9) (sS S42 6 rfl 9 (nI_ (s.pend.length+1)) fun w43 S44=>wER (pv (pq g) (g_ (gv_call (args:=#[pq g]) rfl Try.func83 kr_ rfl rfl kr_ ?_))))))))))
    have S45:St F w0 w43 (vec 31 1 c_.2 (p.ws.length+1) (p.ws.map PEnt.val++[sl g5 0 512 512])::stars (p.ws.map PEnt.row)::stars ((es.take j).map PEnt.ast)::stars ((es.drop (j+1)).map PEnt.ast)::row g5 (bvs d) 5::dR g gd (512*s.last.length) gm false left s.life s.rd (inc s.wr) s.fl s.rf ((s.pend.length+1:Nat):Int)::row gd (bvs s.last.flatten) 5::pt gm (mapO ((es.map PEnt.ent).set j ⟨((p.at_:Nat):Int),c_.2,p.b⟩) clock)::L):=St.pm 9 [0,2,3,4,5,6,7,8] S44
    have em:(es.map PEnt.ent).set j ⟨((p.at_:Nat):Int),c_.2,p.b⟩=(es.set j ⟨p.at_,c_.2,p.b,p.ws++[(g5,d)]⟩).map PEnt.ent:=by rw [map_set];rfl
    have S46:St F w0 w43 (dR g gd (512*s.last.length) gm false left s.life s.rd (inc s.wr) s.fl s.rf ((s.pend.length+1:Nat):Int)::row gd (bvs s.last.flatten) 5::pt gm (mapO ((es.map PEnt.ent).set j ⟨((p.at_:Nat):Int),c_.2,p.b⟩) clock)::stars ((es.set j ⟨p.at_,c_.2,p.b,p.ws++[(g5,d)]⟩).map PEnt.ast)::L):=entry_in hj S45
    rw [em] at S46
    refine Calls.mono (spend_false S46) ?_
    rintro _ w47 ⟨rfl,S48⟩
    refine ⟨_,rfl,(wER (pv (iv 0) (wE (then_n (wp_ret (bA (iv 0) ?_))))))⟩
    have hl1:((s.pend.length+1:Nat):Int)=((s.pend++[(p.at_,d)]).length:Nat):=by rw [List.length_append];rfl
    rw [hl1] at S48
    exact ⟨rfl,St.pclose (gd:=gd) (gm:=gm) (clock:=clock) (es:=es.set j ⟨p.at_,c_.2,p.b,p.ws++[(g5,d)]⟩) (fused:=false) (left:=left) (s:={s with pend:=s.pend++[(p.at_,d)],wr:=inc s.wr,left:=spent s.left}) S48 (PFacts.refuse (s':={s with pend:=s.pend++[(p.at_,d)],wr:=inc s.wr,left:=spent s.left}) (hf.write_old (s':={s with pend:=s.pend++[(p.at_,d)]}) (go:=g5) (d:=d) (v':=c_.2) hj rfl hk hd hpn rfl rfl rfl) rfl rfl hdc.symm (fun h=>absurd h (of_decide_eq_false hdc)) hlb)⟩
end Go.Proofs
end
section
open Go Go.RowKit Go.Proofs.YtgeioealgidkiaaW.PrintWords Go.Proofs.YtgeioealgidkiaaW.PrintMore
namespace Go.Proofs
open Go.Vel
set_option linter.unusedVariables false
section
def Dsk.rdd (s:Dsk)(r:Int):Dsk:={s with rd:=r}
def PW (g:Nat)(s:Dsk):Ast:=fun h=>∃r:Int,PDisk g (s.rdd r) h
theorem writeR_rd (s:Dsk)(r at_:Int)(d:List UInt8):(s.rdd r).writeR at_ d=((s.writeR at_ d).1.rdd r,(s.writeR at_ d).2):=by
 by_cases h1:s.left=0
 ·simp [Dsk.writeR,Dsk.rdd,h1]
 ·by_cases h2:at_<0∨(s.last.length:Int)≤at_
  ·simp [Dsk.writeR,Dsk.rdd,h1,h2]
  ·by_cases h3:d.length≠512
   ·simp [Dsk.writeR,Dsk.rdd,h1,h2,h3]
   ·simp [Dsk.writeR,Dsk.rdd,h1,h2,h3]
theorem flushR_rd (s:Dsk)(r:Int):(s.rdd r).flushR=(s.flushR.1.rdd r,s.flushR.2):=by
 by_cases h1:s.left=0
 ·simp [Dsk.flushR,Dsk.rdd,h1]
 ·simp [Dsk.flushR,Dsk.rdd,h1]
def Dsk.take (s:Dsk):Dsk:={s with life:=inc s.life}
structure DOk (s:Dsk):Prop where
 len:∀l∈s.last,l.length=512
 plen:∀x∈s.pend,x.2.length=512∧x.1<s.last.length
 n1:1≤s.last.length
 n2:s.last.length≤2048
 lb: -1≤s.left∧s.left≤9223372036854775807
section
variable {F:Nat→Prop}{w0 w:World}{L:List Ast}{g:Nat}{s:Dsk}
theorem St.pw (S:St F w0 w (PW g s::L)):∃r,St F w0 w (PDisk g (s.rdd r)::L):=S.ex
theorem St.wp {r:Int}(S:St F w0 w (PDisk g (s.rdd r)::L)):St F w0 w (PW g s::L):=S.map1 fun _ h=>⟨r,h⟩
theorem St.pw_ok (S:St F w0 w (PW g s::L)):DOk s:=by
 obtain ⟨r,S⟩:=St.pw S
 obtain ⟨gd,gm,clock,es,fused,left,hf,_⟩:=St.popen S
 exact ⟨hf.len,hf.plen,hf.n1,hf.n2,hf.lb⟩
theorem pw_burnt (S:St F w0 w L)(i:Nat)(hi:L[i]?=some (PW g s)):Calls Try.prog 15 #[.pointer (some ⟨g,0,none⟩)] w fun e w'=>e=.returned (.bool (decide (s.left=0)))∧w=w':=by
 obtain ⟨r,S1⟩:=St.pw (S.mem i hi);exact pd_burnt (s:=s.rdd r) S1 0 rfl
theorem pw_life (S:St F w0 w L)(i:Nat)(hi:L[i]?=some (PW g s)):Calls Try.prog 16 #[.pointer (some ⟨g,0,none⟩)] w fun e w'=>e=.returned (.int .i64 s.life)∧w=w':=by
 obtain ⟨r,S1⟩:=St.pw (S.mem i hi);exact pd_life (s:=s.rdd r) S1 0 rfl
theorem pw_sectors (S:St F w0 w L)(i:Nat)(hi:L[i]?=some (PW g s)):Calls Try.prog 14 #[.pointer (some ⟨g,0,none⟩)] w fun e w'=>e=.returned (.int .i64 (s.last.length:Int))∧w=w':=by
 obtain ⟨r,S1⟩:=St.pw (S.mem i hi);exact pd_sectors (s:=s.rdd r) S1 0 rfl
theorem pw_take (S:St F w0 w (PW g s::L)):Calls Try.prog 63 #[.pointer (some ⟨g,0,none⟩)] w fun e w'=>e=.returned (.int .i64 (inc s.life))∧St F w0 w' (PW g s.take::L):=by
 obtain ⟨r,S⟩:=St.pw S
 exact (pd_take S).mono fun e w' h=>⟨h.1,St.wp (r:=r) (s:=s.take) h.2⟩
theorem pw_read_dead {at_:Int}(S:St F w0 w (PW g s::L))(hz:s.left=0):Calls Try.prog 26 #[.pointer (some ⟨g,0,none⟩),.int .i64 at_] w fun e w'=>∃v,e=.returned (.tuple #[v,.int .i64 3])∧St F w0 w' (PW g s::L):=by
 obtain ⟨r,S⟩:=St.pw S
 refine (pd_read (at_:=at_) S).mono fun e w' h=> ?_
 obtain ⟨v,h1,h2⟩:=h
 have e1:(s.rdd r).readR at_=(s.rdd r,[],3):=by unfold Dsk.readR;rw [if_pos (show (s.rdd r).left=0 from hz)]
 rw [e1] at h1 h2
 exact ⟨v,h1,St.wp h2.tail⟩
theorem pw_read {k:Nat}(S:St F w0 w (PW g s::L))(hz:s.left≠0)(hk:k<s.last.length):Calls Try.prog 26 #[.pointer (some ⟨g,0,none⟩),.int .i64 ((k:Nat):Int)] w fun e w'=>∃A,e=.returned (.tuple #[.slice A 512 512,.int .i64 0])∧St F w0 w' (bytesA (.slice A 512 512) (s.now k)::PW g s::L):=by
 have hok:=St.pw_ok S
 obtain ⟨r,S⟩:=St.pw S
 refine (pd_read (at_:=((k:Nat):Int)) S).mono fun e w' h=> ?_
 obtain ⟨v,h1,h2⟩:=h
 rw [Dsk.readR_ok (s:=s.rdd r) (d:=s.now k) hz hk rfl] at h1 h2
 obtain ⟨A,rfl,h3⟩:=St.bytes_eq h2
 have hl:(s.now k).length=512:=by
  unfold Dsk.now
  cases hp:(pendOf s k).getLast? with
  |some d=>
   have:=List.mem_of_getLast? hp
   unfold pendOf at this
   obtain ⟨x,hx,rfl⟩:=List.mem_map.1 this
   exact (hok.plen x (List.mem_filter.1 hx).1).1
  |none=>
   show (s.last.getD k []).length=512
   rw [List.getD_eq_getElem?_getD,List.getElem?_eq_getElem hk]
   exact hok.len _ (List.getElem_mem hk)
 have h4:St F w0 w' (bytesA (.slice A 512 512) (s.now k)::PDisk g ({s.rdd r with rd:=inc (s.rdd r).rd})::L):=by rw [hl] at h3;exact h3
 exact ⟨A,by rw [h1,hl],(St.wp (r:=inc r) (s:=s) h4.swap).swap⟩
theorem pw_write {at_:Int}{A:Option Addr}{d:List UInt8}{cd:Nat}(S:St F w0 w (PW g s::L))(hr:RoT F w0 L A d)(hdm:d.length≤9223372036854775807)(hpn:s.pend.length<4398046511104):
  Calls Try.prog 33 #[pq g,iv at_,.slice A d.length cd] w fun e w'=>e=.returned (iv (s.writeR at_ d).2)∧St F w0 w' (PW g (s.writeR at_ d).1::L):=by
 obtain ⟨r,S⟩:=St.pw S
 refine (pd_write (at_:=at_) S hr hdm hpn).mono fun e w' h=> ?_
 rw [writeR_rd] at h
 exact ⟨h.1,St.wp h.2⟩
theorem pw_flush (S:St F w0 w (PW g s::L)):Calls Try.prog 87 #[.pointer (some ⟨g,0,none⟩)] w fun e w'=>e=.returned (.int .i64 s.flushR.2)∧St F w0 w' (PW g s.flushR.1::L):=by
 obtain ⟨r,S⟩:=St.pw S
 refine (pd_flush S).mono fun e w' h=> ?_
 rw [flushR_rd] at h
 exact ⟨h.1,St.wp h.2⟩
theorem pw_image (S:St F w0 w (PW g s::L)):Calls Try.prog 18 #[.pointer (some ⟨g,0,none⟩)] w fun e w'=>∃v,e=.returned v∧St F w0 w' (bytesA v s.last.flatten::PW g s::L):=by
 obtain ⟨r,S⟩:=St.pw S
 refine (pd_image S).mono fun e w' h=> ?_
 obtain ⟨v,h1,h2⟩:=h
 exact ⟨v,h1,(St.wp (r:=r) h2.swap).swap⟩
theorem pw_counts (S:St F w0 w (PW g s::L)):Calls Try.prog 17 #[.pointer (some ⟨g,0,none⟩)] w fun e w'=>∃r,e=.returned (.agg #[.int .i64 r,.int .i64 s.wr,.int .i64 s.fl,.int .i64 s.rf,.int .i64 (s.pend.length:Int)])∧St F w0 w' (PW g s::L):=by
 obtain ⟨r,S⟩:=St.pw S
 exact (pd_counts S).mono fun e w' h=>⟨r,h.1,St.wp h.2⟩
end
end
theorem now_congr {s s':Dsk}(h1:s'.last=s.last)(h2:s'.pend=s.pend)(k:Nat):s'.now k=s.now k:=by
 unfold Dsk.now pendOf;rw [h1,h2]
theorem now_nil {s:Dsk}(h:s.pend=[])(k:Nat):s.now k=s.last.getD k []:=Dsk.now_none (by unfold pendOf;rw [h];rfl)
theorem writeR_ok {s:Dsk}{a:Int}{d:List UInt8}(h:(s.writeR a d).2=0):0≤a∧a<s.last.length∧d.length=512∧s.left≠0∧(s.writeR a d).1={s with pend:=s.pend++[(a.toNat,d)],wr:=inc s.wr,left:=spent s.left}:=by
 unfold Dsk.writeR at h ⊢
 by_cases h1:s.left=0
 ·rw [if_pos h1] at h;exact absurd (show (_:Int)=0 from h) om_
 ·rw [if_neg h1] at h ⊢
  by_cases h2:a<0∨(s.last.length:Int)≤a
  ·rw [if_pos h2] at h;exact absurd (show (_:Int)=0 from h) om_
  ·rw [if_neg h2] at h ⊢
   by_cases h3:d.length≠512
   ·rw [if_pos h3] at h;exact absurd (show (_:Int)=0 from h) om_
   ·rw [if_neg h3] at h ⊢
    exact ⟨by omega,by omega,by omega,h1,rfl⟩
theorem writeR_no {s:Dsk}{a:Int}{d:List UInt8}(h:(s.writeR a d).2≠0):(s.writeR a d).1.last=s.last∧(s.writeR a d).1.pend=s.pend∧(s.writeR a d).1.left=s.left∧(0≤a→a<s.last.length→d.length=512→(s.writeR a d).2=3∧s.left=0)∧(s.left=0→(s.writeR a d).2=3):=by
 unfold Dsk.writeR at h ⊢
 by_cases h1:s.left=0
 ·rw [if_pos h1];exact ⟨rfl,rfl,rfl,fun _ _ _=>⟨rfl,h1⟩,fun _=>rfl⟩
 ·rw [if_neg h1] at h ⊢
  by_cases h2:a<0∨(s.last.length:Int)≤a
  ·rw [if_pos h2];exact ⟨rfl,rfl,rfl,fun q1 q2 _=>by omega,fun q=>absurd q h1⟩
  ·rw [if_neg h2] at h ⊢
   by_cases h3:d.length≠512
   ·rw [if_pos h3];exact ⟨rfl,rfl,rfl,fun _ _ q3=>absurd q3 h3,fun q=>absurd q h1⟩
   ·rw [if_neg h3] at h;exact absurd rfl h
theorem readR_ok {s:Dsk}{a:Int}(h:(s.readR a).2.2=0):0≤a∧a<s.last.length∧s.left≠0∧(s.readR a).2.1=s.now a.toNat:=by
 unfold Dsk.readR at h ⊢
 by_cases h1:s.left=0
 ·rw [if_pos h1] at h;exact absurd (show (3:Int)=0 from h) om_
 ·rw [if_neg h1] at h ⊢
  by_cases h2:a<0∨(s.last.length:Int)≤a
  ·rw [if_pos h2] at h;exact absurd (show (11:Int)=0 from h) om_
  ·rw [if_neg h2];exact ⟨by omega,by omega,h1,rfl⟩
theorem now_write {s s':Dsk}{k:Nat}{d:List UInt8}(h1:s'.last=s.last)(h2:s'.pend=s.pend++[(k,d)])(j:Nat):s'.now j=if k=j then d else s.now j:=by
 have hp:=pendOf_snoc s k j d s' h2
 unfold Dsk.now
 rw [hp,h1]
 by_cases hk:k=j
 ·rw [if_pos hk,if_pos hk,List.getLast?_append];rfl
 ·rw [if_neg hk,if_neg hk,List.append_nil]
theorem now_flush {s s':Dsk}(h1:s'.last=applyP s.last s.pend)(h2:s'.pend=[]){k:Nat}(hk:k<s.last.length):s'.now k=s.now k:=by
 rw [now_nil h2,h1,List.getD_eq_getElem?_getD,get_applyP]
 unfold newest Dsk.now pendOf
 cases hq:((s.pend.filter fun x=>x.1==k).map (·.2)).getLast? with
 |none=>rw [List.getD_eq_getElem?_getD]
 |some d=>simp only [];rw [if_pos hk];rfl
theorem flushR_cases (s:Dsk):(s.left=0∧s.flushR=(s,3))∨(s.left≠0∧s.flushR=({s with last:=applyP s.last s.pend,pend:=[],fl:=inc s.fl,left:=spent s.left},0)):=by
 unfold Dsk.flushR
 by_cases h:s.left=0
 ·rw [if_pos h];exact .inl ⟨h,rfl⟩
 ·rw [if_neg h];exact .inr ⟨h,rfl⟩
theorem fuseR_same (s:Dsk)(n:Int):(s.fuseR n).last=s.last∧(s.fuseR n).pend=s.pend:=by unfold Dsk.fuseR;split<;>exact ⟨rfl,rfl⟩
theorem crashR_len (s:Dsk)(ps:List Pick):(s.crashR ps).last.length=s.last.length:=length_applyP _ _
end Go.Proofs
end
section
open Go Go.RowKit Go.Proofs.YtgeioealgidkiaaW.PrintWords Go.Proofs.YtgeioealgidkiaaW.PrintMore
namespace Go.Vel
set_option linter.unusedVariables false
section
def bytesX (v:Value)(l:List UInt8):Ast:=fun h=>∃A c,v=.slice A l.length c∧l.length≤c∧∀w:World,(∀k o,h k=some o→w.heap[k]?=some o)→RdB w A l
section
variable {F:Nat→Prop}{w0 w w':World}{L:List Ast}
theorem St.lift0 {X:Ast}(S:St F w0 w L)(hb:Below w.heap.size w w')(hX:X (fun k=>if w.heap.size≤k then w'.heap[k]? else none)):St F w0 w' (X::L):=by
 refine ⟨S.fr.trans (Fr.of_below hb), ?_⟩
 have h1:Own (fun k=>(F k∨w0.heap.size≤k)∧k<w.heap.size) w' L:=(S.own.mono (D1:=fun k=>(F k∨w0.heap.size≤k)∧k<w.heap.size) fun k hk hl=>⟨hk,hl⟩).frame fun k _ hk=>hb.block k hk
 have h2:Own (fun k=>w.heap.size≤k) w' [X]:=Own.one hX fun k o hk=>by
  split at hk
  ·rename_i h;exact ⟨hk,h⟩
  ·cases hk
 exact (h2.append h1 fun i hi hj _=>by omega).mono fun k hk _=>hk.elim (fun h=>.inr (Nat.le_trans S.fr.size h)) (fun h=>h.1)
theorem bytesX_of {v:Value}{l:List UInt8}{e:TypeId}(hv:Kd.V (Kd.int .u8) e w' w.heap.size (fun k_=>(w.heap.size≤k_)) v (ofB l)):bytesX v l (fun k=>if w.heap.size≤k then w'.heap[k]? else none):=by
 obtain ⟨A,c,e1,hc,hF⟩:=hv
 rw [len_ofB] at e1 hc
 refine ⟨A,c,e1,hc,fun w2 h2=>RdB.of_C (hF w2 fun k hk hlt=> ?_)⟩
 have h3:w'.heap[k]?=some w'.heap[k]:=Array.getElem?_eq_getElem hlt
 rw [h3]
 exact h2 k _ ((if_pos hk).trans h3)
theorem St.lift {v:Value}{l:List UInt8}{e:TypeId}(S:St F w0 w L)(hb:Below w.heap.size w w')(hv:Kd.V (Kd.int .u8) e w' w.heap.size (fun k_=>(w.heap.size≤k_)) v (ofB l)):St F w0 w' (bytesX v l::L):=S.lift0 hb (bytesX_of hv)
theorem RoT.bytesX {v:Value}{l:List UInt8}{A:Option Addr}{n c:Nat}(j:Nat)(hj:L[j]?=some (bytesX v l))(hv:v=.slice A n c):RoT F w0 L A l:=⟨fun w' L' S=>by
 have h1:(L'++L)[L'.length+j]?=some (Go.Vel.bytesX v l):=by rw [List.getElem?_append_right om_];simpa using hj
 obtain ⟨_,hs,a1,a2,a3⟩:=S
 obtain ⟨A',c',e,_,hR⟩:=a1 _ _ h1
 rw [hv] at e
 simp at e
 rw [e.1]
 exact hR w' fun k o hk=>(a3 _ (List.getElem?_eq_some_iff.1 h1).1 k o hk).1⟩
theorem St.bytesX_v {v:Value}{l:List UInt8}(S:St F w0 w (Go.Vel.bytesX v l::L)):∃A c,v=.slice A l.length c∧l.length≤c:=by
 obtain ⟨q,A,c,e,hc,_⟩:=S.own.holds
 exact ⟨A,c,e,hc⟩
theorem RoT.to_C {A:Option Addr}{l:List UInt8}(h:RoT F w0 L A l)(S:St F w0 w L)(hm:l.length≤9223372036854775807):Kd.C (Kd.int .u8) w A (ofB l).length (ofB l):=(h.now S).to_C hm
end
end
end Go.Vel
end
section
namespace Go
end Go
def Go.Vel.m1 (r:BitVec 32):BitVec 32:=(r>>>1)^^^(if r.getLsbD 0=true then BitVec.ofNat 32 2197175160 else (BitVec.ofNat 32 0))
namespace Go.Vel
theorem xself (a b:BitVec 32):a^^^(a^^^b)=b:=by rw [←BitVec.xor_assoc];simp
def mk:Nat→BitVec 32→BitVec 32
 |0,r=>r
 |k+1,r=>mk k (m1 r)
theorem m1_xor (a b:BitVec 32):m1 (a^^^b)=m1 a^^^m1 b:=by
 unfold m1
 rw [BitVec.ushiftRight_xor_distrib,BitVec.getLsbD_xor]
 cases a.getLsbD 0<;>cases b.getLsbD 0<;>simp [BitVec.xor_assoc]
 ·rw [BitVec.xor_comm]
 ·rw [BitVec.xor_comm (b>>>1),xself]
theorem mk_xor (k:Nat):∀a b:BitVec 32,mk k (a^^^b)=mk k a^^^mk k b:=by
 induction k with
 |zero=>intros;rfl
 |succ k ih=>intro a b;simp [mk,m1_xor,ih]
theorem mk_add (j:Nat):∀(k:Nat) (r:BitVec 32),mk (k+j) r=mk j (mk k r):=by
 intro k
 induction k with
 |zero=>intro r;simp [mk]
 |succ k ih=>intro r;rw [Nat.add_right_comm];simp [mk,ih]
def ex (b:UInt8):BitVec 32:=BitVec.ofNat 32 b.toNat
def upd (r:BitVec 32)(b:UInt8):BitVec 32:=mk 8 (r^^^ex b)
def raw (r:BitVec 32)(l:List UInt8):BitVec 32:=l.foldl upd r
def crc (l:List UInt8):BitVec 32:= ~~~ raw (BitVec.ofNat 32 4294967295) l
theorem raw_append (r:BitVec 32)(a b:List UInt8):raw r (a++b)=raw (raw r a) b:=List.foldl_append ..
end Go.Vel
namespace Go.Vel
theorem m1_even {r:BitVec 32}(h:r.getLsbD 0=false):m1 r=r>>>1:=by
 unfold m1;rw [h,if_neg dc_];simp
def tab16:List Nat:=[0,274646895,549293790,820201905,1098587580,1361435347,1640403810,1905808397,2197175160,2460548119,2722870694,2987750089,3280807620,3553878443,3811616794,4084100981]
def nib (r:BitVec 32):BitVec 32:=(r>>>4)^^^BitVec.ofNat 32 (tab16.getD (r.toNat%16) 0)
theorem mk4_high (r:BitVec 32):mk 4 ((r>>>4)<<<4)=r>>>4:=by
 have h:∀k,k<4→(((r>>>4)<<<4)>>>k).getLsbD 0=false:=by
  intro k hk;simp;omega
 have e:∀k,k<4→m1 (((r>>>4)<<<4)>>>k)=((r>>>4)<<<4)>>>(k+1):=by
  intro k hk
  rw [m1_even (h k hk),←BitVec.shiftRight_add]
 have e0:=e 0 om_
 rw [BitVec.ushiftRight_zero] at e0
 show m1 (m1 (m1 (m1 _)))=_
 rw [e0,e 1 om_,e 2 om_,e 3 om_]
 apply BitVec.eq_of_getLsbD_eq;intro i hi
 simp
 intro h;have:=BitVec.lt_of_getLsbD h;omega
theorem split4 (r:BitVec 32):r=((r>>>4)<<<4)^^^BitVec.ofNat 32 (r.toNat%16):=by
 apply BitVec.eq_of_getLsbD_eq;intro i hi
 have h16:(16:Nat)=2^4:=rfl
 rw [BitVec.getLsbD_xor,BitVec.getLsbD_ofNat,h16,Nat.testBit_mod_two_pow]
 simp only [BitVec.getLsbD_shiftLeft,BitVec.getLsbD_ushiftRight]
 by_cases h4:i<4
 ·simp [h4,hi,BitVec.getLsbD]
 ·have:4+(i-4)=i:=by omega
  simp [h4,hi,this]
theorem mk4_low:∀k,k<16→mk 4 (BitVec.ofNat 32 k)=BitVec.ofNat 32 (tab16.getD k 0):=by decide
theorem mk4 (r:BitVec 32):mk 4 r=nib r:=by
 conv=>lhs;rw [split4 r]
 rw [mk_xor,mk4_high,mk4_low _ (Nat.mod_lt _ dc_)]
 rfl
theorem upd_nib (r:BitVec 32)(b:UInt8):upd r b=nib (nib (r^^^ex b)):=by
 unfold upd;rw [show 8=4+4 from rfl,mk_add,mk4,mk4]
def le4 (r:BitVec 32):List UInt8:=[UInt8.ofNat (r.toNat%256),UInt8.ofNat (r.toNat/256%256),UInt8.ofNat (r.toNat/65536%256),UInt8.ofNat (r.toNat/16777216%256)]
end Go.Vel
end
section
open Go Go.RowKit Go.Proofs.YtgeioealgidkiaaW.PrintWords Go.Proofs.YtgeioealgidkiaaW.PrintMore
namespace Go.Proofs
open Go.Vel
def tabV:Array Value:=#[.int .u32 0,.int .u32 274646895,.int .u32 549293790,.int .u32 820201905,.int .u32 1098587580,.int .u32 1361435347,.int .u32 1640403810,.int .u32 1905808397,.int .u32 2197175160,.int .u32 2460548119,.int .u32 2722870694,.int .u32 2987750089,.int .u32 3280807620,.int .u32 3553878443,.int .u32 3811616794,.int .u32 4084100981]
def zeroV:Array Value:=#[.int .u32 0,.int .u32 0,.int .u32 0,.int .u32 0,.int .u32 0,.int .u32 0,.int .u32 0,.int .u32 0,.int .u32 0,.int .u32 0,.int .u32 0,.int .u32 0,.int .u32 0,.int .u32 0,.int .u32 0,.int .u32 0]
theorem tab_at:∀i,i<16→tabV[i]?=some (.int .u32 ((tab16.getD i 0:Nat):Int)):=by
 intro i hi
 rcases i with _|_|_|_|_|_|_|_|_|_|_|_|_|_|_|_|i
 all_goals first|rfl|omega
theorem agg66:Agg Try.prog 206 zeroV:=⟨⟨_,Try.underlying206,rfl⟩,by kernel_rfl,by kernel_rfl⟩
theorem tabV_one:∀v∈tabV.toList,v.oneCell'=true:=by simp [tabV,Value.oneCell']
set_option maxHeartbeats 1000000 in
theorem halves_any (w:World):Calls Try.prog 147 #[] w fun e w'=>e=.returned (.agg tabV)∧Below w.heap.size w w':=by
 go_enter Try.func147,Try.ntmps147
 go_wp2_with (first|(refine wl_alloc rfl rfl agg66 ?_;intro g1 w1 hB1 hg1 hb1)|(refine wl_store_row rfl rfl agg66 rfl rfl (by assumption) (cs:=tabV) rfl rfl tabV_one ?_;intro w2 hB2 hb2))
 refine bodyPost_ret (v:=.agg tabV) ?_ rfl ⟨rfl, ?_⟩
 ·exact results_cell_row (P:=Try.prog) rfl _ _ g1 206 tabV (0,0) (.array 16 205) rfl hB2.out Try.underlying206 rfl kr_
 ·exact hb1.trans (hb2.below hg1)
theorem bits_xor32 (a b:BitVec 32):bits .xor .u32 (a.toNat:Int) (b.toNat:Int)=((a^^^b).toNat:Int):=by
 have h1:BitVec.ofInt 32 (a.toNat:Int)=a:=by simp
 have h2:BitVec.ofInt 32 (b.toNat:Int)=b:=by simp
 show IntKind.u32.wrap ((BitVec.ofInt 32 (a.toNat:Int)^^^BitVec.ofInt 32 (b.toNat:Int)).toNat:Int)=_
 rw [h1,h2,IntKind.wrap_u32]
 have:=(a^^^b).isLt
 omega
theorem bits_and15 (a:BitVec 32):bits .and .u32 (a.toNat:Int) 15=((a.toNat%16:Nat):Int):=by
 have h:=bits_mask .u32 32 dc_ (fun n h0 h1=>by rw [IntKind.wrap_u32];omega) 4 dc_ (a.toNat:Int) om_ (by have:=a.isLt;omega)
 have e:((2:Int)^4-1)=15:=by decide
 rw [e] at h
 rw [h]
 omega
theorem ex_toNat (x:UInt8):((ex x).toNat:Int)=(x.toNat:Int):=by
 unfold ex
 have:=x.toNat_lt
 rw [BitVec.toNat_ofNat,Nat.mod_eq_of_lt om_]
theorem wl_not32 {P:Program}{ops:Array Oper}{rest:List Oper}{o:Oper}{a:Act}{Q:Exit→Act→World→Prop}{w:World}(hg:o.guard=none){T:TypeId}{x:Operand}(ho:o.op=.unOp .xor T x){r:BitVec 32}(hx:a.eval x=.int .u32 (r.toNat:Int))
  (h:wpList P ops Q rest (a.put o.dst (.int .u32 ((~~~ r).toNat:Int))) w):wpList P ops Q (o::rest) a w:=by
 refine wl_val hg ?_ h
 have e:IntKind.u32.max=(((BitVec.ofNat 32 4294967295).toNat:Nat):Int):=by decide
 have e2:∀y:BitVec 32,BitVec.ofNat 32 4294967295^^^y= ~~~ y:=fun y=>by
  rw [show BitVec.ofNat 32 4294967295=BitVec.allOnes 32 from by decide,BitVec.allOnes_xor]
 have h2:=bits_xor32 (BitVec.ofNat 32 4294967295) r
 rw [e2] at h2
 simp only [execOp,ho,hx]
 show ((Op.intBits .xor .u32 (if IntKind.u32.signed then-1 else IntKind.u32.max) (r.toNat:Int)>>=fun v=>pure (.value v)):Sem Next).run P w=_
 rw [if_neg dc_,e]
 have h3:(Op.intBits .xor .u32 ((BitVec.ofNat 32 4294967295).toNat:Int) (r.toNat:Int)).run P w=.ok (.int .u32 (bits .xor .u32 ((BitVec.ofNat 32 4294967295).toNat:Int) (r.toNat:Int))) w:=by
  simp [Op.intBits,bits]
 rw [Sem.run_bind,h3,h2]
 rfl
theorem not32_num (r:BitVec 32):∃q:Nat,Aside0 ((~~~ r).toNat=q)∧((~~~ r).toNat:Int)=(q:Int)∧(q:Int)<4294967296:=⟨_,⟨rfl⟩,rfl,by have:=(~~~ r).isLt;omega⟩
theorem nib_bits (r1:BitVec 32):bits .xor .u32 ((r1.toNat:Int)/16) ((tab16.getD (r1.toNat%16) 0:Nat):Int)=((nib r1).toNat:Int):=by
 have e1:((r1.toNat:Int)/16:Int)=((r1>>>4).toNat:Int):=by
  rw [BitVec.toNat_ushiftRight,Nat.shiftRight_eq_div_pow];omega
 have hb:∀i,i<16→tab16.getD i 0<4294967296:=by decide
 have e2:((tab16.getD (r1.toNat%16) 0:Nat):Int)=((BitVec.ofNat 32 (tab16.getD (r1.toNat%16) 0)).toNat:Int):=by
  rw [BitVec.toNat_ofNat,Nat.mod_eq_of_lt (hb _ (Nat.mod_lt _ dc_))]
 rw [e2,e1,bits_xor32];rfl
set_option maxHeartbeats 1000000 in
set_option maxRecDepth 100000 in
theorem sum_any (w:World)(A:Option Addr)(c:Nat)(b:List UInt8)(hr:Kd.C (Kd.int .u8) w A (ofB b).length (ofB b)):Calls Try.prog 127 #[.slice A (ofB b).length c] w fun e w'=>e=.returned (.int .i64 (crc b).toNat)∧Below w.heap.size w w':=by
 have HR:=Aside0.mk hr
 clear hr
 go_enter Try.func127,Try.ntmps127
 go_wp2_with (first|(go_at_call 147;refine (halves_any _).mono ?_;rintro e w1 ⟨rfl,hb1⟩)|(refine wl_alloc rfl rfl agg66 ?_;intro g1 w2 hB2 hg1 hb2)|(refine wl_store_row rfl rfl agg66 rfl rfl (by assumption) (cs:=tabV) rfl rfl tabV_one ?_;intro w3 hB3 hb3))
 have HB3:=Aside0.mk hB3
 have HW:=Aside0.mk ((hb1.trans (hb2.mono hb1.size)).trans (hb3.below (Nat.le_trans hb1.size hg1)))
 have hlen:(ofB b).length≤9223372036854775807:=HR.out.2.1
 clear hB3 hb1 hb2 hb3 hB2 hg1
 go_loop [4,10] (fun v4 v10=>∃k:Nat,k≤(ofB b).length∧v10=.int .i64 k∧v4=.int .u32 ((raw (BitVec.ofNat 32 4294967295) (b.take k)).toNat:Int)) (fun _ v10=>(ofB b).length-(intOf v10).toNat)
 case atStart=>exact ⟨0,Nat.zero_le _,rfl,rfl⟩
 case round=>
  obtain ⟨k,hk,rfl,rfl⟩:=hrel
  by_cases hlt:k<(ofB b).length
  ·obtain ⟨r,hr⟩:∃r,r=raw (BitVec.ofNat 32 4294967295) (b.take k):=⟨_,rfl⟩
   rw [←hr]
   have Hr:=Aside0.mk hr
   clear hr
   obtain ⟨ad,e,hx⟩:=C_byte HR.out HW.out k hlt
   cases e
   obtain ⟨x,hx0⟩:∃x,x=b.getD k 0:=⟨_,rfl⟩
   rw [←hx0] at hx
   have Hx0:=Aside0.mk hx0
   clear hx0
   have hxb:(x.toNat:Int)<256:=by have:=x.toNat_lt;omega
   obtain ⟨r1,hr1⟩:∃r1,r1=r^^^ex x:=⟨_,rfl⟩
   have e1:bits .xor .u32 (r.toNat:Int) (x.toNat:Int)=(r1.toNat:Int):=by rw [←ex_toNat,bits_xor32,hr1]
   have e2:=bits_and15 r1
   obtain ⟨i1,hi1⟩:∃i1,i1=r1.toNat%16:=⟨_,rfl⟩
   have hi1l:i1<16:=by rw [hi1];exact Nat.mod_lt _ dc_
   rw [←hi1] at e2
   have c1:=HB3.out.cell i1
   rw [tab_at i1 hi1l] at c1
   have n1:=nib_bits r1
   rw [←hi1] at n1
   obtain ⟨t1,ht1⟩:∃t1,t1=tab16.getD i1 0:=⟨_,rfl⟩
   rw [←ht1] at n1 c1
   obtain ⟨r2,hr2⟩:∃r2,r2=nib r1:=⟨_,rfl⟩
   rw [←hr2] at n1
   have e3:=bits_and15 r2
   obtain ⟨i2,hi2⟩:∃i2,i2=r2.toNat%16:=⟨_,rfl⟩
   have hi2l:i2<16:=by rw [hi2];exact Nat.mod_lt _ dc_
   rw [←hi2] at e3
   have c2:=HB3.out.cell i2
   rw [tab_at i2 hi2l] at c2
   have n2:=nib_bits r2
   rw [←hi2] at n2
   obtain ⟨t2,ht2⟩:∃t2,t2=tab16.getD i2 0:=⟨_,rfl⟩
   rw [←ht2] at n2 c2
   obtain ⟨r3,hr3⟩:∃r3,r3=nib r2:=⟨_,rfl⟩
   rw [←hr3] at n2
   have Hr3:=Aside0.mk (show r3=upd r x by rw [upd_nib,hr3,hr2,hr1])
   clear hr1 hr2 hr3 hi1 hi2 ht1 ht2
   have hlt':(k:Int)<((ofB b).length:Int):=by omega
   go_wp2
   have hkb:k<b.length:=by rw [len_ofB] at hlt;exact hlt
   have hs:raw (BitVec.ofNat 32 4294967295) (b.take (k+1))=r3:=by
    rw [Hr3.out,Hr.out,Hx0.out,List.take_succ_eq_append_getElem hkb,raw_append,List.getD_eq_getElem?_getD,List.getElem?_eq_getElem hkb];rfl
   exact ⟨⟨k+1,by omega,by go_num,by rw [hs]⟩,by simp [intOf];omega⟩
  ·have hk2:b.take k=b:=List.take_of_length_le (by rw [len_ofB] at hlt;omega)
   rw [hk2]
   clear hk2
   obtain ⟨r,hr⟩:∃r,r=raw (BitVec.ofNat 32 4294967295) b:=⟨_,rfl⟩
   have Hc:Aside0 ((crc b)= ~~~ r):=⟨by rw [hr];rfl⟩
   rw [←hr]
   clear hr
   have hge:¬((k:Int)<((ofB b).length:Int)):=by omega
   go_wp2_with (refine wl_not32 rfl rfl rfl ?_;obtain ⟨q,hq,hq2,hq3⟩:=not32_num r;rw [hq2];clear hq2)
   go_ret
   refine ⟨?_,HW.out⟩
   rw [Hc.out,hq.out]
   rfl
end Go.Proofs
end
section
namespace Go.Vel
def text (body:List UInt8):List UInt8:=UInt8.ofNat (body.length%256)::UInt8.ofNat (body.length/256)::(body++List.replicate (504-body.length) 0)
def form (t:UInt8)(body:List UInt8):List UInt8:=t::((text body).take 2++(le4 (crc (text body))++((text body).drop 2++[t])))
def turnOf (a b:UInt8):UInt8:=if (0:UInt8)≠a∧(0:UInt8)≠b then 0 else if (1:UInt8)≠a∧(1:UInt8)≠b then 1 else 2
def sealF (old body:List UInt8):List UInt8×Nat:=
 if old.length≠512 then ([],2) else if 504<body.length then ([],7) else (form (turnOf (old.getD 0 0) (old.getD 511 0)) body,0)
def openF (s:List UInt8):List UInt8×Nat:=
 if s.length≠512 then ([],2) else
 if 2<(s.getD 0 0).toNat∨504<(s.getD 1 0).toNat+256*(s.getD 2 0).toNat then ([],30) else
 if s=form (s.getD 0 0) ((s.drop 7).take ((s.getD 1 0).toNat+256*(s.getD 2 0).toNat)) then ((s.drop 7).take ((s.getD 1 0).toNat+256*(s.getD 2 0).toNat),0) else ([],30)
theorem length_text {body:List UInt8}(h:body.length≤504):(text body).length=506:=by simp [text];omega
theorem length_le4 (r:BitVec 32):(le4 r).length=4:=rfl
theorem length_form {body:List UInt8}(t:UInt8)(h:body.length≤504):(form t body).length=512:=by
 have:=length_text h
 simp only [form,List.length_cons,List.length_append,List.length_take,List.length_drop,length_le4,List.length_nil]
 omega
def splice' (L:List UInt8)(off:Nat)(cs:List UInt8):List UInt8:=L.take off++(cs++L.drop (off+cs.length))
theorem zeros8 (m:Nat)(t:UInt8):((List.replicate (m+8) (0:UInt8)).set 0 t).set (m+7) t=t::0::0::0::0::0::0::(List.replicate m 0++[t]):=by
 have e:List.replicate (m+8) (0:UInt8)=0::0::0::0::0::0::0::(List.replicate m 0++[0]):=by
  rw [show m+8=(m+1)+7 from rfl]
  simp only [List.replicate_succ,←List.replicate_succ']
 rw [e]
 simp only [List.set_cons_zero,List.set_cons_succ]
 rw [List.set_append_right _ _ (by simp)]
 simp
theorem lay_body (m:Nat)(t b1 b2:UInt8)(body:List UInt8)(h:body.length≤m):
  splice' ((((List.replicate (m+8) 0).set 0 t).set (m+7) t|>.set 1 b1).set 2 b2) 7 body=t::b1::b2::0::0::0::0::(body++(List.replicate (m-body.length) 0++[t])):=by
 rw [zeros8]
 simp only [splice',List.set_cons_zero,List.set_cons_succ,List.take_succ_cons,List.take_zero,List.cons_append,List.nil_append]
 have e3:7+body.length=body.length+7:=by omega
 rw [e3]
 simp only [List.drop_succ_cons,List.drop_append,List.drop_replicate]
 have e4:body.length-(List.replicate m (0:UInt8)).length=0:=by simp;omega
 rw [e4]
 rfl
theorem lay_sum (t b1 b2 s0 s1 s2 s3:UInt8)(r:List UInt8):
  ((((t::b1::b2::0::0::0::0::r:List UInt8).set 3 s0).set 4 s1).set 5 s2).set 6 s3=t::b1::b2::s0::s1::s2::s3::r:=rfl
theorem form_eq (t:UInt8)(body:List UInt8)(s0 s1 s2 s3:UInt8)(hs:le4 (crc (text body))=[s0,s1,s2,s3]):
  form t body=t::UInt8.ofNat (body.length%256)::UInt8.ofNat (body.length/256)::s0::s1::s2::s3::(body++(List.replicate (504-body.length) 0++[t])):=by
 unfold form
 rw [hs]
 simp [text]
theorem lay_text (t b1 b2:UInt8)(body:List UInt8)(m:Nat)(h:body.length≤m):
  ((t::b1::b2::0::0::0::0::(body++(List.replicate (m-body.length) 0++[t])):List UInt8).drop 1).take 2++((t::b1::b2::0::0::0::0::(body++(List.replicate (m-body.length) 0++[t]))).drop 7).take m
   =b1::b2::(body++List.replicate (m-body.length) 0):=by
 simp only [List.drop_succ_cons,List.drop_zero,List.take_succ_cons,List.take_zero,List.cons_append,List.nil_append]
 rw [←List.append_assoc,List.take_left' (by simp;omega)]
end Go.Vel
end
section
open Go Go.RowKit Go.Proofs.YtgeioealgidkiaaW.PrintWords Go.Proofs.YtgeioealgidkiaaW.PrintMore
namespace Go.Proofs
open Go.Vel
def zeros512:List UInt8:=List.replicate 512 0
theorem agg50:Agg Try.prog 149 (bvs zeros512):=⟨⟨_,Try.underlying149,rfl⟩,by kernel_rfl,by kernel_rfl⟩
theorem size5:(Try.prog.info? 5).map (·.size)=some 1:=by kernel_rfl
theorem info5:(Try.prog.info? 5).map (fun i=>(i.zero,i.size,i.bytes))=some (some (.int .u8 0),1,1):=by kernel_rfl
def setS (L:List UInt8)(q:BitVec 32):Nat→List UInt8
 |0=>L
 |k+1=>(setS L q k).set (3+k) ((le4 q).getD k 0)
theorem length_setS (L:List UInt8)(q:BitVec 32)(k:Nat):(setS L q k).length=L.length:=by
 induction k with
 |zero=>rfl
 |succ k ih=>simp [setS,ih]
theorem le4_n (q:BitVec 32):(((le4 q).getD 0 0).toNat:Int)=(q.toNat:Int)%256∧(((le4 q).getD 1 0).toNat:Int)=(q.toNat:Int)/256%256∧(((le4 q).getD 2 0).toNat:Int)=(q.toNat:Int)/65536%256∧(((le4 q).getD 3 0).toNat:Int)=(q.toNat:Int)/16777216%256:=by
 have h:∀n:Nat,((UInt8.ofNat (n%256)).toNat:Int)=(n:Int)%256:=fun n=>by
  rw [UInt8.toNat_ofNat',Nat.mod_eq_of_lt om_];omega
 refine ⟨h _,(h _).trans om_,(h _).trans om_,(h _).trans om_⟩
set_option maxHeartbeats 4000000 in
set_option maxRecDepth 100000 in
theorem lay_any (w:World)(A:Option Addr)(c:Nat)(t:UInt8)(b:List UInt8)(hb:b.length≤504)(hr:Kd.C (Kd.int .u8) w A (ofB b).length (ofB b)):Calls Try.prog 92 #[.int .u8 t.toNat,.slice A (ofB b).length c] w fun e w'=>e=.returned (.agg (bvs (form t b)))∧Below w.heap.size w w':=by
 have HR:=Aside0.mk hr
 clear hr
 have tok1:True:=trivial
 have hl:((ofB b).length:Int)≤504:=by rw [len_ofB];omega
 obtain ⟨b1,hb1⟩:∃b1,b1=UInt8.ofNat (b.length%256):=⟨_,rfl⟩
 obtain ⟨b2,hb2⟩:∃b2,b2=UInt8.ofNat (b.length/256):=⟨_,rfl⟩
 have Hb1:Aside0 (((ofB b).length:Int)%256=(b1.toNat:Int)):=⟨by rw [hb1,len_ofB,UInt8.toNat_ofNat',Nat.mod_eq_of_lt om_];omega⟩
 have Hb2:Aside0 (((ofB b).length:Int)/256=(b2.toNat:Int)):=⟨by rw [hb2,len_ofB,UInt8.toNat_ofNat',Nat.mod_eq_of_lt om_];omega⟩
 go_enter Try.func92,Try.ntmps92
 go_wp2_with (first
  |(have _t:=tok1;refine wl_alloc rfl rfl agg50 ?_;intro g4 w1 hB4 hg4 hw1;have HB4:=Aside0.mk hB4;have HW1:=Aside0.mk hw1;clear tok1 hB4 hw1)
  |(refine wl_alloc rfl rfl agg50 ?_;intro g5 w2 hB5 hg5 hw2;have HB:=Aside0.mk hB5;have HO:=Aside0.mk (Only.refl g5 w2);have HW:=Aside0.mk (HW1.out.trans (hw2.mono HW1.out.size));have HW2:=Aside0.mk hw2;have Hg:=Aside0.mk (Nat.le_trans HW1.out.size hg5);clear hB5 hw2)
  |(refine wl_store_byte (b:=t) rfl rfl size5 rfl rfl rfl HB.out (by simp [zeros512]) ?_;intro w3 hB3 hO3;replace HB:=Aside0.mk hB3;replace HO:=Aside0.mk (HO.out.trans hO3);clear hB3 hO3)
  |(refine wl_store_byte (b:=b1) rfl rfl size5 rfl rfl Hb1.out HB.out (by simp [zeros512]) ?_;intro w3 hB3 hO3;replace HB:=Aside0.mk hB3;replace HO:=Aside0.mk (HO.out.trans hO3);clear hB3 hO3)
  |(refine wl_store_byte (b:=b2) rfl rfl size5 rfl rfl Hb2.out HB.out (by simp [zeros512]) ?_;intro w3 hB3 hO3;replace HB:=Aside0.mk hB3;replace HO:=Aside0.mk (HO.out.trans hO3);clear hB3 hO3)
  |(refine wl_copy rfl rfl Try.underlying31 size5 rfl rfl (len_ofB b) HB.out (Kd.C_below HR.out (HW.out.trans (HO.out.below Hg.out))) (by simp [zeros512]) ?_;intro w3 nc hB3 hO3;replace HB:=Aside0.mk hB3;replace HO:=Aside0.mk (HO.out.trans hO3);clear hB3 hO3))
 obtain ⟨L,hL⟩:∃L,L=t::b1::b2::0::0::0::0::(b++(List.replicate (504-b.length) 0++[t])):=⟨_,rfl⟩
 have eL:splice ((((zeros512.set 0 t).set 511 t).set 1 b1).set 2 b2) 7 (b.take 504)=L:=by
  rw [List.take_of_length_le hb,hL]
  exact lay_body 504 t b1 b2 b hb
 rw [eL] at HB
 have HLl:Aside0 (L.length=512):=⟨by rw [hL];simp;omega⟩
 have HLt:Aside0 ((L.drop 1).take 2++(L.drop 7).take 504=text b):=⟨by rw [hL,lay_text t b1 b2 b 504 hb,hb1,hb2];rfl⟩
 have HLs:Aside0 (∀s0 s1 s2 s3,le4 (crc (text b))=[s0,s1,s2,s3]→(((L.set 3 s0).set 4 s1).set 5 s2).set 6 s3=form t b):=⟨by
  intro s0 s1 s2 s3 hs
  rw [hL,lay_sum,form_eq t b s0 s1 s2 s3 hs,hb1,hb2]⟩
 have HC1:=Aside0.mk (HB.out.C 1 2 (by rw [HLl.out];decide) dc_)
 have HC2:=Aside0.mk (HB.out.C 7 504 (by rw [HLl.out];decide) dc_)
 have HX1:Aside0 (((L.drop 1).take 2).length=2):=⟨by rw [List.length_take,List.length_drop,HLl.out];decide⟩
 have HX2:Aside0 (((L.drop 7).take 504).length=504):=⟨by rw [List.length_take,List.length_drop,HLl.out];decide⟩
 generalize (L.drop 1).take 2=X1 at*
 generalize (L.drop 7).take 504=X2 at*
 clear hL eL hb1 hb2
 go_still_tail 2,kr_
 go_wp2_with (first
  |(refine wl_append_grow rfl rfl Try.underlying31 info5 rfl rfl HX1.out.symm HX2.out.symm (Kd.C_drew HC1.out) (Kd.C_drew HC2.out) (by rw [HX1.out];decide) (by rw [HX2.out];decide) (by rw [HX1.out,HX2.out];decide) (by rw [HX1.out,HX2.out];decide) ?_;intro A1 c1 w4 hc1 hcap hw4;have HC3:=Aside0.mk hc1;have HW4:=Aside0.mk hw4;clear hc1 hcap hw4)
  |(go_at_call 127;refine (sum_any _ _ _ _ HC3.out).mono ?_;rintro e w5 ⟨rfl,hw5⟩;have HW5:=Aside0.mk hw5;clear hw5))
 have HW4b:=Aside0.mk (show Below w3.heap.size w3 w4 from ((Below.refl _ _).drew).trans HW4.out)
 have HB5:=Aside0.mk ((HB.out.below HW4b.out).below HW5.out)
 obtain ⟨q,hq⟩:∃q,q=crc (X1++X2):=⟨_,rfl⟩
 rw [←hq]
 have Hq:=Aside0.mk (show q=crc (text b) by rw [hq,HLt.out])
 clear hq
 have hql:(q.toNat:Int)<4294967296:=by have:=q.isLt;omega
 obtain ⟨qn,hqn⟩:∃qn:Nat,qn=q.toNat:=⟨_,rfl⟩
 have Hn:=Aside0.mk (le4_n q)
 rw [←hqn] at hql Hn ⊢
 clear hqn
 go_loopw [28] (fun v28 wr=>∃k:Nat,k≤4∧v28=.int .i64 k∧Aside0 (Blk wr g5 (bvs (setS L q k)) 149)∧Aside0 (Only g5 w5 wr)) (fun v28 _=>4-(intOf v28).toNat)
 case atStart=>exact ⟨0,Nat.zero_le _,rfl,HB5,⟨Only.refl _ _⟩⟩
 case round=>
  obtain ⟨k,hk,rfl,HBk,HOk⟩:=hrel
  by_cases hlt:k<4
  ·have hlt':(k:Int)<4:=by omega
   have hsz:Aside0 ((setS L q k).length=512):=⟨by rw [length_setS,HLl.out]⟩
   have h0123:k=0∨k=1∨k=2∨k=3:=by omega
   clear hlt
   rcases h0123 with rfl|rfl|rfl|rfl
   all_goals
    have HQ:=Aside0.mk hql
    clear hql hlt' hk
   ·go_wp2_with (refine wl_store_byte (b:=(le4 q).getD 0 0) rfl rfl size5 rfl rfl ?hn HBk.out (by rw [hsz.out];decide) ?_;(case hn=>exact Hn.out.1.symm);intro w6 hB6 hO6;have HB6:=Aside0.mk hB6;have HO6:=Aside0.mk (HOk.out.trans hO6);clear hB6 hO6)
    exact ⟨⟨1,by omega,by first|rfl|simp,HB6,HO6⟩,by simp [intOf]⟩
   ·go_wp2_with (refine wl_store_byte (b:=(le4 q).getD 1 0) rfl rfl size5 rfl rfl ?hn HBk.out (by rw [hsz.out];decide) ?_;(case hn=>exact Hn.out.2.1.symm);intro w6 hB6 hO6;have HB6:=Aside0.mk hB6;have HO6:=Aside0.mk (HOk.out.trans hO6);clear hB6 hO6)
    exact ⟨⟨2,by omega,by first|rfl|simp,HB6,HO6⟩,by simp [intOf]⟩
   ·go_wp2_with (refine wl_store_byte (b:=(le4 q).getD 2 0) rfl rfl size5 rfl rfl ?hn HBk.out (by rw [hsz.out];decide) ?_;(case hn=>exact Hn.out.2.2.1.symm);intro w6 hB6 hO6;have HB6:=Aside0.mk hB6;have HO6:=Aside0.mk (HOk.out.trans hO6);clear hB6 hO6)
    exact ⟨⟨3,by omega,by first|rfl|simp,HB6,HO6⟩,by simp [intOf]⟩
   ·go_wp2_with (refine wl_store_byte (b:=(le4 q).getD 3 0) rfl rfl size5 rfl rfl ?hn HBk.out (by rw [hsz.out];decide) ?_;(case hn=>exact Hn.out.2.2.2.symm);intro w6 hB6 hO6;have HB6:=Aside0.mk hB6;have HO6:=Aside0.mk (HOk.out.trans hO6);clear hB6 hO6)
    exact ⟨⟨4,by omega,by first|rfl|simp,HB6,HO6⟩,by simp [intOf]⟩
  ·have hge:¬((k:Int)<4):=by omega
   have HQ:=Aside0.mk hql
   have e4:k=4:=by omega
   have hsF:setS L q k=form t b:=by
    rw [e4]
    have:=HLs.out ((le4 q).getD 0 0) ((le4 q).getD 1 0) ((le4 q).getD 2 0) ((le4 q).getD 3 0) (by rw [←Hq.out];rfl)
    exact this
   rw [hsF] at HBk
   have HF:=Aside0.mk (length_form t hb)
   have HB4r:=Aside0.mk (HOk.out.blk (((HO.out.blk (HB4.out.below HW2.out) (show g4≠g5 by have:=HB4.out.lt;omega)).below HW4b.out).below HW5.out) (show g4≠g5 by have:=HB4.out.lt;omega))
   clear hql e4 hsF hk
   go_wp2_with (first
    |(refine wl_load_row rfl rfl agg50 rfl HBk.out (by rw [size_bvs,size_bvs,HF.out];rfl) ?_)
    |(refine wl_store_row rfl rfl agg50 rfl rfl HB4r.out (by rw [size_bvs,size_bvs,HF.out];rfl) rfl (bvs_one _) ?_;intro w7 hB7 hO7;have HB7:=Aside0.mk hB7;have HO7:=Aside0.mk hO7;clear hB7 hO7))
   refine bodyPost_ret (v:=.agg (bvs (form t b))) ?_ rfl ⟨rfl, ?_⟩
   ·exact results_cell_row (P:=Try.prog) rfl _ _ g4 149 (bvs (form t b)) (0,0) _ rfl HB7.out.out Try.underlying149 rfl (by rw [size_bvs,length_form t hb];kernel_rfl)
   ·have b3:Below w.heap.size w w3:=HW.out.trans (HO.out.below Hg.out)
    have b4:Below w.heap.size w w4:=b3.trans (HW4b.out.mono b3.size)
    have b5:Below w.heap.size w w5:=b4.trans (HW5.out.mono b4.size)
    exact (b5.trans (HOk.out.below Hg.out)).trans (HO7.out.below hg4)
theorem turn_found {x y:UInt8}{k:Nat}(hk:k≤2)(h1:(k:Int)≠x.toNat)(h2:(k:Int)≠y.toNat)(h3:1≤k→(x.toNat:Int)=0∨(y.toNat:Int)=0)(h4:2≤k→(x.toNat:Int)=1∨(y.toNat:Int)=1):(k:Int)=(turnOf x y).toNat:=by
 have e0:∀z:UInt8,(0:UInt8)≠z↔z.toNat≠0:=fun z=>by rw [ne_eq,←UInt8.toNat_inj];simp;omega
 have e1:∀z:UInt8,(1:UInt8)≠z↔z.toNat≠1:=fun z=>by rw [ne_eq,←UInt8.toNat_inj];simp;omega
 unfold turnOf
 simp only [e0,e1]
 split
 ·have:k=0:=by omega
  subst this;rfl
 ·split
  ·have:k=1:=by omega
   subst this;rfl
  ·have:k=2:=by omega
   subst this;rfl
set_option maxHeartbeats 400000 in
theorem turn_any (w:World)(x y:UInt8):Calls Try.prog 93 #[.int .u8 x.toNat,.int .u8 y.toNat] w fun e w'=>e=.returned (.int .u8 (turnOf x y).toNat)∧w=w':=by
 have hx:=x.toNat_lt
 have hy:=y.toNat_lt
 obtain ⟨X,hX⟩:∃X:Int,X=(x.toNat:Int):=⟨_,rfl⟩
 obtain ⟨Y,hY⟩:∃Y:Int,Y=(y.toNat:Int):=⟨_,rfl⟩
 have hX2:0≤X∧X<256:=by omega
 have hY2:0≤Y∧Y<256:=by omega
 have HF:Aside0 (∀k:Nat,k≤2→(k:Int)≠X→(k:Int)≠Y→(1≤k→X=0∨Y=0)→(2≤k→X=1∨Y=1)→(k:Int)=(turnOf x y).toNat):=⟨fun k a b c d e=>turn_found a (hX▸b) (hY▸c) (hX▸hY▸d) (hX▸hY▸e)⟩
 rw [←hX,←hY]
 generalize (turnOf x y).toNat=tn at*
 clear hX hY hx hy
 obtain ⟨hX0,hX1⟩:=hX2
 obtain ⟨hY0,hY1⟩:=hY2
 go_enter Try.func93,Try.ntmps93
 go_wp2
 go_loop [6] (fun i=>∃k:Nat,k≤2∧i=.int .u8 k∧(1≤k→X=0∨Y=0)∧(2≤k→X=1∨Y=1)) (fun i=>3-(intOf i).toNat)
 case atStart=>exact ⟨0,by omega,rfl,by omega,by omega⟩
 case round=>
  obtain ⟨k,hk,rfl,h1,h2⟩:=hrel
  have hk3:(k:Int)<3:=by omega
  by_cases hkx:(k:Int)=X
  ·have b1:((k:Int) !=X)=false:=by simpa using hkx
   have H1:=Aside0.mk h1
   have H2:=Aside0.mk h2
   have HX:=Aside0.mk hkx
   clear hkx h1 h2
   go_wp2
   exact ⟨⟨k+1,by have:=HX.out;have:=H1.out;have:=H2.out;omega,by go_num,by have:=HX.out;have:=H1.out;omega,by have:=HX.out;have:=H1.out;have:=H2.out;omega⟩,by simp [intOf];omega⟩
  ·by_cases hky:(k:Int)=Y
   ·have b1:((k:Int) !=X)=true:=by simpa using hkx
    have b2:((k:Int) !=Y)=false:=by simpa using hky
    have H1:=Aside0.mk h1
    have H2:=Aside0.mk h2
    have HY:=Aside0.mk hky
    clear hkx hky h1 h2
    go_wp2
    exact ⟨⟨k+1,by have:=HY.out;have:=H1.out;have:=H2.out;omega,by go_num,by have:=HY.out;have:=H1.out;omega,by have:=HY.out;have:=H1.out;have:=H2.out;omega⟩,by simp [intOf];omega⟩
   ·have b1:((k:Int) !=X)=true:=by simpa using hkx
    have b2:((k:Int) !=Y)=true:=by simpa using hky
    have HE:=Aside0.mk (HF.out k hk hkx hky h1 h2)
    clear hkx hky h1 h2
    go_wp2
    go_ret
    exact ⟨by rw [←HE.out];rfl,rfl⟩
def SealS (w0:World)(L:List Value)(i:Nat)(v:Value)(w:World):Prop:=
 if i=9 then∃g,v=.pointer (some ⟨g,0,none⟩)∧w0.heap.size≤g∧Blk w g (bvs zeros512) 149 else v=L.getD i undef
theorem SealS.val {w0:World}{L:List Value}{i:Nat}{v:Value}{w:World}(hi:i≠9)(h:SealS w0 L i v w):v=L.getD i undef:=by
 unfold SealS at h
 rwa [if_neg hi] at h
theorem look2 {f:Operand→Value}{x y:Operand}{u v:Value}(h1:f x=u)(h2:f y=v):(#[x,y]:Array Operand).map f=#[u,v]:=by
 subst h1 h2;simp
set_option maxHeartbeats 1000000 in
set_option maxRecDepth 100000 in
theorem seal_any (w:World)(A0:Option Addr)(c0:Nat)(a:List UInt8)(A1:Option Addr)(c1:Nat)(b:List UInt8)(hr0:Kd.C (Kd.int .u8) w A0 (ofB a).length (ofB a))(hr1:Kd.C (Kd.int .u8) w A1 (ofB b).length (ofB b)):
  Calls Try.prog 40 #[.slice A0 (ofB a).length c0,.slice A1 (ofB b).length c1] w (Ret2 (ofB (sealF a b).1) (sealF a b).2 w):=by
 have HR0:=Aside0.mk hr0
 have HR1:=Aside0.mk hr1
 clear hr0 hr1
 by_cases ha:a.length=512
 ·have ha':((((ofB a).length:Nat):Int) !=512)=false:=by rw [len_ofB,ha];rfl
  have Ha:=Aside0.mk ha
  clear ha
  by_cases hb:504<b.length
  ·have e:sealF a b=([],7):=by simp [sealF,Ha.out,hb]
   rw [e]
   have hb':(504:Int)<((ofB b).length:Int):=by rw [len_ofB];omega
   clear e hb
   go_enter Try.func40,Try.ntmps40
   go_wp2
   go_ret2
   exact ⟨_,rfl,V_nil,Below.refl _ _⟩
  ·have e:sealF a b=(form (turnOf (a.getD 0 0) (a.getD 511 0)) b,0):=by simp [sealF,Ha.out,hb]
   rw [e]
   have hb':((ofB b).length:Int)≤504:=by rw [len_ofB];omega
   have Hb:=Aside0.mk (show b.length≤504 by omega)
   clear e hb
   obtain ⟨ad,e,hx0⟩:=C_byte HR0.out (Below.refl _ _) 0 (by rw [len_ofB,Ha.out];decide)
   obtain ⟨ad',e',hx1⟩:=C_byte HR0.out (Below.refl _ _) 511 (by rw [len_ofB,Ha.out];decide)
   rw [e] at e'
   cases e'
   cases e
   have HX0:=Aside0.mk hx0
   have HX1:=Aside0.mk hx1
   clear hx0 hx1
   go_enter Try.func40,Try.ntmps40
   go_wp2
   refine wp_region_told 10 (fun w1=>Below w.heap.size w w1) (SealS w [.slice (some ad) (ofB a).length c0,.pointer (some (ad.add 0)),.int .u8 (a.getD 0 0).toNat,.slice (some ad) (ofB a).length c0,.pointer (some (ad.add 511)),.int .u8 (a.getD 511 0).toNat,.int .u8 (turnOf (a.getD 0 0) (a.getD 511 0)).toNat,.slice A1 (ofB b).length c1,.agg (bvs (form (turnOf (a.getD 0 0) (a.getD 511 0)) b))]) kr_ kr_ kr_ (Below.refl _ _).drew ?_ ?_ ?_
   ·intro i v w1 w2 hb h
    unfold SealS at*
    split at h
    ·obtain ⟨g,h1,h2,h3⟩:=h
     rw [if_pos (by assumption)]
     exact ⟨g,h1,h2,h3.below hb⟩
    ·rw [if_neg (by assumption)];exact h
   ·intro i vals w1 hi hc hd
    have D:∀k,k≠9→waitsAt _ i k=true→vals k=_:=fun k hk hw=>SealS.val hk (hd k hw)
    rcases i with _|_|_|_|_|_|_|_|_|_|i
    rotate_right 1
    ·exact absurd hi (Nat.not_lt.2 (Nat.le_add_left 10 i))
    ·exact StepOK.move (x:=.tmp 0) (.free kr_) hc ((look_miss kr_ kr_).trans rfl) rfl
    ·refine StepOK.at (T:=31) (x:=.tmp 15) (y:=.const (.int .i64 0)) (k:=0) (.free kr_) hc kr_ kr_ ((look_hit (k:=0) kr_ kr_).trans (D 0 dc_ kr_)) (look_const kr_) ?_ rfl
     rw [len_ofB,Ha.out];decide
    ·exact StepOK.load (T:=5) (x:=.tmp 16) (.free kr_) hc rfl Try.underlying5 ((look_hit (k:=1) kr_ kr_).trans (D 1 dc_ kr_)) (cell_below hc HX0.out) rfl
    ·exact StepOK.move (x:=.tmp 0) (.free kr_) hc ((look_miss kr_ kr_).trans rfl) rfl
    ·refine StepOK.at (T:=31) (x:=.tmp 18) (y:=.const (.int .i64 511)) (k:=511) (.free kr_) hc kr_ kr_ ((look_hit (k:=3) kr_ kr_).trans (D 3 dc_ kr_)) (look_const kr_) ?_ rfl
     rw [len_ofB,Ha.out];decide
    ·exact StepOK.load (T:=5) (x:=.tmp 19) (.free kr_) hc rfl Try.underlying5 ((look_hit (k:=4) kr_ kr_).trans (D 4 dc_ kr_)) (cell_below hc HX1.out) rfl
    ·refine StepOK.call (f:=93) (xs:=#[.tmp 17,.tmp 20]) (ts:=#[5,5]) (fn:=Try.f93) (.free kr_) kr_ kr_ rfl (look2 ((look_hit (k:=2) kr_ kr_).trans (D 2 dc_ kr_)) ((look_hit (k:=5) kr_ kr_).trans (D 5 dc_ kr_))) (Calls.mono (turn_any w1 _ _) ?_)
     rintro _ _ ⟨rfl,rfl⟩
     exact ⟨_,rfl,Below.refl _ _,hc,rfl⟩
    ·exact StepOK.move (x:=.tmp 1) (.free kr_) hc ((look_miss kr_ kr_).trans rfl) rfl
    ·refine StepOK.call (f:=92) (xs:=#[.tmp 21,.tmp 22]) (ts:=#[5,31]) (fn:=Try.f92) (.free kr_) kr_ kr_ rfl (look2 ((look_hit (k:=6) kr_ kr_).trans (D 6 dc_ kr_)) ((look_hit (k:=7) kr_ kr_).trans (D 7 dc_ kr_))) (Calls.mono (lay_any w1 _ _ _ _ Hb.out (Kd.C_below HR1.out hc)) ?_)
     rintro _ w2 ⟨rfl,hb2⟩
     exact ⟨_,rfl,hb2,hc.trans (hb2.mono hc.size),rfl⟩
    ·refine StepOK.alloc (T:=149) (.free kr_) agg50 (fun g w' hB hg hw=>⟨hc.trans (hw.mono hc.size), ?_⟩)
     exact ⟨g,rfl,Nat.le_trans hc.size hg,hB⟩
   ·intro vals w1 hc hS
    obtain ⟨g,e9,hg,hB⟩:∃g,vals 9=.pointer (some ⟨g,0,none⟩)∧w.heap.size≤g∧Blk w1 g (bvs zeros512) 149:=hS 9 dc_
    have e8:vals 8=.agg (bvs (form (turnOf (a.getD 0 0) (a.getD 511 0)) b)):=SealS.val dc_ (hS 8 dc_)
    refine wl_store_row (T:=149) (x:=.tmp 6) (y:=.tmp 23) rfl rfl agg50 ((fill_hit (k:=9) kr_ (Nat.le_of_ble_eq_true kr_)).trans e9) ((fill_hit (k:=8) kr_ (Nat.le_of_ble_eq_true kr_)).trans e8) hB (by rw [size_bvs,size_bvs,length_form _ Hb.out];rfl) rfl (bvs_one _) ?_
    intro w2 hB2 hO2
    have HB2:=Aside0.mk hB2
    have HO2:=Aside0.mk hO2
    have HC:=Aside0.mk hc
    clear hB2 hO2 hB hc hS
    refine wl_frame ⟨#[.slice (some ad) (ofB a).length c0,.slice A1 (ofB b).length c1,undef,undef,.slice none 0 0,.int .i64 0,vals 9,.bool false,.slice (some ad) (ofB a).length c0,.int .i64 (ofB a).length,.bool false,.bool (decide (504<((ofB b).length:Int))),.slice A1 (ofB b).length c1,.int .i64 (ofB b).length,.bool (decide (504<((ofB b).length:Int))),vals 0,vals 1,vals 2,vals 3,vals 4,vals 5,vals 6,vals 7,vals 8,undef],[]⟩ kr_ ?_
    rw [e9]
    clear e9 e8
    go_wp2
    go_ret2
    refine ⟨_,rfl,V_of_blk HB2.out hg 0 512 512 ?_ dc_ (Nat.le_refl _) ?_,HC.out.trans (HO2.out.below hg)⟩
    ·rw [length_form _ Hb.out];decide
    ·rw [List.drop_zero,List.take_of_length_le (Nat.le_of_eq (length_form _ Hb.out))]
 ·have e:sealF a b=([],2):=by simp [sealF,ha]
  rw [e]
  have ha':((((ofB a).length:Nat):Int) !=512)=true:=by rw [len_ofB,bne_iff_ne];omega
  clear ha e
  go_enter Try.func40,Try.ntmps40
  go_wp2
  go_ret2
  exact ⟨_,rfl,V_nil,Below.refl _ _⟩
section
def ListS (L:List Value)(i:Nat)(v:Value)(_:World):Prop:=v=L.getD i undef
theorem bits_or_bytes (x y:UInt8):bits .or .i64 (wrap64 (x.toNat:Int)) (wrap64 (wrap64 (y.toNat:Int)*256))=((x.toNat+256*y.toNat:Nat):Int):=by
 have hx:=x.toNat_lt
 have hy:=y.toNat_lt
 have e1:wrap64 (x.toNat:Int)=((x.toNat:Nat):Int):=by unfold wrap64;omega
 have e2:wrap64 (wrap64 (y.toNat:Int)*256)=((y.toNat*256:Nat):Int):=by unfold wrap64;omega
 rw [e1,e2]
 show IntKind.i64.wrap ((BitVec.ofInt 64 ((x.toNat:Nat):Int)|||BitVec.ofInt 64 ((y.toNat*256:Nat):Int)).toNat:Int)=_
 rw [BitVec.toNat_or]
 have f1:(BitVec.ofInt 64 ((x.toNat:Nat):Int)).toNat=x.toNat:=by simp
 have f2:(BitVec.ofInt 64 ((y.toNat*256:Nat):Int)).toNat=y.toNat*256:=by simp;omega
 rw [f1,f2,Nat.or_comm,Nat.mul_comm]
 have:=Nat.two_pow_add_eq_or_of_lt (i:=8) hx y.toNat
 rw [show (256:Nat)=2^8 from rfl,←this,IntKind.wrap_i64]
 omega
theorem openF_at {s:List UInt8}{x0:UInt8}{n:Nat}(hl:s.length=512)(h0:x0=s.getD 0 0)(hn:n=(s.getD 1 0).toNat+256*(s.getD 2 0).toNat):
  openF s=if 2<x0.toNat∨504<n then ([],30) else if s=form x0 ((s.drop 7).take n) then ((s.drop 7).take n,0) else ([],30):=by
 subst h0 hn
 unfold openF
 rw [if_neg (fun h=>h hl)]
theorem wl_slice3 {P:Program}{ops:Array Oper}{rest:List Oper}{o:Oper}{a:Act}{Q:Exit→Act→World→Prop}{w:World}(hg:o.guard=none){T E:TypeId}{N:Nat}{x p q r:Operand}(ho:o.op=.slice T x (some p) (some q) (some r))(hT:P.underlying T=some (.array N E))(hE:(P.info? E).map (·.size)=some 1)
  {g lo n:Nat} {v:Int} (hx:a.eval x=.pointer (some ⟨g,0,none⟩)) (hp:a.eval p=.int .i64 (lo:Int)) (hq:a.eval q=.int .i64 v) (hr:a.eval r=.int .i64 v) (hv:v=((lo+n:Nat):Int)) (hN:lo+n≤N)
  (h:∀f,(n=0∧f=0∨f=lo)→wpList P ops Q rest (a.put o.dst (.slice (some ⟨g,f,none⟩) n n)) w):wpList P ops Q (o::rest) a w:=by
 subst hv
 refine wl_val hg ?_ (h (if n=0 then 0 else lo) (by split<;>simp_all))
 cases hq2:P.info? E with
 |none=>rw [hq2] at hE;cases hE
 |some e2=>
  have he:e2.size=1:=by rw [hq2] at hE;simpa using hE
  simp only [execOp,ho,hx,hp,hq,hr,Option.map_some]
  have e1:∀code,(Instr.sliceBound (nI_ (lo+n)) N code).run P w=.ok (lo+n) w:=fun code=>by
   rw [run_sliceBound w .i64 _ N code om_ om_,Int.toNat_natCast]
  have e2:∀code,(Instr.sliceBound (nI_ (lo+n)) (lo+n) code).run P w=.ok (lo+n) w:=fun code=>by
   rw [run_sliceBound w .i64 _ (lo+n) code om_ om_,Int.toNat_natCast]
  have e3:∀code,(Instr.sliceBound (.int .i64 (lo:Int)) (lo+n) code).run P w=.ok lo w:=fun code=>by
   rw [run_sliceBound w .i64 _ (lo+n) code om_ om_,Int.toNat_natCast]
  simp only [Instr.sliceAt,Sem.run_bind,run_underlying hT,Result.andThen_ok,Instr.sureAddr,Sem.run_pure,Instr.sliceBounds,e1,e2,e3,sizeOf,typeInfo]
  simp [hq2,he]
  by_cases h0:n=0
  ·simp [h0]
  ·simp [h0,Addr.add_lit]
theorem cell_below' {w w1:World}{a:Addr}{v:Value}(h:Below w.heap.size w w1)(hc:w.cell? a=some v):w1.cell? a=some v:=cell_below h hc
section
variable {P:Program}{T:TypeId}{w:World}
theorem run_geq_u8 {x0:UInt8}{b:Bool}(h:Aside0 (decide (3≤x0.toNat)=b)):(binOp .geq T (.int .u8 (x0.toNat:Int)) (.int .u8 3)).run P w=.ok (.bool b) w:=by
 have:decide ((3:Int)≤(x0.toNat:Int))=b:=by rw [←h.out];congr 1;simp only [eq_iff_iff];omega
 simp [binOp,Op.intCmp,this]
theorem run_gtr_i64 {n:Nat}{b:Bool}(h:Aside0 (decide (504<n)=b)):(binOp .gtr T (.int .i64 (n:Int)) (.int .i64 504)).run P w=.ok (.bool b) w:=by
 have:decide ((504:Int)<(n:Int))=b:=by rw [←h.out];congr 1;simp only [eq_iff_iff];omega
 simp [binOp,Op.intCmp,this]
theorem run_add7 {n:Nat}(h:n≤504):(binOp .add T (.int .i64 7) (.int .i64 (n:Int))).run P w=.ok (.int .i64 ((7+n:Nat):Int)) w:=by
 have:IntKind.i64.wrap (7+(n:Int))=((7+n:Nat):Int):=by rw [IntKind.wrap_i64];omega
 simp [binOp,Op.intArith,this]
end
set_option maxHeartbeats 1000000 in
set_option maxRecDepth 100000 in
theorem open_any (w:World)(A0:Option Addr)(c0:Nat)(s:List UInt8)(hr0:Kd.C (Kd.int .u8) w A0 (ofB s).length (ofB s)):
  Calls Try.prog 129 #[.slice A0 (ofB s).length c0] w (Ret2 (ofB (openF s).1) (openF s).2 w):=by
 have HR0:=Aside0.mk hr0
 clear hr0
 by_cases ha:s.length=512
 ·have ha':((((ofB s).length:Nat):Int) !=512)=false:=by rw [len_ofB,ha];rfl
  have hlb:512≤(ofB s).length:=by rw [len_ofB,ha];exact Nat.le_refl _
  have Ha:=Aside0.mk ha
  clear ha
  obtain ⟨R,hR⟩:∃R,R=openF s:=⟨_,rfl⟩
  rw [←hR]
  obtain ⟨x0,hx0⟩:∃x,x=s.getD 0 0:=⟨_,rfl⟩
  obtain ⟨x1,hx1⟩:∃x,x=s.getD 1 0:=⟨_,rfl⟩
  obtain ⟨x2,hx2⟩:∃x,x=s.getD 2 0:=⟨_,rfl⟩
  go_enter Try.func129,Try.ntmps129
  go_wp2_with (first
   |(refine wl_arrayPtr rfl rfl Try.underlying149 rfl hlb ?_)
   |(refine wl_load_bytes rfl rfl agg50 rfl HR0.out (by rw [Ha.out];decide) (by rw [Ha.out];decide) ?_)
   |(refine wl_alloc rfl rfl agg50 ?_;intro g w1 hB hg hw;have HB:=Aside0.mk hB;have HW:=Aside0.mk hw;clear hB hw)
   |(refine wl_store_row rfl rfl agg50 rfl rfl HB.out (by rw [size_bvs,size_bvs,Ha.out];rfl) rfl (bvs_one _) ?_;intro w2 hB2 hO2;have HB2:=Aside0.mk hB2;have HO2:=Aside0.mk hO2;have hc0:w2.cell? ⟨g,0,none⟩=some (.int .u8 (x0.toNat:Int)):=hx0▸hB2.byte 0 (by rw [Ha.out];decide);have hc1:w2.cell? ⟨g,1,none⟩=some (.int .u8 (x1.toNat:Int)):=hx1▸hB2.byte 1 (by rw [Ha.out];decide);have hc2:w2.cell? ⟨g,2,none⟩=some (.int .u8 (x2.toNat:Int)):=hx2▸hB2.byte 2 (by rw [Ha.out];decide);clear hB2 hO2))
  have eor:=bits_or_bytes (s.getD 1 0) (s.getD 2 0)
  obtain ⟨n,hn⟩:∃n,n=(s.getD 1 0).toNat+256*(s.getD 2 0).toNat:=⟨_,rfl⟩
  have eF:=openF_at Ha.out hx0 hn
  rw [←hn,List.getD_eq_getElem?_getD,List.getD_eq_getElem?_getD] at eor
  rw [eor]
  generalize Value.int IntKind.u8 ((s[1]?.getD 0).toNat:Int)=t13
  generalize Value.int IntKind.i64 (wrap64 ((s[1]?.getD 0).toNat:Int))=t14
  generalize Value.pointer (some {block:=g,off:=2,spot:=none})=t15
  generalize Value.int IntKind.u8 ((s[2]?.getD 0).toNat:Int)=t16
  generalize Value.int IntKind.i64 (wrap64 ((s[2]?.getD 0).toNat:Int))=t17
  generalize Value.int IntKind.i64 (wrap64 (wrap64 ((s[2]?.getD 0).toNat:Int)*256))=t18
  have HBB:Aside0 (Below w.heap.size w w2):=⟨HW.out.trans (HO2.out.below hg)⟩
  clear eor hlb ha' hc1 hc2 hx1 hx2 HB hx0 hn
  rename Aside0 (Below w.heap.size w w2)=>HB
  by_cases hA:3≤x0.toNat
  ·rw [if_pos (Or.inl (show 2<x0.toNat from hA))] at eF
   have eR:=hR.trans eF
   clear hR
   subst eR
   have HB0:=Aside0.mk (decide_eq_true hA)
   clear hA eF
   refine wp_region_told 17 (fun w3=>Below w2.heap.size w2 w3) (ListS [.pointer (some ⟨g,0,none⟩),.int .u8 (x0.toNat:Int),.bool true,.bool true,undef,undef,.bool true,.bool true,undef,undef,undef,undef,undef,undef,undef,undef,.bool true]) kr_ kr_ kr_ (Below.refl _ _).drew (fun _ _ _ _ _ h=>h) ?_ ?_
   ·intro i vals w1 hi hc hd
    have D:∀k,waitsAt _ i k=true→vals k=_:=fun k hw=>hd k hw
    rcases i with _|_|_|_|_|_|_|_|_|_|_|_|_|_|_|_|_|i
    rotate_right 1
    ·exact absurd hi (Nat.not_lt.2 (Nat.le_add_left 17 i))
    ·exact StepOK.atArr (T:=149) (x:=.tmp 4) (y:=.const (.int .i64 0)) (k:=0) (.free kr_) hc kr_ kr_ ((look_miss kr_ kr_).trans rfl) (look_const kr_) kr_ rfl
    ·exact StepOK.load (T:=5) (x:=.tmp 20) (.free kr_) hc rfl Try.underlying5 ((look_hit (k:=0) kr_ kr_).trans (D 0 kr_)) (cell_below' hc hc0) rfl
    ·exact StepOK.bin (op:=.geq) (T:=5) (T2:=5) (x:=.tmp 21) (y:=.const (.int .u8 3)) (.free kr_) hc ((look_hit (k:=1) kr_ kr_).trans (D 1 kr_)) (look_const kr_) rfl (run_geq_u8 HB0) rfl
    ·exact StepOK.move (x:=.tmp 22) (.free kr_) hc ((look_hit (k:=2) kr_ kr_).trans (D 2 kr_)) rfl
    ·exact StepOK.not (g:=3) (t:=23) (gd:=some (3,false)) kr_ (b:=false) (b':=true) rfl kr_ kr_ kr_ (D 3 kr_) dc_ rfl
    ·exact StepOK.not (g:=3) (t:=23) (gd:=some (3,false)) kr_ (b:=false) (b':=true) rfl kr_ kr_ kr_ (D 3 kr_) dc_ rfl
    ·exact StepOK.pick (b:=true) (u:=.bool true) (v:=undef) (x:=.tmp 23) (y:=.const (.bool true)) (z:=.tmp 25) (.free kr_) hc ((look_hit (k:=3) kr_ kr_).trans (D 3 kr_)) (look_const kr_) ((look_hit (k:=5) kr_ kr_).trans (D 5 kr_)) rfl
    ·exact StepOK.move (x:=.tmp 26) (.free kr_) hc ((look_hit (k:=6) kr_ kr_).trans (D 6 kr_)) rfl
    ·exact StepOK.not (g:=7) (t:=27) (gd:=some (7,false)) kr_ (b:=false) (b':=true) rfl kr_ kr_ kr_ (D 7 kr_) dc_ rfl
    ·exact StepOK.not (g:=7) (t:=27) (gd:=some (7,false)) kr_ (b:=false) (b':=true) rfl kr_ kr_ kr_ (D 7 kr_) dc_ rfl
    ·exact StepOK.not (g:=7) (t:=27) (gd:=some (7,false)) kr_ (b:=false) (b':=true) rfl kr_ kr_ kr_ (D 7 kr_) dc_ rfl
    ·exact StepOK.not (g:=7) (t:=27) (gd:=some (7,false)) kr_ (b:=false) (b':=true) rfl kr_ kr_ kr_ (D 7 kr_) dc_ rfl
    ·exact StepOK.not (g:=7) (t:=27) (gd:=some (7,false)) kr_ (b:=false) (b':=true) rfl kr_ kr_ kr_ (D 7 kr_) dc_ rfl
    ·exact StepOK.not (g:=7) (t:=27) (gd:=some (7,false)) kr_ (b:=false) (b':=true) rfl kr_ kr_ kr_ (D 7 kr_) dc_ rfl
    ·exact StepOK.not (g:=7) (t:=27) (gd:=some (7,false)) kr_ (b:=false) (b':=true) rfl kr_ kr_ kr_ (D 7 kr_) dc_ rfl
    ·exact StepOK.not (g:=7) (t:=27) (gd:=some (7,false)) kr_ (b:=false) (b':=true) rfl kr_ kr_ kr_ (D 7 kr_) dc_ rfl
    ·exact StepOK.pick (b:=true) (u:=.bool true) (v:=undef) (x:=.tmp 27) (y:=.const (.bool true)) (z:=.tmp 35) (.free kr_) hc ((look_hit (k:=7) kr_ kr_).trans (D 7 kr_)) (look_const kr_) ((look_hit (k:=15) kr_ kr_).trans (D 15 kr_)) rfl
   ·intro vals w3 hc hS
    refine wl_frame ⟨#[.slice A0 (ofB s).length c0,undef,.slice none 0 0,.int .i64 0,.pointer (some ⟨g,0,none⟩),.int .i64 (n:Int),.slice A0 (ofB s).length c0,.int .i64 (ofB s).length,.bool false,.slice A0 (ofB s).length c0,.pointer A0,.agg (bvs s),.pointer (some ⟨g,1,none⟩),t13,t14,t15,t16,t17,t18,.int .i64 (n:Int),vals 0,vals 1,vals 2,vals 3,vals 4,vals 5,vals 6,vals 7,vals 8,vals 9,vals 10,vals 11,vals 12,vals 13,vals 14,vals 15,vals 16,undef,undef,undef,undef,undef],[]⟩ kr_ ?_
    have e16:vals 16=.bool true:=hS 16 dc_
    rw [e16]
    clear e16 hS
    go_wp2
    go_ret2
    exact ⟨_,rfl,V_nil,HB.out.trans (hc.mono HB.out.size)⟩
  ·by_cases hN:504<n
   ·rw [if_pos (Or.inr hN)] at eF
    have eR:=hR.trans eF
    clear hR
    subst eR
    have HB0:=Aside0.mk (decide_eq_false hA)
    have HB1:=Aside0.mk (decide_eq_true hN)
    clear hA hN eF
    refine wp_region_told 17 (fun w3=>Below w2.heap.size w2 w3) (ListS [.pointer (some ⟨g,0,none⟩),.int .u8 (x0.toNat:Int),.bool false,.bool false,.int .i64 (n:Int),.bool true,.bool true,.bool true,undef,undef,undef,undef,undef,undef,undef,undef,.bool true]) kr_ kr_ kr_ (Below.refl _ _).drew (fun _ _ _ _ _ h=>h) ?_ ?_
    ·intro i vals w1 hi hc hd
     have D:∀k,waitsAt _ i k=true→vals k=_:=fun k hw=>hd k hw
     rcases i with _|_|_|_|_|_|_|_|_|_|_|_|_|_|_|_|_|i
     rotate_right 1
     ·exact absurd hi (Nat.not_lt.2 (Nat.le_add_left 17 i))
     ·exact StepOK.atArr (T:=149) (x:=.tmp 4) (y:=.const (.int .i64 0)) (k:=0) (.free kr_) hc kr_ kr_ ((look_miss kr_ kr_).trans rfl) (look_const kr_) kr_ rfl
     ·exact StepOK.load (T:=5) (x:=.tmp 20) (.free kr_) hc rfl Try.underlying5 ((look_hit (k:=0) kr_ kr_).trans (D 0 kr_)) (cell_below' hc hc0) rfl
     ·exact StepOK.bin (op:=.geq) (T:=5) (T2:=5) (x:=.tmp 21) (y:=.const (.int .u8 3)) (.free kr_) hc ((look_hit (k:=1) kr_ kr_).trans (D 1 kr_)) (look_const kr_) rfl (run_geq_u8 HB0) rfl
     ·exact StepOK.move (x:=.tmp 22) (.free kr_) hc ((look_hit (k:=2) kr_ kr_).trans (D 2 kr_)) rfl
     ·exact StepOK.move (x:=.tmp 5) (.when (g:=3) (t:=23) (b:=false) kr_ kr_ kr_ kr_ (D 3 kr_)) hc ((look_miss kr_ kr_).trans rfl) rfl
     ·exact StepOK.bin (op:=.gtr) (T:=3) (T2:=3) (x:=.tmp 24) (y:=.const (.int .i64 504)) (.when (g:=3) (t:=23) (b:=false) kr_ kr_ kr_ kr_ (D 3 kr_)) hc ((look_hit (k:=4) kr_ kr_).trans (D 4 kr_)) (look_const kr_) rfl (run_gtr_i64 HB1) rfl
     ·exact StepOK.pick (b:=false) (u:=.bool true) (v:=.bool true) (x:=.tmp 23) (y:=.const (.bool true)) (z:=.tmp 25) (.free kr_) hc ((look_hit (k:=3) kr_ kr_).trans (D 3 kr_)) (look_const kr_) ((look_hit (k:=5) kr_ kr_).trans (D 5 kr_)) rfl
     ·exact StepOK.move (x:=.tmp 26) (.free kr_) hc ((look_hit (k:=6) kr_ kr_).trans (D 6 kr_)) rfl
     ·exact StepOK.not (g:=7) (t:=27) (gd:=some (7,false)) kr_ (b:=false) (b':=true) rfl kr_ kr_ kr_ (D 7 kr_) dc_ rfl
     ·exact StepOK.not (g:=7) (t:=27) (gd:=some (7,false)) kr_ (b:=false) (b':=true) rfl kr_ kr_ kr_ (D 7 kr_) dc_ rfl
     ·exact StepOK.not (g:=7) (t:=27) (gd:=some (7,false)) kr_ (b:=false) (b':=true) rfl kr_ kr_ kr_ (D 7 kr_) dc_ rfl
     ·exact StepOK.not (g:=7) (t:=27) (gd:=some (7,false)) kr_ (b:=false) (b':=true) rfl kr_ kr_ kr_ (D 7 kr_) dc_ rfl
     ·exact StepOK.not (g:=7) (t:=27) (gd:=some (7,false)) kr_ (b:=false) (b':=true) rfl kr_ kr_ kr_ (D 7 kr_) dc_ rfl
     ·exact StepOK.not (g:=7) (t:=27) (gd:=some (7,false)) kr_ (b:=false) (b':=true) rfl kr_ kr_ kr_ (D 7 kr_) dc_ rfl
     ·exact StepOK.not (g:=7) (t:=27) (gd:=some (7,false)) kr_ (b:=false) (b':=true) rfl kr_ kr_ kr_ (D 7 kr_) dc_ rfl
     ·exact StepOK.not (g:=7) (t:=27) (gd:=some (7,false)) kr_ (b:=false) (b':=true) rfl kr_ kr_ kr_ (D 7 kr_) dc_ rfl
     ·exact StepOK.pick (b:=true) (u:=.bool true) (v:=undef) (x:=.tmp 27) (y:=.const (.bool true)) (z:=.tmp 35) (.free kr_) hc ((look_hit (k:=7) kr_ kr_).trans (D 7 kr_)) (look_const kr_) ((look_hit (k:=15) kr_ kr_).trans (D 15 kr_)) rfl
    ·intro vals w3 hc hS
     refine wl_frame ⟨#[.slice A0 (ofB s).length c0,undef,.slice none 0 0,.int .i64 0,.pointer (some ⟨g,0,none⟩),.int .i64 (n:Int),.slice A0 (ofB s).length c0,.int .i64 (ofB s).length,.bool false,.slice A0 (ofB s).length c0,.pointer A0,.agg (bvs s),.pointer (some ⟨g,1,none⟩),t13,t14,t15,t16,t17,t18,.int .i64 (n:Int),vals 0,vals 1,vals 2,vals 3,vals 4,vals 5,vals 6,vals 7,vals 8,vals 9,vals 10,vals 11,vals 12,vals 13,vals 14,vals 15,vals 16,undef,undef,undef,undef,undef],[]⟩ kr_ ?_
     have e16:vals 16=.bool true:=hS 16 dc_
     rw [e16]
     clear e16 hS
     go_wp2
     go_ret2
     exact ⟨_,rfl,V_nil,HB.out.trans (hc.mono HB.out.size)⟩
   ·rw [if_neg (fun h=>h.elim hA hN)] at eF
    have HB0:=Aside0.mk (decide_eq_false hA)
    have HB1:=Aside0.mk (decide_eq_false hN)
    have HN:=Aside0.mk (Nat.le_of_not_lt hN)
    obtain ⟨d,hdd⟩:∃d,d=decide (s≠form x0 ((s.drop 7).take n)):=⟨_,rfl⟩
    have HF:=Aside0.mk (hR.trans eF)
    clear hA hN eF hR
    refine wp_region_told 17 (fun w3=>Below w2.heap.size w2 w3) (ListS [.pointer (some ⟨g,0,none⟩),.int .u8 (x0.toNat:Int),.bool false,.bool false,.int .i64 (n:Int),.bool false,.bool false,.bool false,.agg (bvs s),.pointer (some ⟨g,0,none⟩),.int .u8 (x0.toNat:Int),.int .i64 (n:Int),nI_ (7+n),.slice (some ⟨g,7,none⟩) n 505,.agg (bvs (form x0 ((s.drop 7).take n))),.bool d,.bool d]) kr_ kr_ kr_ (Below.refl _ _).drew (fun _ _ _ _ _ h=>h) ?_ ?_
    ·intro i vals w1 hi hc hd
     have D:∀k,waitsAt _ i k=true→vals k=_:=fun k hw=>hd k hw
     rcases i with _|_|_|_|_|_|_|_|_|_|_|_|_|_|_|_|_|i
     rotate_right 1
     ·exact absurd hi (Nat.not_lt.2 (Nat.le_add_left 17 i))
     ·exact StepOK.atArr (T:=149) (x:=.tmp 4) (y:=.const (.int .i64 0)) (k:=0) (.free kr_) hc kr_ kr_ ((look_miss kr_ kr_).trans rfl) (look_const kr_) kr_ rfl
     ·exact StepOK.load (T:=5) (x:=.tmp 20) (.free kr_) hc rfl Try.underlying5 ((look_hit (k:=0) kr_ kr_).trans (D 0 kr_)) (cell_below' hc hc0) rfl
     ·exact StepOK.bin (op:=.geq) (T:=5) (T2:=5) (x:=.tmp 21) (y:=.const (.int .u8 3)) (.free kr_) hc ((look_hit (k:=1) kr_ kr_).trans (D 1 kr_)) (look_const kr_) rfl (run_geq_u8 HB0) rfl
     ·exact StepOK.move (x:=.tmp 22) (.free kr_) hc ((look_hit (k:=2) kr_ kr_).trans (D 2 kr_)) rfl
     ·exact StepOK.move (x:=.tmp 5) (.when (g:=3) (t:=23) (b:=false) kr_ kr_ kr_ kr_ (D 3 kr_)) hc ((look_miss kr_ kr_).trans rfl) rfl
     ·exact StepOK.bin (op:=.gtr) (T:=3) (T2:=3) (x:=.tmp 24) (y:=.const (.int .i64 504)) (.when (g:=3) (t:=23) (b:=false) kr_ kr_ kr_ kr_ (D 3 kr_)) hc ((look_hit (k:=4) kr_ kr_).trans (D 4 kr_)) (look_const kr_) rfl (run_gtr_i64 HB1) rfl
     ·exact StepOK.pick (b:=false) (u:=.bool true) (v:=.bool false) (x:=.tmp 23) (y:=.const (.bool true)) (z:=.tmp 25) (.free kr_) hc ((look_hit (k:=3) kr_ kr_).trans (D 3 kr_)) (look_const kr_) ((look_hit (k:=5) kr_ kr_).trans (D 5 kr_)) rfl
     ·exact StepOK.move (x:=.tmp 26) (.free kr_) hc ((look_hit (k:=6) kr_ kr_).trans (D 6 kr_)) rfl
     ·exact StepOK.loadRow (T:=149) (x:=.tmp 4) (.when (g:=7) (t:=27) (b:=false) kr_ kr_ kr_ kr_ (D 7 kr_)) hc agg50 ((look_miss kr_ kr_).trans rfl) (HB2.out.below hc) (by rw [size_bvs,size_bvs,Ha.out];rfl) rfl
     ·exact StepOK.atArr (T:=149) (x:=.tmp 4) (y:=.const (.int .i64 0)) (k:=0) (.when (g:=7) (t:=27) (b:=false) kr_ kr_ kr_ kr_ (D 7 kr_)) hc kr_ kr_ ((look_miss kr_ kr_).trans rfl) (look_const kr_) kr_ rfl
     ·exact StepOK.load (T:=5) (x:=.tmp 29) (.when (g:=7) (t:=27) (b:=false) kr_ kr_ kr_ kr_ (D 7 kr_)) hc rfl Try.underlying5 ((look_hit (k:=9) kr_ kr_).trans (D 9 kr_)) (cell_below' hc hc0) rfl
     ·exact StepOK.move (x:=.tmp 5) (.when (g:=7) (t:=27) (b:=false) kr_ kr_ kr_ kr_ (D 7 kr_)) hc ((look_miss kr_ kr_).trans rfl) rfl
     ·exact StepOK.bin (op:=.add) (T:=3) (T2:=3) (x:=.const (.int .i64 7)) (y:=.tmp 31) (.when (g:=7) (t:=27) (b:=false) kr_ kr_ kr_ kr_ (D 7 kr_)) hc (look_const kr_) ((look_hit (k:=11) kr_ kr_).trans (D 11 kr_)) rfl (run_add7 HN.out) rfl
     ·exact StepOK.sliceArr (T:=149) (x:=.tmp 4) (p:=.const (.int .i64 7)) (q:=.tmp 32) (lo:=7) (hi:=7+n) (.when (g:=7) (t:=27) (b:=false) kr_ kr_ kr_ kr_ (D 7 kr_)) hc kr_ kr_ ((look_miss kr_ kr_).trans rfl) (look_const kr_) ((look_hit (k:=12) kr_ kr_).trans (D 12 kr_)) (Nat.le_add_right 7 n) (by have:=HN.out;show 7+n≤512;omega) kr_ (by show Value.slice _ _ _=_;rw [Nat.add_sub_cancel_left,Addr.add_lit];rfl)
     ·refine StepOK.call (f:=92) (xs:=#[.tmp 30,.tmp 33]) (ts:=#[5,31]) (fn:=Try.f92) (.when (g:=7) (t:=27) (b:=false) kr_ kr_ kr_ kr_ (D 7 kr_)) kr_ kr_ rfl (look2 ((look_hit (k:=10) kr_ kr_).trans (D 10 kr_)) ((look_hit (k:=13) kr_ kr_).trans (D 13 kr_))) ?_
      have hC:=(HB2.out.below hc).C 7 n (by have:=HN.out;rw [Ha.out];omega) (by have:=HN.out;omega)
      have hl:(ofB ((s.drop 7).take n)).length=n:=by have:=HN.out;rw [len_ofB,List.length_take,List.length_drop,Ha.out];omega
      have hL:=lay_any w1 (some ⟨g,7,none⟩) 505 x0 ((s.drop 7).take n) (by rw [len_ofB] at hl;have:=HN.out;omega) hC
      rw [hl] at hL
      refine Calls.mono hL ?_
      rintro _ w3 ⟨rfl,hb3⟩
      exact ⟨_,rfl,hb3,hc.trans (hb3.mono hc.size),rfl⟩
     ·exact StepOK.bin (op:=.neq) (T:=149) (T2:=149) (x:=.tmp 28) (y:=.tmp 34) (.when (g:=7) (t:=27) (b:=false) kr_ kr_ kr_ kr_ (D 7 kr_)) hc ((look_hit (k:=8) kr_ kr_).trans (D 8 kr_)) ((look_hit (k:=14) kr_ kr_).trans (D 14 kr_)) (run_eqGuard_bytes _ kr_ _ _ _ _) (run_neq_bytes _ Try.underlying149 Try.underlying5 size5 _ _ Ha.out (length_form _ (by have:=HN.out;rw [List.length_take];omega))) (by rw [←hdd];rfl)
     ·exact StepOK.pick (b:=false) (u:=.bool true) (v:=.bool d) (x:=.tmp 27) (y:=.const (.bool true)) (z:=.tmp 35) (.free kr_) hc ((look_hit (k:=7) kr_ kr_).trans (D 7 kr_)) (look_const kr_) ((look_hit (k:=15) kr_ kr_).trans (D 15 kr_)) rfl
    ·intro vals w3 hc hS
     refine wl_frame ⟨#[.slice A0 (ofB s).length c0,undef,.slice none 0 0,.int .i64 0,.pointer (some ⟨g,0,none⟩),.int .i64 (n:Int),.slice A0 (ofB s).length c0,.int .i64 (ofB s).length,.bool false,.slice A0 (ofB s).length c0,.pointer A0,.agg (bvs s),.pointer (some ⟨g,1,none⟩),t13,t14,t15,t16,t17,t18,.int .i64 (n:Int),vals 0,vals 1,vals 2,vals 3,vals 4,vals 5,vals 6,vals 7,vals 8,vals 9,vals 10,vals 11,vals 12,vals 13,vals 14,vals 15,vals 16,undef,undef,undef,undef,undef],[]⟩ kr_ ?_
     have e16:vals 16=.bool d:=hS 16 dc_
     rw [e16]
     clear e16 hS
     have hs:=@of_decide_eq_true (s≠form x0 ((s.drop 7).take n)) inferInstance
     have hs2:=@of_decide_eq_false (s≠form x0 ((s.drop 7).take n)) inferInstance
     have hR:=HF.out
     cases d
     ·rw [if_pos (Decidable.not_not.1 (hs2 hdd.symm))] at hR
      subst hR
      have hn5:(n:Int)≤504:=by have:=HN.out;omega
      clear hs hs2 hdd HB0 HB1 HF
      go_wp2_with (refine wl_slice3 (lo:=7) (n:=n) rfl rfl Try.underlying149 size5 rfl rfl rfl rfl om_ (by have:=HN.out;show 7+n≤512;omega) ?_;intro f hf;have HFo:=Aside0.mk hf;clear hf)
      go_ret2
      refine ⟨_,rfl, ?_,HB.out.trans (hc.mono HB.out.size)⟩
      refine V_of_blk (HB2.out.below hc) hg f n n ?_ (by have:=HN.out;omega) (Nat.le_refl _) ?_
      ·have:=HN.out;have:=HFo.out;rw [Ha.out];omega
      ·rcases HFo.out with ⟨h0,hf⟩|hf
       ·rw [h0,hf];rfl
       ·rw [hf]
     ·rw [if_neg (hs hdd.symm)] at hR
      subst hR
      clear hs hs2 hdd
      go_wp2
      go_ret2
      exact ⟨_,rfl,V_nil,HB.out.trans (hc.mono HB.out.size)⟩
 ·have e:openF s=([],2):=by simp [openF,ha]
  rw [e]
  have ha':((((ofB s).length:Nat):Int) !=512)=true:=by rw [len_ofB,bne_iff_ne];omega
  clear ha e
  go_enter Try.func129,Try.ntmps129
  go_wp2
  go_ret2
  exact ⟨_,rfl,V_nil,Below.refl _ _⟩
end
def leN:List UInt8→Nat
 |[]=>0
 |x::l=>x.toNat+256*leN l
def readF (s:List UInt8):Nat×List UInt8:=
 if (openF s).2≠0∨(openF s).1.length<8 then (0,[]) else
 if leN ((openF s).1.take 8)=0∨9223372036854775807<leN ((openF s).1.take 8) then (0,[]) else (leN ((openF s).1.take 8),(openF s).1.drop 8)
def zAnchor:Array Value:=#[.int .i64 0,.slice none 0 0]
theorem aggAnchor:Agg Try.prog 193 zAnchor:=⟨⟨_,Try.underlying193,rfl⟩,by kernel_rfl,by kernel_rfl⟩
theorem leN_lt:∀l:List UInt8,leN l<256^l.length
 |[]=>by simp [leN]
 |x::l=>by
  have:=leN_lt l
  have hx:=x.toNat_lt
  simp only [leN,List.length_cons,Nat.pow_succ]
  omega
theorem leN_drop (l:List UInt8)(j:Nat)(h:j<l.length):leN (l.drop j)=(l.getD j 0).toNat+256*leN (l.drop (j+1)):=by
 rw [List.drop_eq_getElem_cons h,List.getD_eq_getElem?_getD,List.getElem?_eq_getElem h];rfl
theorem bits_or_u64 (n:Nat)(x:UInt8)(hn:n<72057594037927936):bits .or .u64 (IntKind.u64.wrap ((n:Int)*256)) (IntKind.u64.wrap (x.toNat:Int))=((x.toNat+256*n:Nat):Int):=by
 have hx:=x.toNat_lt
 have e1:IntKind.u64.wrap (x.toNat:Int)=((x.toNat:Nat):Int):=by rw [IntKind.wrap_u64];omega
 have e2:IntKind.u64.wrap ((n:Int)*256)=((n*256:Nat):Int):=by rw [IntKind.wrap_u64];omega
 rw [e1,e2]
 show IntKind.u64.wrap ((BitVec.ofInt 64 ((n*256:Nat):Int)|||BitVec.ofInt 64 ((x.toNat:Nat):Int)).toNat:Int)=_
 rw [BitVec.toNat_or]
 have f1:(BitVec.ofInt 64 ((x.toNat:Nat):Int)).toNat=x.toNat:=by simp
 have f2:(BitVec.ofInt 64 ((n*256:Nat):Int)).toNat=n*256:=by
  rw [BitVec.toNat_ofInt];omega
 rw [f1,f2,Nat.mul_comm]
 have:=Nat.two_pow_add_eq_or_of_lt (i:=8) hx n
 rw [show (256:Nat)=2^8 from rfl,←this,IntKind.wrap_u64]
 omega
def RetAnchor (n:Int)(d:List Int)(w:World)(e:Ending)(w':World):Prop:=
 ∃v:Value,e=.returned (.agg #[.int .i64 n,v])∧Kd.V (Kd.int .u8) 5 w' w.heap.size (fun k_=>(w.heap.size≤k_)) v d∧Below w.heap.size w w'
theorem V_slice {w:World}{base e:Nat}{ok:Nat→Prop}{v:Value}{l:List Int}(h:Kd.V (Kd.int .u8) e w base ok v l):∃A c,v=.slice A l.length c∧l.length≤c∧Kd.F (Kd.int .u8) w ok A l.length l:=h
theorem F_now {w:World}{ok:Nat→Prop}{A:Option Addr}{l:List Int}(h:Kd.F (Kd.int .u8) w ok A l.length l):Kd.C (Kd.int .u8) w A l.length l:=h w (fun _ _ _=>rfl)
theorem addr_add_add (a:Addr)(i j:Nat):(a.add i).add j=a.add (i+j):=by
 unfold Addr.add
 by_cases h0:i=0
 ·subst h0;simp
 ·by_cases h1:j=0
  ·subst h1;simp
  ·have h2:¬(i+j=0):=by omega
   simp only [h0,h1,h2,if_false,Nat.add_assoc]
theorem C_drop {w:World}{ad:Addr}{l:List Int}(h:Kd.C (Kd.int .u8) w (some ad) l.length l)(k:Nat)(hk:k≤l.length):Kd.C (Kd.int .u8) w (some (ad.add k)) (l.drop k).length (l.drop k):=by
 obtain ⟨_,h2,h3⟩:=h
 refine ⟨rfl,by rw [List.length_drop];omega,fun hp=> ?_⟩
 obtain ⟨ad',e,hc⟩:=h3 (by rw [List.length_drop] at hp;omega)
 cases e
 refine ⟨_,rfl,fun j p hj=> ?_⟩
 rw [List.getElem?_drop] at hj
 obtain ⟨c,hc1,hc2,hc3⟩:=hc _ p hj
 refine ⟨c,hc1,hc2,fun i u hu=> ?_⟩
 have:=hc3 i u hu
 have e2:(ad.add k).add (j*(Kd.int .u8).sz+i)=ad.add ((k+j)*(Kd.int .u8).sz+i):=by
  show (ad.add k).add (j*1+i)=ad.add ((k+j)*1+i)
  rw [addr_add_add];congr 1;omega
 rw [e2];exact this
theorem V_drop {w:World}{base e:Nat}{ok:Nat→Prop}{ad:Addr}{c:Nat}{b:List UInt8}(h:Kd.F (Kd.int .u8) w ok (some ad) (ofB b).length (ofB b))(hc:(ofB b).length≤c)(k:Nat)(hk:k≤b.length)(A':Option Addr)(hA:A'=some (ad.add k)∨b.length=k):Kd.V (Kd.int .u8) e w base ok (.slice A' (b.length-k) (c-k)) (ofB (b.drop k)):=by
 have hl:(ofB (b.drop k)).length=b.length-k:=by rw [len_ofB,List.length_drop]
 rw [len_ofB] at hc
 refine ⟨A',c-k,by rw [hl],by rw [hl];omega,fun W' hW=> ?_⟩
 rcases hA with hA|hA
 ·subst hA
  have h1:=C_drop (h W' hW) k (by rw [len_ofB];exact hk)
  have e2:(ofB b).drop k=ofB (b.drop k):=by unfold ofB;rw [List.map_drop]
  rwa [e2] at h1
 ·have e0:b.drop k=[]:=List.drop_of_length_le om_
  rw [e0]
  exact ⟨rfl,Nat.zero_le _,fun h0=>absurd h0 (Nat.lt_irrefl 0)⟩
theorem V_move {w w':World}{base base' e e':Nat}{ok ok':Nat→Prop}{v:Value}{l:List Int}(h:Kd.V (Kd.int .u8) e w base ok v l)(hm:∀k,ok k→k<w.heap.size→ok' k∧k<w'.heap.size∧w'.heap[k]?=w.heap[k]?):Kd.V (Kd.int .u8) e' w' base' ok' v l:=by
 obtain ⟨A,c,h1,h2,h3⟩:=h
 refine ⟨A,c,h1,h2,fun W' hW=>h3 W' (fun k hk hlt=> ?_)⟩
 obtain ⟨a,b,c⟩:=hm k hk hlt
 exact (hW k a b).trans c
set_option maxHeartbeats 1000000 in
set_option maxRecDepth 100000 in
theorem read_any (w:World)(A0:Option Addr)(c0:Nat)(s:List UInt8)(hr0:Kd.C (Kd.int .u8) w A0 (ofB s).length (ofB s)):
  Calls Try.prog 149 #[.slice A0 (ofB s).length c0] w (RetAnchor (readF s).1 (ofB (readF s).2) w):=by
 have HR0:=Aside0.mk hr0
 clear hr0
 obtain ⟨R,hR⟩:∃R,R=readF s:=⟨_,rfl⟩
 rw [←hR]
 obtain ⟨O,hO⟩:∃O,O=openF s:=⟨_,rfl⟩
 have hR2:R=if O.2≠0∨O.1.length<8 then (0,[]) else if leN (O.1.take 8)=0∨9223372036854775807<leN (O.1.take 8) then (0,[]) else (leN (O.1.take 8),O.1.drop 8):=by rw [hR,hO];rfl
 have HOpen:Aside0 (∀(w:World) (A0:Option Addr) (c0:Nat),Kd.C (Kd.int .u8) w A0 (ofB s).length (ofB s)→Calls Try.prog 129 #[.slice A0 (ofB s).length c0] w (Ret2 (ofB O.1) O.2 w)):=⟨fun w A0 c0 h=>by rw [hO];exact open_any w A0 c0 s h⟩
 clear hR hO
 obtain ⟨b,en⟩:=O
 by_cases he:en≠0
 ·rw [if_pos (Or.inl he)] at hR2
  subst hR2
  have he':((en:Int) !=0)=true:=by rw [bne_iff_ne];omega
  clear he
  go_enter Try.func149,Try.ntmps149
  go_wp2_with (first
   |(refine wl_alloc rfl rfl aggAnchor ?_;intro g w1 hB hg hw;have HB:=Aside0.mk hB;have HW:=Aside0.mk hw;clear hB hw)
   |(go_at_call 129;refine (HOpen.out _ _ _ (Kd.C_below HR0.out HW.out)).mono ?_;rintro e w2 ⟨v,rfl,hv,hb⟩;have HV:=Aside0.mk hv;have HB2:=Aside0.mk hb;clear hv hb)
   |(refine wl_store_row rfl rfl aggAnchor rfl rfl (HB.out.below HB2.out) rfl rfl dc_ ?_;intro w3 hB3 hO3;have HB3:=Aside0.mk hB3;have HO3:=Aside0.mk hO3;clear hB3 hO3))
  exact bodyPost_ret (v:=.agg #[.int .i64 0,.slice none 0 0]) (results_cell_row (P:=Try.prog) rfl _ _ g 193 _ (0,0) _ rfl HB3.out.out Try.underlying193 rfl kr_) rfl ⟨_,rfl,V_nil,(HW.out.trans (HB2.out.mono HW.out.size)).trans (HO3.out.below hg)⟩
 ·have he0:en=0:=Decidable.not_not.1 he
  subst he0
  by_cases hl:b.length<8
  ·rw [if_pos (Or.inr hl)] at hR2
   subst hR2
   have hl':((ofB b).length:Int)<8:=by rw [len_ofB];omega
   clear he hl
   go_enter Try.func149,Try.ntmps149
   go_wp2_with (first
    |(refine wl_alloc rfl rfl aggAnchor ?_;intro g w1 hB hg hw;have HB:=Aside0.mk hB;have HW:=Aside0.mk hw;clear hB hw)
    |(go_at_call 129;refine (HOpen.out _ _ _ (Kd.C_below HR0.out HW.out)).mono ?_;rintro e w2 ⟨v,rfl,hv,hb⟩;obtain ⟨A1,c1,rfl,hle,hF⟩:=V_slice hv;have HV:=Aside0.mk hF;have HB2:=Aside0.mk hb;have HLE:=Aside0.mk hle;clear hv hb hF hle)
    |(refine wl_store_row rfl rfl aggAnchor rfl rfl (HB.out.below HB2.out) rfl rfl dc_ ?_;intro w3 hB3 hO3;have HB3:=Aside0.mk hB3;have HO3:=Aside0.mk hO3;clear hB3 hO3))
   exact bodyPost_ret (v:=.agg #[.int .i64 0,.slice none 0 0]) (results_cell_row (P:=Try.prog) rfl _ _ g 193 _ (0,0) _ rfl HB3.out.out Try.underlying193 rfl kr_) rfl ⟨_,rfl,V_nil,(HW.out.trans (HB2.out.mono HW.out.size)).trans (HO3.out.below hg)⟩
  ·rw [if_neg (fun h=>h.elim he hl)] at hR2
   have hl':¬((ofB b).length:Int)<8:=by rw [len_ofB];omega
   have HR2:=Aside0.mk hR2
   have HL:=Aside0.mk hl
   clear he hl hR2
   go_enter Try.func149,Try.ntmps149
   go_wp2_with (first
    |(refine wl_alloc rfl rfl aggAnchor ?_;intro g w1 hB hg hw;have HB:=Aside0.mk hB;have HW:=Aside0.mk hw;clear hB hw)
    |(go_at_call 129;refine (HOpen.out _ _ _ (Kd.C_below HR0.out HW.out)).mono ?_;rintro e w2 ⟨v,rfl,hv,hb⟩;obtain ⟨A1,c1,rfl,hle,hF⟩:=V_slice hv;have HV:=Aside0.mk hF;have HB2:=Aside0.mk hb;have HLE:=Aside0.mk hle;clear hv hb hF hle)
    |(refine wl_store_row rfl rfl aggAnchor rfl rfl (HB.out.below HB2.out) rfl rfl dc_ ?_;intro w3 hB3 hO3;have HB3:=Aside0.mk hB3;have HO3:=Aside0.mk hO3;clear hB3 hO3))
   obtain ⟨N,hN⟩:∃N,N=leN (b.take 8):=⟨_,rfl⟩
   rw [←hN] at HR2
   have HN:=Aside0.mk hN
   clear hN
   go_loop [5,6] (fun v5 v6=>∃k n:Nat,k≤8∧v6=.int .i64 ((k:Int)-1)∧v5=.int .u64 (n:Int)∧n=leN ((b.take 8).drop k)) (fun v5 v6=>(intOf v6+1).toNat)
   case atStart=>exact ⟨8,0,by omega,rfl,rfl,by rw [List.drop_of_length_le (by rw [List.length_take];omega)];rfl⟩
   case round=>
    obtain ⟨k,n,hk,rfl,rfl,hn⟩:=hrel
    have Hn:=Aside0.mk hn
    clear hn
    rcases k with _|j
    ·have hnN:n=N:=by rw [Hn.out,HN.out];rfl
     subst hnN
     have em:(((0:Nat):Int)-1)= -1:=rfl
     rw [em]
     clear em Hn
     by_cases hz:n=0
     ·have hRz:=HR2.out
      rw [if_pos (Or.inl hz)] at hRz
      subst hRz
      have hzb:((n:Int)==0)=true:=by rw [beq_iff_eq];omega
      clear hz
      go_wp2_with (refine wl_store_row rfl rfl aggAnchor rfl rfl (HB.out.below HB2.out) rfl rfl dc_ ?_;intro w3 hB3 hO3;have HB3:=Aside0.mk hB3;have HO3:=Aside0.mk hO3;clear hB3 hO3)
      exact bodyPost_ret (v:=.agg #[.int .i64 0,.slice none 0 0]) (results_cell_row (P:=Try.prog) rfl _ _ g 193 _ (0,0) _ rfl HB3.out.out Try.underlying193 rfl kr_) rfl ⟨_,rfl,V_nil,(HW.out.trans (HB2.out.mono HW.out.size)).trans (HO3.out.below hg)⟩
     ·by_cases hm:9223372036854775807<n
      ·have hRz:=HR2.out
       rw [if_pos (Or.inr hm)] at hRz
       subst hRz
       have hzb:((n:Int)==0)=false:=by rw [beq_eq_false_iff_ne];omega
       have hmb:decide ((9223372036854775807:Int)<(n:Int))=true:=decide_eq_true om_
       clear hz hm
       go_wp2_with (refine wl_store_row rfl rfl aggAnchor rfl rfl (HB.out.below HB2.out) rfl rfl dc_ ?_;intro w3 hB3 hO3;have HB3:=Aside0.mk hB3;have HO3:=Aside0.mk hO3;clear hB3 hO3)
       exact bodyPost_ret (v:=.agg #[.int .i64 0,.slice none 0 0]) (results_cell_row (P:=Try.prog) rfl _ _ g 193 _ (0,0) _ rfl HB3.out.out Try.underlying193 rfl kr_) rfl ⟨_,rfl,V_nil,(HW.out.trans (HB2.out.mono HW.out.size)).trans (HO3.out.below hg)⟩
      ·have hRz:=HR2.out
       rw [if_neg (fun h=>h.elim hz hm)] at hRz
       subst hRz
       have hzb:((n:Int)==0)=false:=by rw [beq_eq_false_iff_ne];omega
       have hmb:decide ((9223372036854775807:Int)<(n:Int))=false:=decide_eq_false om_
       have Hm:=Aside0.mk hm
       clear hz hm
       have hw64:wrap64 (n:Int)=(n:Int):=by have:=Hm.out;unfold wrap64;omega
       obtain ⟨ad,e,_⟩:=C_byte (F_now HV.out) (Below.refl _ _) 0 (by have:=HL.out;rw [len_ofB];omega)
       subst e
       by_cases hc8:c1=8
       ·have hb8:b.length=8:=by have:=HLE.out;rw [len_ofB] at this;have:=HL.out;omega
        go_wp2_with (refine wl_store_row rfl rfl aggAnchor rfl rfl (HB.out.below HB2.out) rfl rfl (by intro v hv;simp at hv;rcases hv with rfl|rfl<;>rfl) ?_;intro w3 hB3 hO3;have HB3:=Aside0.mk hB3;have HO3:=Aside0.mk hO3;clear hB3 hO3)
        subst hc8
        have hV:=V_drop (e:=5) (base:=w1.heap.size) HV.out HLE.out 8 (by have:=HL.out;omega) (some ad) (Or.inr hb8)
        rw [←len_ofB b] at hV
        exact bodyPost_ret (v:=.agg #[.int .i64 (n:Int),.slice (some ad) ((ofB b).length-8) (0)]) (results_cell_row (P:=Try.prog) rfl _ _ g 193 _ (0,0) _ rfl HB3.out.out Try.underlying193 rfl kr_) rfl ⟨_,rfl,V_move hV (fun k hk hlt=>⟨Nat.le_trans HW.out.size hk,by rw [HO3.out.size];exact hlt,HO3.out.block k (by have:=HB.out.lt;omega)⟩),(HW.out.trans (HB2.out.mono HW.out.size)).trans (HO3.out.below hg)⟩
       ·go_wp2_with (refine wl_store_row rfl rfl aggAnchor rfl rfl (HB.out.below HB2.out) rfl rfl (by intro v hv;simp at hv;rcases hv with rfl|rfl<;>rfl) ?_;intro w3 hB3 hO3;have HB3:=Aside0.mk hB3;have HO3:=Aside0.mk hO3;clear hB3 hO3)
        have hV:=V_drop (e:=5) (base:=w1.heap.size) HV.out HLE.out 8 (by have:=HL.out;omega) (some (ad.add 8)) (Or.inl rfl)
        rw [←len_ofB b] at hV
        exact bodyPost_ret (v:=.agg #[.int .i64 (n:Int),.slice (some (ad.add 8)) ((ofB b).length-8) (c1-8)]) (results_cell_row (P:=Try.prog) rfl _ _ g 193 _ (0,0) _ rfl HB3.out.out Try.underlying193 rfl kr_) rfl ⟨_,rfl,V_move hV (fun k hk hlt=>⟨Nat.le_trans HW.out.size hk,by rw [HO3.out.size];exact hlt,HO3.out.block k (by have:=HB.out.lt;omega)⟩),(HW.out.trans (HB2.out.mono HW.out.size)).trans (HO3.out.below hg)⟩
    ·have ej:(((j+1:Nat):Int)-1)=(j:Int):=by omega
     rw [ej]
     clear ej
     have hlen:=HL.out
     obtain ⟨ad,e,hx⟩:=C_byte (F_now HV.out) (Below.refl _ _) j (by rw [len_ofB];omega)
     subst e
     have hjl:(j:Int)<((ofB b).length:Int):=by rw [len_ofB];omega
     clear hlen hl'
     go_wp2
     have hd:=leN_drop (b.take 8) j (by rw [List.length_take];have:=HL.out;omega)
     have hlt:=leN_lt ((b.take 8).drop (j+1))
     rw [←Hn.out] at hd hlt
     have hp:256^((b.take 8).drop (j+1)).length≤256^7:=Nat.pow_le_pow_right dc_ (by rw [List.length_drop,List.length_take];omega)
     have hg2:(b.take 8).getD j 0=b.getD j 0:=by
      rw [List.getD_eq_getElem?_getD,List.getD_eq_getElem?_getD,List.getElem?_take_of_lt om_]
     rw [hg2] at hd
     refine ⟨⟨j,(b.getD j 0).toNat+256*n,by omega,rfl, ?_,hd.symm⟩,by simp only [intOf];omega⟩
     have h7:(256:Nat)^7=72057594037927936:=by decide
     have:=bits_or_u64 n (b.getD j 0) om_
     rw [List.getD_eq_getElem?_getD] at this ⊢
     rw [this]
def slotF (m n:Nat):Int:=if m=0∧n=0 then-1 else if m<n then 1 else 0
def zPair:Array Value:=#[.int .i64 0,.slice none 0 0,.int .i64 0,.slice none 0 0]
theorem aggPair:Agg Try.prog 194 zPair:=⟨⟨_,Try.underlying194,rfl⟩,by kernel_rfl,by kernel_rfl⟩
def isV (w:World)(w0:World)(v:Value)(l:List UInt8):Prop:=Kd.V (Kd.int .u8) 5 w w0.heap.size (fun k_=>(w0.heap.size≤k_)) v (ofB l)
def RetPair (l r:List UInt8)(w:World)(e:Ending)(w':World):Prop:=
 if l.length=512∧r.length=512 then
  ∃v0 v1:Value,e=.returned (.tuple #[.agg #[.int .i64 (readF l).1,v0,.int .i64 (readF r).1,v1],.int .i64 (slotF (readF l).1 (readF r).1),.int .i64 0])∧isV w' w v0 (readF l).2∧isV w' w v1 (readF r).2∧Below w.heap.size w w'
 else e=.returned (.tuple #[.agg zPair,.int .i64 (-1),.int .i64 2])∧Below w.heap.size w w'
theorem results_cell3 {P:Program}{fn:Func}{p:Tmp}{ty:TypeId}{q r:Tmp}(h:fn.results=#[.cell p ty,.tmp q,.tmp r])(tmps:Array Value)(w:World)(g:Nat)(t:TypeId)(cs:Array Value)(fr:Nat×Nat)(d:TypeDesc)
  (hp:tmps.getD p undef=.pointer (some ⟨g,0,none⟩)) (hg:w.heap[g]?=some (.cells cs t fr))
  (hu:P.underlying ty=some d) (hd:(match d with|.struct _|.array _ _=>true|_=>false)=true) (hi:(P.info? ty).map (·.size)=some cs.size) {x y:Value} (hx:tmps.getD q undef=x) (hy:tmps.getD r undef=y):
  (results fn tmps).run P w=.ok (.tuple #[.agg cs,x,y]) w:=by
 have hp':tmps[p]?.getD undef=.pointer (some ⟨g,0,none⟩):=by simpa using hp
 have hx':tmps[q]?.getD undef=x:=by simpa using hx
 have hy':tmps[r]?.getD undef=y:=by simpa using hy
 simp [results,h,hp',hx',hy',asAddr,run_loadVar_row w g t ty cs fr d hg hu hd hi]
theorem pair_end {l r:List UInt8}{w w1 w2 w3 w4 w5:World}{g:Nat}{v0 v1:Value}{m n:Nat}{sl:Int}{t:TypeId}{z:Array Value}(hl:l.length=512∧r.length=512)(hm:m=(readF l).1)(hn:n=(readF r).1)(hs:slotF m n=sl)
  (hg:w.heap.size≤g) (hB:Blk w1 g z t) (hW:Below w.heap.size w w1) (hB2:Below w1.heap.size w1 w2) (hB3:Below w2.heap.size w2 w3) (hO4:Only g w3 w4) (hO5:Only g w4 w5)
  (hv0:Kd.V (Kd.int .u8) 5 w2 w1.heap.size (fun k_=>w1.heap.size≤k_) v0 (ofB (readF l).2)) (hv1:Kd.V (Kd.int .u8) 5 w3 w2.heap.size (fun k_=>w2.heap.size≤k_) v1 (ofB (readF r).2)):
  RetPair l r w (.returned (.tuple #[.agg #[.int .i64 (m:Int),v0,.int .i64 (n:Int),v1],.int .i64 sl,.int .i64 0])) w5:=by
 have hO:=hO4.trans hO5
 have hgl:=hB.lt
 unfold RetPair
 rw [if_pos hl]
 refine ⟨v0,v1,by rw [←hm,←hn,hs], ?_, ?_, ?_⟩
 ·refine V_move hv0 (fun k hk hlt=>⟨Nat.le_trans hW.size hk, ?_, ?_⟩)
  ·rw [hO.size];exact Nat.lt_of_lt_of_le hlt hB3.size
  ·rw [hO.block k om_];exact hB3.block k hlt
 ·refine V_move hv1 (fun k hk hlt=>⟨Nat.le_trans (Nat.le_trans hW.size hB2.size) hk, ?_, ?_⟩)
  ·rw [hO.size];exact hlt
  ·have:=hB2.size
   exact hO.block k om_
 ·have b2:=hW.trans (hB2.mono hW.size)
  have b3:=b2.trans (hB3.mono b2.size)
  exact b3.trans (hO.below hg)
set_option maxHeartbeats 1000000 in
set_option maxRecDepth 100000 in
theorem pair_any (w:World)(A0:Option Addr)(c0:Nat)(l:List UInt8)(A1:Option Addr)(c1:Nat)(r:List UInt8)(hr0:Kd.C (Kd.int .u8) w A0 (ofB l).length (ofB l))(hr1:Kd.C (Kd.int .u8) w A1 (ofB r).length (ofB r)):
  Calls Try.prog 136 #[.slice A0 (ofB l).length c0,.slice A1 (ofB r).length c1] w (RetPair l r w):=by
 have HR0:=Aside0.mk hr0
 have HR1:=Aside0.mk hr1
 clear hr0 hr1
 by_cases h:l.length=512∧r.length=512
 ·obtain ⟨RP,hRP⟩:∃RP,RP=RetPair l r w:=⟨_,rfl⟩
  rw [←hRP]
  have HRP:=Aside0.mk hRP
  clear hRP
  have h0:((((ofB l).length:Nat):Int) !=512)=false:=by rw [len_ofB,h.1];rfl
  have h1:((((ofB r).length:Nat):Int) !=512)=false:=by rw [len_ofB,h.2];rfl
  have HL:=Aside0.mk h
  obtain ⟨m,hm⟩:∃m,m=(readF l).1:=⟨_,rfl⟩
  obtain ⟨n,hn⟩:∃n,n=(readF r).1:=⟨_,rfl⟩
  have Hm:=Aside0.mk hm
  have Hn:=Aside0.mk hn
  clear h hm hn
  have tok1:True:=trivial
  have tok2:True:=trivial
  by_cases hmz:m=0
  ·have b0:((m:Int)==0)=true:=by rw [beq_iff_eq];omega
   by_cases hnz:n=0
   ·have b1:((n:Int)==0)=true:=by rw [beq_iff_eq];omega
    have HS:Aside0 (slotF m n= -1):=⟨by simp [slotF,hmz,hnz]⟩
    clear hmz hnz
    go_enter Try.func136,Try.ntmps136
    go_wp2_with (first
     |(refine wl_alloc rfl rfl aggPair ?_;intro g w1 hB hg hw;have HB:=Aside0.mk hB;have HW:=Aside0.mk hw;clear hB hw)
     |(have _t:=tok1;go_at_call 149;refine (read_any _ _ _ _ (Kd.C_below HR0.out HW.out)).mono ?_;rintro e w2 ⟨v0,rfl,hv,hb⟩;rw [←Hm.out];have HV0:=Aside0.mk hv;obtain ⟨A2,c2,rfl,_,_⟩:=V_slice hv;have HB2:=Aside0.mk hb;clear hv hb tok1)
     |(go_at_call 149;refine (read_any _ _ _ _ (Kd.C_below HR1.out (HW.out.trans (HB2.out.mono HW.out.size)))).mono ?_;rintro e w3 ⟨v1,rfl,hv,hb⟩;rw [←Hn.out];have HV1:=Aside0.mk hv;obtain ⟨A3,c3,rfl,_,_⟩:=V_slice hv;have HB3:=Aside0.mk hb;clear hv hb)
     |(have _t:=tok2;refine wl_store_row rfl rfl aggPair rfl rfl ((HB.out.below HB2.out).below HB3.out) rfl rfl (by intro v hv;simp at hv;rcases hv with rfl|rfl|rfl|rfl<;>rfl) ?_;intro w4 hB4 hO4;have HB4:=Aside0.mk hB4;have HO4:=Aside0.mk hO4;have hc0:=hB4.cell 0;have hc2:=hB4.cell 2;simp at hc0 hc2;clear hB4 hO4 tok2)
     |(refine wl_load_row rfl rfl aggPair rfl HB4.out rfl ?_)
     |(refine wl_store_row rfl rfl aggPair rfl rfl HB4.out rfl rfl (by intro v hv;simp at hv;rcases hv with rfl|rfl|rfl|rfl<;>rfl) ?_;intro w5 hB5 hO5;have HB5:=Aside0.mk hB5;have HO5:=Aside0.mk hO5;clear hB5 hO5))
    refine bodyPost_ret (v:=.tuple #[.agg #[.int .i64 (m:Int),.slice A2 (ofB (readF l).2).length c2,.int .i64 (n:Int),.slice A3 (ofB (readF r).2).length c3],.int .i64 (-1),.int .i64 0]) (results_cell3 (P:=Try.prog) rfl _ _ g 194 _ (0,0) _ rfl HB5.out.out Try.underlying194 rfl kr_ rfl rfl) rfl ?_
    rw [HRP.out]
    exact pair_end HL.out Hm.out Hn.out HS.out hg HB.out HW.out HB2.out HB3.out HO4.out HO5.out HV0.out HV1.out
   ·have b1:((n:Int)==0)=false:=by rw [beq_eq_false_iff_ne];omega
    have hmn:m<n:=by omega
    have HS:Aside0 (slotF m n=1):=⟨by simp [slotF,hmz,hnz]⟩
    clear hmz hnz
    go_enter Try.func136,Try.ntmps136
    go_wp2_with (first
     |(refine wl_alloc rfl rfl aggPair ?_;intro g w1 hB hg hw;have HB:=Aside0.mk hB;have HW:=Aside0.mk hw;clear hB hw)
     |(have _t:=tok1;go_at_call 149;refine (read_any _ _ _ _ (Kd.C_below HR0.out HW.out)).mono ?_;rintro e w2 ⟨v0,rfl,hv,hb⟩;rw [←Hm.out];have HV0:=Aside0.mk hv;obtain ⟨A2,c2,rfl,_,_⟩:=V_slice hv;have HB2:=Aside0.mk hb;clear hv hb tok1)
     |(go_at_call 149;refine (read_any _ _ _ _ (Kd.C_below HR1.out (HW.out.trans (HB2.out.mono HW.out.size)))).mono ?_;rintro e w3 ⟨v1,rfl,hv,hb⟩;rw [←Hn.out];have HV1:=Aside0.mk hv;obtain ⟨A3,c3,rfl,_,_⟩:=V_slice hv;have HB3:=Aside0.mk hb;clear hv hb)
     |(have _t:=tok2;refine wl_store_row rfl rfl aggPair rfl rfl ((HB.out.below HB2.out).below HB3.out) rfl rfl (by intro v hv;simp at hv;rcases hv with rfl|rfl|rfl|rfl<;>rfl) ?_;intro w4 hB4 hO4;have HB4:=Aside0.mk hB4;have HO4:=Aside0.mk hO4;have hc0:=hB4.cell 0;have hc2:=hB4.cell 2;simp at hc0 hc2;clear hB4 hO4 tok2)
     |(refine wl_load_row rfl rfl aggPair rfl HB4.out rfl ?_)
     |(refine wl_store_row rfl rfl aggPair rfl rfl HB4.out rfl rfl (by intro v hv;simp at hv;rcases hv with rfl|rfl|rfl|rfl<;>rfl) ?_;intro w5 hB5 hO5;have HB5:=Aside0.mk hB5;have HO5:=Aside0.mk hO5;clear hB5 hO5))
    refine bodyPost_ret (v:=.tuple #[.agg #[.int .i64 (m:Int),.slice A2 (ofB (readF l).2).length c2,.int .i64 (n:Int),.slice A3 (ofB (readF r).2).length c3],.int .i64 1,.int .i64 0]) (results_cell3 (P:=Try.prog) rfl _ _ g 194 _ (0,0) _ rfl HB5.out.out Try.underlying194 rfl kr_ rfl rfl) rfl ?_
    rw [HRP.out]
    exact pair_end HL.out Hm.out Hn.out HS.out hg HB.out HW.out HB2.out HB3.out HO4.out HO5.out HV0.out HV1.out
  ·have b0:((m:Int)==0)=false:=by rw [beq_eq_false_iff_ne];omega
   by_cases hlt:m<n
   ·have HS:Aside0 (slotF m n=1):=⟨by simp [slotF,hmz,hlt]⟩
    clear hmz
    go_enter Try.func136,Try.ntmps136
    go_wp2_with (first
     |(refine wl_alloc rfl rfl aggPair ?_;intro g w1 hB hg hw;have HB:=Aside0.mk hB;have HW:=Aside0.mk hw;clear hB hw)
     |(have _t:=tok1;go_at_call 149;refine (read_any _ _ _ _ (Kd.C_below HR0.out HW.out)).mono ?_;rintro e w2 ⟨v0,rfl,hv,hb⟩;rw [←Hm.out];have HV0:=Aside0.mk hv;obtain ⟨A2,c2,rfl,_,_⟩:=V_slice hv;have HB2:=Aside0.mk hb;clear hv hb tok1)
     |(go_at_call 149;refine (read_any _ _ _ _ (Kd.C_below HR1.out (HW.out.trans (HB2.out.mono HW.out.size)))).mono ?_;rintro e w3 ⟨v1,rfl,hv,hb⟩;rw [←Hn.out];have HV1:=Aside0.mk hv;obtain ⟨A3,c3,rfl,_,_⟩:=V_slice hv;have HB3:=Aside0.mk hb;clear hv hb)
     |(have _t:=tok2;refine wl_store_row rfl rfl aggPair rfl rfl ((HB.out.below HB2.out).below HB3.out) rfl rfl (by intro v hv;simp at hv;rcases hv with rfl|rfl|rfl|rfl<;>rfl) ?_;intro w4 hB4 hO4;have HB4:=Aside0.mk hB4;have HO4:=Aside0.mk hO4;have hc0:=hB4.cell 0;have hc2:=hB4.cell 2;simp at hc0 hc2;clear hB4 hO4 tok2)
     |(refine wl_load_row rfl rfl aggPair rfl HB4.out rfl ?_)
     |(refine wl_store_row rfl rfl aggPair rfl rfl HB4.out rfl rfl (by intro v hv;simp at hv;rcases hv with rfl|rfl|rfl|rfl<;>rfl) ?_;intro w5 hB5 hO5;have HB5:=Aside0.mk hB5;have HO5:=Aside0.mk hO5;clear hB5 hO5))
    refine bodyPost_ret (v:=.tuple #[.agg #[.int .i64 (m:Int),.slice A2 (ofB (readF l).2).length c2,.int .i64 (n:Int),.slice A3 (ofB (readF r).2).length c3],.int .i64 1,.int .i64 0]) (results_cell3 (P:=Try.prog) rfl _ _ g 194 _ (0,0) _ rfl HB5.out.out Try.underlying194 rfl kr_ rfl rfl) rfl ?_
    rw [HRP.out]
    exact pair_end HL.out Hm.out Hn.out HS.out hg HB.out HW.out HB2.out HB3.out HO4.out HO5.out HV0.out HV1.out
   ·have HS:Aside0 (slotF m n=0):=⟨by simp [slotF,hmz,hlt]⟩
    clear hmz
    go_enter Try.func136,Try.ntmps136
    go_wp2_with (first
     |(refine wl_alloc rfl rfl aggPair ?_;intro g w1 hB hg hw;have HB:=Aside0.mk hB;have HW:=Aside0.mk hw;clear hB hw)
     |(have _t:=tok1;go_at_call 149;refine (read_any _ _ _ _ (Kd.C_below HR0.out HW.out)).mono ?_;rintro e w2 ⟨v0,rfl,hv,hb⟩;rw [←Hm.out];have HV0:=Aside0.mk hv;obtain ⟨A2,c2,rfl,_,_⟩:=V_slice hv;have HB2:=Aside0.mk hb;clear hv hb tok1)
     |(go_at_call 149;refine (read_any _ _ _ _ (Kd.C_below HR1.out (HW.out.trans (HB2.out.mono HW.out.size)))).mono ?_;rintro e w3 ⟨v1,rfl,hv,hb⟩;rw [←Hn.out];have HV1:=Aside0.mk hv;obtain ⟨A3,c3,rfl,_,_⟩:=V_slice hv;have HB3:=Aside0.mk hb;clear hv hb)
     |(have _t:=tok2;refine wl_store_row rfl rfl aggPair rfl rfl ((HB.out.below HB2.out).below HB3.out) rfl rfl (by intro v hv;simp at hv;rcases hv with rfl|rfl|rfl|rfl<;>rfl) ?_;intro w4 hB4 hO4;have HB4:=Aside0.mk hB4;have HO4:=Aside0.mk hO4;have hc0:=hB4.cell 0;have hc2:=hB4.cell 2;simp at hc0 hc2;clear hB4 hO4 tok2)
     |(refine wl_load_row rfl rfl aggPair rfl HB4.out rfl ?_)
     |(refine wl_store_row rfl rfl aggPair rfl rfl HB4.out rfl rfl (by intro v hv;simp at hv;rcases hv with rfl|rfl|rfl|rfl<;>rfl) ?_;intro w5 hB5 hO5;have HB5:=Aside0.mk hB5;have HO5:=Aside0.mk hO5;clear hB5 hO5))
    refine bodyPost_ret (v:=.tuple #[.agg #[.int .i64 (m:Int),.slice A2 (ofB (readF l).2).length c2,.int .i64 (n:Int),.slice A3 (ofB (readF r).2).length c3],.int .i64 0,.int .i64 0]) (results_cell3 (P:=Try.prog) rfl _ _ g 194 _ (0,0) _ rfl HB5.out.out Try.underlying194 rfl kr_ rfl rfl) rfl ?_
    rw [HRP.out]
    exact pair_end HL.out Hm.out Hn.out HS.out hg HB.out HW.out HB2.out HB3.out HO4.out HO5.out HV0.out HV1.out
 ·have HRP:Aside0 (RetPair l r w=fun e w'=>e=.returned (.tuple #[.agg zPair,.int .i64 (-1),.int .i64 2])∧Below w.heap.size w w'):=⟨by funext e w';unfold RetPair;rw [if_neg h]⟩
  obtain ⟨RP,hRP⟩:∃RP,RP=RetPair l r w:=⟨_,rfl⟩
  rw [←hRP] at HRP ⊢
  clear hRP
  by_cases hl:l.length=512
  ·have h0:((((ofB l).length:Nat):Int) !=512)=false:=by rw [len_ofB,hl];rfl
   have h1:((((ofB r).length:Nat):Int) !=512)=true:=by rw [len_ofB,bne_iff_ne];omega
   clear h hl
   go_enter Try.func136,Try.ntmps136
   go_wp2_with (first
    |(refine wl_alloc rfl rfl aggPair ?_;intro g w1 hB hg hw;have HB:=Aside0.mk hB;have HW:=Aside0.mk hw;clear hB hw)
    |(refine wl_load_row rfl rfl aggPair rfl HB.out rfl ?_)
    |(refine wl_store_row rfl rfl aggPair rfl rfl HB.out rfl rfl dc_ ?_;intro w5 hB5 hO5;have HB5:=Aside0.mk hB5;have HO5:=Aside0.mk hO5;clear hB5 hO5))
   refine bodyPost_ret (v:=.tuple #[.agg zPair,.int .i64 (-1),.int .i64 2]) (results_cell3 (P:=Try.prog) rfl _ _ g 194 _ (0,0) _ rfl HB5.out.out Try.underlying194 rfl kr_ rfl rfl) rfl ?_
   rw [HRP.out]
   exact ⟨rfl,HW.out.trans (HO5.out.below hg)⟩
  ·have h0:((((ofB l).length:Nat):Int) !=512)=true:=by rw [len_ofB,bne_iff_ne];omega
   clear h hl
   go_enter Try.func136,Try.ntmps136
   go_wp2_with (first
    |(refine wl_alloc rfl rfl aggPair ?_;intro g w1 hB hg hw;have HB:=Aside0.mk hB;have HW:=Aside0.mk hw;clear hB hw)
    |(refine wl_load_row rfl rfl aggPair rfl HB.out rfl ?_)
    |(refine wl_store_row rfl rfl aggPair rfl rfl HB.out rfl rfl dc_ ?_;intro w5 hB5 hO5;have HB5:=Aside0.mk hB5;have HO5:=Aside0.mk hO5;clear hB5 hO5))
   refine bodyPost_ret (v:=.tuple #[.agg zPair,.int .i64 (-1),.int .i64 2]) (results_cell3 (P:=Try.prog) rfl _ _ g 194 _ (0,0) _ rfl HB5.out.out Try.underlying194 rfl kr_ rfl rfl) rfl ?_
   rw [HRP.out]
   exact ⟨rfl,HW.out.trans (HO5.out.below hg)⟩
def newestF (l r:List UInt8):Nat×Nat×List UInt8×Nat:=
 if l.length=512∧r.length=512 then
  if (readF l).1=0∧(readF r).1=0 then (0,0,[],30) else if (readF l).1<(readF r).1 then (1,(readF r).1,(readF r).2,0) else (0,(readF l).1,(readF l).2,0)
 else (0,0,[],2)
def Ret4 (a b:Int)(d:List Int)(n:Int)(w:World)(e:Ending)(w':World):Prop:=
 ∃v:Value,e=.returned (.tuple #[.int .i64 a,.int .i64 b,v,.int .i64 n])∧Kd.V (Kd.int .u8) 5 w' w.heap.size (fun k_=>(w.heap.size≤k_)) v d∧Below w.heap.size w w'
theorem results_tmp4 {P:Program}{fn:Func}{p q r t:Tmp}(h:fn.results=#[.tmp p,.tmp q,.tmp r,.tmp t])(tmps:Array Value)(w:World){a b c d:Value}(ha:tmps.getD p undef=a)(hb:tmps.getD q undef=b)(hc:tmps.getD r undef=c)(hd:tmps.getD t undef=d):
  (results fn tmps).run P w=.ok (.tuple #[a,b,c,d]) w:=by
 have ha':tmps[p]?.getD undef=a:=by simpa using ha
 have hb':tmps[q]?.getD undef=b:=by simpa using hb
 have hc':tmps[r]?.getD undef=c:=by simpa using hc
 have hd':tmps[t]?.getD undef=d:=by simpa using hd
 simp [results,h,ha',hb',hc',hd']
theorem fld0 (g k:Nat)(w:World):((Instr.fieldAt 193 (.pointer (some ⟨g,k,none⟩)) 0).run Try.prog w).andThen (fun a w'=>.ok (.value a) w')=.ok (Next.value (.pointer (some ⟨g,k,none⟩))) w:=by
 simp [Instr.fieldAt,run_underlying Try.underlying193,Instr.sureAddr,fieldPlace,Addr.add_lit]
theorem fld1 (g k:Nat)(w:World):((Instr.fieldAt 193 (.pointer (some ⟨g,k,none⟩)) 1).run Try.prog w).andThen (fun a w'=>.ok (.value a) w')=.ok (Next.value (.pointer (some ⟨g,k+1,none⟩))) w:=by
 simp [Instr.fieldAt,run_underlying Try.underlying193,Instr.sureAddr,fieldPlace,Addr.add_lit]
set_option maxHeartbeats 1000000 in
set_option maxRecDepth 100000 in
theorem newest_any (w:World)(A0:Option Addr)(c0:Nat)(l:List UInt8)(A1:Option Addr)(c1:Nat)(r:List UInt8)(hr0:Kd.C (Kd.int .u8) w A0 (ofB l).length (ofB l))(hr1:Kd.C (Kd.int .u8) w A1 (ofB r).length (ofB r)):
  Calls Try.prog 98 #[.slice A0 (ofB l).length c0,.slice A1 (ofB r).length c1] w (Ret4 (newestF l r).1 (newestF l r).2.1 (ofB (newestF l r).2.2.1) (newestF l r).2.2.2 w):=by
 have HP:=Aside0.mk (pair_any w A0 c0 l A1 c1 r hr0 hr1)
 clear hr0 hr1
 by_cases h:l.length=512∧r.length=512
 ·have e0:RetPair l r w=fun e w'=>∃v0 v1:Value,e=.returned (.tuple #[.agg #[.int .i64 (readF l).1,v0,.int .i64 (readF r).1,v1],.int .i64 (slotF (readF l).1 (readF r).1),.int .i64 0])∧isV w' w v0 (readF l).2∧isV w' w v1 (readF r).2∧Below w.heap.size w w':=by
   funext e w';unfold RetPair;rw [if_pos h]
  rw [e0] at HP
  obtain ⟨m,hm⟩:∃m,m=(readF l).1:=⟨_,rfl⟩
  obtain ⟨n,hn⟩:∃n,n=(readF r).1:=⟨_,rfl⟩
  by_cases hz:m=0∧n=0
  ·have eF:newestF l r=(0,0,[],30):=by unfold newestF;rw [if_pos h,←hm,←hn,if_pos hz]
   have eS:slotF (readF l).1 (readF r).1= -1:=by rw [←hm,←hn];simp [slotF,hz]
   rw [eF]
   rw [eS] at HP
   clear eF eS hz hm hn e0
   go_enter Try.func98,Try.ntmps98
   go_wp2_with (first
    |(go_at_call 136;refine HP.out.mono ?_;rintro e w1 ⟨v0,v1,rfl,hv0,hv1,hb⟩;have HV0:=Aside0.mk hv0;have HV1:=Aside0.mk hv1;obtain ⟨A2,c2,rfl,_,_⟩:=V_slice hv0;obtain ⟨A3,c3,rfl,_,_⟩:=V_slice hv1;have HB1:=Aside0.mk hb;clear hv0 hv1 hb)
    |(refine wl_alloc rfl rfl aggPair ?_;intro g w2 hB hg hw;have HB:=Aside0.mk hB;have HW:=Aside0.mk hw;clear hB hw)
    |(refine wl_store_row rfl rfl aggPair rfl rfl HB.out rfl rfl (by intro v hv;simp at hv;rcases hv with rfl|rfl|rfl|rfl<;>rfl) ?_;intro w4 hB4 hO4;have HB4:=Aside0.mk hB4;have HO4:=Aside0.mk hO4;have hc0:=hB4.cell 0;have hc1:=hB4.cell 1;have hc2:=hB4.cell 2;have hc3:=hB4.cell 3;simp at hc0 hc1 hc2 hc3;clear hB4 hO4))
   exact bodyPost_ret (v:=.tuple #[.int .i64 0,.int .i64 0,.slice none 0 0,.int .i64 30]) (results_tmp4 rfl _ _ rfl rfl rfl rfl) rfl ⟨_,rfl,V_nil,(HB1.out.trans (HW.out.mono HB1.out.size)).trans (HO4.out.below (Nat.le_trans HB1.out.size hg))⟩
  ·by_cases hlt:m<n
   ·have eF:newestF l r=(1,n,(readF r).2,0):=by unfold newestF;rw [if_pos h,←hm,←hn,if_neg hz,if_pos hlt]
    have eS:slotF (readF l).1 (readF r).1=1:=by rw [←hm,←hn];simp only [slotF];rw [if_neg hz,if_pos hlt]
    rw [eF]
    rw [eS,←hm,←hn] at HP
    clear eF eS hz hm hn e0 hlt
    go_enter Try.func98,Try.ntmps98
    go_wp2_with (first
     |(go_at_call 136;refine HP.out.mono ?_;rintro e w1 ⟨v0,v1,rfl,hv0,hv1,hb⟩;have HV0:=Aside0.mk hv0;have HV1:=Aside0.mk hv1;obtain ⟨A2,c2,rfl,_,_⟩:=V_slice hv0;obtain ⟨A3,c3,rfl,_,_⟩:=V_slice hv1;have HB1:=Aside0.mk hb;clear hv0 hv1 hb)
     |(refine wl_alloc rfl rfl aggPair ?_;intro g w2 hB hg hw;have HB:=Aside0.mk hB;have HW:=Aside0.mk hw;clear hB hw)
     |(refine wl_store_row rfl rfl aggPair rfl rfl HB.out rfl rfl (by intro v hv;simp at hv;rcases hv with rfl|rfl|rfl|rfl<;>rfl) ?_;intro w4 hB4 hO4;have HB4:=Aside0.mk hB4;have HO4:=Aside0.mk hO4;have hc0:=hB4.cell 0;have hc1:=hB4.cell 1;have hc2:=hB4.cell 2;have hc3:=hB4.cell 3;simp at hc0 hc1 hc2 hc3;clear hB4 hO4))
    refine wp_region_told 13 (fun w3=>Below w4.heap.size w4 w3) (ListS [.int .i64 1,.int .i64 1,.pointer (some ⟨g,2,none⟩),.pointer (some ⟨g,2,none⟩),.int .i64 (n:Int),.int .i64 1,.pointer (some ⟨g,2,none⟩),.pointer (some ⟨g,3,none⟩),.slice A3 (ofB (readF r).2).length c3,.int .i64 1,.int .i64 (n:Int),.slice A3 (ofB (readF r).2).length c3,.int .i64 0]) kr_ kr_ kr_ (Below.refl _ _).drew (fun _ _ _ _ _ h=>h) ?_ ?_
    ·intro i vals w1 hi hc hd
     have D:∀k,waitsAt _ i k=true→vals k=_:=fun k hw=>hd k hw
     rcases i with _|_|_|_|_|_|_|_|_|_|_|_|_|i
     rotate_right 1
     ·exact absurd hi (Nat.not_lt.2 (Nat.le_add_left 13 i))
     ·exact StepOK.move (x:=.tmp 9) (.free kr_) hc ((look_miss kr_ kr_).trans rfl) rfl
     ·exact StepOK.move (x:=.tmp 9) (.free kr_) hc ((look_miss kr_ kr_).trans rfl) rfl
     ·exact StepOK.atArrN (T:=194) (x:=.tmp 8) (y:=.tmp 26) (k:=1) (sz:=2) (g:=g) (.free kr_) hc kr_ kr_ ((look_miss kr_ kr_).trans rfl) ((look_hit (k:=1) kr_ kr_).trans (D 1 kr_)) kr_ rfl
     ·exact StepOK.fieldP (T:=193) (x:=.tmp 27) (f:=0) (g:=g) (k:=2) (k':=2) (.free kr_) hc ((look_hit (k:=2) kr_ kr_).trans (D 2 kr_)) (fld0 g 2 w1) rfl
     ·exact StepOK.load (T:=3) (x:=.tmp 28) (.free kr_) hc rfl Try.underlying3 ((look_hit (k:=3) kr_ kr_).trans (D 3 kr_)) (cell_below hc hc2) rfl
     ·exact StepOK.move (x:=.tmp 9) (.free kr_) hc ((look_miss kr_ kr_).trans rfl) rfl
     ·exact StepOK.atArrN (T:=194) (x:=.tmp 8) (y:=.tmp 30) (k:=1) (sz:=2) (g:=g) (.free kr_) hc kr_ kr_ ((look_miss kr_ kr_).trans rfl) ((look_hit (k:=5) kr_ kr_).trans (D 5 kr_)) kr_ rfl
     ·exact StepOK.fieldP (T:=193) (x:=.tmp 31) (f:=1) (g:=g) (k:=2) (k':=3) (.free kr_) hc ((look_hit (k:=6) kr_ kr_).trans (D 6 kr_)) (fld1 g 2 w1) rfl
     ·exact StepOK.load (T:=31) (x:=.tmp 32) (.free kr_) hc rfl Try.underlying31 ((look_hit (k:=7) kr_ kr_).trans (D 7 kr_)) (cell_below hc hc3) rfl
     ·exact StepOK.assign (x:=.tmp 25) (.free kr_) hc ((look_hit (k:=0) kr_ kr_).trans (D 0 kr_)) rfl
     ·exact StepOK.assign (x:=.tmp 29) (.free kr_) hc ((look_hit (k:=4) kr_ kr_).trans (D 4 kr_)) rfl
     ·exact StepOK.assign (x:=.tmp 33) (.free kr_) hc ((look_hit (k:=8) kr_ kr_).trans (D 8 kr_)) rfl
     ·exact StepOK.assign (x:=.const (.int .i64 0)) (.free kr_) hc (look_const kr_) rfl
    ·intro vals w3 hc hS
     have f4:vals 9=.int .i64 1:=hS 9 dc_
     have f5:vals 10=.int .i64 (n:Int):=hS 10 dc_
     have f6:vals 11=.slice A3 (ofB (readF r).2).length c3:=hS 11 dc_
     have f7:vals 12=.int .i64 0:=hS 12 dc_
     refine wl_frame ⟨#[.slice A0 (ofB l).length c0,.slice A1 (ofB r).length c1,undef,undef,vals 9,vals 10,vals 11,vals 12,.pointer (some ⟨g,0,none⟩),.int .i64 1,.int .i64 0,.tuple #[.agg #[.int .i64 (m:Int),.slice A2 (ofB (readF l).2).length c2,.int .i64 (n:Int),.slice A3 (ofB (readF r).2).length c3],.int .i64 1,.int .i64 0],.slice A0 (ofB l).length c0,.slice A1 (ofB r).length c1,.tuple #[.agg #[.int .i64 (m:Int),.slice A2 (ofB (readF l).2).length c2,.int .i64 (n:Int),.slice A3 (ofB (readF r).2).length c3],.int .i64 1,.int .i64 0],.agg #[.int .i64 (m:Int),.slice A2 (ofB (readF l).2).length c2,.int .i64 (n:Int),.slice A3 (ofB (readF r).2).length c3],.int .i64 1,.int .i64 0,.bool false,.int .i64 0,.bool false,undef,.bool false,.int .i64 1,.bool false,vals 0,vals 1,vals 2,vals 3,vals 4,vals 5,vals 6,vals 7,vals 8],[]⟩ kr_ ?_
     rw [f4,f5,f6,f7]
     go_wp2
     refine bodyPost_ret (v:=.tuple #[.int .i64 1,.int .i64 (n:Int),.slice A3 (ofB (readF r).2).length c3,.int .i64 0]) (results_tmp4 rfl _ _ rfl rfl rfl rfl) rfl ?_
     ·exact ⟨_,rfl,V_move HV1.out (fun k hk hlt=>⟨hk,by have h1:=HW.out.size;have h2:=HO4.out.size;have h3:=hc.size;omega,by rw [hc.block k (by have h1:=HW.out.size;have h2:=HO4.out.size;omega),HO4.out.block k om_,HW.out.block k hlt]⟩),((HB1.out.trans (HW.out.mono HB1.out.size)).trans (HO4.out.below (Nat.le_trans HB1.out.size hg))).trans (hc.mono (by have h0:=HB1.out.size;have h1:=HW.out.size;have h2:=HO4.out.size;omega))⟩
   ·have eF:newestF l r=(0,m,(readF l).2,0):=by unfold newestF;rw [if_pos h,←hm,←hn,if_neg hz,if_neg hlt]
    have eS:slotF (readF l).1 (readF r).1=0:=by rw [←hm,←hn];simp only [slotF];rw [if_neg hz,if_neg hlt]
    rw [eF]
    rw [eS,←hm,←hn] at HP
    clear eF eS hz hm hn e0 hlt
    go_enter Try.func98,Try.ntmps98
    go_wp2_with (first
     |(go_at_call 136;refine HP.out.mono ?_;rintro e w1 ⟨v0,v1,rfl,hv0,hv1,hb⟩;have HV0:=Aside0.mk hv0;have HV1:=Aside0.mk hv1;obtain ⟨A2,c2,rfl,_,_⟩:=V_slice hv0;obtain ⟨A3,c3,rfl,_,_⟩:=V_slice hv1;have HB1:=Aside0.mk hb;clear hv0 hv1 hb)
     |(refine wl_alloc rfl rfl aggPair ?_;intro g w2 hB hg hw;have HB:=Aside0.mk hB;have HW:=Aside0.mk hw;clear hB hw)
     |(refine wl_store_row rfl rfl aggPair rfl rfl HB.out rfl rfl (by intro v hv;simp at hv;rcases hv with rfl|rfl|rfl|rfl<;>rfl) ?_;intro w4 hB4 hO4;have HB4:=Aside0.mk hB4;have HO4:=Aside0.mk hO4;have hc0:=hB4.cell 0;have hc1:=hB4.cell 1;have hc2:=hB4.cell 2;have hc3:=hB4.cell 3;simp at hc0 hc1 hc2 hc3;clear hB4 hO4))
    refine wp_region_told 13 (fun w3=>Below w4.heap.size w4 w3) (ListS [.int .i64 0,.int .i64 0,.pointer (some ⟨g,0,none⟩),.pointer (some ⟨g,0,none⟩),.int .i64 (m:Int),.int .i64 0,.pointer (some ⟨g,0,none⟩),.pointer (some ⟨g,1,none⟩),.slice A2 (ofB (readF l).2).length c2,.int .i64 0,.int .i64 (m:Int),.slice A2 (ofB (readF l).2).length c2,.int .i64 0]) kr_ kr_ kr_ (Below.refl _ _).drew (fun _ _ _ _ _ h=>h) ?_ ?_
    ·intro i vals w1 hi hc hd
     have D:∀k,waitsAt _ i k=true→vals k=_:=fun k hw=>hd k hw
     rcases i with _|_|_|_|_|_|_|_|_|_|_|_|_|i
     rotate_right 1
     ·exact absurd hi (Nat.not_lt.2 (Nat.le_add_left 13 i))
     ·exact StepOK.move (x:=.tmp 9) (.free kr_) hc ((look_miss kr_ kr_).trans rfl) rfl
     ·exact StepOK.move (x:=.tmp 9) (.free kr_) hc ((look_miss kr_ kr_).trans rfl) rfl
     ·exact StepOK.atArrN (T:=194) (x:=.tmp 8) (y:=.tmp 26) (k:=0) (sz:=2) (g:=g) (.free kr_) hc kr_ kr_ ((look_miss kr_ kr_).trans rfl) ((look_hit (k:=1) kr_ kr_).trans (D 1 kr_)) kr_ rfl
     ·exact StepOK.fieldP (T:=193) (x:=.tmp 27) (f:=0) (g:=g) (k:=0) (k':=0) (.free kr_) hc ((look_hit (k:=2) kr_ kr_).trans (D 2 kr_)) (fld0 g 0 w1) rfl
     ·exact StepOK.load (T:=3) (x:=.tmp 28) (.free kr_) hc rfl Try.underlying3 ((look_hit (k:=3) kr_ kr_).trans (D 3 kr_)) (cell_below hc hc0) rfl
     ·exact StepOK.move (x:=.tmp 9) (.free kr_) hc ((look_miss kr_ kr_).trans rfl) rfl
     ·exact StepOK.atArrN (T:=194) (x:=.tmp 8) (y:=.tmp 30) (k:=0) (sz:=2) (g:=g) (.free kr_) hc kr_ kr_ ((look_miss kr_ kr_).trans rfl) ((look_hit (k:=5) kr_ kr_).trans (D 5 kr_)) kr_ rfl
     ·exact StepOK.fieldP (T:=193) (x:=.tmp 31) (f:=1) (g:=g) (k:=0) (k':=1) (.free kr_) hc ((look_hit (k:=6) kr_ kr_).trans (D 6 kr_)) (fld1 g 0 w1) rfl
     ·exact StepOK.load (T:=31) (x:=.tmp 32) (.free kr_) hc rfl Try.underlying31 ((look_hit (k:=7) kr_ kr_).trans (D 7 kr_)) (cell_below hc hc1) rfl
     ·exact StepOK.assign (x:=.tmp 25) (.free kr_) hc ((look_hit (k:=0) kr_ kr_).trans (D 0 kr_)) rfl
     ·exact StepOK.assign (x:=.tmp 29) (.free kr_) hc ((look_hit (k:=4) kr_ kr_).trans (D 4 kr_)) rfl
     ·exact StepOK.assign (x:=.tmp 33) (.free kr_) hc ((look_hit (k:=8) kr_ kr_).trans (D 8 kr_)) rfl
     ·exact StepOK.assign (x:=.const (.int .i64 0)) (.free kr_) hc (look_const kr_) rfl
    ·intro vals w3 hc hS
     have f4:vals 9=.int .i64 0:=hS 9 dc_
     have f5:vals 10=.int .i64 (m:Int):=hS 10 dc_
     have f6:vals 11=.slice A2 (ofB (readF l).2).length c2:=hS 11 dc_
     have f7:vals 12=.int .i64 0:=hS 12 dc_
     refine wl_frame ⟨#[.slice A0 (ofB l).length c0,.slice A1 (ofB r).length c1,undef,undef,vals 9,vals 10,vals 11,vals 12,.pointer (some ⟨g,0,none⟩),.int .i64 0,.int .i64 0,.tuple #[.agg #[.int .i64 (m:Int),.slice A2 (ofB (readF l).2).length c2,.int .i64 (n:Int),.slice A3 (ofB (readF r).2).length c3],.int .i64 0,.int .i64 0],.slice A0 (ofB l).length c0,.slice A1 (ofB r).length c1,.tuple #[.agg #[.int .i64 (m:Int),.slice A2 (ofB (readF l).2).length c2,.int .i64 (n:Int),.slice A3 (ofB (readF r).2).length c3],.int .i64 0,.int .i64 0],.agg #[.int .i64 (m:Int),.slice A2 (ofB (readF l).2).length c2,.int .i64 (n:Int),.slice A3 (ofB (readF r).2).length c3],.int .i64 0,.int .i64 0,.bool false,.int .i64 0,.bool false,undef,.bool false,.int .i64 0,.bool false,vals 0,vals 1,vals 2,vals 3,vals 4,vals 5,vals 6,vals 7,vals 8],[]⟩ kr_ ?_
     rw [f4,f5,f6,f7]
     go_wp2
     refine bodyPost_ret (v:=.tuple #[.int .i64 0,.int .i64 (m:Int),.slice A2 (ofB (readF l).2).length c2,.int .i64 0]) (results_tmp4 rfl _ _ rfl rfl rfl rfl) rfl ?_
     ·exact ⟨_,rfl,V_move HV0.out (fun k hk hlt=>⟨hk,by have h1:=HW.out.size;have h2:=HO4.out.size;have h3:=hc.size;omega,by rw [hc.block k (by have h1:=HW.out.size;have h2:=HO4.out.size;omega),HO4.out.block k om_,HW.out.block k hlt]⟩),((HB1.out.trans (HW.out.mono HB1.out.size)).trans (HO4.out.below (Nat.le_trans HB1.out.size hg))).trans (hc.mono (by have h0:=HB1.out.size;have h1:=HW.out.size;have h2:=HO4.out.size;omega))⟩
 ·have e0:RetPair l r w=fun e w'=>e=.returned (.tuple #[.agg zPair,.int .i64 (-1),.int .i64 2])∧Below w.heap.size w w':=by
   funext e w';unfold RetPair;rw [if_neg h]
  rw [e0] at HP
  have eF:newestF l r=(0,0,[],2):=by unfold newestF;rw [if_neg h]
  rw [eF]
  clear eF e0 h
  go_enter Try.func98,Try.ntmps98
  go_wp2_with (first
   |(go_at_call 136;refine HP.out.mono ?_;rintro e w1 ⟨rfl,hb⟩;have HB1:=Aside0.mk hb;clear hb)
   |(refine wl_alloc rfl rfl aggPair ?_;intro g w2 hB hg hw;have HB:=Aside0.mk hB;have HW:=Aside0.mk hw;clear hB hw)
   |(refine wl_store_row rfl rfl aggPair rfl rfl HB.out rfl rfl dc_ ?_;intro w4 hB4 hO4;have HB4:=Aside0.mk hB4;have HO4:=Aside0.mk hO4;clear hB4 hO4))
  exact bodyPost_ret (v:=.tuple #[.int .i64 0,.int .i64 0,.slice none 0 0,.int .i64 2]) (results_tmp4 rfl _ _ rfl rfl rfl rfl) rfl ⟨_,rfl,V_nil,(HB1.out.trans (HW.out.mono HB1.out.size)).trans (HO4.out.below (Nat.le_trans HB1.out.size hg))⟩
def le8 (no:Int):List UInt8:=(List.range 8).map fun i=>UInt8.ofNat ((no/2^(8*i))%256).toNat
def renewF (l r:List UInt8)(no:Int)(data:List UInt8):Nat×List UInt8×Nat:=
 if¬(l.length=512∧r.length=512) then (0,[],2)
 else if no<1 then (0,[],1)
 else if 496<data.length then (0,[],7)
 else if (newestF l r).2.2.2=0∧no≤((newestF l r).2.1:Int) then (0,[],31)
 else if (newestF l r).2.2.2=0∧(newestF l r).1=0 then (1,(sealF r (le8 no++data)).1,(sealF r (le8 no++data)).2)
 else (0,(sealF l (le8 no++data)).1,(sealF l (le8 no++data)).2)
theorem results_tmp3 {P:Program}{fn:Func}{p q r:Tmp}(h:fn.results=#[.tmp p,.tmp q,.tmp r])(tmps:Array Value)(w:World){a b c:Value}(ha:tmps.getD p undef=a)(hb:tmps.getD q undef=b)(hc:tmps.getD r undef=c):
  (results fn tmps).run P w=.ok (.tuple #[a,b,c]) w:=by
 have ha':tmps[p]?.getD undef=a:=by simpa using ha
 have hb':tmps[q]?.getD undef=b:=by simpa using hb
 have hc':tmps[r]?.getD undef=c:=by simpa using hc
 simp [results,h,ha',hb',hc']
structure PairOK (l r:List UInt8)(m n:Nat)(sl:Int):Prop where
 len:l.length=512∧r.length=512
 hm:m=(readF l).1
 hn:n=(readF r).1
 hsl:slotF m n=sl
theorem pair_told {l r:List UInt8}{m n:Nat}{sl:Int}(h:PairOK l r m n sl)(w:World):RetPair l r w=fun e w'=>∃v0 v1:Value,e=.returned (.tuple #[.agg #[.int .i64 (m:Int),v0,.int .i64 (n:Int),v1],.int .i64 sl,.int .i64 0])∧isV w' w v0 (readF l).2∧isV w' w v1 (readF r).2∧Below w.heap.size w w':=by
 funext e w';unfold RetPair;rw [if_pos h.len,←h.hm,←h.hn,h.hsl]
theorem slot_three (m n:Nat):slotF m n= -1∨slotF m n=0∨slotF m n=1:=by
 unfold slotF
 split
 ·exact .inl rfl
 ·split
  ·exact .inr (.inr rfl)
  ·exact .inr (.inl rfl)
theorem newest_none {l r:List UInt8}{m n:Nat}(h:PairOK l r m n (-1)):newestF l r=(0,0,[],30):=by
 have hs:=h.hsl
 unfold slotF at hs
 unfold newestF
 rw [if_pos h.len,←h.hm,←h.hn]
 split at hs
 ·rename_i hz;rw [if_pos hz]
 ·split at hs<;>cases hs
theorem newest_left {l r:List UInt8}{m n:Nat}(h:PairOK l r m n 0):newestF l r=(0,m,(readF l).2,0):=by
 have hs:=h.hsl
 unfold slotF at hs
 unfold newestF
 rw [if_pos h.len,←h.hm,←h.hn]
 split at hs
 ·cases hs
 ·rename_i hz
  split at hs
  ·cases hs
  ·rename_i hlt;rw [if_neg hz,if_neg hlt]
theorem newest_right {l r:List UInt8}{m n:Nat}(h:PairOK l r m n 1):newestF l r=(1,n,(readF r).2,0):=by
 have hs:=h.hsl
 unfold slotF at hs
 unfold newestF
 rw [if_pos h.len,←h.hm,←h.hn]
 split at hs
 ·cases hs
 ·rename_i hz
  split at hs
  ·rename_i hlt;rw [if_neg hz,if_pos hlt]
  ·cases hs
theorem renew_mid {l r:List UInt8}{no:Int}{d:List UInt8}(h:l.length=512∧r.length=512)(h1:¬no<1)(h2:¬496<d.length):renewF l r no d=if (newestF l r).2.2.2=0∧no≤((newestF l r).2.1:Int) then (0,[],31)
 else if (newestF l r).2.2.2=0∧(newestF l r).1=0 then (1,(sealF r (le8 no++d)).1,(sealF r (le8 no++d)).2)
 else (0,(sealF l (le8 no++d)).1,(sealF l (le8 no++d)).2):=by
 unfold renewF
 rw [if_neg (fun hh=>hh h),if_neg h1,if_neg h2]
section
section
variable {F:Nat→Prop}{w0 w:World}{L:List Ast}
theorem ps_seal {A B:Option Addr}{a b:List UInt8}{ca cb:Nat}(S:St F w0 w L)(ha:RoT F w0 L A a)(hb:RoT F w0 L B b)(hma:a.length≤9223372036854775807)(hmb:b.length≤9223372036854775807):Calls Try.prog 40 #[.slice A a.length ca,.slice B b.length cb] w fun e w'=>∃v,e=.returned (.tuple #[v,.int .i64 ((sealF a b).2:Int)])∧St F w0 w' (bytesX v (sealF a b).1::L):=by
 have h:=seal_any w A ca a B cb b (ha.to_C S hma) (hb.to_C S hmb)
 rw [len_ofB,len_ofB] at h
 exact h.mono fun e w' ⟨v,h1,h2,h3⟩=>⟨v,h1,S.lift h3 h2⟩
theorem ps_open {A:Option Addr}{a:List UInt8}{ca:Nat}(S:St F w0 w L)(ha:RoT F w0 L A a)(hma:a.length≤9223372036854775807):Calls Try.prog 129 #[.slice A a.length ca] w fun e w'=>∃v,e=.returned (.tuple #[v,.int .i64 ((openF a).2:Int)])∧St F w0 w' (bytesX v (openF a).1::L):=by
 have h:=open_any w A ca a (ha.to_C S hma)
 rw [len_ofB] at h
 exact h.mono fun e w' ⟨v,h1,h2,h3⟩=>⟨v,h1,S.lift h3 h2⟩
theorem ps_newest {A B:Option Addr}{a b:List UInt8}{ca cb:Nat}(S:St F w0 w L)(ha:RoT F w0 L A a)(hb:RoT F w0 L B b)(hma:a.length≤9223372036854775807)(hmb:b.length≤9223372036854775807):Calls Try.prog 98 #[.slice A a.length ca,.slice B b.length cb] w fun e w'=>∃v,e=.returned (.tuple #[.int .i64 ((newestF a b).1:Int),.int .i64 ((newestF a b).2.1:Int),v,.int .i64 ((newestF a b).2.2.2:Int)])∧St F w0 w' (bytesX v (newestF a b).2.2.1::L):=by
 have h:=newest_any w A ca a B cb b (ha.to_C S hma) (hb.to_C S hmb)
 rw [len_ofB,len_ofB] at h
 exact h.mono fun e w' ⟨v,h1,h2,h3⟩=>⟨v,h1,S.lift h3 h2⟩
theorem ps_pair {A B:Option Addr}{a b:List UInt8}{ca cb:Nat}{m n:Nat}{sl:Int}(S:St F w0 w L)(ha:RoT F w0 L A a)(hb:RoT F w0 L B b)(hl:a.length=512∧b.length=512)(hm:m=(readF a).1)(hn:n=(readF b).1)(hs:slotF m n=sl):Calls Try.prog 136 #[.slice A a.length ca,.slice B b.length cb] w fun e w'=>∃v0 v1:Value,e=.returned (.tuple #[.agg #[.int .i64 (m:Int),v0,.int .i64 (n:Int),v1],.int .i64 sl,.int .i64 0])∧v0.oneCell'=true∧v1.oneCell'=true∧St F w0 w' L:=by
 have h:=pair_any w A ca a B cb b (ha.to_C S om_) (hb.to_C S om_)
 rw [len_ofB,len_ofB] at h
 refine h.mono fun e w' h=> ?_
 rw [pair_told ⟨hl,hm,hn,hs⟩] at h
 obtain ⟨v0,v1,h1,h2,h3,h4⟩:=h
 refine ⟨v0,v1,h1, ?_, ?_,S.below h4⟩
 ·obtain ⟨A',c',e,_⟩:=V_slice h2;rw [e];rfl
 ·obtain ⟨A',c',e,_⟩:=V_slice h3;rw [e];rfl
end
end
end Go.Proofs
end
section
open Go Go.RowKit Go.Proofs.YtgeioealgidkiaaW.PrintWords Go.Proofs.YtgeioealgidkiaaW.PrintMore
namespace Go.Proofs
open Go.Vel
set_option linter.unusedVariables false
structure Pc where
 epoch:Nat
 pos:Nat
 idx:Nat
 cnt:Nat
 data:List UInt8
def numN (b:List UInt8)(at_ n:Nat):Nat:=leN ((b.drop at_).take n)
def pcOf (b:List UInt8):Pc:=⟨numN b 0 4,numN b 4 4,numN b 8 2,numN b 10 2,b.drop 12⟩
def pcNo:Pc:=⟨0,0,0,0,[]⟩
def pcF (sec:List UInt8):Pc:=if (openF sec).2=0∧12≤(openF sec).1.length then pcOf (openF sec).1 else pcNo
theorem openF_len (s:List UInt8):(openF s).1.length≤504:=by
 unfold openF
 split
 ·exact Nat.zero_le _
 ·split
  ·exact Nat.zero_le _
  ·split
   ·rw [List.length_take];omega
   ·exact Nat.zero_le _
theorem pcF_data (s:List UInt8):(pcF s).data.length≤492:=by
 have h:=openF_len s
 unfold pcF
 split
 ·show ((openF s).1.drop 12).length≤492;rw [List.length_drop];omega
 ·exact Nat.zero_le _
structure Pc.Part (q:Pc)(epoch p i c:Nat):Prop where
 data:q.data≠[]
 epoch:q.epoch=epoch
 pos:q.pos=p
 idx:q.idx=i
 cnt:q.cnt=c
 full:i+1=c∨q.data.length=492
def catF (pc:Nat→Pc)(p c:Nat):List UInt8:=((List.range c).map fun j=>(pc (p+j)).data).flatten
theorem catF_succ (pc:Nat→Pc)(p c:Nat):catF pc p (c+1)=catF pc p c++(pc (p+c)).data:=by
 unfold catF
 rw [List.range_succ,List.map_append,List.flatten_append];simp
structure IsRec (pc:Nat→Pc)(epoch p c:Nat):Prop where
 c1:1≤c
 c17:c≤17
 cnt:(pc p).cnt=c
 part:∀j,j<c→(pc (p+j)).Part epoch (p+j) j c
inductive Recs (pc:Nat→Pc)(epoch a:Nat):List (List UInt8)→Nat→Prop where
 |nil:Recs pc epoch a [] a
 |step {R:List (List UInt8)} {h c:Nat}:Recs pc epoch a R h→IsRec pc epoch h c→Recs pc epoch a (R++[catF pc h c]) (h+c)
def NoRec (pc:Nat→Pc)(epoch h:Nat):Prop:=∀c,¬IsRec pc epoch h c
theorem Recs.le {pc:Nat→Pc}{epoch a:Nat}{R:List (List UInt8)}{h:Nat}(r:Recs pc epoch a R h):a≤h:=by
 induction r with
 |nil=>exact Nat.le_refl _
 |step _ _ ih=>omega
theorem Recs.at {pc:Nat→Pc}{epoch a:Nat}{R:List (List UInt8)}{h:Nat}(r:Recs pc epoch a R h):∀p,a≤p→p<h→(pc p).pos=p∧(pc p).epoch=epoch:=by
 induction r with
 |nil=>intro p h1 h2;omega
 |@step R h c r hr ih=>
  intro p h1 h2
  by_cases hp:p<h
  ·exact ih p h1 hp
  ·have h3:=hr.part (p-h) om_
   rw [show h+(p-h)=p from by omega] at h3
   exact ⟨h3.pos,h3.epoch⟩
theorem Recs.room {pc:Nat→Pc}{epoch a n:Nat}{R:List (List UInt8)}{h:Nat}(r:Recs pc epoch a R h)(hn:∀p,pc (p+n)=pc p)(h0:0<n):h≤a+n:=by
 refine Nat.not_lt.1 fun hlt=> ?_
 have h1:=(r.at a (Nat.le_refl _) om_).1
 have h2:=(r.at (a+n) om_ hlt).1
 rw [hn] at h2
 omega
theorem Recs.count {pc:Nat→Pc}{epoch a:Nat}{R:List (List UInt8)}{h:Nat}(r:Recs pc epoch a R h):a+R.length≤h:=by
 induction r with
 |nil=>exact Nat.le_refl _
 |step _ hr ih=>have:=hr.c1;rw [List.length_append,List.length_singleton];omega
theorem IsRec.det {pc:Nat→Pc}{epoch p c c':Nat}(h:IsRec pc epoch p c)(h':IsRec pc epoch p c'):c=c':=h.cnt.symm.trans h'.cnt
theorem Recs.cons {pc:Nat→Pc}{epoch a c:Nat}(hr:IsRec pc epoch a c):∀{R:List (List UInt8)} {h:Nat},Recs pc epoch (a+c) R h→Recs pc epoch a (catF pc a c::R) h:=by
 intro R h r
 induction r with
 |nil=>exact Recs.step (R:=[]) Recs.nil hr
 |step _ hr2 ih=>exact Recs.step ih hr2
theorem Recs.uncons {pc:Nat→Pc}{epoch a c:Nat}(hr:IsRec pc epoch a c){R:List (List UInt8)}{h:Nat}(r:Recs pc epoch a R h):(R=[]∧h=a)∨∃R',R=catF pc a c::R'∧Recs pc epoch (a+c) R' h:=by
 induction r with
 |nil=>exact .inl ⟨rfl,rfl⟩
 |@step R h c' r hr2 ih=>
  rcases ih with ⟨rfl,rfl⟩|⟨R',rfl,r'⟩
  ·have:=hr.det hr2
   subst this
   exact .inr ⟨[],rfl,Recs.nil⟩
  ·exact .inr ⟨R'++[catF pc h c'],rfl,Recs.step r' hr2⟩
theorem Recs.det {pc:Nat→Pc}{epoch:Nat}:∀(k:Nat) {a:Nat} {R R':List (List UInt8)} {h h':Nat},R.length≤k→Recs pc epoch a R h→NoRec pc epoch h→Recs pc epoch a R' h'→NoRec pc epoch h'→R=R'∧h=h'
 |k,a,R,R',h,h',hk,r,e,r',e'=>by
  by_cases hx:∃c,IsRec pc epoch a c
  ·obtain ⟨c,hc⟩:=hx
   rcases r.uncons hc with ⟨rfl,rfl⟩|⟨R1,rfl,r1⟩
   ·exact absurd hc (e c)
   ·rcases r'.uncons hc with ⟨rfl,rfl⟩|⟨R2,rfl,r2⟩
    ·exact absurd hc (e' c)
    ·cases k with
     |zero=>exact absurd hk (by simp)
     |succ k=>
      obtain ⟨rfl,rfl⟩:=Recs.det k (by simpa using hk) r1 e r2 e'
      exact ⟨rfl,rfl⟩
  ·have hno:∀{R h},Recs pc epoch a R h→R=[]∧h=a:=fun {R h} r=>by
    have h1:R=[]∧h=a∨False:=by
     induction r with
     |nil=>exact .inl ⟨rfl,rfl⟩
     |step _ hr ih=>
      rcases ih with ⟨rfl,rfl⟩|h
      ·exact .inr (hx ⟨_,hr⟩)
      ·exact .inr h
    exact h1.elim id False.elim
   obtain ⟨rfl,rfl⟩:=hno r
   obtain ⟨rfl,rfl⟩:=hno r'
   exact ⟨rfl,rfl⟩
structure Lg where
 first:Nat
 n:Nat
 life:Int
 epoch:Nat
 top:Nat
 tail:Nat
 head:Nat
 begun:Bool
abbrev kC_ (g:Nat)(l:Lg)(h:Nat):Array Value:=#[pq g,iv l.life,nI_ l.first,nI_ l.n,nI_ l.epoch,nI_ l.tail,nI_ h,nI_ l.top,.bool l.begun]
abbrev wC_ (g:Nat)(l:Lg)(h:Nat):Array Value:=#[pq g,nI_ l.first,nI_ l.n,iv l.life,nI_ l.epoch,nI_ l.top,nI_ l.tail,nI_ h,.bool l.begun]
abbrev eC_ (g r:Nat)(A:Option Addr)(c:Nat)(B:Option Addr)(d n:Nat):Array Value:=#[pq g,pq r,.slice A n c,.slice B n d]
abbrev oC_ (k a b:Int)(A:Option Addr)(n c:Nat)(B:Option Addr)(m d:Nat):Array Value:=#[iv k,iv a,iv b,.slice A n c,.slice B m d]
abbrev pC_ (q:Pc)(A:Option Addr)(c:Nat):Array Value:=#[nI_ q.epoch,nI_ q.pos,nI_ q.idx,nI_ q.cnt,.slice A q.data.length c]
def argsR (s:Dsk)(first n:Int):Int:=
 if s.left=0 then 3 else if first<0∨(s.last.length:Int)≤first then 11 else if n<18∨256<n then 1 else if (s.last.length:Int)<first+2+n then 11 else 0
theorem argsR_ok {s:Dsk}{first n:Int}(h:argsR s first n=0):s.left≠0∧0≤first∧18≤n∧n≤256∧first+2+n≤s.last.length:=by
 unfold argsR at h
 split at h
 ·exact absurd h dc_
 ·rename_i h1
  split at h
  ·exact absurd h dc_
  ·rename_i h2
   split at h
   ·exact absurd h dc_
   ·split at h
    ·exact absurd h dc_
    ·exact ⟨h1,by omega,by omega,by omega,by omega⟩
def renewR (s:Dsk)(first no:Nat):Dsk×Int:=
 let r:=renewF (s.now first) (s.now (first+1)) (no:Int) []
 let w:=s.writeR ((first+r.1:Nat):Int) r.2.1
 if w.2≠0 then (w.1,3) else w.1.flushR
def zerosR (s:Dsk)(at_:Nat):Nat→Dsk×Int
 |0=>(s,0)
 |k+1=>if (s.writeR (at_:Int) zsec).2≠0 then s.writeR (at_:Int) zsec else zerosR (s.writeR (at_:Int) zsec).1 (at_+1) k
def pcAt (s:Dsk)(first n p:Nat):Pc:=pcF (s.now (first+2+p%n))
theorem pcAt_round (s:Dsk)(first n p:Nat):pcAt s first n (p+n)=pcAt s first n p:=by unfold pcAt;rw [Nat.add_mod_right]
def topTo (pc:Nat→Pc)(epoch:Nat):Nat→Nat
 |0=>epoch
 |k+1=>if (pc k).epoch≤1073741824 then max (topTo pc epoch k) (pc k).epoch else topTo pc epoch k
theorem topTo_ge (pc:Nat→Pc)(epoch:Nat):∀k,epoch≤topTo pc epoch k
 |0=>Nat.le_refl _
 |k+1=>by
  have:=topTo_ge pc epoch k
  unfold topTo
  split
  ·exact Nat.le_trans this (Nat.le_max_left _ _)
  ·exact this
theorem topTo_le (pc:Nat→Pc)(epoch:Nat)(he:epoch≤1073741824):∀k,topTo pc epoch k≤1073741824
 |0=>he
 |k+1=>by
  have:=topTo_le pc epoch he k
  unfold topTo
  split
  ·rename_i h;exact Nat.max_le.2 ⟨this,h⟩
  ·exact this
def newR (s:Dsk)(first:Nat):Option (Nat×Nat):=
 let q:=newestF (s.now first) (s.now (first+1))
 if q.2.2.2≠0∨q.2.2.1≠[]∨q.2.1/4294967296<1∨1073741824<q.2.1/4294967296∨1073741824<q.2.1%4294967296 then none else some (q.2.1/4294967296,q.2.1%4294967296)
def aliveR (s:Dsk)(l:Lg):Bool:=decide (s.left≠0)&&decide (s.life=l.life)
def readyR (s:Dsk)(l:Lg):Int:=if aliveR s l=false then 3 else if l.begun=false then 4 else 0
def startR (s:Dsk)(l:Lg):Dsk×Lg×Int:=
 if aliveR s l=false then (s,l,3) else if l.begun=true then (s,l,5) else
 let r:=renewR s l.first ((l.top+1)*4294967296+0)
 if r.2≠0 then (r.1,l,r.2) else (r.1,{l with epoch:=l.top+1,tail:=0,head:=0,begun:=true},0)
def leB (v n:Nat):List UInt8:=(List.range n).map fun i=>UInt8.ofNat (v/256^i%256)
def bodyR (epoch p i c:Nat)(part:List UInt8):List UInt8:=leB epoch 4++leB p 4++leB i 2++leB c 2++part
def partR (data:List UInt8)(i:Nat):List UInt8:=(data.drop (i*492)).take 492
def layR (s:Dsk)(l:Lg)(data:List UInt8)(i c:Nat):Dsk×Int:=
 let at_:=l.first+2+(l.head+i)%l.n
 s.writeR (at_:Int) (sealF (s.now at_) (bodyR l.epoch (l.head+i) i c (partR data i))).1
def laysR (l:Lg)(data:List UInt8)(c:Nat):Dsk→Nat→Nat→Dsk×Int
 |s,_,0=>(s,0)
 |s,i,k+1=>if (layR s l data i c).2≠0 then layR s l data i c else laysR l data c (layR s l data i c).1 (i+1) k
def countR (m:Nat):Nat:=(m+491)/492
def appendR (s:Dsk)(l:Lg)(data:List UInt8):Dsk×Lg×Int:=
 if readyR s l≠0 then (s,l,readyR s l) else if data.length=0 then (s,l,2) else if 8364<data.length then (s,l,7)
 else if 1073741824<l.head+countR data.length then (s,l,41) else if l.n<l.head-l.tail+countR data.length then (s,l,40) else
 let r:=laysR l data (countR data.length) s 0 (countR data.length)
 if r.2≠0 then (r.1,l,r.2) else (r.1,{l with head:=l.head+countR data.length},0)
def syncR (s:Dsk)(l:Lg):Dsk×Int:=if readyR s l≠0 then (s,readyR s l) else s.flushR
def trimR (s:Dsk)(l:Lg):Dsk×Lg×Int:=
 if readyR s l≠0 then (s,l,readyR s l) else
 if s.flushR.2≠0∨l.tail=l.head then (s.flushR.1,l,s.flushR.2) else
 let r:=renewR s.flushR.1 l.first (l.epoch*4294967296+l.head)
 if r.2≠0 then (r.1,l,r.2) else (r.1,{l with tail:=l.head},0)
end Go.Proofs
end
section
open Go Go.RowKit Go.Proofs.YtgeioealgidkiaaW.PrintWords Go.Proofs.YtgeioealgidkiaaW.PrintMore
namespace Go.Proofs
open Go.Vel
set_option linter.unusedVariables false
set_option maxRecDepth 100000
set_option maxHeartbeats 4000000
attribute [local irreducible] gives wpList Code.wp
section
variable {F:Nat→Prop} {w0 w:World} {L:List Ast}
theorem gv_shl {P:Program}{o:Oper}{w:World}{ρ:Operand→Value}{K:Value→World→Prop}{x y:Operand}{T U:TypeId}{k yk:IntKind}{z i:Int}{j:Nat}{z':Int}(ho:o.op=.binOp .shl T x y U)(hx:ρ x=.int k z)(hy:ρ y=.int yk i)(hi:i=(j:Int))(hj:j≤k.bits)(hz:k.wrap (z*2^j)=z')(h:K (.int k z') w):gives P K ((execOp ρ o).run P w):=by
 subst hi hz
 refine gv_val (w':=w) ?_ h
 have hn:¬((j:Int)<0):=by omega
 have hm:min j k.bits=j:=Nat.min_eq_left hj
 simp only [execOp,ho,hx,hy]
 simp [binOp,eqGuard,Op.shift,hn,hm]
def lgc (gd:Nat)(l:Lg):Array Value:=#[.pointer (some ⟨gd,0,none⟩),.int .i64 (l.first:Nat),.int .i64 (l.n:Nat),.int .i64 l.life,.int .i64 (l.epoch:Nat),.int .i64 (l.top:Nat),.int .i64 (l.tail:Nat),.int .i64 (l.head:Nat),.bool l.begun]
def PLog (g gd:Nat)(l:Lg):Ast:=row g (lgc gd l) 161
structure LOk (l:Lg):Prop where
 first:l.first≤2048
 n0:18≤l.n
 n:l.n≤256
 epoch:l.epoch≤1073741824
 top:l.top<1073741824
 tail:l.tail≤1073741824
structure LHd (l:Lg):Prop where
 th:l.tail≤l.head
 ht:l.head≤l.tail+l.n
def aliveE (s:Dsk)(l:Lg):Int:=if aliveR s l=true then 0 else 3
theorem alive_burnt {s:Dsk}{l:Lg}(h:s.left=0):aliveR s l=false:=by simp [aliveR,h]
theorem pw_burntT {g:Nat}{s:Dsk}(hz:s.left=0)(S:St F w0 w L)(i:Nat)(hi:L[i]?=some (PW g s)):Calls Try.prog 15 #[.pointer (some ⟨g,0,none⟩)] w fun e w'=>e=.returned (.bool true)∧w=w':=by
 have h:=pw_burnt S i hi
 rwa [decide_eq_true hz] at h
theorem pw_burntF {g:Nat}{s:Dsk}(hz:¬s.left=0)(S:St F w0 w L)(i:Nat)(hi:L[i]?=some (PW g s)):Calls Try.prog 15 #[.pointer (some ⟨g,0,none⟩)] w fun e w'=>e=.returned (.bool false)∧w=w':=by
 have h:=pw_burnt S i hi
 rwa [decide_eq_false hz] at h
theorem w_place {gd:Nat}{s:Dsk}{first n:Int}(S:St F w0 w L)(i:Nat)(hi:L[i]?=some (PW gd s)):Calls Try.prog 108 #[.pointer (some ⟨gd,0,none⟩),.int .i64 first,.int .i64 n] w fun e w'=>e=.returned (.int .i64 (argsR s first n))∧w=w':=by
 have hn2:=(St.pw_ok (S.mem i hi)).n2
 by_cases hz:s.left=0
 ·refine eN (fr [pq gd,iv first,iv n] 32) Try.func108 rfl (sR (pv (iv 0) (wE (nS (sR (pv (pq gd) (sO Try.func14 #[pq gd] (pw_sectors S i hi) (pv (iv (s.last.length:Int)) (wE (then_n (wp_block (sR (pv (pq gd) ?_)))))))))))))
  refine sO Try.func15 #[pq gd] (pw_burntT hz S i hi) (pv tv (wE (nCT (sR (pv (iv 3) (wE (then_n (wp_ret (inb_r (then_r (bA (iv 3) ?_)))))))))))
  have e:argsR s first n=3:=by unfold argsR;(repeat' split)<;>first|rfl|omega
  rw [e];exact ⟨rfl,rfl⟩
 refine eN (fr [pq gd,iv first,iv n] 32) Try.func108 rfl (sR (pv (iv 0) (wE (nS (sR (pv (pq gd) (sO Try.func14 #[pq gd] (pw_sectors S i hi) (pv (iv (s.last.length:Int)) (wE (then_n (wp_block (sR (pv (pq gd) ?_)))))))))))))
 refine sO Try.func15 #[pq gd] (pw_burntF hz S i hi) (pv fv (wE (nCF (sR (pv (iv first) (dC ((first:Int)<0) (fun hb1=> ?_) fun hb1=> ?_))))))
 ·refine pv tv (wN (wN (wN (pv tv (pv tv (wE (nCT (sR (pv (iv 11) (wE (then_n (wp_ret (inb_r ?_)))))))))))))
  refine then_r (bA (iv 11) ?_)
  have e:argsR s first n=11:=by unfold argsR;(repeat' split)<;>first|rfl|omega
  rw [e];exact ⟨rfl,rfl⟩
 ·refine pv fv (pW (iv first) (pW (iv (s.last.length:Int)) (wl_when kr_ (gv_dec (p:=(first:Int)≥(s.last.length:Int)) kr_ (fun hb2=> ?_) (fun hb2=> ?_)))))
  ·refine pv tv (pv tv (wE (nCT (sR (pv (iv 11) (wE (then_n (wp_ret (inb_r (then_r (bA (iv 11) ?_)))))))))))
   have e:argsR s first n=11:=by unfold argsR;(repeat' split)<;>first|rfl|omega
   rw [e];exact ⟨rfl,rfl⟩
  ·refine pv fv (pv fv (wE (nCF (sR (pv (iv n) (dC ((n:Int)<18) (fun hb3=> ?_) fun hb3=> ?_))))))
   ·refine pv tv (wN (wN (pv tv (pv tv (wE (nCT (sR (pv (iv 1) (wE (then_n (wp_ret (inb_r (then_r ?_)))))))))))))
    refine bA (iv 1) ?_
    have e:argsR s first n=1:=by unfold argsR;(repeat' split)<;>first|rfl|omega
    rw [e];exact ⟨rfl,rfl⟩
   ·refine pv fv (pW (iv n) (wl_when kr_ (gv_dec (p:=(n:Int)>256) kr_ (fun hb4=> ?_) (fun hb4=> ?_))))
    ·refine pv tv (pv tv (wE (nCT (sR (pv (iv 1) (wE (then_n (wp_ret (inb_r (then_r (bA (iv 1) ?_)))))))))))
     have e:argsR s first n=1:=by unfold argsR;(repeat' split)<;>first|rfl|omega
     rw [e];exact ⟨rfl,rfl⟩
    ·refine pv fv (pv fv (wE (nCF (sR (pv (iv first) (gI .i64 (IntKind.i64.wrap (first+2)) (first+2) (wr_ok om_ om_) (pv (iv n) (gI .i64 (IntKind.i64.wrap ((first+2)+n)) ((first+2)+n) (wr_ok om_ om_) (pv (iv (s.last.length:Int)) (dC (((first+2)+n:Int)>(s.last.length:Int)) (fun hb5=> ?_) fun hb5=> ?_))))))))))
     ·refine pv tv (wE (nCT (sR (pv (iv 11) (wE (then_n (wp_ret (inb_r (then_r (bA (iv 11) ?_))))))))))
      have e:argsR s first n=11:=by unfold argsR;(repeat' split)<;>first|rfl|omega
      rw [e];exact ⟨rfl,rfl⟩
     ·refine pv fv (wE (nCF (wp_skip (inb_n (nSR (pv (iv 0) (wE (then_n (wp_ret (bA (iv 0) ?_))))))))))
      have e:argsR s first n=0:=by unfold argsR;(repeat' split)<;>first|rfl|omega
      rw [e];exact ⟨rfl,rfl⟩
theorem w_alive {g gd:Nat}{l:Lg}{s:Dsk}(S:St F w0 w (PLog g gd l::PW gd s::L)):Calls Try.prog 107 #[.pointer (some ⟨g,0,none⟩)] w fun e w'=>e=.returned (.int .i64 (aliveE s l))∧St F w0 w' (PLog g gd l::PW gd s::L):=by
 by_cases hz:s.left=0
 ·change St F w0 w (row g (wC_ gd l l.head) 161::PW gd s::L) at S
  refine eN (fr [pq g] 19) Try.func107 rfl (sR (pv (iv 0) (wE (nS (wp_seq (wp_region_phu (γ:=Unit) 17 [] (fun (c_:Unit) (i_:Nat)=>(match i_ with|0=>pq g|1=>pq g|2=>pq g|3=>pq gd|4=>.bool true|5=>.bool true|6=>undef|7=>undef|8=>undef|9=>undef|10=>undef|11=>undef|12=>undef|13=>undef|14=>undef|15=>undef|16=>.bool true|_=>undef:Value)) (fun (c_:Unit) (p_:Nat) (w_:World)=>(match p_ with|_=>St F w0 w_ (row g (wC_ gd l l.head) 161::PW gd s::L):Prop)) () kr_ kr_ kr_ kr_ (S.drew) ?_ ?_ ?_))))))
  ·intro i_ c_ p_ vals_ w1 hi_ hiE_ hp_ hk_ hu_ hPh_ hd_
   rcases i_ with _|_|_|_|_|_|_|_|_|_|_|_|_|_|_|_|_|i_
   ·exact tG_ rfl hd_ (gV (pq g) ⟨rfl,rfl⟩)
   ·exact tG_ rfl hd_ (gV (pq g) ⟨rfl,rfl⟩)
   ·exact tG_ rfl hd_ (gV (pq g) ⟨rfl,rfl⟩)
   ·have S4:=St.id hPh_
    exact tG_ rfl hd_ (gL (pq gd) rfl (((S4.blk 0 rfl).cell 0).trans rfl) ⟨rfl,rfl⟩)
   ·have S5:=St.id hPh_
    refine tG_ rfl hd_ (gv_call (args:=#[pq gd]) rfl Try.func15 kr_ rfl rfl kr_ (Calls.mono (pw_burntT hz S5 1 rfl) ?_))
    rintro _ _ ⟨rfl,rfl⟩
    exact ⟨_,rfl,⟨rfl,rfl⟩⟩
   ·exact tG_ rfl hd_ (gV (.bool true) ⟨rfl,rfl⟩)
   ·exact tO_ 5 8 5 false true rfl hd_ ⟨rfl,rfl⟩
   ·exact tO_ 5 8 5 false true rfl hd_ ⟨rfl,rfl⟩
   ·exact tO_ 5 8 5 false true rfl hd_ ⟨rfl,rfl⟩
   ·exact tO_ 5 8 5 false true rfl hd_ ⟨rfl,rfl⟩
   ·exact tO_ 5 8 5 false true rfl hd_ ⟨rfl,rfl⟩
   ·exact tO_ 5 8 5 false true rfl hd_ ⟨rfl,rfl⟩
   ·exact tO_ 5 8 5 false true rfl hd_ ⟨rfl,rfl⟩
   ·exact tO_ 5 8 5 false true rfl hd_ ⟨rfl,rfl⟩
   ·exact tO_ 5 8 5 false true rfl hd_ ⟨rfl,rfl⟩
   ·exact tO_ 5 8 5 false true rfl hd_ ⟨rfl,rfl⟩
   ·exact tG_ rfl hd_ (gV (.bool true) ⟨rfl,rfl⟩)
   ·exact absurd hi_ om_
  ·intro k_ c_ vals_ w1 hk_ hPh_ hd_
   exact absurd hk_ (Nat.not_lt_zero _)
  ·intro c_ w1 hPh_
   have S18:=St.id hPh_
   refine (wE (nCT (sR (pv (iv 3) (wE (then_n (rR (bA (iv 3) ?_))))))))
   have e:aliveE s l=3:=by unfold aliveE;rw [alive_burnt hz];rfl
   rw [e]
   exact ⟨rfl,S18⟩
 change St F w0 w (row g (wC_ gd l l.head) 161::PW gd s::L) at S
 refine eN (fr [pq g] 19) Try.func107 rfl (sR (pv (iv 0) (wE (nS (wp_seq (wp_region_phu (γ:=Unit) 17 [] (fun (c_:Unit) (i_:Nat)=>(match i_ with|0=>pq g|1=>pq g|2=>pq g|3=>pq gd|4=>.bool false|5=>.bool false|6=>pq g|7=>pq g|8=>pq g|9=>pq gd|10=>iv s.life|11=>pq g|12=>pq g|13=>po g 3|14=>iv l.life|15=>.bool (s.life !=l.life)|16=>.bool (s.life !=l.life)|_=>undef:Value)) (fun (c_:Unit) (p_:Nat) (w_:World)=>(match p_ with|_=>St F w0 w_ (row g (wC_ gd l l.head) 161::PW gd s::L):Prop)) () kr_ kr_ kr_ kr_ (S.drew) ?_ ?_ ?_))))))
 ·intro i_ c_ p_ vals_ w1 hi_ hiE_ hp_ hk_ hu_ hPh_ hd_
  rcases i_ with _|_|_|_|_|_|_|_|_|_|_|_|_|_|_|_|_|i_
  ·exact tG_ rfl hd_ (gV (pq g) ⟨rfl,rfl⟩)
  ·exact tG_ rfl hd_ (gV (pq g) ⟨rfl,rfl⟩)
  ·exact tG_ rfl hd_ (gV (pq g) ⟨rfl,rfl⟩)
  ·have S4:=St.id hPh_
   exact tG_ rfl hd_ (gL (pq gd) rfl (((S4.blk 0 rfl).cell 0).trans rfl) ⟨rfl,rfl⟩)
  ·have S5:=St.id hPh_
   refine tG_ rfl hd_ (gv_call (args:=#[pq gd]) rfl Try.func15 kr_ rfl rfl kr_ (Calls.mono (pw_burntF hz S5 1 rfl) ?_))
   rintro _ _ ⟨rfl,rfl⟩
   exact ⟨_,rfl,⟨rfl,rfl⟩⟩
  ·exact tG_ rfl hd_ (gV (.bool false) ⟨rfl,rfl⟩)
  ·exact tW_ 5 8 5 false rfl hd_ (gv_val (v:=pq g) (w':=w1) kr_ ⟨rfl,rfl⟩)
  ·exact tW_ 5 8 5 false rfl hd_ (gv_val (v:=pq g) (w':=w1) kr_ ⟨rfl,rfl⟩)
  ·exact tW_ 5 8 5 false rfl hd_ (gv_val (v:=pq g) (w':=w1) kr_ ⟨rfl,rfl⟩)
  ·have S10:=St.id hPh_
   exact tW_ 5 8 5 false rfl hd_ (gv_ldR (v:=pq gd) rfl kr_ kr_ (((S10.blk 0 rfl).cell 0).trans rfl) ⟨rfl,rfl⟩)
  ·have S11:=St.id hPh_
   refine tW_ 5 8 5 false rfl hd_ (gv_call (args:=#[pq gd]) rfl Try.func16 kr_ rfl rfl kr_ (Calls.mono (pw_life S11 1 rfl) ?_))
   rintro _ _ ⟨rfl,rfl⟩
   exact ⟨_,rfl,⟨rfl,rfl⟩⟩
  ·exact tW_ 5 8 5 false rfl hd_ (gv_val (v:=pq g) (w':=w1) kr_ ⟨rfl,rfl⟩)
  ·exact tW_ 5 8 5 false rfl hd_ (gv_val (v:=pq g) (w':=w1) kr_ ⟨rfl,rfl⟩)
  ·exact tW_ 5 8 5 false rfl hd_ (gv_val (v:=po g 3) (w':=w1) kr_ ⟨rfl,rfl⟩)
  ·have S15:=St.id hPh_
   exact tW_ 5 8 5 false rfl hd_ (gv_ldR (v:=iv l.life) rfl kr_ kr_ (((S15.blk 0 rfl).cell 3).trans rfl) ⟨rfl,rfl⟩)
  ·exact tW_ 5 8 5 false rfl hd_ (gv_val (v:=.bool (s.life !=l.life)) (w':=w1) kr_ ⟨rfl,rfl⟩)
  ·exact tG_ rfl hd_ (gV (.bool (s.life !=l.life)) ⟨rfl,rfl⟩)
  ·exact absurd hi_ om_
 ·intro k_ c_ vals_ w1 hk_ hPh_ hd_
  exact absurd hk_ (Nat.not_lt_zero _)
 ·intro c_ w1 hPh_
  have S18:=St.id hPh_
  refine (wE (then_n (wp_cond_split (t:=s.life !=l.life) kr_ (fun hc19=> ?_) (fun hc19=> ?_))))
  ·have ha:aliveR s l=false:=by simp [aliveR,hz] at hc19 ⊢;exact hc19
   refine sR (pv (iv 3) (wE (then_n (rR (bA (iv 3) ?_)))))
   have e:aliveE s l=3:=by unfold aliveE;rw [show aliveR s l=false from ha];rfl
   rw [e]
   exact ⟨rfl,S18⟩
  ·have ha:aliveR s l=true:=by simp [aliveR,hz] at hc19 ⊢;exact hc19
   refine wp_skip (nSR (pv (iv 0) (wE (then_n (wp_ret (bA (iv 0) ?_))))))
   have e:aliveE s l=0:=by unfold aliveE;rw [show aliveR s l=true from ha];rfl
   rw [e]
   exact ⟨rfl,S18⟩
theorem w_ready {g gd:Nat}{l:Lg}{s:Dsk}(S:St F w0 w (PLog g gd l::PW gd s::L)):Calls Try.prog 104 #[.pointer (some ⟨g,0,none⟩)] w fun e w'=>e=.returned (.int .i64 (readyR s l))∧St F w0 w' (PLog g gd l::PW gd s::L):=by
 obtain ⟨b,hb⟩:∃b,l.begun=b:=⟨_,rfl⟩
 have er:readyR s l=if aliveE s l=3 then 3 else if l.begun=false then 4 else 0:=by unfold readyR aliveE;cases aliveR s l<;>simp
 change St F w0 w (row g (wC_ gd l l.head) 161::PW gd s::L) at S
 refine eN (fr [pq g] 13) Try.func104 rfl (sR (pv (iv 0) (wE (nS (sR (pv (pq g) (sP Try.func107 #[pq g] (w_alive S) fun w1 S2=>pv (iv (aliveE s l)) (wER (pv (iv (aliveE s l)) (dN (aliveE s l) 0 (fun hb3=> ?_) fun hb3=> ?_))))))))))
 ·have ha:aliveE s l=3:=by unfold aliveE at hb3 ⊢;split at hb3<;>simp_all
  refine wE (nCT (sR (pv (iv (aliveE s l)) (pv (iv (aliveE s l)) (wE (then_n (rR (bA (iv (aliveE s l)) ?_))))))))
  have e:readyR s l=aliveE s l:=by rw [er];simp_all
  rw [e]
  exact ⟨rfl,S2⟩
 ·refine wE (nCF (wp_skip (nS (sR (pv (pq g) (pv (pq g) (pv (po g 8) (lR (.bool l.begun) S2 0 8 (pv (.bool (!l.begun)) (wE (then_n (wp_cond_split (t:= !l.begun) kr_ (fun hc4=> ?_) (fun hc4=> ?_)))))))))))))
  ·have hbg:l.begun=false:=by simpa using hc4
   refine sR (pv (iv 4) (wE (then_n (rR (bA (iv 4) ?_)))))
   have e:readyR s l=4:=by rw [er];simp_all
   rw [e]
   exact ⟨rfl,S2⟩
  ·have hbg:l.begun=true:=by simpa using hc4
   refine wp_skip (nSR (pv (iv 0) (wE (then_n (wp_ret (bA (iv 0) ?_))))))
   have e:readyR s l=0:=by rw [er];simp_all
   rw [e]
   exact ⟨rfl,S2⟩
theorem w_free {g gd:Nat}{l:Lg}{s:Dsk}(S:St F w0 w (PLog g gd l::PW gd s::L))(hl:LOk l)(hh:LHd l):Calls Try.prog 105 #[.pointer (some ⟨g,0,none⟩)] w fun e w'=>e=.returned (.int .i64 ((l.n:Int)-((l.head:Int)-(l.tail:Int))))∧St F w0 w' (PLog g gd l::PW gd s::L):=by
 obtain ⟨h1,h2,h3,h4,h5,h6⟩:=hl
 obtain ⟨h7,h8⟩:=hh
 change St F w0 w (row g (wC_ gd l l.head) 161::PW gd s::L) at S
 refine eN (fr [pq g] 16) Try.func105 rfl (sR (pv (iv 0) (wE (nS (wp_region_phu (γ:=Unit) 14 [] (fun (c_:Unit) (i_:Nat)=>(match i_ with|0=>pq g|1=>pq g|2=>po g 2|3=>nI_ l.n|4=>pq g|5=>pq g|6=>po g 7|7=>nI_ l.head|8=>pq g|9=>pq g|10=>po g 6|11=>nI_ l.tail|12=>iv (((l.head:Nat):Int)-((l.tail:Nat):Int))|13=>iv (((l.n:Nat):Int)-(((l.head:Nat):Int)-((l.tail:Nat):Int)))|_=>undef:Value)) (fun (c_:Unit) (p_:Nat) (w_:World)=>(match p_ with|_=>St F w0 w_ (row g (wC_ gd l l.head) 161::PW gd s::L):Prop)) () kr_ kr_ kr_ kr_ (S.drew) ?_ ?_ ?_)))))
 ·intro i_ c_ p_ vals_ w1 hi_ hiE_ hp_ hk_ hu_ hPh_ hd_
  rcases i_ with _|_|_|_|_|_|_|_|_|_|_|_|_|_|i_
  ·exact tG_ rfl hd_ (gV (pq g) ⟨rfl,rfl⟩)
  ·exact tG_ rfl hd_ (gV (pq g) ⟨rfl,rfl⟩)
  ·exact tG_ rfl hd_ (gV (po g 2) ⟨rfl,rfl⟩)
  ·have S4:=St.id hPh_
   exact tG_ rfl hd_ (gL (nI_ l.n) rfl (((S4.blk 0 rfl).cell 2).trans rfl) ⟨rfl,rfl⟩)
  ·exact tG_ rfl hd_ (gV (pq g) ⟨rfl,rfl⟩)
  ·exact tG_ rfl hd_ (gV (pq g) ⟨rfl,rfl⟩)
  ·exact tG_ rfl hd_ (gV (po g 7) ⟨rfl,rfl⟩)
  ·have S8:=St.id hPh_
   exact tG_ rfl hd_ (gL (nI_ l.head) rfl (((S8.blk 0 rfl).cell 7).trans rfl) ⟨rfl,rfl⟩)
  ·exact tG_ rfl hd_ (gV (pq g) ⟨rfl,rfl⟩)
  ·exact tG_ rfl hd_ (gV (pq g) ⟨rfl,rfl⟩)
  ·exact tG_ rfl hd_ (gV (po g 6) ⟨rfl,rfl⟩)
  ·have S12:=St.id hPh_
   exact tG_ rfl hd_ (gL (nI_ l.tail) rfl (((S12.blk 0 rfl).cell 6).trans rfl) ⟨rfl,rfl⟩)
  ·exact tG_ rfl hd_ (gv_int (k:=.i64) (z:=IntKind.i64.wrap (((l.head:Nat):Int)-((l.tail:Nat):Int))) (z':=((l.head:Nat):Int)-((l.tail:Nat):Int)) kr_ (wr_ok om_ om_) ⟨rfl,rfl⟩)
  ·exact tG_ rfl hd_ (gv_int (k:=.i64) (z:=IntKind.i64.wrap (((l.n:Nat):Int)-(((l.head:Nat):Int)-((l.tail:Nat):Int)))) (z':=((l.n:Nat):Int)-(((l.head:Nat):Int)-((l.tail:Nat):Int))) kr_ (wr_ok om_ om_) ⟨rfl,rfl⟩)
  ·exact absurd hi_ om_
 ·intro k_ c_ vals_ w1 hk_ hPh_ hd_
  exact absurd hk_ (Nat.not_lt_zero _)
 ·intro c_ w1 hPh_
  have S15:=St.id hPh_
  exact (pv (iv (((l.n:Nat):Int)-(((l.head:Nat):Int)-((l.tail:Nat):Int)))) (wE (then_n (wp_ret (bA (iv (((l.n:Nat):Int)-(((l.head:Nat):Int)-((l.tail:Nat):Int)))) ⟨rfl,S15⟩)))))
theorem w_at {g gd:Nat}{l:Lg}{s:Dsk}(S:St F w0 w (PLog g gd l::PW gd s::L))(hl:LOk l){p:Nat}(hp:p≤9223372036854775807):Calls Try.prog 138 #[.pointer (some ⟨g,0,none⟩),.int .i64 (p:Nat)] w fun e w'=>e=.returned (.int .i64 ((l.first+2+p%l.n:Nat):Int))∧St F w0 w' (PLog g gd l::PW gd s::L):=by
 obtain ⟨h1,h2,h3,h4,h5,h6⟩:=hl
 obtain ⟨m,hm⟩:∃m,l.n=m+1:=⟨l.n-1,by omega⟩
 have hpm:p%l.n<l.n:=Nat.mod_lt _ om_
 change St F w0 w (row g (wC_ gd l l.head) 161::PW gd s::L) at S
 refine eN (fr [pq g,nI_ p] 15) Try.func138 rfl (sR (pv (iv 0) (wE (nS (wp_region_phu (γ:=Unit) 12 [] (fun (c_:Unit) (i_:Nat)=>(match i_ with|0=>pq g|1=>pq g|2=>po g 1|3=>nI_ l.first|4=>nI_ (l.first+2)|5=>nI_ p|6=>pq g|7=>pq g|8=>po g 2|9=>nI_ l.n|10=>nI_ (p%l.n)|11=>nI_ (l.first+2+p%l.n)|_=>undef:Value)) (fun (c_:Unit) (p_:Nat) (w_:World)=>(match p_ with|_=>St F w0 w_ (row g (wC_ gd l l.head) 161::PW gd s::L):Prop)) () kr_ kr_ kr_ kr_ (S.drew) ?_ ?_ ?_)))))
 ·intro i_ c_ p_ vals_ w1 hi_ hiE_ hp_ hk_ hu_ hPh_ hd_
  rcases i_ with _|_|_|_|_|_|_|_|_|_|_|_|i_
  ·exact tG_ rfl hd_ (gV (pq g) ⟨rfl,rfl⟩)
  ·exact tG_ rfl hd_ (gV (pq g) ⟨rfl,rfl⟩)
  ·exact tG_ rfl hd_ (gV (po g 1) ⟨rfl,rfl⟩)
  ·have S4:=St.id hPh_
   exact tG_ rfl hd_ (gL (nI_ l.first) rfl (((S4.blk 0 rfl).cell 1).trans rfl) ⟨rfl,rfl⟩)
  ·exact tG_ rfl hd_ (gv_int (k:=.i64) (z:=IntKind.i64.wrap (((l.first:Nat):Int)+2)) (z':=((l.first+2:Nat):Int)) kr_ wq_ ⟨rfl,rfl⟩)
  ·exact tG_ rfl hd_ (gV (nI_ p) ⟨rfl,rfl⟩)
  ·exact tG_ rfl hd_ (gV (pq g) ⟨rfl,rfl⟩)
  ·exact tG_ rfl hd_ (gV (pq g) ⟨rfl,rfl⟩)
  ·exact tG_ rfl hd_ (gV (po g 2) ⟨rfl,rfl⟩)
  ·have S10:=St.id hPh_
   exact tG_ rfl hd_ (gL (nI_ l.n) rfl (((S10.blk 0 rfl).cell 2).trans rfl) ⟨rfl,rfl⟩)
  ·exact tG_ rfl hd_ (gv_int (k:=.i64) (z:=Int.tmod ((p:Nat):Int) ((l.n:Nat):Int)) (z':=((p%l.n:Nat):Int)) (by rw [hm];kernel_rfl) (tmod_nat rfl rfl) ⟨rfl,rfl⟩)
  ·exact tG_ rfl hd_ (gv_int (k:=.i64) (z:=IntKind.i64.wrap (((l.first+2:Nat):Int)+((p%l.n:Nat):Int))) (z':=((l.first+2+p%l.n:Nat):Int)) kr_ wq_ ⟨rfl,rfl⟩)
  ·exact absurd hi_ om_
 ·intro k_ c_ vals_ w1 hk_ hPh_ hd_
  exact absurd hk_ (Nat.not_lt_zero _)
 ·intro c_ w1 hPh_
  have S13:=St.id hPh_
  exact (pv (nI_ (l.first+2+p%l.n)) (wE (then_n (wp_ret (bA (nI_ (l.first+2+p%l.n)) ⟨rfl,S13⟩)))))
end
end Go.Proofs
end
section
open Go Go.RowKit Go.Proofs.YtgeioealgidkiaaW.PrintWords Go.Proofs.YtgeioealgidkiaaW.PrintMore
namespace Go.Vel
set_option linter.unusedVariables false
section
section
variable {P:Program}{ops:Array Oper}{rest:List Oper}{o:Oper}{a:Act}{w w0:World}{F:Nat→Prop}{L:List Ast}{ρ:Operand→Value}{K:Value→World→Prop}{e:TypeId}{sz n:Nat}{v:Value}{vals:List Value}
theorem gv_ixArr {T:TypeId}{x y:Operand}{g off N:Nat}{k:IntKind}{i:Int}{j off':Nat}(ho:o.op=.indexAddr T x y)(hT:P.underlying T=some (.array (P.arrayLen T) (P.elem T)))(hN:P.arrayLen T=N)(hs:(P.info? (P.elem T)).map (·.size)=some sz)(hx:ρ x=.pointer (some ⟨g,off,none⟩))(hy:ρ y=.int k i)(hi:i=(j:Int))(hj:j<N)(hf:off'=off+j*sz)(h:K (.pointer (some ⟨g,off',none⟩)) w):gives P K ((execOp ρ o).run P w):=by
 subst hi hf hN
 refine gv_val (w':=w) ?_ h
 cases hq:P.info? (P.elem T) with
 |none=>simp [hq] at hs
 |some ie=>
  have he:ie.size=sz:=by simpa [hq] using hs
  simp only [execOp,ho,hx,hy]
  simp [run_indexAt_array _ _ _ _ _ hT,sizeOf,typeInfo,hq,he,hj,Addr.add_lit]
theorem gv_appendB {s x:Operand}{t:TypeId}{g n c m c':Nat}{A:Option Addr}{X l:List UInt8}(S:St F w0 w L)(i:Nat)(hi:L[i]?=some (row g (bvs X) e))(ho:o.op=.call {callee:=.builtin .append,args:=#[s,x],argTypes:=#[t,t]})(ht:P.underlying t=some (.slice e))(hinfo:(P.info? e).map (·.size)=some 1)
  (hs:ρ s=.slice (some ⟨g,0,none⟩) n c) (hx:ρ x=.slice A m c') (hm:m=l.length) (hr:RdB w A l) (hroom:n+l.length≤c) (hL:X.length=c) {n':Nat} (hn':n'=n+l.length)
  {L':List Ast} (hL':L.set i (row g (bvs (splice X n l)) e)=L') (h:∀w',St F w0 w' L'→K (.slice (some ⟨g,0,none⟩) n' c) w'):gives P K ((execOp ρ o).run P w):=by
 subst hm hn'
 obtain ⟨ie,hie,hz⟩:=Option.map_eq_some_iff.1 hinfo
 have hB:=S.blk i hi
 by_cases h0:l.length=0
 ·have hl0:l=[]:=List.eq_nil_of_length_eq_zero h0
  subst hl0
  have hsp:splice X n []=X:=by simp [splice]
  rw [hsp] at hL'
  have hset:L.set i (row g (bvs X) e)=L:=by
   apply List.ext_getElem?
   intro k
   rw [List.getElem?_set]
   split
   ·rename_i hk
    subst hk
    rw [hi,if_pos (List.getElem?_eq_some_iff.1 hi).1]
   ·rfl
  rw [hset] at hL'
  subst hL'
  refine gv_val (w':=w) (v:=.slice (some ⟨g,0,none⟩) n c) ?_ (by simpa using h w S)
  have hroom':n≤c:=by simpa using hroom
  cases A with
  |none=>simp [execOp,ho,resolve,invoke,builtin,hs,hx,Builtin.append_,run_underlying ht,sizeOf,typeInfo,hie,Builtin.lenOf,hroom',Builtin.firstCells,storeCells]
  |some ad=>
   have hrun:=run_append_room_cells (P:=P) w t o.type e ie ht hie g 0 n c ad 0 c' [] (by simp) (by simp) (by simp) om_ (by simp) (by simp)
   simp [execOp,ho,resolve,invoke,builtin,hs,hx,hrun,World.setCells]
 ·obtain ⟨ad,rfl,hcs⟩:=hr om_
  have hrun:=run_append_room_cells (P:=P) w t o.type e ie ht hie g 0 n c ad l.length c' (l.map bv) (by simp [hz]) hcs (map_bv_one l) hroom
   (fun j hj=>by
    rw [hz,Nat.mul_one,Nat.zero_add,hB.cell,Array.getElem?_eq_getElem (by rw [size_bvs];simp at hj;omega)];rfl)
   (fun j hj=>hB.frozen _)
  rw [hz,Nat.mul_one,Nat.zero_add] at hrun
  obtain ⟨cur',h3,h4,h5⟩:=setCells_row (l.map bv) n w (bvs X) hB.out (by rw [size_bvs];simp;omega)
  have hcur:cur'=bvs (splice X n l):=by
   apply Array.ext'
   rw [h5]
   simp [bvs,splice,List.map_take,List.map_drop]
  rw [hcur] at h3
  obtain ⟨q1,q2,q3,q4⟩:=setCells_same g (l.map bv) n w
  subst hL'
  refine gv_val (w':=w.setCells g n (l.map bv)) (v:=.slice (some ⟨g,0,none⟩) (n+l.length) c) ?_ (h _ (S.upd i hi ⟨q1,q2,q3,q4,fun k hk=>setCells_far _ _ k hk⟩ h3))
  simp [execOp,ho,resolve,invoke,builtin,hs,hx,hrun]
theorem gv_shr {x y:Operand}{T U:TypeId}{k yk:IntKind}{z i:Int}{j:Nat}{z':Int}(ho:o.op=.binOp .shr T x y U)(hx:ρ x=.int k z)(hy:ρ y=.int yk i)(hi:i=(j:Int))(hj:j≤k.bits)(hz:z'=z/2^j)(h:K (.int k z') w):gives P K ((execOp ρ o).run P w):=by
 subst hi hz
 refine gv_val (w':=w) ?_ h
 have hf:z.fdiv (2^j)=z/2^j:=Int.fdiv_eq_ediv_of_nonneg _ (Int.pow_nonneg dc_)
 have hn:¬((j:Int)<0):=by omega
 have hm:min j k.bits=j:=Nat.min_eq_left hj
 simp only [execOp,ho,hx,hy]
 simp [binOp,eqGuard,Op.shift,hn,hm,hf]
theorem RoT.ofVec {t:TypeId}{A:Option Addr}{l:List UInt8}{n c:Nat}(i:Nat)(hi:L[i]?=some (vec t 1 (.slice A n c) n (l.map bv))):RoT F w0 L A l:=⟨fun w' L' S=>by
 have h1:(L'++L)[L'.length+i]?=some (vec t 1 (.slice A n c) n (l.map bv)):=by rw [List.getElem?_append_right om_];simpa using hi
 have S1:=S.mem _ h1
 intro h0
 have hl:=S1.vec_len
 rw [List.length_map] at hl
 obtain ⟨g,c2,junk,hv,_,h3,_,S2⟩:=S1.vec_open om_
 have hB:=S2.blk 0 rfl
 simp at hv
 refine ⟨⟨g,0,none⟩,hv.1,fun j u hu=> ?_⟩
 rw [Addr.add_lit,Nat.zero_add,hB.cell,List.getElem?_toArray,List.getElem?_append_left (List.getElem?_eq_some_iff.1 hu).1];exact hu⟩
theorem St.vecV {t:TypeId}{sz n:Nat}{v:Value}{vals:List Value}(S:St F w0 w L)(i:Nat)(hi:L[i]?=some (vec t sz v n vals)):∃A c,v=.slice A n c:=(S.mem i hi).vec_val
end
theorem wr_u8 (b:UInt8):IntKind.i64.wrap (b.toNat:Int)=(b.toNat:Int):=by
 have:=b.toNat_lt
 rw [IntKind.wrap_i64];omega
theorem wrap_u8 (z:Int):IntKind.u8.wrap z=((UInt8.ofNat (z%256).toNat).toNat:Int):=by
 rw [UInt8.toNat_ofNat',IntKind.wrap_u8]
 have h1:=Int.emod_nonneg z (show (256:Int)≠0 by decide)
 have h2:=Int.emod_lt_of_pos z (show (0:Int)<256 by decide)
 omega
end
end Go.Vel
end
section
open Go Go.RowKit Go.Proofs.YtgeioealgidkiaaW.PrintWords Go.Proofs.YtgeioealgidkiaaW.PrintMore
namespace Go.Proofs
open Go.Vel
set_option linter.unusedVariables false
set_option maxRecDepth 100000
set_option maxHeartbeats 4000000
attribute [local irreducible] gives wpList Code.wp
section
variable {F:Nat→Prop} {w0 w:World} {L:List Ast}
theorem ps_seal' (S:St F w0 w L){A B:Option Addr}{a b:List UInt8}{m n ca cb:Nat}(hm0:m=a.length)(hn0:n=b.length)(ha:RoT F w0 L A a)(hb:RoT F w0 L B b)(hma:a.length≤9223372036854775807)(hmb:b.length≤9223372036854775807):Calls Try.prog 40 #[.slice A m ca,.slice B n cb] w fun e w'=>∃A c,e=.returned (.tuple #[.slice A (sealF a b).1.length c,.int .i64 ((sealF a b).2:Int)])∧St F w0 w' (bytesX (.slice A (sealF a b).1.length c) (sealF a b).1::L):=by
 subst hm0 hn0
 refine (ps_seal S ha hb hma hmb).mono fun e w' h=> ?_
 obtain ⟨v,rfl,S2⟩:=h
 obtain ⟨A',c',rfl,_⟩:=St.bytesX_v S2
 exact ⟨A',c',rfl,S2⟩
theorem _root_.Go.Vel.St.bytesX_nil (S:St F w0 w L):St F w0 w (bytesX (.slice none 0 0) []::L):=
 (St.vec_nil (e:=0) (sz:=0) S).map1 fun p _=>⟨none,0,rfl,Nat.le_refl _,fun w _=>RdB.nil⟩
theorem length_le8 (no:Int):(le8 no).length=8:=by simp [le8]
theorem le8_get (no:Int){k:Nat}(hk:k<8):(le8 no).getD k 0=UInt8.ofNat ((no/2^(8*k))%256).toNat:=by
 unfold le8
 rw [List.getD_eq_getElem?_getD,List.getElem?_map,List.getElem?_range hk];rfl
theorem le8_nat {no:Int}(h:0≤no){k:Nat}(hk:k<8):(le8 no).getD k 0=UInt8.ofNat (no.toNat/256^k%256):=by
 rw [le8_get no hk]
 obtain ⟨m,rfl⟩:∃m:Nat,no=(m:Int):=⟨no.toNat,by omega⟩
 have e:((2:Int)^(8*k))=((256^k:Nat):Int):=by
  rw [show (256:Nat)=2^8 from rfl,←Nat.pow_mul];simp
 rw [e,←Int.natCast_ediv,Int.toNat_natCast]
 congr 1
theorem bvs_set (X:List UInt8)(k:Nat)(b:UInt8):(bvs X).setIfInBounds k (.int .u8 (b.toNat:Int))=bvs (X.set k b):=by
 unfold bvs
 rw [List.setIfInBounds_toArray,List.map_set];rfl
theorem fill_set {l:List UInt8}{k m:Nat}(h:k<l.length)(hm:l.length=8):(l.take k++List.replicate (8-k+m) 0).set k (l.getD k 0)=l.take (k+1)++List.replicate (8-(k+1)+m) 0:=by
 have hl:(l.take k).length=k:=by rw [List.length_take];omega
 rw [List.set_append_right _ _ om_,hl,Nat.sub_self,show 8-k+m=(8-(k+1)+m)+1 from by omega,List.replicate_succ,List.set_cons_zero,show l.take (k+1)=l.take k++[l[k]] from List.take_succ_eq_append_getElem h,List.getD_eq_getElem?_getD,List.getElem?_eq_getElem h]
 show l.take k++l[k]::_=(l.take k++[l[k]])++_
 rw [List.append_assoc];rfl
theorem readF_lt (s:List UInt8):(readF s).1≤9223372036854775807:=by
 unfold readF
 split
 ·exact Nat.zero_le _
 ·split
  ·exact Nat.zero_le _
  ·show leN _≤_;omega
theorem newest_lt (a b:List UInt8):(newestF a b).2.1≤9223372036854775807:=by
 unfold newestF
 split
 ·split
  ·exact Nat.zero_le _
  ·split
   ·exact readF_lt _
   ·exact readF_lt _
 ·exact Nat.zero_le _
theorem renew_end {a b:List UInt8}{no:Int}{d:List UInt8}(h:a.length=512∧b.length=512)(h1:¬no<1)(h2:¬496<d.length)(h3:¬((newestF a b).2.2.2=0∧no≤((newestF a b).2.1:Int))):renewF a b no d=if (newestF a b).2.2.2=0∧(newestF a b).1=0 then (1,(sealF b (le8 no++d)).1,(sealF b (le8 no++d)).2) else (0,(sealF a (le8 no++d)).1,(sealF a (le8 no++d)).2):=by
 rw [renew_mid h h1 h2,if_neg h3]
theorem ps_pair_bad (S:St F w0 w L){A B:Option Addr}{a b:List UInt8}{ca cb:Nat}(ha:RoT F w0 L A a)(hb:RoT F w0 L B b)(hma:a.length≤9223372036854775807)(hmb:b.length≤9223372036854775807)(hl:¬(a.length=512∧b.length=512)):Calls Try.prog 136 #[.slice A a.length ca,.slice B b.length cb] w fun e w'=>e=.returned (.tuple #[.agg #[.int .i64 0,.slice none 0 0,.int .i64 0,.slice none 0 0],.int .i64 (-1),.int .i64 2])∧St F w0 w' L:=by
 have h:=pair_any w A ca a B cb b (ha.to_C S hma) (hb.to_C S hmb)
 rw [len_ofB,len_ofB] at h
 refine h.mono fun e w' h=> ?_
 unfold RetPair at h
 rw [if_neg hl] at h
 exact ⟨h.1,S.below h.2⟩
theorem ps_renew (S:St F w0 w L){A B D:Option Addr}{a b d:List UInt8}{ca cb cd:Nat}{no:Int}(ha:RoT F w0 L A a)(hb:RoT F w0 L B b)(hd:RoT F w0 L D d)(hma:a.length≤9223372036854775807)(hmb:b.length≤9223372036854775807)(hmd:d.length≤140737488355328)(hno:no≤9223372036854775807):Calls Try.prog 133 #[.slice A a.length ca,.slice B b.length cb,.int .i64 no,.slice D d.length cd] w fun e w'=>∃A c,e=.returned (.tuple #[.int .i64 ((renewF a b no d).1:Int),.slice A (renewF a b no d).2.1.length c,.int .i64 ((renewF a b no d).2.2:Int)])∧St F w0 w' (bytesX (.slice A (renewF a b no d).2.1.length c) (renewF a b no d).2.1::L):=by
 have h8:=length_le8 no
 by_cases hl:¬(a.length=512∧b.length=512)
 ·refine eN (fr [.slice A a.length ca,.slice B b.length cb,iv no,.slice D d.length cd] 77) Try.func133 rfl (sR (pv (iv 0) (pv (nS_) (pv (iv 0) (wER (pv (.slice A a.length ca) (pv (.slice B b.length cb) (sP Try.func136 #[.slice A a.length ca,.slice B b.length cb] (ps_pair_bad S ha hb hma hmb hl) fun w1 S2=>pv (.tuple #[.agg #[iv 0,nS_,iv 0,nS_],iv (-1),iv 2]) (pv (.agg #[iv 0,nS_,iv 0,nS_]) (pv (iv (-1)) (pv (iv 2) (nW rfl (.agg #[iv 0,nS_,iv 0,nS_]) S2 fun g3 w4 hg5 S6=> ?_))))))))))))
  refine g_ (gv_stA (k:=0) (vs:=[iv 0,nS_,iv 0,nS_]) S6 0 rfl rfl kr_ kr_ kr_ rfl (by simp [Value.oneCell']) (Nat.le_of_ble_eq_true kr_) (L':=(row g3 #[iv 0,nS_,iv 0,nS_] 194::L)) rfl (fun w7 S8=>pv (iv (-1)) (pv (iv 2) (wE (nS (wp_block (sR (pv (iv 2) (dN 2 0 (fun _=>pv tv (wE (nCT (sR (pv (iv 2) ?_))))) fun hd9=>False.elim (absurd hd9 dc_))))))))))
  refine pv (iv 0) (pv (nS_) (pv (iv 2) (wE (then_n (wp_ret (inb_r (then_r (bodyPost_ret (v:=.tuple #[iv 0,nS_,iv 2]) (Go.Vel.results_tmp3 rfl _ _ kr_ kr_ kr_) rfl ?_))))))))
  have e:renewF a b no d=(0,[],2):=by unfold renewF;rw [if_pos hl]
  rw [e]
  have S10:=St.pm 1 [] S8
  exact ⟨none,0,rfl,St.bytesX_nil S10⟩
 have hl:a.length=512∧b.length=512:=by omega
 obtain ⟨m,hm⟩:∃m,m=(readF a).1:=⟨_,rfl⟩
 obtain ⟨n,hn⟩:∃n,n=(readF b).1:=⟨_,rfl⟩
 have hml:=readF_lt a
 have hnl:=readF_lt b
 rw [←hm] at hml
 rw [←hn] at hnl
 rcases slot_three m n with hs|hs|hs
 ·have hnw:=newest_none ⟨hl,hm,hn,hs⟩
  refine eN (fr [.slice A a.length ca,.slice B b.length cb,iv no,.slice D d.length cd] 77) Try.func133 rfl (sR (pv (iv 0) (pv (nS_) (pv (iv 0) (wER (pv (.slice A a.length ca) (pv (.slice B b.length cb) (g_ (gv_call (args:=#[.slice A a.length ca,.slice B b.length cb]) rfl Try.func136 kr_ rfl rfl kr_ (Calls.mono (ps_pair (sl:=(-1)) S ha hb hl hm hn hs) ?_))))))))))
  rintro _ w1 ⟨v0,v1,rfl,ho0,ho1,S2⟩
  refine ⟨_,rfl,(pv (.tuple #[.agg #[nI_ m,v0,nI_ n,v1],iv (-1),iv 0]) (pv (.agg #[nI_ m,v0,nI_ n,v1]) (pv (iv (-1)) (pv (iv 0) (nW rfl (.agg #[iv 0,nS_,iv 0,nS_]) S2 fun g3 w4 hg5 S6=>g_ (gv_stA (k:=0) (vs:=[nI_ m,v0,nI_ n,v1]) S6 0 rfl rfl kr_ kr_ kr_ rfl (by intro u hu;simp only [List.mem_cons,List.not_mem_nil,or_false] at hu;rcases hu with rfl|rfl|rfl|rfl<;>first|rfl|assumption) (Nat.le_of_ble_eq_true kr_) (L':=(row g3 #[nI_ m,v0,nI_ n,v1] 194::L)) rfl (fun w7 S8=>pv (iv (-1)) (pv (iv 0) (wE (nS (wp_block (sR (pv (iv 0) ?_)))))))))))))⟩
  refine dN 0 0 (fun hd9=>False.elim (hd9 dc_)) fun _=>pv fv (wE (nCF (sR (pv (iv no) (dC ((no:Int)<1) (fun hb10=> ?_) fun hb10=> ?_)))))
  ·refine pv tv (wE (nCT (sR (pv (iv 0) (pv (nS_) (pv (iv 1) (wE (then_n (wp_ret (inb_r (then_r (bodyPost_ret (v:=.tuple #[iv 0,nS_,iv 1]) (Go.Vel.results_tmp3 rfl _ _ kr_ kr_ kr_) rfl ?_))))))))))))
   have e:renewF a b no d=(0,[],1):=by unfold renewF;rw [if_neg (fun h=>h hl),if_pos om_]
   rw [e]
   have S11:=St.pm 1 [] S8
   exact ⟨none,0,rfl,St.bytesX_nil S11⟩
  ·refine pv fv (wE (nCF (sR (pv (.slice D d.length cd) (pv (iv (d.length:Nat)) (dC (((d.length:Nat):Int)>496) (fun hb12=> ?_) fun hb12=> ?_))))))
   ·refine pv tv (wE (nCT (sR (pv (iv 0) (pv (nS_) (pv (iv 7) (wE (then_n (wp_ret (inb_r (then_r (bodyPost_ret (v:=.tuple #[iv 0,nS_,iv 7]) (Go.Vel.results_tmp3 rfl _ _ kr_ kr_ kr_) rfl ?_))))))))))))
    have e:renewF a b no d=(0,[],7):=by unfold renewF;rw [if_neg (fun h=>h hl),if_neg om_,if_pos om_]
    rw [e]
    have S13:=St.pm 1 [] S8
    exact ⟨none,0,rfl,St.bytesX_nil S13⟩
   ·refine pv fv (wE (nCF (sR (pv (iv (-1)) (dC (((-1):Int)≥0) (fun hd14=>False.elim (om_)) fun _=>pv fv (wN (wN (wN (wN (wN (wN (pv fv ?_))))))))))))
    refine pv fv (wE (nCF (wp_skip (inb_n (nSR (pv (.slice D d.length cd) (pv (iv (d.length:Nat)) (gI .i64 (IntKind.i64.wrap (8+(d.length:Nat))) ((8+d.length:Nat):Int) wq_ ?_))))))))
    have hd9:d.length≤496:=by omega
    refine g_ (gv_make (e:=5) (u:=8) (v:=((8+d.length:Nat):Int)) (z:=.int .u8 0) (sz:=1) (by_:=1) (n:=8) (c:=8+d.length) (cs:=bvs (List.replicate (8+d.length) 0)) S8 rfl kr_ ⟨by kernel_rfl⟩ kr_ kr_ rfl rfl om_ om_ om_ (mk_bytes _) (fun g15 w16 hg17 S18=> ?_))
    change St F w0 w16 (row g15 (bvs ((le8 no).take 0++List.replicate (8-0+d.length) 0)) 5::row g3 #[nI_ m,v0,nI_ n,v1] 194::L) at S18
    refine pv (sl g15 0 8 (8+d.length)) (wE (nS (sR (pv (sl g15 0 8 (8+d.length)) (pv (iv 8) (pv (iv 0) (wE (then_n (wp_block ?_)))))))))
    have S19:St F w0 w16 (row g15 (bvs ((le8 no).take 0++List.replicate (8-0+d.length) 0)) 5::L):=St.pm 2 [0] S18
    refine wp_loop_g (G:=Nat) (fun (g_:Nat) (a_:Act) (w_:World)=>∃J:Nat→Value,a_=(fr ([.slice A a.length ca,.slice B b.length cb,iv no,.slice D d.length cd,ud,ud,ud,ud,iv 0,nS_,iv 0,pq g3,iv (-1),iv 0,sl g15 0 8 (8+d.length),J 15,ud,ud,ud,.tuple #[.agg #[nI_ m,v0,nI_ n,v1],iv (-1),iv 0],.slice A a.length ca,.slice B b.length cb,.tuple #[.agg #[nI_ m,v0,nI_ n,v1],iv (-1),iv 0],.agg #[nI_ m,v0,nI_ n,v1],iv (-1),iv 0,fv,iv 0,fv,ud,fv,iv no,fv,fv,.slice D d.length cd,iv (d.length:Nat),fv,fv,iv (-1),fv,fv,ud,ud,ud,ud,ud,ud,fv,.slice D d.length cd,iv (d.length:Nat),nI_ (8+d.length),sl g15 0 8 (8+d.length),sl g15 0 8 (8+d.length),iv 8,nI_ g_]++jR J 55 11) 15)∧St F w0 w_ (row g15 (bvs ((le8 no).take g_++List.replicate (8-g_+d.length) 0)) 5::L)∧(g_≤8)) (fun g_=>8-g_) 0 (jE_ ⟨S19,Nat.zero_le _⟩) ?_
    rintro k a_ w20 ⟨J,rfl,S21,hI22⟩
    skip
    have S21:St F w0 w20 (row g15 (bvs ((le8 no).take k++List.replicate (8-k+d.length) 0)) 5::L):=S21
    have hI22:(k≤8):=hI22
    refine sR (dC ((((k:Nat):Int):Int)<8) (fun hb23=> ?_) fun hb23=> ?_)
    ·have hk8:k<8:=by omega
     refine wE (nS (cT (wp_skip (nS (wp_block (sR (pv (nI_ k) (pv (nI_ k) (wE (nR (pv (sl g15 0 8 (8+d.length)) (pv (nI_ k) (pv (iv no) ?_)))))))))))))
     exact pv (nI_ k) (gI .i64 (IntKind.i64.wrap (8*((k:Nat):Int))) ((8*k:Nat):Int) (wr_eq om_ om_ om_) (g_ (gv_shr (k:=.i64) (yk:=.i64) (z:=no) (i:=((8*k:Nat):Int)) (j:=(8*k)) (z':=(no/2^(8*k))) rfl kr_ kr_ rfl (by show 8*k≤64;omega) rfl (gI .u8 (IntKind.u8.wrap (no/2^(8*k))) (((le8 no).getD k 0).toNat:Int) (by rw [wrap_u8,le8_get no hk8]) (g_ (gv_ixE (e:=5) (sz:=1) (g:=g15) (off:=0) (n:=8) (c:=(8+d.length)) (i:=((k:Nat):Int)) (k:=.i64) (j:=k) (off':=k) rfl kr_ kr_ kr_ kr_ rfl om_ om_ (g_ (gv_st (k:=k) (v:=.int .u8 (((le8 no).getD k 0).toNat:Int)) S21 0 rfl rfl kr_ kr_ kr_ rfl (Nat.ble_eq_true_of_le (by rw [size_bvs,List.length_append,List.length_take,List.length_replicate];omega)) (L':=(row g15 (bvs ((le8 no).take (k+1)++List.replicate (8-(k+1)+d.length) 0)) 5::L)) (by rw [bvs_set,fill_set om_ h8];rfl) (fun w24 S25=>wE (inb_n (nR (gI .i64 (IntKind.i64.wrap (((k:Nat):Int)+1)) ((k+1:Nat):Int) (wr_eq om_ om_ om_) (pv (nI_ (k+1)) (wE (then_n ⟨k+1,(jE_ ⟨S25,om_⟩),(by show 8-(k+1)<8-k;omega)⟩)))))))))))))))
    ·have hk8:k=8:=by omega
     have ht8:(le8 no).take 8=le8 no:=List.take_of_length_le om_
     rw [hk8,ht8] at S21
     refine wE (nS (cF (wp_exit (then_x (then_x (inb_x (nSR (pv (.slice A a.length ca) (pv (iv 0) (pv (.slice A a.length ca) (wE (nS (sR ?_)))))))))))))
     refine pv (iv (-1)) (dE (-1) 0 (fun hd26=>False.elim (om_)) fun _=>wE (nCF (wp_skip (nSR (pv (.slice A a.length ca) (pv (sl g15 0 8 (8+d.length)) (pv (.slice D d.length cd) ?_)))))))
     have hln:8+d.length=(le8 no++d).length:=by rw [List.length_append];omega
     have hsp:splice (le8 no++List.replicate (8-8+d.length) 0) 8 d=le8 no++d:=by unfold splice;rw [List.take_left' h8,List.drop_of_length_le (by rw [List.length_append,List.length_replicate];omega),List.append_nil]
     refine g_ (gv_appendB (e:=5) (n:=8) (c:=8+d.length) (m:=d.length) (c':=cd) (A:=D) (l:=d) (X:=le8 no++List.replicate (8-8+d.length) 0) (n':=8+d.length) S21 0 rfl rfl kr_ kr_ kr_ kr_ rfl (hd.out _ [row g15 (bvs (le8 no++List.replicate (8-8+d.length) 0)) 5] S21) (Nat.le_refl _) (by rw [List.length_append,List.length_replicate];omega) rfl (L':=(row g15 (bvs (le8 no++d)) 5::L)) (by rw [hsp];rfl) (fun w27 S28=>sP2 Try.func40 #[.slice A a.length ca,sl g15 0 (8+d.length) (8+d.length)] (ps_seal' (a:=a) (b:=le8 no++d) S28 rfl hln ha.more (RoT.item 0 rfl 0 (le8 no++d).length _ (by rw [List.drop_zero,List.take_length])) om_ om_) fun A31 c32 w29 S30=>pv (.tuple #[.slice A31 ((sealF a (le8 no++d)).1.length) c32,iv ((sealF a (le8 no++d)).2:Int)]) (pv (.slice A31 ((sealF a (le8 no++d)).1.length) c32) (pv (iv ((sealF a (le8 no++d)).2:Int)) (pv (.slice A31 ((sealF a (le8 no++d)).1.length) c32) (pv (iv ((sealF a (le8 no++d)).2:Int)) (wER (pv (iv 0) (pv (.slice A31 ((sealF a (le8 no++d)).1.length) c32) (pv (iv ((sealF a (le8 no++d)).2:Int)) (pv (iv 0) (pv (.slice A31 ((sealF a (le8 no++d)).1.length) c32) (pv (iv ((sealF a (le8 no++d)).2:Int)) ?_)))))))))))))
     refine wE (then_n (wp_ret (bodyPost_ret (v:=.tuple #[iv 0,.slice A31 ((sealF a (le8 no++d)).1.length) c32,iv ((sealF a (le8 no++d)).2:Int)]) (Go.Vel.results_tmp3 rfl _ _ kr_ kr_ kr_) rfl ?_)))
     have e:=renew_end (a:=a) (b:=b) (no:=no) (d:=d) hl om_ om_ (by rw [hnw];simp<;>omega)
     rw [hnw,if_neg (by simp)] at e
     rw [e]
     have S33:=St.pm 2 [0] S30
     exact ⟨A31,c32,rfl,S33⟩
 ·have hnw:=newest_left ⟨hl,hm,hn,hs⟩
  refine eN (fr [.slice A a.length ca,.slice B b.length cb,iv no,.slice D d.length cd] 77) Try.func133 rfl (sR (pv (iv 0) (pv (nS_) (pv (iv 0) (wER (pv (.slice A a.length ca) (pv (.slice B b.length cb) (g_ (gv_call (args:=#[.slice A a.length ca,.slice B b.length cb]) rfl Try.func136 kr_ rfl rfl kr_ (Calls.mono (ps_pair (sl:=0) S ha hb hl hm hn hs) ?_))))))))))
  rintro _ w1 ⟨v0,v1,rfl,ho0,ho1,S2⟩
  refine ⟨_,rfl,(pv (.tuple #[.agg #[nI_ m,v0,nI_ n,v1],iv 0,iv 0]) (pv (.agg #[nI_ m,v0,nI_ n,v1]) (pv (iv 0) (pv (iv 0) (nW rfl (.agg #[iv 0,nS_,iv 0,nS_]) S2 fun g3 w4 hg5 S6=>g_ (gv_stA (k:=0) (vs:=[nI_ m,v0,nI_ n,v1]) S6 0 rfl rfl kr_ kr_ kr_ rfl (by intro u hu;simp only [List.mem_cons,List.not_mem_nil,or_false] at hu;rcases hu with rfl|rfl|rfl|rfl<;>first|rfl|assumption) (Nat.le_of_ble_eq_true kr_) (L':=(row g3 #[nI_ m,v0,nI_ n,v1] 194::L)) rfl (fun w7 S8=>pv (iv 0) (pv (iv 0) (wE (nS (wp_block (sR (pv (iv 0) ?_)))))))))))))⟩
  refine dN 0 0 (fun hd9=>False.elim (hd9 dc_)) fun _=>pv fv (wE (nCF (sR (pv (iv no) (dC ((no:Int)<1) (fun hb10=> ?_) fun hb10=> ?_)))))
  ·refine pv tv (wE (nCT (sR (pv (iv 0) (pv (nS_) (pv (iv 1) (wE (then_n (wp_ret (inb_r (then_r (bodyPost_ret (v:=.tuple #[iv 0,nS_,iv 1]) (Go.Vel.results_tmp3 rfl _ _ kr_ kr_ kr_) rfl ?_))))))))))))
   have e:renewF a b no d=(0,[],1):=by unfold renewF;rw [if_neg (fun h=>h hl),if_pos om_]
   rw [e]
   have S11:=St.pm 1 [] S8
   exact ⟨none,0,rfl,St.bytesX_nil S11⟩
  ·refine pv fv (wE (nCF (sR (pv (.slice D d.length cd) (pv (iv (d.length:Nat)) (dC (((d.length:Nat):Int)>496) (fun hb12=> ?_) fun hb12=> ?_))))))
   ·refine pv tv (wE (nCT (sR (pv (iv 0) (pv (nS_) (pv (iv 7) (wE (then_n (wp_ret (inb_r (then_r (bodyPost_ret (v:=.tuple #[iv 0,nS_,iv 7]) (Go.Vel.results_tmp3 rfl _ _ kr_ kr_ kr_) rfl ?_))))))))))))
    have e:renewF a b no d=(0,[],7):=by unfold renewF;rw [if_neg (fun h=>h hl),if_neg om_,if_pos om_]
    rw [e]
    have S13:=St.pm 1 [] S8
    exact ⟨none,0,rfl,St.bytesX_nil S13⟩
   ·refine pv fv (wE (nCF (sR (pv (iv 0) (dC ((0:Int)≥0) (fun _=>pv tv (pW (iv no) (pW (iv 0) (wl_when kr_ (gv_ixArr (sz:=2) (g:=g3) (off:=0) (N:=2) (k:=.i64) (i:=0) (j:=0) (off':=0) rfl kr_ kr_ kr_ kr_ kr_ rfl dc_ rfl (pW (pq g3) (wl_when kr_ (gv_ldR (v:=nI_ m) rfl kr_ kr_ (((S8.blk 0 rfl).cell 0).trans rfl) (wl_when kr_ (gv_dec (p:=(no:Int)≤((m:Nat):Int)) kr_ (fun hb15=> ?_) (fun hb15=> ?_))))))))))) fun hd14=>False.elim (om_))))))
    ·refine pv tv (pv tv (wE (nCT (sR (pv (iv 0) (pv (nS_) (pv (iv 31) (wE (then_n (wp_ret (inb_r (then_r (bodyPost_ret (v:=.tuple #[iv 0,nS_,iv 31]) (Go.Vel.results_tmp3 rfl _ _ kr_ kr_ kr_) rfl ?_)))))))))))))
     have e:renewF a b no d=(0,[],31):=by unfold renewF;rw [if_neg (fun h=>h hl),if_neg om_,if_neg om_,if_pos (by rw [hnw];exact ⟨rfl,by omega⟩)]
     rw [e]
     have S16:=St.pm 1 [] S8
     exact ⟨none,0,rfl,St.bytesX_nil S16⟩
    ·refine pv fv (pv fv (wE (nCF (wp_skip (inb_n (nSR (pv (.slice D d.length cd) (pv (iv (d.length:Nat)) (gI .i64 (IntKind.i64.wrap (8+(d.length:Nat))) ((8+d.length:Nat):Int) wq_ ?_)))))))))
     have hd9:d.length≤496:=by omega
     refine g_ (gv_make (e:=5) (u:=8) (v:=((8+d.length:Nat):Int)) (z:=.int .u8 0) (sz:=1) (by_:=1) (n:=8) (c:=8+d.length) (cs:=bvs (List.replicate (8+d.length) 0)) S8 rfl kr_ ⟨by kernel_rfl⟩ kr_ kr_ rfl rfl om_ om_ om_ (mk_bytes _) (fun g17 w18 hg19 S20=> ?_))
     change St F w0 w18 (row g17 (bvs ((le8 no).take 0++List.replicate (8-0+d.length) 0)) 5::row g3 #[nI_ m,v0,nI_ n,v1] 194::L) at S20
     refine pv (sl g17 0 8 (8+d.length)) (wE (nS (sR (pv (sl g17 0 8 (8+d.length)) (pv (iv 8) (pv (iv 0) (wE (then_n (wp_block ?_)))))))))
     have S21:St F w0 w18 (row g17 (bvs ((le8 no).take 0++List.replicate (8-0+d.length) 0)) 5::L):=St.pm 2 [0] S20
     refine wp_loop_g (G:=Nat) (fun (g_:Nat) (a_:Act) (w_:World)=>∃J:Nat→Value,a_=(fr ([.slice A a.length ca,.slice B b.length cb,iv no,.slice D d.length cd,ud,ud,ud,ud,iv 0,nS_,iv 0,pq g3,iv 0,iv 0,sl g17 0 8 (8+d.length),J 15,ud,ud,ud,.tuple #[.agg #[nI_ m,v0,nI_ n,v1],iv 0,iv 0],.slice A a.length ca,.slice B b.length cb,.tuple #[.agg #[nI_ m,v0,nI_ n,v1],iv 0,iv 0],.agg #[nI_ m,v0,nI_ n,v1],iv 0,iv 0,fv,iv 0,fv,ud,fv,iv no,fv,fv,.slice D d.length cd,iv (d.length:Nat),fv,fv,iv 0,tv,tv,iv no,iv 0,pq g3,pq g3,nI_ m,fv,fv,.slice D d.length cd,iv (d.length:Nat),nI_ (8+d.length),sl g17 0 8 (8+d.length),sl g17 0 8 (8+d.length),iv 8,nI_ g_]++jR J 55 11) 15)∧St F w0 w_ (row g17 (bvs ((le8 no).take g_++List.replicate (8-g_+d.length) 0)) 5::L)∧(g_≤8)) (fun g_=>8-g_) 0 (jE_ ⟨S21,Nat.zero_le _⟩) ?_
     rintro k a_ w22 ⟨J,rfl,S23,hI24⟩
     skip
     have S23:St F w0 w22 (row g17 (bvs ((le8 no).take k++List.replicate (8-k+d.length) 0)) 5::L):=S23
     have hI24:(k≤8):=hI24
     refine sR (dC ((((k:Nat):Int):Int)<8) (fun hb25=> ?_) fun hb25=> ?_)
     ·have hk8:k<8:=by omega
      refine wE (nS (cT (wp_skip (nS (wp_block (sR (pv (nI_ k) (pv (nI_ k) (wE (nR (pv (sl g17 0 8 (8+d.length)) (pv (nI_ k) (pv (iv no) ?_)))))))))))))
      exact pv (nI_ k) (gI .i64 (IntKind.i64.wrap (8*((k:Nat):Int))) ((8*k:Nat):Int) (wr_eq om_ om_ om_) (g_ (gv_shr (k:=.i64) (yk:=.i64) (z:=no) (i:=((8*k:Nat):Int)) (j:=(8*k)) (z':=(no/2^(8*k))) rfl kr_ kr_ rfl (by show 8*k≤64;omega) rfl (gI .u8 (IntKind.u8.wrap (no/2^(8*k))) (((le8 no).getD k 0).toNat:Int) (by rw [wrap_u8,le8_get no hk8]) (g_ (gv_ixE (e:=5) (sz:=1) (g:=g17) (off:=0) (n:=8) (c:=(8+d.length)) (i:=((k:Nat):Int)) (k:=.i64) (j:=k) (off':=k) rfl kr_ kr_ kr_ kr_ rfl om_ om_ (g_ (gv_st (k:=k) (v:=.int .u8 (((le8 no).getD k 0).toNat:Int)) S23 0 rfl rfl kr_ kr_ kr_ rfl (Nat.ble_eq_true_of_le (by rw [size_bvs,List.length_append,List.length_take,List.length_replicate];omega)) (L':=(row g17 (bvs ((le8 no).take (k+1)++List.replicate (8-(k+1)+d.length) 0)) 5::L)) (by rw [bvs_set,fill_set om_ h8];rfl) (fun w26 S27=>wE (inb_n (nR (gI .i64 (IntKind.i64.wrap (((k:Nat):Int)+1)) ((k+1:Nat):Int) (wr_eq om_ om_ om_) (pv (nI_ (k+1)) (wE (then_n ⟨k+1,(jE_ ⟨S27,om_⟩),(by show 8-(k+1)<8-k;omega)⟩)))))))))))))))
     ·have hk8:k=8:=by omega
      have ht8:(le8 no).take 8=le8 no:=List.take_of_length_le om_
      rw [hk8,ht8] at S23
      refine wE (nS (cF (wp_exit (then_x (then_x (inb_x (nSR (pv (.slice A a.length ca) (pv (iv 0) (pv (.slice A a.length ca) (wE (nS (sR ?_)))))))))))))
      refine pv (iv 0) (dE 0 0 (fun _=>wE (nCT (wp_region_lit (pv (.slice B b.length cb) (pv (iv 1) (pv (.slice B b.length cb) (wER (pv (.slice B b.length cb) (pv (sl g17 0 8 (8+d.length)) (pv (.slice D d.length cd) ?_)))))))))) fun hd28=>False.elim (om_))
      have hln:8+d.length=(le8 no++d).length:=by rw [List.length_append];omega
      have hsp:splice (le8 no++List.replicate (8-8+d.length) 0) 8 d=le8 no++d:=by unfold splice;rw [List.take_left' h8,List.drop_of_length_le (by rw [List.length_append,List.length_replicate];omega),List.append_nil]
      refine g_ (gv_appendB (e:=5) (n:=8) (c:=8+d.length) (m:=d.length) (c':=cd) (A:=D) (l:=d) (X:=le8 no++List.replicate (8-8+d.length) 0) (n':=8+d.length) S23 0 rfl rfl kr_ kr_ kr_ kr_ rfl (hd.out _ [row g17 (bvs (le8 no++List.replicate (8-8+d.length) 0)) 5] S23) (Nat.le_refl _) (by rw [List.length_append,List.length_replicate];omega) rfl (L':=(row g17 (bvs (le8 no++d)) 5::L)) (by rw [hsp];rfl) (fun w29 S30=>sP2 Try.func40 #[.slice B b.length cb,sl g17 0 (8+d.length) (8+d.length)] (ps_seal' (a:=b) (b:=le8 no++d) S30 rfl hln hb.more (RoT.item 0 rfl 0 (le8 no++d).length _ (by rw [List.drop_zero,List.take_length])) om_ om_) fun A33 c34 w31 S32=>pv (.tuple #[.slice A33 ((sealF b (le8 no++d)).1.length) c34,iv ((sealF b (le8 no++d)).2:Int)]) (pv (.slice A33 ((sealF b (le8 no++d)).1.length) c34) (pv (iv ((sealF b (le8 no++d)).2:Int)) (pv (.slice A33 ((sealF b (le8 no++d)).1.length) c34) (pv (iv ((sealF b (le8 no++d)).2:Int)) (wER (pv (iv 1) (pv (.slice A33 ((sealF b (le8 no++d)).1.length) c34) (pv (iv ((sealF b (le8 no++d)).2:Int)) (pv (iv 1) (pv (.slice A33 ((sealF b (le8 no++d)).1.length) c34) (pv (iv ((sealF b (le8 no++d)).2:Int)) ?_)))))))))))))
      refine wE (then_n (wp_ret (bodyPost_ret (v:=.tuple #[iv 1,.slice A33 ((sealF b (le8 no++d)).1.length) c34,iv ((sealF b (le8 no++d)).2:Int)]) (Go.Vel.results_tmp3 rfl _ _ kr_ kr_ kr_) rfl ?_)))
      have e:=renew_end (a:=a) (b:=b) (no:=no) (d:=d) hl om_ om_ (by rw [hnw];simp<;>omega)
      rw [hnw,if_pos ⟨rfl,rfl⟩] at e
      rw [e]
      have S35:=St.pm 2 [0] S32
      exact ⟨A33,c34,rfl,S35⟩
 ·have hnw:=newest_right ⟨hl,hm,hn,hs⟩
  refine eN (fr [.slice A a.length ca,.slice B b.length cb,iv no,.slice D d.length cd] 77) Try.func133 rfl (sR (pv (iv 0) (pv (nS_) (pv (iv 0) (wER (pv (.slice A a.length ca) (pv (.slice B b.length cb) (g_ (gv_call (args:=#[.slice A a.length ca,.slice B b.length cb]) rfl Try.func136 kr_ rfl rfl kr_ (Calls.mono (ps_pair (sl:=1) S ha hb hl hm hn hs) ?_))))))))))
  rintro _ w1 ⟨v0,v1,rfl,ho0,ho1,S2⟩
  refine ⟨_,rfl,(pv (.tuple #[.agg #[nI_ m,v0,nI_ n,v1],iv 1,iv 0]) (pv (.agg #[nI_ m,v0,nI_ n,v1]) (pv (iv 1) (pv (iv 0) (nW rfl (.agg #[iv 0,nS_,iv 0,nS_]) S2 fun g3 w4 hg5 S6=>g_ (gv_stA (k:=0) (vs:=[nI_ m,v0,nI_ n,v1]) S6 0 rfl rfl kr_ kr_ kr_ rfl (by intro u hu;simp only [List.mem_cons,List.not_mem_nil,or_false] at hu;rcases hu with rfl|rfl|rfl|rfl<;>first|rfl|assumption) (Nat.le_of_ble_eq_true kr_) (L':=(row g3 #[nI_ m,v0,nI_ n,v1] 194::L)) rfl (fun w7 S8=>pv (iv 1) (pv (iv 0) (wE (nS (wp_block (sR (pv (iv 0) ?_)))))))))))))⟩
  refine dN 0 0 (fun hd9=>False.elim (hd9 dc_)) fun _=>pv fv (wE (nCF (sR (pv (iv no) (dC ((no:Int)<1) (fun hb10=> ?_) fun hb10=> ?_)))))
  ·refine pv tv (wE (nCT (sR (pv (iv 0) (pv (nS_) (pv (iv 1) (wE (then_n (wp_ret (inb_r (then_r (bodyPost_ret (v:=.tuple #[iv 0,nS_,iv 1]) (Go.Vel.results_tmp3 rfl _ _ kr_ kr_ kr_) rfl ?_))))))))))))
   have e:renewF a b no d=(0,[],1):=by unfold renewF;rw [if_neg (fun h=>h hl),if_pos om_]
   rw [e]
   have S11:=St.pm 1 [] S8
   exact ⟨none,0,rfl,St.bytesX_nil S11⟩
  ·refine pv fv (wE (nCF (sR (pv (.slice D d.length cd) (pv (iv (d.length:Nat)) (dC (((d.length:Nat):Int)>496) (fun hb12=> ?_) fun hb12=> ?_))))))
   ·refine pv tv (wE (nCT (sR (pv (iv 0) (pv (nS_) (pv (iv 7) (wE (then_n (wp_ret (inb_r (then_r (bodyPost_ret (v:=.tuple #[iv 0,nS_,iv 7]) (Go.Vel.results_tmp3 rfl _ _ kr_ kr_ kr_) rfl ?_))))))))))))
    have e:renewF a b no d=(0,[],7):=by unfold renewF;rw [if_neg (fun h=>h hl),if_neg om_,if_pos om_]
    rw [e]
    have S13:=St.pm 1 [] S8
    exact ⟨none,0,rfl,St.bytesX_nil S13⟩
   ·refine pv fv (wE (nCF (sR (pv (iv 1) (dC ((1:Int)≥0) (fun _=>pv tv (pW (iv no) (pW (iv 1) (wl_when kr_ (gv_ixArr (sz:=2) (g:=g3) (off:=0) (N:=2) (k:=.i64) (i:=1) (j:=1) (off':=2) rfl kr_ kr_ kr_ kr_ kr_ rfl dc_ rfl (pW (po g3 2) (wl_when kr_ (gv_ldR (v:=nI_ n) rfl kr_ kr_ (((S8.blk 0 rfl).cell 2).trans rfl) (wl_when kr_ (gv_dec (p:=(no:Int)≤((n:Nat):Int)) kr_ (fun hb15=> ?_) (fun hb15=> ?_))))))))))) fun hd14=>False.elim (om_))))))
    ·refine pv tv (pv tv (wE (nCT (sR (pv (iv 0) (pv (nS_) (pv (iv 31) (wE (then_n (wp_ret (inb_r (then_r (bodyPost_ret (v:=.tuple #[iv 0,nS_,iv 31]) (Go.Vel.results_tmp3 rfl _ _ kr_ kr_ kr_) rfl ?_)))))))))))))
     have e:renewF a b no d=(0,[],31):=by unfold renewF;rw [if_neg (fun h=>h hl),if_neg om_,if_neg om_,if_pos (by rw [hnw];exact ⟨rfl,by omega⟩)]
     rw [e]
     have S16:=St.pm 1 [] S8
     exact ⟨none,0,rfl,St.bytesX_nil S16⟩
    ·refine pv fv (pv fv (wE (nCF (wp_skip (inb_n (nSR (pv (.slice D d.length cd) (pv (iv (d.length:Nat)) (gI .i64 (IntKind.i64.wrap (8+(d.length:Nat))) ((8+d.length:Nat):Int) wq_ ?_)))))))))
     have hd9:d.length≤496:=by omega
     refine g_ (gv_make (e:=5) (u:=8) (v:=((8+d.length:Nat):Int)) (z:=.int .u8 0) (sz:=1) (by_:=1) (n:=8) (c:=8+d.length) (cs:=bvs (List.replicate (8+d.length) 0)) S8 rfl kr_ ⟨by kernel_rfl⟩ kr_ kr_ rfl rfl om_ om_ om_ (mk_bytes _) (fun g17 w18 hg19 S20=> ?_))
     change St F w0 w18 (row g17 (bvs ((le8 no).take 0++List.replicate (8-0+d.length) 0)) 5::row g3 #[nI_ m,v0,nI_ n,v1] 194::L) at S20
     refine pv (sl g17 0 8 (8+d.length)) (wE (nS (sR (pv (sl g17 0 8 (8+d.length)) (pv (iv 8) (pv (iv 0) (wE (then_n (wp_block ?_)))))))))
     have S21:St F w0 w18 (row g17 (bvs ((le8 no).take 0++List.replicate (8-0+d.length) 0)) 5::L):=St.pm 2 [0] S20
     refine wp_loop_g (G:=Nat) (fun (g_:Nat) (a_:Act) (w_:World)=>∃J:Nat→Value,a_=(fr ([.slice A a.length ca,.slice B b.length cb,iv no,.slice D d.length cd,ud,ud,ud,ud,iv 0,nS_,iv 0,pq g3,iv 1,iv 0,sl g17 0 8 (8+d.length),J 15,ud,ud,ud,.tuple #[.agg #[nI_ m,v0,nI_ n,v1],iv 1,iv 0],.slice A a.length ca,.slice B b.length cb,.tuple #[.agg #[nI_ m,v0,nI_ n,v1],iv 1,iv 0],.agg #[nI_ m,v0,nI_ n,v1],iv 1,iv 0,fv,iv 0,fv,ud,fv,iv no,fv,fv,.slice D d.length cd,iv (d.length:Nat),fv,fv,iv 1,tv,tv,iv no,iv 1,po g3 2,po g3 2,nI_ n,fv,fv,.slice D d.length cd,iv (d.length:Nat),nI_ (8+d.length),sl g17 0 8 (8+d.length),sl g17 0 8 (8+d.length),iv 8,nI_ g_]++jR J 55 11) 15)∧St F w0 w_ (row g17 (bvs ((le8 no).take g_++List.replicate (8-g_+d.length) 0)) 5::L)∧(g_≤8)) (fun g_=>8-g_) 0 (jE_ ⟨S21,Nat.zero_le _⟩) ?_
     rintro k a_ w22 ⟨J,rfl,S23,hI24⟩
     skip
     have S23:St F w0 w22 (row g17 (bvs ((le8 no).take k++List.replicate (8-k+d.length) 0)) 5::L):=S23
     have hI24:(k≤8):=hI24
     refine sR (dC ((((k:Nat):Int):Int)<8) (fun hb25=> ?_) fun hb25=> ?_)
     ·have hk8:k<8:=by omega
      refine wE (nS (cT (wp_skip (nS (wp_block (sR (pv (nI_ k) (pv (nI_ k) (wE (nR (pv (sl g17 0 8 (8+d.length)) (pv (nI_ k) (pv (iv no) ?_)))))))))))))
      exact pv (nI_ k) (gI .i64 (IntKind.i64.wrap (8*((k:Nat):Int))) ((8*k:Nat):Int) (wr_eq om_ om_ om_) (g_ (gv_shr (k:=.i64) (yk:=.i64) (z:=no) (i:=((8*k:Nat):Int)) (j:=(8*k)) (z':=(no/2^(8*k))) rfl kr_ kr_ rfl (by show 8*k≤64;omega) rfl (gI .u8 (IntKind.u8.wrap (no/2^(8*k))) (((le8 no).getD k 0).toNat:Int) (by rw [wrap_u8,le8_get no hk8]) (g_ (gv_ixE (e:=5) (sz:=1) (g:=g17) (off:=0) (n:=8) (c:=(8+d.length)) (i:=((k:Nat):Int)) (k:=.i64) (j:=k) (off':=k) rfl kr_ kr_ kr_ kr_ rfl om_ om_ (g_ (gv_st (k:=k) (v:=.int .u8 (((le8 no).getD k 0).toNat:Int)) S23 0 rfl rfl kr_ kr_ kr_ rfl (Nat.ble_eq_true_of_le (by rw [size_bvs,List.length_append,List.length_take,List.length_replicate];omega)) (L':=(row g17 (bvs ((le8 no).take (k+1)++List.replicate (8-(k+1)+d.length) 0)) 5::L)) (by rw [bvs_set,fill_set om_ h8];rfl) (fun w26 S27=>wE (inb_n (nR (gI .i64 (IntKind.i64.wrap (((k:Nat):Int)+1)) ((k+1:Nat):Int) (wr_eq om_ om_ om_) (pv (nI_ (k+1)) (wE (then_n ⟨k+1,(jE_ ⟨S27,om_⟩),(by show 8-(k+1)<8-k;omega)⟩)))))))))))))))
     ·have hk8:k=8:=by omega
      have ht8:(le8 no).take 8=le8 no:=List.take_of_length_le om_
      rw [hk8,ht8] at S23
      refine wE (nS (cF (wp_exit (then_x (then_x (inb_x (nSR (pv (.slice A a.length ca) (pv (iv 0) (pv (.slice A a.length ca) (wE (nS (sR ?_)))))))))))))
      refine pv (iv 1) (dE 1 0 (fun hd28=>False.elim (om_)) fun _=>wE (nCF (wp_skip (nSR (pv (.slice A a.length ca) (pv (sl g17 0 8 (8+d.length)) (pv (.slice D d.length cd) ?_)))))))
      have hln:8+d.length=(le8 no++d).length:=by rw [List.length_append];omega
      have hsp:splice (le8 no++List.replicate (8-8+d.length) 0) 8 d=le8 no++d:=by unfold splice;rw [List.take_left' h8,List.drop_of_length_le (by rw [List.length_append,List.length_replicate];omega),List.append_nil]
      refine g_ (gv_appendB (e:=5) (n:=8) (c:=8+d.length) (m:=d.length) (c':=cd) (A:=D) (l:=d) (X:=le8 no++List.replicate (8-8+d.length) 0) (n':=8+d.length) S23 0 rfl rfl kr_ kr_ kr_ kr_ rfl (hd.out _ [row g17 (bvs (le8 no++List.replicate (8-8+d.length) 0)) 5] S23) (Nat.le_refl _) (by rw [List.length_append,List.length_replicate];omega) rfl (L':=(row g17 (bvs (le8 no++d)) 5::L)) (by rw [hsp];rfl) (fun w29 S30=>sP2 Try.func40 #[.slice A a.length ca,sl g17 0 (8+d.length) (8+d.length)] (ps_seal' (a:=a) (b:=le8 no++d) S30 rfl hln ha.more (RoT.item 0 rfl 0 (le8 no++d).length _ (by rw [List.drop_zero,List.take_length])) om_ om_) fun A33 c34 w31 S32=>pv (.tuple #[.slice A33 ((sealF a (le8 no++d)).1.length) c34,iv ((sealF a (le8 no++d)).2:Int)]) (pv (.slice A33 ((sealF a (le8 no++d)).1.length) c34) (pv (iv ((sealF a (le8 no++d)).2:Int)) (pv (.slice A33 ((sealF a (le8 no++d)).1.length) c34) (pv (iv ((sealF a (le8 no++d)).2:Int)) (wER (pv (iv 0) (pv (.slice A33 ((sealF a (le8 no++d)).1.length) c34) (pv (iv ((sealF a (le8 no++d)).2:Int)) (pv (iv 0) (pv (.slice A33 ((sealF a (le8 no++d)).1.length) c34) (pv (iv ((sealF a (le8 no++d)).2:Int)) ?_)))))))))))))
      refine wE (then_n (wp_ret (bodyPost_ret (v:=.tuple #[iv 0,.slice A33 ((sealF a (le8 no++d)).1.length) c34,iv ((sealF a (le8 no++d)).2:Int)]) (Go.Vel.results_tmp3 rfl _ _ kr_ kr_ kr_) rfl ?_)))
      have e:=renew_end (a:=a) (b:=b) (no:=no) (d:=d) hl om_ om_ (by rw [hnw];simp<;>omega)
      rw [hnw,if_neg (by simp)] at e
      rw [e]
      have S35:=St.pm 2 [0] S32
      exact ⟨A33,c34,rfl,S35⟩
end
end Go.Proofs
end
section
open Go Go.RowKit Go.Proofs.YtgeioealgidkiaaW.PrintWords Go.Proofs.YtgeioealgidkiaaW.PrintMore
namespace Go.Proofs
open Go.Vel
set_option linter.unusedVariables false
section
def Dsk.wrote (s:Dsk)(k:Nat)(d:List UInt8):Dsk:={s with pend:=s.pend++[(k,d)],wr:=inc s.wr,left:=spent s.left}
theorem writeR_go {s:Dsk}{k:Nat}{d:List UInt8}(hz:s.left≠0)(hk:k<s.last.length)(hd:d.length=512):s.writeR ((k:Nat):Int) d=(s.wrote k d,0):=by
 unfold Dsk.writeR Dsk.wrote
 rw [if_neg hz,if_neg (show¬(((k:Nat):Int)<0∨(s.last.length:Int)≤((k:Nat):Int)) by omega),if_neg om_,Int.toNat_natCast]
theorem writeR_dead {s:Dsk}{at_:Int}{d:List UInt8}(hz:s.left=0):s.writeR at_ d=(s,3):=by unfold Dsk.writeR;rw [if_pos hz]
theorem sealF_len {o b:List UInt8}(ho:o.length=512)(hb:b.length≤504):(sealF o b).1.length=512∧(sealF o b).2=0:=by
 unfold sealF
 rw [if_neg om_,if_neg om_]
 exact ⟨length_form _ hb,rfl⟩
theorem renew_ok {a b:List UInt8}{no:Int}(ha:a.length=512)(hb:b.length=512)(h:(renewF a b no []).2.2=0):(renewF a b no []).1≤1∧(renewF a b no []).2.1.length=512:=by
 have h8:(le8 no++[]).length≤504:=by simp [le8]
 unfold renewF at h ⊢
 rw [if_neg (fun hh=>hh ⟨ha,hb⟩)] at h ⊢
 split at h
 ·cases h
 ·rename_i h1
  rw [if_neg h1] at ⊢
  split at h
  ·cases h
  ·rename_i h2
   rw [if_neg h2] at ⊢
   split at h
   ·cases h
   ·rename_i h3
    rw [if_neg h3] at ⊢
    split
    ·exact ⟨Nat.le_refl _,(sealF_len hb h8).1⟩
    ·exact ⟨Nat.zero_le _,(sealF_len ha h8).1⟩
theorem renewR_dead {s:Dsk}{first no:Nat}(hz:s.left=0):renewR s first no=(s,3):=by
 unfold renewR
 simp only [writeR_dead hz]
 rfl
def Dsk.anch (s:Dsk)(first no:Nat):Dsk:=s.wrote (first+(renewF (s.now first) (s.now (first+1)) (no:Int) []).1) (renewF (s.now first) (s.now (first+1)) (no:Int) []).2.1
theorem renewR_go {s:Dsk}{first no:Nat}(hz:s.left≠0)(hf:first+1<s.last.length)(h1:(renewF (s.now first) (s.now (first+1)) (no:Int) []).1≤1)(h2:(renewF (s.now first) (s.now (first+1)) (no:Int) []).2.1.length=512):renewR s first no=(s.anch first no).flushR:=by
 unfold renewR
 simp only [writeR_go hz (show first+(renewF (s.now first) (s.now (first+1)) (no:Int) []).1<s.last.length by omega) h2]
 rfl
theorem DOk.now {s:Dsk}(h:DOk s){k:Nat}(hk:k<s.last.length):(s.now k).length=512:=by
 unfold Dsk.now
 cases hp:(pendOf s k).getLast? with
 |some d=>
  have:=List.mem_of_getLast? hp
  unfold pendOf at this
  obtain ⟨x,hx,rfl⟩:=List.mem_map.1 this
  exact (h.plen x (List.mem_filter.1 hx).1).1
 |none=>
  show (s.last.getD k []).length=512
  rw [List.getD_eq_getElem?_getD,List.getElem?_eq_getElem hk]
  exact h.len _ (List.getElem_mem hk)
section
variable {F:Nat→Prop}{w0 w:World}{L:List Ast}{g:Nat}{s:Dsk}
theorem pw_write_go {k:Nat}{A:Option Addr}{d:List UInt8}{cd n:Nat}(S:St F w0 w (PW g s::L))(hr:RoT F w0 L A d)(hn:n=d.length)(hd:d.length=512)(hz:s.left≠0)(hk:k<s.last.length)(hpn:s.pend.length<4398046511104):
  Calls Try.prog 33 #[pq g,nI_ k,.slice A n cd] w fun e w'=>e=.returned (iv 0)∧St F w0 w' (PW g (s.wrote k d)::L):=by
 subst hn
 have h:=pw_write (at_:=((k:Nat):Int)) (cd:=cd) S hr om_ hpn
 rw [writeR_go hz hk hd] at h
 exact h
theorem ps_renew0 (S:St F w0 w L){A B:Option Addr}{a b:List UInt8}{m n ca cb:Nat}{no:Int}(hm0:m=a.length)(hn0:n=b.length)(ha:RoT F w0 L A a)(hb:RoT F w0 L B b)(hma:a.length≤512)(hmb:b.length≤512)(hno:no≤9223372036854775807)(h0:(renewF a b no []).2.2=0)(h5:(renewF a b no []).2.1.length=512):
  Calls Try.prog 133 #[.slice A m ca,.slice B n cb,iv no,nS_] w fun e w'=>∃A c,e=.returned (.tuple #[iv ((renewF a b no []).1:Int),.slice A 512 c,iv 0])∧St F w0 w' (bytesX (.slice A 512 c) (renewF a b no []).2.1::L):=by
 subst hm0 hn0
 refine (ps_renew (d:=[]) (cd:=0) (D:=none) S ha hb RoT.nil om_ om_ (Nat.zero_le _) hno).mono fun e w' h=> ?_
 obtain ⟨A,c,h1,h2⟩:=h
 rw [h0,h5] at h1
 rw [h5] at h2
 exact ⟨A,c,h1,h2⟩
end
end
end Go.Proofs
end
