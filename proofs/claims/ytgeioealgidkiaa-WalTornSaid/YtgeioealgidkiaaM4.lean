/- Part 4 of 5 of what the proof stands on: the words, the laws of the walk, the walks, the plain laws; each section is one text. -/
import Derived.Test.YtgeioealgidkiaaM3
section
open Go Go.RowKit Go.Proofs.YtgeioealgidkiaaW.PrintWords Go.Proofs.YtgeioealgidkiaaW.PrintMore
namespace Go.Proofs
open Go.Vel
set_option linter.unusedVariables false
set_option maxRecDepth 100000
set_option maxHeartbeats 4000000
attribute [local irreducible] gives wpList wpListIn Code.wp Code.wpIn
theorem w_scan_in {F:Nat→Prop}{w0 w:World}{L:List Ast}{gl gd gr:Nat}{l:Lg}{M:List PcV}{pc:Nat→Pc}(S:St F w0 w (PLog gl gd l::row gr (pcRow M) 165::stars (M.map pcD)::L))(hl:LOk l)(hM:M.length=l.n)(hpc:∀j x,M[j]?=some x→x.1=pc j∧∃A c,x.2=.slice A x.1.data.length c)(hper:∀p,pc (p+l.n)=pc p)(hlt:∀p,(pc p).epoch<4294967296∧(pc p).pos<4294967296∧(pc p).idx<4294967296∧(pc p).cnt<4294967296)(hd492:∀p,(pc p).data.length≤492):CallsIn Fence.wide 3 Try.prog 112 #[.pointer (some ⟨gl,0,none⟩),.slice (some ⟨gr,0,none⟩) l.n l.n] w fun e w'=>∃(v:Value) (RV:List RecV) (h:Nat),e=.returned v∧Recs pc l.epoch l.tail (RV.map (·.2)) h∧NoRec pc l.epoch h∧St F w0 w' (vec 31 1 v RV.length (RV.map (·.1))::stars (RV.map recD)::PLog gl gd {l with head:=h}::row gr (pcRow M) 165::stars (M.map pcD)::L):=by
 have hW:=wide_wide
 obtain ⟨h1,h2,h3,h4,h5,h6⟩:=id hl
 change St F w0 w (row gl (wC_ gd l l.head) 161::row gr (pcRow M) 165::stars (M.map pcD)::L) at S
 refine eNM (fr [pq gl,sl gr 0 l.n l.n] 78) Try.func112 rfl ?_
 refine wpIn_seq ?_
 refine wpIn_region_lit ?_
 refine gI_ hW (gv_box (v:=pq gl) S rfl kr_ (fun g1 w2 hg3 S4=> ?_))
 refine gI_ hW (gV (nS_) ?_)
 refine wI_ ?_
 refine then_n ?_
 refine wpIn_scope ?_
 refine wpIn_seq ?_
 refine wpIn_region_lit ?_
 refine gI_ hW (gv_new (z:=nS_) S4 rfl kr_ (fun g5 w6 hg7 S8=> ?_))
 refine wI_ ?_
 refine then_n ?_
 refine wpIn_seq ?_
 refine wpIn_region_lit ?_
 refine gI_ hW (gv_new (z:=nS_) S8 rfl kr_ (fun g9 w10 hg11 S12=> ?_))
 refine wI_ ?_
 refine then_n ?_
 refine wpIn_seq ?_
 refine wp_region_phuI hW kr_ (γ:=Unit) 8 [7] (fun (c_:Unit) (i_:Nat)=>(match i_ with|0=>pq gl|1=>pq gl|2=>pq gl|3=>po gl 6|4=>nI_ l.tail|5=>pq gl|6=>po gl 7|7=>undef|_=>undef:Value)) (fun (c_:Unit) (p_:Nat) (w_:World)=>(match p_ with|0=>St F w0 w_ (row g9 #[nS_] 31::row g5 #[nS_] 42::row g1 #[pq gl] 93::row gl (wC_ gd l l.head) 161::row gr (pcRow M) 165::stars (M.map pcD)::L)|_=>St F w0 w_ (row g9 #[nS_] 31::row g5 #[nS_] 42::row g1 #[pq gl] 93::row gl (wC_ gd l l.tail) 161::row gr (pcRow M) 165::stars (M.map pcD)::L):Prop)) () kr_ kr_ kr_ kr_ (S12.drew) ?_ ?_ ?_
 ·intro i_ c_ p_ vals_ w1 hi_ hiE_ hp_ hk_ hu_ hPh_ hd_
  rcases i_ with _|_|_|_|_|_|_|_|i_
  ·skip
   rcases p_ with _|_|p_
   ·skip
    have S13:St F w0 w1 (row g9 #[nS_] 31::row g5 #[nS_] 42::row g1 #[pq gl] 93::row gl (wC_ gd l l.head) 161::row gr (pcRow M) 165::stars (M.map pcD)::L):=hPh_
    refine toldI (tG_ rfl hd_ (gv_ldR (v:=pq gl) rfl kr_ kr_ (((S13.blk 2 rfl).cell 0).trans rfl) ?_))
    exact ⟨rfl,rfl⟩
   ·skip
    exact absurd (hu_ 0 dc_ kr_) dc_
   ·exact absurd hp_ (by simp)
  ·skip
   rcases p_ with _|_|p_
   ·skip
    have S14:St F w0 w1 (row g9 #[nS_] 31::row g5 #[nS_] 42::row g1 #[pq gl] 93::row gl (wC_ gd l l.head) 161::row gr (pcRow M) 165::stars (M.map pcD)::L):=hPh_
    refine toldI (tG_ rfl hd_ (gv_ldR (v:=pq gl) rfl kr_ kr_ (((S14.blk 2 rfl).cell 0).trans rfl) ?_))
    exact ⟨rfl,rfl⟩
   ·skip
    exact absurd (hu_ 0 dc_ kr_) dc_
   ·exact absurd hp_ (by simp)
  ·skip
   refine toldI (tG_ rfl hd_ (gv_val (v:=pq gl) (w':=w1) kr_ ?_))
   exact ⟨rfl,rfl⟩
  ·skip
   refine toldI (tG_ rfl hd_ (gv_val (v:=po gl 6) (w':=w1) kr_ ?_))
   exact ⟨rfl,rfl⟩
  ·skip
   rcases p_ with _|_|p_
   ·skip
    have S17:St F w0 w1 (row g9 #[nS_] 31::row g5 #[nS_] 42::row g1 #[pq gl] 93::row gl (wC_ gd l l.head) 161::row gr (pcRow M) 165::stars (M.map pcD)::L):=hPh_
    refine toldI (tG_ rfl hd_ (gv_ldR (v:=nI_ l.tail) rfl kr_ kr_ (((S17.blk 3 rfl).cell 6).trans rfl) ?_))
    exact ⟨rfl,rfl⟩
   ·skip
    exact absurd (hu_ 0 dc_ kr_) dc_
   ·exact absurd hp_ (by simp)
  ·skip
   refine toldI (tG_ rfl hd_ (gv_val (v:=pq gl) (w':=w1) kr_ ?_))
   exact ⟨rfl,rfl⟩
  ·skip
   refine toldI (tG_ rfl hd_ (gv_val (v:=po gl 7) (w':=w1) kr_ ?_))
   exact ⟨rfl,rfl⟩
  ·skip
   exact absurd hiE_ dc_
  ·exact absurd hi_ om_
 ·intro k_ c_ vals_ w1 hk_ hPh_ hd_
  rcases k_ with _|k_
  ·skip
   have S20:St F w0 w1 (row g9 #[nS_] 31::row g5 #[nS_] 42::row g1 #[pq gl] 93::row gl (wC_ gd l l.head) 161::row gr (pcRow M) 165::stars (M.map pcD)::L):=hPh_
   refine toldI (tG_ rfl hd_ (gv_st (k:=7) (v:=nI_ l.tail) S20 3 rfl rfl kr_ kr_ kr_ rfl rfl (L':=(row g9 #[nS_] 31::row g5 #[nS_] 42::row g1 #[pq gl] 93::row gl (wC_ gd l l.tail) 161::row gr (pcRow M) 165::stars (M.map pcD)::L)) rfl (fun w21 S22=> ?_)))
   refine ⟨(),rfl, ?_,S22⟩
   intro i_ hi_ hne_ hdp_
   rcases i_ with _|_|_|_|_|_|_|_|i_
   ·rfl
   ·rfl
   ·rfl
   ·rfl
   ·rfl
   ·rfl
   ·rfl
   ·exact absurd rfl hne_
   ·exact absurd hi_ om_
  ·exact absurd hk_ (by simp)
 ·intro c_ w1 hPh_
  have S23:St F w0 w1 (row g9 #[nS_] 31::row g5 #[nS_] 42::row g1 #[pq gl] 93::row gl (wC_ gd l l.tail) 161::row gr (pcRow M) 165::stars (M.map pcD)::L):=hPh_
  refine wI_ ?_
  refine then_n ?_
  refine wpIn_seq ?_
  refine wpIn_region_lit ?_
  refine gI_ hW (gv_new (z:=iv 0) S23 rfl kr_ (fun g24 w25 hg26 S27=> ?_))
  refine gI_ hW (gv_st (k:=0) (v:=iv 0) S27 0 rfl rfl kr_ kr_ kr_ rfl rfl (L':=(row g24 #[iv 0] 3::row g9 #[nS_] 31::row g5 #[nS_] 42::row g1 #[pq gl] 93::row gl (wC_ gd l l.tail) 161::row gr (pcRow M) 165::stars (M.map pcD)::L)) rfl (fun w28 S29=> ?_))
  refine wI_ ?_
  refine then_n ?_
  refine wpIn_seq ?_
  refine wpIn_region_lit ?_
  refine gI_ hW (gv_new (z:=iv 0) S29 rfl kr_ (fun g30 w31 hg32 S33=> ?_))
  refine gI_ hW (gv_st (k:=0) (v:=iv 0) S33 0 rfl rfl kr_ kr_ kr_ rfl rfl (L':=(row g30 #[iv 0] 3::row g24 #[iv 0] 3::row g9 #[nS_] 31::row g5 #[nS_] 42::row g1 #[pq gl] 93::row gl (wC_ gd l l.tail) 161::row gr (pcRow M) 165::stars (M.map pcD)::L)) rfl (fun w34 S35=> ?_))
  refine wI_ ?_
  refine then_n ?_
  refine wpIn_seq ?_
  refine wpIn_label ?_
  refine then_n ?_
  refine wpIn_seq ?_
  refine wpIn_seq ?_
  refine wpIn_region_lit ?_
  refine gI_ hW (gv_ldR (v:=pq gl) rfl kr_ kr_ (((S35.blk 4 rfl).cell 0).trans rfl) ?_)
  refine gI_ hW (gV (sl gr 0 l.n l.n) ?_)
  refine gI_ hW (gv_call (args:=#[pq gl,.slice (some ⟨gr,0,none⟩) l.n l.n]) rfl Try.func140 kr_ rfl rfl kr_ ?_)
  refine Calls.mono (w_row (gl:=gl) (gr:=gr) (n:=l.n) S35) ?_
  rintro _ w36 ⟨b1,b2,rfl,S37⟩
  refine ⟨_,rfl, ?_⟩
  refine wI_ ?_
  refine then_n ?_
  refine wpIn_block ?_
  have S38:St F w0 w36 (vec 5 1 (nS_) 0 []::row b2 #[.slice (some ⟨gr,0,none⟩) l.n l.n] 169::row b1 #[pq gl] 93::row g30 #[iv 0] 3::row g24 #[iv 0] 3::row g9 #[nS_] 31::row g5 #[nS_] 42::row g1 #[pq gl] 93::row gl (wC_ gd l l.tail) 161::row gr (pcRow M) 165::stars (M.map pcD)::L):=St.vec_nil S37
  have S39:St F w0 w36 (stars ((([]:List RecV)).map recD)::vec 5 1 (nS_) 0 []::row b2 #[.slice (some ⟨gr,0,none⟩) l.n l.n] 169::row b1 #[pq gl] 93::row g30 #[iv 0] 3::row g24 #[iv 0] 3::row g9 #[nS_] 31::row g5 #[nS_] 42::row g1 #[pq gl] 93::row gl (wC_ gd l l.tail) 161::row gr (pcRow M) 165::stars (M.map pcD)::L):=St.star_nil S38
  have S40:St F w0 w36 (vec 31 1 (nS_) 0 []::stars ((([]:List RecV)).map recD)::vec 5 1 (nS_) 0 []::row b2 #[.slice (some ⟨gr,0,none⟩) l.n l.n] 169::row b1 #[pq gl] 93::row g30 #[iv 0] 3::row g24 #[iv 0] 3::row g9 #[nS_] 31::row g5 #[nS_] 42::row g1 #[pq gl] 93::row gl (wC_ gd l l.tail) 161::row gr (pcRow M) 165::stars (M.map pcD)::L):=St.vec_nil S39
  have S41:St F w0 w36 (row gl (wC_ gd l l.tail) 161::row g1 #[pq gl] 93::row g5 #[nS_] 42::row g9 #[nS_] 31::row g24 #[iv 0] 3::row g30 #[iv 0] 3::vec 31 1 (nS_) 0 []::stars ((([]:List RecV)).map recD)::vec 5 1 (nS_) 0 []::row b2 #[.slice (some ⟨gr,0,none⟩) l.n l.n] 169::row b1 #[pq gl] 93::row gr (pcRow M) 165::stars (M.map pcD)::L):=St.pm 13 [10,9,8,7,6,5,0,1,2,3,4,11,12] S40
  obtain ⟨wl,hwl⟩:∃x,x=w36:=⟨_,rfl⟩
  rw [←hwl]
  rw [←hwl] at S41
  have hS:St F w0 wl (scanL gl gd g1 g5 g9 g24 g30 l (⟨[],[],0,0,l.tail⟩:ScSt) [] (nS_) (nS_)++(row b2 #[sl gr 0 l.n l.n] 169::row b1 #[pq gl] 93::row gr (pcRow M) 165::stars (M.map pcD)::L)):=S41
  obtain ⟨D1,D2,T0,hO,hdis,hF1,hF2⟩:=St.splitA hS
  have hC:RowC wl b1 b2 gl gr l.n l.epoch l.tail M:=⟨((S41.blk 10 rfl).cell 0).trans rfl,((S41.blk 9 rfl).cell 0).trans rfl,((S41.blk 0 rfl).cell 2).trans rfl,((S41.blk 0 rfl).cell 4).trans rfl,((S41.blk 0 rfl).cell 6).trans rfl,fun j x hx k v hv=>((S41.blk 11 rfl).cell _).trans (pcRow_get hx hv)⟩
  have hb1:=lt_of_some (S41.get 10 rfl)
  have hb2:=lt_of_some (S41.get 9 rfl)
  have hgl:=lt_of_some (S41.get 0 rfl)
  have hgr:=lt_of_some (S41.get 11 rfl)
  have hnD:∀k o (i:Nat),(row b2 #[sl gr 0 l.n l.n] 169::row b1 #[pq gl] 93::row gr (pcRow M) 165::stars (M.map pcD)::L)[i]?=some (pt k o)→¬D1 k:=fun k o i hi hk=>hdis k hk ((hO.get i hi).2)
  have hn1:=hnD b1 _ 1 rfl
  have hn2:=hnD b2 _ 0 rfl
  have hnr:=hnD gr _ 2 rfl
  have hdat:∀(x:PcV),x∈M→∀W' L',St D1 wl W' L'→∃A c,x.2=.slice A x.1.data.length c∧x.1.data.length≤c∧RdB W' A x.1.data:=fun x hx W' L' S1=>own_data 3 (St.setAside S1 hO hdis) rfl hx
  refine wpIn_rangeFunc_ownH (n:=3) (F:=Fence.wide) rfl dc_ (gf:=150) (lb:=#[pq b1,pq b2]) kr_ trivial (enters Try.func150 rfl kr_) (row_stops (pc:=pc) hC h2 h3 hM hpc hper h6) (fun h k=>h.trans k) (fun W_ l_ o o' h _ _ _=>KpR.put h hb1 hb2 hgl hgr) (Below.refl _ _) (fun _=>rfl)
   (fun (pre_:List (RA M)) (W_:World)=>∃(σ:ScSt) (RV:List RecV) (v5 v6:Value),scRun (⟨[],[],0,0,l.tail⟩:ScSt) (pcsOf pre_)=some σ∧RV.map (·.2)=σ.recs∧ScB l.tail pre_.length σ∧St D1 wl W_ (scanL gl gd g1 g5 g9 g24 g30 l σ RV v5 v6))
   (fun (c_:Code) (pre_:List (RA M)) (W_:World)=>∃(p0:List (RA M)) (x:RA M) (σ:ScSt) (RV:List RecV) (v5 v6:Value) (cn:Nat),c_=.exit 0∧pre_=p0++[x]∧scRun (⟨[],[],0,0,l.tail⟩:ScSt) (pcsOf p0)=some σ∧scStep σ x.1.1=none∧RV.map (·.2)=σ.recs∧St D1 wl W_ (scanL gl gd g1 g5 g9 g24 g30 l ({σ with cnt:=cn}) RV v5 v6))
   (fun s_ W1 W2 r ⟨σ,RV,v5,v6,e1,e2,e3,T⟩ hg hr=>⟨σ,RV,v5,v6,e1,e2,e3,St.ownFrom T (scanL_cel _ _ _ _ _ _ _ _ _ _ _ _) (Nat.le_refl _) hg hr⟩)
   (fun c_ s_ W1 W2 r ⟨p0,x,σ,RV,v5,v6,cn,e0,e1,e2,e3,e4,T⟩ hg hr=>⟨p0,x,σ,RV,v5,v6,cn,e0,e1,e2,e3,e4,St.ownFrom T (scanL_cel _ _ _ _ _ _ _ _ _ _ _ _) (Nat.le_refl _) hg hr⟩)
   ⟨(⟨[],[],0,0,l.tail⟩:ScSt),[],nS_,nS_,rfl,rfl,⟨Nat.zero_le _,by show l.tail≤_;omega,Nat.zero_le _,Nat.zero_le _⟩,T0⟩
   (fun (x_:RA M) (a_:Act) (W_:World)=>∃Bx,wl.heap.size≤Bx∧W_.heap[Bx]?=some (.cells (pcells x_.1).toArray 165 (0,0))∧a_=(fr [pq gl,sl gr 0 l.n l.n,pq g1,ud,nS_,pq g5,pq g9,pq g24,pq g30,pq Bx,ud,pq gl,pq gl,pq gl,po gl 6,nI_ l.tail,pq gl,po gl 7,pq gl,sl gr 0 l.n l.n,.func (.func 150) #[] #[pq b1,pq b2],(.agg (pcells x_.1).toArray)] 58))
   (fun x_ a_ _ W1 W2 r ⟨Bx,e1,e2,e3⟩ hg hr=>⟨Bx,e1,(hg.block Bx (lt_of_some e2) (fun e=>by obtain ⟨_,o,ho,hc⟩:=hr Bx e.symm;rw [e2] at ho;cases ho;cases hc)).trans e2,e3⟩)
   ?_ ?_ ?_ ?_
  ·skip
   rintro lr pre x W9 K ⟨σ,RV,v5,v6,e1,e2,e3,T⟩ hK
   have hW:=wide_in lr
   have T1:St none' W9 W9 []:=St.init none' W9
   obtain ⟨⟨px,vx⟩,hxm,hxd⟩:=x
   obtain ⟨j9,hj9⟩:=List.getElem?_of_mem hxm
   obtain ⟨_,A8,c8,hv8⟩:=hpc j9 _ hj9
   have hv8:vx=.slice A8 px.data.length c8:=hv8
   subst hv8
   refine wpIn_frame (b:=(fr [pq gl,sl gr 0 l.n l.n,pq g1,ud,nS_,pq g5,pq g9,pq g24,pq g30,ud,ud,pq gl,pq gl,pq gl,po gl 6,nI_ l.tail,pq gl,po gl 7,pq gl,sl gr 0 l.n l.n,.func (.func 150) #[] #[pq b1,pq b2],.agg (pC_ px A8 c8)] 58)) kr_ ?_
   refine wpIn_region_lit ?_
   refine gI_ hW (gv_new (z:=.agg #[iv 0,iv 0,iv 0,iv 0,nS_]) T1 rfl kr_ (fun g42 w43 hg44 S45=> ?_))
   refine gI_ hW (gv_stA (k:=0) (vs:=[nI_ px.epoch,nI_ px.pos,nI_ px.idx,nI_ px.cnt,.slice A8 px.data.length c8]) S45 0 rfl rfl kr_ kr_ kr_ rfl (by simp [Value.oneCell']) (Nat.le_of_ble_eq_true kr_) (L':=[row g42 (pC_ px A8 c8) 165]) rfl (fun w46 S47=> ?_))
   refine wI_ ?_
   refine then_n ?_
   exact hK _ _ (St.keepsFrom S47 (fun k h=>h.elim)) (fun a ha=>Fr.cellK S47.fr (fun h=>h) (by have:=T.fr.size;rcases ha with h|h|h|h|h|h<;>first|omega|(rw [h];show gl<_;omega))) ⟨σ,RV,v5,v6,e1,e2,e3,St.ownFrom T (scanL_cel _ _ _ _ _ _ _ _ _ _ _ _) (Nat.le_refl _) (Fr.grown S47.fr) (fun k h=>by cases h)⟩ ⟨g42,Nat.le_trans T.fr.size hg44,S47.get 0 rfl,by kernel_rfl⟩
  ·skip
   rintro lr pre x a9 W9 hlr hrec ⟨σ,RV,v5,v6,e1,e2,e3,T⟩ ⟨Bx,hB0,hB1,rfl⟩ hlen
   have hW:=wide_in lr
   obtain ⟨⟨px,vx⟩,hxm,hxd⟩:=x
   obtain ⟨j9,hj9⟩:=List.getElem?_of_mem hxm
   obtain ⟨hpx,A8,c8,hv8⟩:=hpc j9 _ hj9
   have hv8:vx=.slice A8 px.data.length c8:=hv8
   subst hv8
   obtain ⟨D,T1,hD⟩:=St.rebase T (scanL_cel _ _ _ _ _ _ _ _ _ _ _ _)
   have T2:=St.addRow T1 (fun k hk=>(hD k hk).2) hB1
   have hD2:∀k,(k=Bx∨D k)→D1 k∨wl.heap.size≤k:=fun k hk=>hk.elim (fun h=>.inr (h▸hB0)) (fun h=>(hD k h).1)
   have hDc:∀k,(k=Bx∨D k)→∃cs t f,W9.heap[k]?=some (.cells cs t f):=fun k hk=>hk.elim (fun h=>⟨_,_,_,h▸hB1⟩) (fun h=>by obtain ⟨_,cs,t,f,h2,_⟩:=hD k h;exact ⟨cs,t,f,h2⟩)
   have hnB:∀k,k<wl.heap.size→¬D1 k→¬(k=Bx∨D k):=fun k hk hn h=>h.elim (fun h=>by omega) (fun h=>(hD k h).1.elim hn (fun h=>by omega))
   have hsz:=T.fr.size
   obtain ⟨q1,q2,q3,q4⟩:=(show px=pc j9 from hpx)▸hlt j9
   have q5:px.data.length≤492:=(show px=pc j9 from hpx)▸hd492 j9
   obtain ⟨bi,bh,br,bc⟩:=id e3
   have hpl:pre.length≤256:=by omega
   have hrvl:RV.length≤256:=by have h9:=congrArg List.length e2;rw [List.length_map] at h9;omega
   have hrd:∀W' L',St (fun k=>k=Bx∨D k) W9 W' L'→RdB W' A8 px.data:=fun W' L' S1=>by obtain ⟨A,c,e,_,hr⟩:=hdat _ hxm W' L' (St.unbase T S1 hD2);simp at e;rw [e.1];exact hr
   have hpos:0<px.data.length:=List.length_pos_iff.2 hxd
   obtain ⟨ad,rfl⟩:=(hrd _ _ T2).at (k:=0) hpos
   have T3:St (fun k=>k=Bx∨D k) W9 W9 [row Bx (pC_ px (some ad) c8) 165,row gl (wC_ gd l σ.head) 161,row g1 #[pq gl] 93,row g5 #[v5] 42,row g9 #[v6] 31,row g24 #[nI_ σ.idx] 3,row g30 #[nI_ σ.cnt] 3,vec 31 1 v5 RV.length (RV.map (·.1)),stars (RV.map recD),vec 5 1 v6 σ.rcd.length (σ.rcd.map bv)]:=T2
   refine wpIn_frame (b:=(fr [pq gl,sl gr 0 l.n l.n,pq g1,ud,nS_,pq g5,pq g9,pq g24,pq g30,pq Bx,ud,pq gl,pq gl,pq gl,po gl 6,nI_ l.tail,pq gl,po gl 7,pq gl,sl gr 0 l.n l.n,.func (.func 150) #[] #[pq b1,pq b2],.agg (pC_ px (some ad) c8)] 58)) kr_ ?_
   refine wpIn_block ?_
   refine wpIn_seq ?_
   refine wpIn_block ?_
   refine wpIn_seq ?_
   refine wpIn_region_lit ?_
   refine gI_ hW (gv_ldR (v:=nI_ σ.idx) rfl kr_ kr_ (((T3.blk 5 rfl).cell 0).trans rfl) ?_)
   refine gI_ hW (gv_eq (x:=((σ.idx:Nat):Int)) (y:=0) kr_ (fun hb48=> ?_) (fun hb48=> ?_))
   ·skip
    have hcn:scCnt σ px=px.cnt:=by unfold scCnt;rw [if_pos om_]
    refine gI_ hW (gV tv ?_)
    refine wI_ ?_
    refine then_n ?_
    refine wpIn_cond_true kr_ ?_
    refine wpIn_region_lit ?_
    refine gI_ hW (gV (po Bx 3) ?_)
    refine gI_ hW (gv_ldR (v:=nI_ px.cnt) rfl kr_ kr_ (((T3.blk 0 rfl).cell 3).trans rfl) ?_)
    refine gI_ hW (gv_st (k:=0) (v:=nI_ px.cnt) T3 6 rfl rfl kr_ kr_ kr_ rfl rfl (L':=[row Bx (pC_ px (some ad) c8) 165,row gl (wC_ gd l σ.head) 161,row g1 #[pq gl] 93,row g5 #[v5] 42,row g9 #[v6] 31,row g24 #[nI_ σ.idx] 3,row g30 #[nI_ px.cnt] 3,vec 31 1 v5 RV.length (RV.map (·.1)),stars (RV.map recD),vec 5 1 v6 σ.rcd.length (σ.rcd.map bv)]) rfl (fun w49 S50=> ?_))
    refine wI_ ?_
    refine inb_n ?_
    refine then_n ?_
    refine wpIn_seq ?_
    refine wpIn_region_lit ?_
    refine gI_ hW (gV (po Bx 4) ?_)
    refine gI_ hW (gv_ldR (v:=.slice (some ad) px.data.length c8) rfl kr_ kr_ (((S50.blk 0 rfl).cell 4).trans rfl) ?_)
    refine gI_ hW (gV (iv (px.data.length:Nat)) ?_)
    refine gI_ hW (gV (.bool ((px.data.length:Int)==492)) ?_)
    refine gI_ hW (gV (.bool ((px.data.length:Int)==492)) ?_)
    refine wI_ ?_
    refine then_n ?_
    refine wpIn_seq ?_
    refine wpIn_seq ?_
    refine wpIn_region_lit ?_
    refine gI_ hW (gV (po Bx 2) ?_)
    refine gI_ hW (gv_ldR (v:=nI_ px.idx) rfl kr_ kr_ (((S50.blk 0 rfl).cell 2).trans rfl) ?_)
    refine gI_ hW (gv_ldR (v:=nI_ σ.idx) rfl kr_ kr_ (((S50.blk 5 rfl).cell 0).trans rfl) ?_)
    refine gI_ hW (gv_ne (x:=((px.idx:Nat):Int)) (y:=((σ.idx:Nat):Int)) kr_ (fun hb51=> ?_) (fun hb51=> ?_))
    ·skip
     refine gI_ hW (gV tv ?_)
     refine gIn hW ?_
     refine gIn hW ?_
     refine gI_ hW (gV tv ?_)
     refine gI_ hW (gV tv ?_)
     refine gIn hW ?_
     refine gIn hW ?_
     refine gI_ hW (gV tv ?_)
     refine gI_ hW (gV tv ?_)
     refine gIn hW ?_
     refine gIn hW ?_
     refine gIn hW ?_
     refine gIn hW ?_
     refine gIn hW ?_
     refine gIn hW ?_
     refine gIn hW ?_
     refine gIn hW ?_
     refine gI_ hW (gV tv ?_)
     refine wI_ ?_
     refine then_n ?_
     refine wpIn_cond_true kr_ ?_
     refine wpIn_exit ?_
     refine then_x ?_
     refine inb_y dc_ ?_
     have S52:=St.pm 10 [0,1,2,3,4,5,6,7,8,9] S50
     have hglc:w49.cell? ⟨gl,2,none⟩=some (iv (l.n:Nat))∧w49.cell? ⟨gl,4,none⟩=some (iv (l.epoch:Nat))∧w49.cell? ⟨gl,6,none⟩=some (iv (l.tail:Nat)):=⟨((S52.blk 1 rfl).cell 2).trans rfl,((S52.blk 1 rfl).cell 4).trans rfl,((S52.blk 1 rfl).cell 6).trans rfl⟩
     have hgl9:W9.cell? ⟨gl,2,none⟩=some (iv (l.n:Nat))∧W9.cell? ⟨gl,4,none⟩=some (iv (l.epoch:Nat))∧W9.cell? ⟨gl,6,none⟩=some (iv (l.tail:Nat)):=⟨((T3.blk 1 rfl).cell 2).trans rfl,((T3.blk 1 rfl).cell 4).trans rfl,((T3.blk 1 rfl).cell 6).trans rfl⟩
     have hkp:KpR b1 b2 gl gr W9 w49:=fun a ha=>by
      rcases ha with h|h|h|h|h|h
      ·exact Fr.cellK S52.fr (by rw [h];exact hnB b1 hb1 hn1) om_
      ·exact Fr.cellK S52.fr (by rw [h];exact hnB b2 hb2 hn2) om_
      ·exact Fr.cellK S52.fr (by rw [h];exact hnB gr hgr hnr) om_
      ·subst h;exact hglc.1.trans hgl9.1.symm
      ·subst h;exact hglc.2.1.trans hgl9.2.1.symm
      ·subst h;exact hglc.2.2.trans hgl9.2.2.symm
     have hst:scStep σ px=none:=by unfold scStep;rw [hcn];rw [if_neg om_,if_pos om_]
     exact ⟨St.keepsFrom S52 hDc,pre,_,σ,RV,v5,v6,px.cnt,rfl,rfl,e1,hst,e2,St.unbase T (St.tail S52) hD2⟩
    ·skip
     refine gI_ hW (gV fv ?_)
     refine gIw hW (gv_ldR (v:=nI_ px.cnt) rfl kr_ kr_ (((S50.blk 6 rfl).cell 0).trans rfl) ?_)
     refine gIw hW (gv_dec (p:=(((px.cnt:Nat):Int):Int)<1) kr_ (fun hb53=> ?_) (fun hb53=> ?_))
     ·skip
      refine gI_ hW (gV tv ?_)
      refine gI_ hW (gV tv ?_)
      refine gIn hW ?_
      refine gIn hW ?_
      refine gI_ hW (gV tv ?_)
      refine gI_ hW (gV tv ?_)
      refine gIn hW ?_
      refine gIn hW ?_
      refine gIn hW ?_
      refine gIn hW ?_
      refine gIn hW ?_
      refine gIn hW ?_
      refine gIn hW ?_
      refine gIn hW ?_
      refine gI_ hW (gV tv ?_)
      refine wI_ ?_
      refine then_n ?_
      refine wpIn_cond_true kr_ ?_
      refine wpIn_exit ?_
      refine then_x ?_
      refine inb_y dc_ ?_
      have S54:=St.pm 10 [0,1,2,3,4,5,6,7,8,9] S50
      have hglc:w49.cell? ⟨gl,2,none⟩=some (iv (l.n:Nat))∧w49.cell? ⟨gl,4,none⟩=some (iv (l.epoch:Nat))∧w49.cell? ⟨gl,6,none⟩=some (iv (l.tail:Nat)):=⟨((S54.blk 1 rfl).cell 2).trans rfl,((S54.blk 1 rfl).cell 4).trans rfl,((S54.blk 1 rfl).cell 6).trans rfl⟩
      have hgl9:W9.cell? ⟨gl,2,none⟩=some (iv (l.n:Nat))∧W9.cell? ⟨gl,4,none⟩=some (iv (l.epoch:Nat))∧W9.cell? ⟨gl,6,none⟩=some (iv (l.tail:Nat)):=⟨((T3.blk 1 rfl).cell 2).trans rfl,((T3.blk 1 rfl).cell 4).trans rfl,((T3.blk 1 rfl).cell 6).trans rfl⟩
      have hkp:KpR b1 b2 gl gr W9 w49:=fun a ha=>by
       rcases ha with h|h|h|h|h|h
       ·exact Fr.cellK S54.fr (by rw [h];exact hnB b1 hb1 hn1) om_
       ·exact Fr.cellK S54.fr (by rw [h];exact hnB b2 hb2 hn2) om_
       ·exact Fr.cellK S54.fr (by rw [h];exact hnB gr hgr hnr) om_
       ·subst h;exact hglc.1.trans hgl9.1.symm
       ·subst h;exact hglc.2.1.trans hgl9.2.1.symm
       ·subst h;exact hglc.2.2.trans hgl9.2.2.symm
      have hst:scStep σ px=none:=by unfold scStep;rw [hcn];rw [if_neg om_,if_pos om_]
      exact ⟨St.keepsFrom S54 hDc,pre,_,σ,RV,v5,v6,px.cnt,rfl,rfl,e1,hst,e2,St.unbase T (St.tail S54) hD2⟩
     ·skip
      refine gI_ hW (gV fv ?_)
      refine gI_ hW (gV fv ?_)
      refine gIw hW (gv_ldR (v:=nI_ px.cnt) rfl kr_ kr_ (((S50.blk 6 rfl).cell 0).trans rfl) ?_)
      refine gIw hW (gv_dec (p:=(((px.cnt:Nat):Int):Int)>17) kr_ (fun hb55=> ?_) (fun hb55=> ?_))
      ·skip
       refine gI_ hW (gV tv ?_)
       refine gI_ hW (gV tv ?_)
       refine gIn hW ?_
       refine gIn hW ?_
       refine gIn hW ?_
       refine gIn hW ?_
       refine gIn hW ?_
       refine gIn hW ?_
       refine gIn hW ?_
       refine gIn hW ?_
       refine gI_ hW (gV tv ?_)
       refine wI_ ?_
       refine then_n ?_
       refine wpIn_cond_true kr_ ?_
       refine wpIn_exit ?_
       refine then_x ?_
       refine inb_y dc_ ?_
       have S56:=St.pm 10 [0,1,2,3,4,5,6,7,8,9] S50
       have hglc:w49.cell? ⟨gl,2,none⟩=some (iv (l.n:Nat))∧w49.cell? ⟨gl,4,none⟩=some (iv (l.epoch:Nat))∧w49.cell? ⟨gl,6,none⟩=some (iv (l.tail:Nat)):=⟨((S56.blk 1 rfl).cell 2).trans rfl,((S56.blk 1 rfl).cell 4).trans rfl,((S56.blk 1 rfl).cell 6).trans rfl⟩
       have hgl9:W9.cell? ⟨gl,2,none⟩=some (iv (l.n:Nat))∧W9.cell? ⟨gl,4,none⟩=some (iv (l.epoch:Nat))∧W9.cell? ⟨gl,6,none⟩=some (iv (l.tail:Nat)):=⟨((T3.blk 1 rfl).cell 2).trans rfl,((T3.blk 1 rfl).cell 4).trans rfl,((T3.blk 1 rfl).cell 6).trans rfl⟩
       have hkp:KpR b1 b2 gl gr W9 w49:=fun a ha=>by
        rcases ha with h|h|h|h|h|h
        ·exact Fr.cellK S56.fr (by rw [h];exact hnB b1 hb1 hn1) om_
        ·exact Fr.cellK S56.fr (by rw [h];exact hnB b2 hb2 hn2) om_
        ·exact Fr.cellK S56.fr (by rw [h];exact hnB gr hgr hnr) om_
        ·subst h;exact hglc.1.trans hgl9.1.symm
        ·subst h;exact hglc.2.1.trans hgl9.2.1.symm
        ·subst h;exact hglc.2.2.trans hgl9.2.2.symm
       have hst:scStep σ px=none:=by unfold scStep;rw [hcn];rw [if_neg om_,if_pos om_]
       exact ⟨St.keepsFrom S56 hDc,pre,_,σ,RV,v5,v6,px.cnt,rfl,rfl,e1,hst,e2,St.unbase T (St.tail S56) hD2⟩
      ·skip
       refine gI_ hW (gV fv ?_)
       refine gI_ hW (gV fv ?_)
       refine gIw hW (gv_ldR (v:=nI_ σ.idx) rfl kr_ kr_ (((S50.blk 5 rfl).cell 0).trans rfl) ?_)
       refine gIw hW (gv_ldR (v:=nI_ px.cnt) rfl kr_ kr_ (((S50.blk 6 rfl).cell 0).trans rfl) ?_)
       refine gIw hW (gv_int (k:=.i64) (z:=IntKind.i64.wrap (((px.cnt:Nat):Int)-1)) (z':=(((px.cnt:Nat):Int):Int)-1) kr_ (wr_eq rfl om_ om_) ?_)
       refine gIw hW (gv_dec (p:=(((σ.idx:Nat):Int):Int)<((((px.cnt:Nat):Int):Int)-1)) kr_ (fun hb57=> ?_) (fun hb57=> ?_))
       ·skip
        refine gIw hW (gv_val (v:=.bool true) (w':=w49) kr_ ?_)
        refine gIw hW (gv_val (v:=.bool ((px.data.length:Int)==492)) (w':=w49) kr_ ?_)
        refine gIw hW (gv_val (v:=.bool (!((px.data.length:Int)==492))) (w':=w49) kr_ ?_)
        refine gIw hW (gv_val (v:=.bool (!((px.data.length:Int)==492))) (w':=w49) kr_ ?_)
        refine gI_ hW (gV (.bool (!((px.data.length:Int)==492))) ?_)
        refine wI_ ?_
        refine then_n ?_
        refine wpIn_cond_split (t:= !((px.data.length:Int)==492)) kr_ (fun hc58=> ?_) (fun hc58=> ?_)
        ·skip
         have hnf9:px.data.length≠492:=by intro h9;rw [h9] at hc58;exact absurd hc58 dc_
         refine wpIn_exit ?_
         refine then_x ?_
         refine inb_y dc_ ?_
         have S59:=St.pm 10 [0,1,2,3,4,5,6,7,8,9] S50
         have hglc:w49.cell? ⟨gl,2,none⟩=some (iv (l.n:Nat))∧w49.cell? ⟨gl,4,none⟩=some (iv (l.epoch:Nat))∧w49.cell? ⟨gl,6,none⟩=some (iv (l.tail:Nat)):=⟨((S59.blk 1 rfl).cell 2).trans rfl,((S59.blk 1 rfl).cell 4).trans rfl,((S59.blk 1 rfl).cell 6).trans rfl⟩
         have hgl9:W9.cell? ⟨gl,2,none⟩=some (iv (l.n:Nat))∧W9.cell? ⟨gl,4,none⟩=some (iv (l.epoch:Nat))∧W9.cell? ⟨gl,6,none⟩=some (iv (l.tail:Nat)):=⟨((T3.blk 1 rfl).cell 2).trans rfl,((T3.blk 1 rfl).cell 4).trans rfl,((T3.blk 1 rfl).cell 6).trans rfl⟩
         have hkp:KpR b1 b2 gl gr W9 w49:=fun a ha=>by
          rcases ha with h|h|h|h|h|h
          ·exact Fr.cellK S59.fr (by rw [h];exact hnB b1 hb1 hn1) om_
          ·exact Fr.cellK S59.fr (by rw [h];exact hnB b2 hb2 hn2) om_
          ·exact Fr.cellK S59.fr (by rw [h];exact hnB gr hgr hnr) om_
          ·subst h;exact hglc.1.trans hgl9.1.symm
          ·subst h;exact hglc.2.1.trans hgl9.2.1.symm
          ·subst h;exact hglc.2.2.trans hgl9.2.2.symm
         have hst:scStep σ px=none:=by unfold scStep;rw [hcn];rw [if_neg om_,if_pos om_]
         exact ⟨St.keepsFrom S59 hDc,pre,_,σ,RV,v5,v6,px.cnt,rfl,rfl,e1,hst,e2,St.unbase T (St.tail S59) hD2⟩
        ·skip
         have hf9:px.data.length=492:=by simp at hc58;omega
         refine wpIn_skip ?_
         refine then_n ?_
         refine wpIn_seq ?_
         refine wpIn_region_lit ?_
         refine gI_ hW (gv_ldR (v:=v6) rfl kr_ kr_ (((S50.blk 4 rfl).cell 0).trans rfl) ?_)
         refine gI_ hW (gV (po Bx 4) ?_)
         refine gI_ hW (gv_ldR (v:=.slice (some ad) px.data.length c8) rfl kr_ kr_ (((S50.blk 0 rfl).cell 4).trans rfl) ?_)
         have S60:St (fun k=>k=Bx∨D k) W9 w49 [vec 5 1 v6 σ.rcd.length (σ.rcd.map bv),row Bx (pC_ px (some ad) c8) 165,row gl (wC_ gd l σ.head) 161,row g1 #[pq gl] 93,row g5 #[v5] 42,row g9 #[v6] 31,row g24 #[nI_ σ.idx] 3,row g30 #[nI_ px.cnt] 3,vec 31 1 v5 RV.length (RV.map (·.1)),stars (RV.map recD)]:=St.pm 10 [9,0,1,2,3,4,5,6,7,8] S50
         refine gI_ hW (gv_append (e:=5) (sz:=1) (n:=σ.rcd.length) (v:=v6) (vals:=σ.rcd.map bv) (z:=.int .u8 0) (by_:=1) (m:=px.data.length) (c':=c8) (ad:=ad) (news:=px.data.map bv) S60 rfl kr_ ⟨by kernel_rfl⟩ rfl kr_ kr_ hpos (by rw [List.length_map,Nat.mul_one]) (RdB.cells (hrd _ _ S60)) (bv_one px.data) om_ om_ (fun v61 w62 S63=> ?_))
         obtain ⟨A64,c65,rfl⟩:=St.vecV S63 0 rfl
         rw [←List.map_append,←List.length_append] at S63
         rw [←List.length_append]
         refine gI_ hW (gv_st (k:=0) (v:=.slice A64 ((σ.rcd++px.data).length) c65) S63 5 rfl rfl kr_ kr_ kr_ rfl rfl (L':=[vec 5 1 (.slice A64 (σ.rcd++px.data).length c65) (σ.rcd++px.data).length ((σ.rcd++px.data).map bv),row Bx (pC_ px (some ad) c8) 165,row gl (wC_ gd l σ.head) 161,row g1 #[pq gl] 93,row g5 #[v5] 42,row g9 #[.slice A64 ((σ.rcd++px.data).length) c65] 31,row g24 #[nI_ σ.idx] 3,row g30 #[nI_ px.cnt] 3,vec 31 1 v5 RV.length (RV.map (·.1)),stars (RV.map recD)]) rfl (fun w66 S67=> ?_))
         refine wI_ ?_
         refine then_n ?_
         refine wpIn_seq ?_
         refine wpIn_region_lit ?_
         refine gI_ hW (gv_ldR (v:=nI_ σ.idx) rfl kr_ kr_ (((S67.blk 6 rfl).cell 0).trans rfl) ?_)
         refine gI_ hW (gv_int (k:=.i64) (z:=IntKind.i64.wrap (((σ.idx:Nat):Int)+1)) (z':=((σ.idx+1:Nat):Int)) kr_ wq_ ?_)
         refine gI_ hW (gv_st (k:=0) (v:=nI_ (σ.idx+1)) S67 6 rfl rfl kr_ kr_ kr_ rfl rfl (L':=[vec 5 1 (.slice A64 (σ.rcd++px.data).length c65) (σ.rcd++px.data).length ((σ.rcd++px.data).map bv),row Bx (pC_ px (some ad) c8) 165,row gl (wC_ gd l σ.head) 161,row g1 #[pq gl] 93,row g5 #[v5] 42,row g9 #[.slice A64 ((σ.rcd++px.data).length) c65] 31,row g24 #[nI_ (σ.idx+1)] 3,row g30 #[nI_ px.cnt] 3,vec 31 1 v5 RV.length (RV.map (·.1)),stars (RV.map recD)]) rfl (fun w68 S69=> ?_))
         refine wI_ ?_
         refine then_n ?_
         refine wpIn_seq ?_
         refine wpIn_region_lit ?_
         refine gI_ hW (gv_ldR (v:=nI_ (σ.idx+1)) rfl kr_ kr_ (((S69.blk 6 rfl).cell 0).trans rfl) ?_)
         refine gI_ hW (gv_ldR (v:=nI_ px.cnt) rfl kr_ kr_ (((S69.blk 7 rfl).cell 0).trans rfl) ?_)
         refine gI_ hW (gv_eq (x:=((σ.idx+1:Nat):Int)) (y:=((px.cnt:Nat):Int)) kr_ (fun hb70=> ?_) (fun hb70=> ?_))
         ·skip
          exact absurd hb70 om_
         ·skip
          refine wI_ ?_
          refine then_n ?_
          refine wpIn_cond_false kr_ ?_
          refine wpIn_skip ?_
          refine inb_n ?_
          have S71:=St.pm 10 [1,2,3,4,5,6,7,8,9,0] S69
          have hglc:w68.cell? ⟨gl,2,none⟩=some (iv (l.n:Nat))∧w68.cell? ⟨gl,4,none⟩=some (iv (l.epoch:Nat))∧w68.cell? ⟨gl,6,none⟩=some (iv (l.tail:Nat)):=⟨((S71.blk 1 rfl).cell 2).trans rfl,((S71.blk 1 rfl).cell 4).trans rfl,((S71.blk 1 rfl).cell 6).trans rfl⟩
          have hgl9:W9.cell? ⟨gl,2,none⟩=some (iv (l.n:Nat))∧W9.cell? ⟨gl,4,none⟩=some (iv (l.epoch:Nat))∧W9.cell? ⟨gl,6,none⟩=some (iv (l.tail:Nat)):=⟨((T3.blk 1 rfl).cell 2).trans rfl,((T3.blk 1 rfl).cell 4).trans rfl,((T3.blk 1 rfl).cell 6).trans rfl⟩
          have hkp:KpR b1 b2 gl gr W9 w68:=fun a ha=>by
           rcases ha with h|h|h|h|h|h
           ·exact Fr.cellK S71.fr (by rw [h];exact hnB b1 hb1 hn1) om_
           ·exact Fr.cellK S71.fr (by rw [h];exact hnB b2 hb2 hn2) om_
           ·exact Fr.cellK S71.fr (by rw [h];exact hnB gr hgr hnr) om_
           ·subst h;exact hglc.1.trans hgl9.1.symm
           ·subst h;exact hglc.2.1.trans hgl9.2.1.symm
           ·subst h;exact hglc.2.2.trans hgl9.2.2.symm
          have hst:scStep σ px=some ⟨σ.recs,σ.rcd++px.data,σ.idx+1,px.cnt,σ.head⟩:=by unfold scStep;rw [hcn];rw [if_neg om_,if_neg om_,if_neg om_]
          refine ⟨St.keepsFrom S71 hDc,hkp,⟨σ.recs,σ.rcd++px.data,σ.idx+1,px.cnt,σ.head⟩,RV,v5,.slice A64 (σ.rcd++px.data).length c65, ?_, ?_, ?_,St.unbase T (St.tail S71) hD2⟩
          ·rw [pcsOf,List.map_append];show scRun _ (pcsOf pre++[px])=_;rw [scRun_snoc,e1];exact hst
          ·exact e2
          ·rw [List.length_append];exact e3.step q5 hst
       ·skip
        refine gIw hW (gv_val (v:=.bool false) (w':=w49) kr_ ?_)
        refine gIn hW ?_
        refine gIn hW ?_
        refine gIw hW (gv_val (v:=.bool false) (w':=w49) kr_ ?_)
        refine gI_ hW (gV fv ?_)
        refine wI_ ?_
        refine then_n ?_
        refine wpIn_cond_false kr_ ?_
        refine wpIn_skip ?_
        refine then_n ?_
        refine wpIn_seq ?_
        refine wpIn_region_lit ?_
        refine gI_ hW (gv_ldR (v:=v6) rfl kr_ kr_ (((S50.blk 4 rfl).cell 0).trans rfl) ?_)
        refine gI_ hW (gV (po Bx 4) ?_)
        refine gI_ hW (gv_ldR (v:=.slice (some ad) px.data.length c8) rfl kr_ kr_ (((S50.blk 0 rfl).cell 4).trans rfl) ?_)
        have S72:St (fun k=>k=Bx∨D k) W9 w49 [vec 5 1 v6 σ.rcd.length (σ.rcd.map bv),row Bx (pC_ px (some ad) c8) 165,row gl (wC_ gd l σ.head) 161,row g1 #[pq gl] 93,row g5 #[v5] 42,row g9 #[v6] 31,row g24 #[nI_ σ.idx] 3,row g30 #[nI_ px.cnt] 3,vec 31 1 v5 RV.length (RV.map (·.1)),stars (RV.map recD)]:=St.pm 10 [9,0,1,2,3,4,5,6,7,8] S50
        refine gI_ hW (gv_append (e:=5) (sz:=1) (n:=σ.rcd.length) (v:=v6) (vals:=σ.rcd.map bv) (z:=.int .u8 0) (by_:=1) (m:=px.data.length) (c':=c8) (ad:=ad) (news:=px.data.map bv) S72 rfl kr_ ⟨by kernel_rfl⟩ rfl kr_ kr_ hpos (by rw [List.length_map,Nat.mul_one]) (RdB.cells (hrd _ _ S72)) (bv_one px.data) om_ om_ (fun v73 w74 S75=> ?_))
        obtain ⟨A76,c77,rfl⟩:=St.vecV S75 0 rfl
        rw [←List.map_append,←List.length_append] at S75
        rw [←List.length_append]
        refine gI_ hW (gv_st (k:=0) (v:=.slice A76 ((σ.rcd++px.data).length) c77) S75 5 rfl rfl kr_ kr_ kr_ rfl rfl (L':=[vec 5 1 (.slice A76 (σ.rcd++px.data).length c77) (σ.rcd++px.data).length ((σ.rcd++px.data).map bv),row Bx (pC_ px (some ad) c8) 165,row gl (wC_ gd l σ.head) 161,row g1 #[pq gl] 93,row g5 #[v5] 42,row g9 #[.slice A76 ((σ.rcd++px.data).length) c77] 31,row g24 #[nI_ σ.idx] 3,row g30 #[nI_ px.cnt] 3,vec 31 1 v5 RV.length (RV.map (·.1)),stars (RV.map recD)]) rfl (fun w78 S79=> ?_))
        refine wI_ ?_
        refine then_n ?_
        refine wpIn_seq ?_
        refine wpIn_region_lit ?_
        refine gI_ hW (gv_ldR (v:=nI_ σ.idx) rfl kr_ kr_ (((S79.blk 6 rfl).cell 0).trans rfl) ?_)
        refine gI_ hW (gv_int (k:=.i64) (z:=IntKind.i64.wrap (((σ.idx:Nat):Int)+1)) (z':=((σ.idx+1:Nat):Int)) kr_ wq_ ?_)
        refine gI_ hW (gv_st (k:=0) (v:=nI_ (σ.idx+1)) S79 6 rfl rfl kr_ kr_ kr_ rfl rfl (L':=[vec 5 1 (.slice A76 (σ.rcd++px.data).length c77) (σ.rcd++px.data).length ((σ.rcd++px.data).map bv),row Bx (pC_ px (some ad) c8) 165,row gl (wC_ gd l σ.head) 161,row g1 #[pq gl] 93,row g5 #[v5] 42,row g9 #[.slice A76 ((σ.rcd++px.data).length) c77] 31,row g24 #[nI_ (σ.idx+1)] 3,row g30 #[nI_ px.cnt] 3,vec 31 1 v5 RV.length (RV.map (·.1)),stars (RV.map recD)]) rfl (fun w80 S81=> ?_))
        refine wI_ ?_
        refine then_n ?_
        refine wpIn_seq ?_
        refine wpIn_region_lit ?_
        refine gI_ hW (gv_ldR (v:=nI_ (σ.idx+1)) rfl kr_ kr_ (((S81.blk 6 rfl).cell 0).trans rfl) ?_)
        refine gI_ hW (gv_ldR (v:=nI_ px.cnt) rfl kr_ kr_ (((S81.blk 7 rfl).cell 0).trans rfl) ?_)
        refine gI_ hW (gv_eq (x:=((σ.idx+1:Nat):Int)) (y:=((px.cnt:Nat):Int)) kr_ (fun hb82=> ?_) (fun hb82=> ?_))
        ·skip
         refine wI_ ?_
         refine then_n ?_
         refine wpIn_cond_true kr_ ?_
         refine wpIn_seq ?_
         refine wpIn_region_lit ?_
         refine gI_ hW (gv_ldR (v:=v5) rfl kr_ kr_ (((S81.blk 4 rfl).cell 0).trans rfl) ?_)
         refine gI_ hW (gv_ldR (v:=.slice A76 ((σ.rcd++px.data).length) c77) rfl kr_ kr_ (((S81.blk 5 rfl).cell 0).trans rfl) ?_)
         refine gI_ hW (gv_slit (e:=31) (sz:=1) (z:=nS_) (by_:=24) (vs:=#[(0,.slice A76 ((σ.rcd++px.data).length) c77)]) (cells:=#[.slice A76 ((σ.rcd++px.data).length) c77]) S81 rfl kr_ ⟨by kernel_rfl⟩ kr_ kr_ kr_ kr_ (fun g83 w84 hg85 S86=> ?_))
         have S87:=St.pm 11 [0,9,1,2,3,4,5,6,7,8,10] S86
         refine gI_ hW (gv_append (e:=31) (sz:=1) (n:=RV.length) (v:=v5) (vals:=(RV.map (·.1))) (z:=nS_) (by_:=24) (m:=1) (c':=1) (ad:=⟨g83,0,none⟩) (news:=[.slice A76 (σ.rcd++px.data).length c77]) (St.swap S87) rfl kr_ ⟨by kernel_rfl⟩ rfl kr_ kr_ dc_ rfl (row_news (S87.blk 0 rfl)) (by intro u hu;simp at hu;subst hu;rfl) om_ om_ (fun v89 w88 S90=> ?_))
         obtain ⟨A91,c92,rfl⟩:=St.vecV S90 0 rfl
         have S93:=St.pm 11 [0,10,2,3,4,5,6,7,8,9] S90
         have S94:=St.pm 10 [1,2,0,3,4,5,6,7,8,9] S93
         have S95:St (fun k=>k=Bx∨D k) W9 w88 [stars ((RV++[((.slice A76 (σ.rcd++px.data).length c77:Value),σ.rcd++px.data)]).map recD),vec 31 1 (.slice A91 (RV.length+1) c92) (RV.length+1) (RV.map (·.1)++[.slice A76 (σ.rcd++px.data).length c77]),row Bx #[nI_ px.epoch,nI_ px.pos,nI_ px.idx,nI_ px.cnt,.slice (some ad) px.data.length c8] 165,row gl #[.pointer (some ⟨gd,0,none⟩),nI_ l.first,nI_ l.n,.int .i64 l.life,nI_ l.epoch,nI_ l.top,nI_ l.tail,nI_ σ.head,.bool l.begun] 161,row g1 #[.pointer (some ⟨gl,0,none⟩)] 93,row g5 #[v5] 42,row g9 #[.slice A76 ((σ.rcd++px.data).length) c77] 31,row g24 #[nI_ (σ.idx+1)] 3,row g30 #[nI_ px.cnt] 3]:=(by rw [List.map_append];exact St.star_join (St.swap (St.one_star (St.swap S94))))
         have S96:St (fun k=>k=Bx∨D k) W9 w88 [vec 5 1 (nS_) ([]:List UInt8).length (([]:List UInt8).map bv),stars ((RV++[(rv_ A76 c77 (σ.rcd++px.data))]).map recD),vec 31 1 (.slice A91 (RV.length+1) c92) (RV.length+1) (RV.map (·.1)++[.slice A76 (σ.rcd++px.data).length c77]),row Bx (pC_ px (some ad) c8) 165,row gl (wC_ gd l σ.head) 161,row g1 #[pq gl] 93,row g5 #[v5] 42,row g9 #[.slice A76 ((σ.rcd++px.data).length) c77] 31,row g24 #[nI_ (σ.idx+1)] 3,row g30 #[nI_ px.cnt] 3]:=St.vec_nil S95
         have hrl:(RV++[((.slice A76 (σ.rcd++px.data).length c77:Value),σ.rcd++px.data)]).length=RV.length+1:=by rw [List.length_append];rfl
         have hrm:(RV++[((.slice A76 (σ.rcd++px.data).length c77:Value),σ.rcd++px.data)]).map (·.1)=RV.map (·.1)++[.slice A76 (σ.rcd++px.data).length c77]:=by rw [List.map_append];rfl
         have S97:St (fun k=>k=Bx∨D k) W9 w88 [vec 5 1 (.slice none 0 0) ([]:List UInt8).length (([]:List UInt8).map bv),stars ((RV++[((.slice A76 (σ.rcd++px.data).length c77:Value),σ.rcd++px.data)]).map recD),vec 31 1 (.slice A91 (RV.length+1) c92) (RV++[((.slice A76 (σ.rcd++px.data).length c77:Value),σ.rcd++px.data)]).length ((RV++[((.slice A76 (σ.rcd++px.data).length c77:Value),σ.rcd++px.data)]).map (·.1)),row Bx #[nI_ px.epoch,nI_ px.pos,nI_ px.idx,nI_ px.cnt,.slice (some ad) px.data.length c8] 165,row gl #[.pointer (some ⟨gd,0,none⟩),nI_ l.first,nI_ l.n,.int .i64 l.life,nI_ l.epoch,nI_ l.top,nI_ l.tail,nI_ σ.head,.bool l.begun] 161,row g1 #[.pointer (some ⟨gl,0,none⟩)] 93,row g5 #[v5] 42,row g9 #[.slice A76 ((σ.rcd++px.data).length) c77] 31,row g24 #[nI_ (σ.idx+1)] 3,row g30 #[nI_ px.cnt] 3]:=(by rw [hrl,hrm];exact S96)
         refine gI_ hW (gv_st (k:=0) (v:=.slice A91 (RV.length+1) c92) S97 6 rfl rfl kr_ kr_ kr_ rfl rfl (L':=[vec 5 1 (nS_) ([]:List UInt8).length (([]:List UInt8).map bv),stars ((RV++[(rv_ A76 c77 (σ.rcd++px.data))]).map recD),vec 31 1 (.slice A91 (RV.length+1) c92) (RV++[(rv_ A76 c77 (σ.rcd++px.data))]).length ((RV++[(rv_ A76 c77 (σ.rcd++px.data))]).map (·.1)),row Bx (pC_ px (some ad) c8) 165,row gl (wC_ gd l σ.head) 161,row g1 #[pq gl] 93,row g5 #[.slice A91 (RV.length+1) c92] 42,row g9 #[.slice A76 ((σ.rcd++px.data).length) c77] 31,row g24 #[nI_ (σ.idx+1)] 3,row g30 #[nI_ px.cnt] 3]) rfl (fun w98 S99=> ?_))
         refine wI_ ?_
         refine then_n ?_
         refine wpIn_seq ?_
         refine wp_region_phuI hW kr_ (γ:=Unit) 9 [8] (fun (c2_:Unit) (i_:Nat)=>(match i_ with|0=>pq gl|1=>pq gl|2=>po gl 7|3=>nI_ σ.head|4=>nI_ px.cnt|5=>nI_ (σ.head+px.cnt)|6=>pq gl|7=>po gl 7|8=>undef|_=>undef:Value)) (fun (c2_:Unit) (p_:Nat) (w_:World)=>(match p_ with|0=>St (fun k=>k=Bx∨D k) W9 w_ [vec 5 1 (nS_) ([]:List UInt8).length (([]:List UInt8).map bv),stars ((RV++[(rv_ A76 c77 (σ.rcd++px.data))]).map recD),vec 31 1 (.slice A91 (RV.length+1) c92) (RV++[(rv_ A76 c77 (σ.rcd++px.data))]).length ((RV++[(rv_ A76 c77 (σ.rcd++px.data))]).map (·.1)),row Bx (pC_ px (some ad) c8) 165,row gl (wC_ gd l σ.head) 161,row g1 #[pq gl] 93,row g5 #[.slice A91 (RV.length+1) c92] 42,row g9 #[.slice A76 ((σ.rcd++px.data).length) c77] 31,row g24 #[nI_ (σ.idx+1)] 3,row g30 #[nI_ px.cnt] 3]|_=>St (fun k=>k=Bx∨D k) W9 w_ [vec 5 1 (nS_) ([]:List UInt8).length (([]:List UInt8).map bv),stars ((RV++[(rv_ A76 c77 (σ.rcd++px.data))]).map recD),vec 31 1 (.slice A91 (RV.length+1) c92) (RV++[(rv_ A76 c77 (σ.rcd++px.data))]).length ((RV++[(rv_ A76 c77 (σ.rcd++px.data))]).map (·.1)),row Bx (pC_ px (some ad) c8) 165,row gl (wC_ gd l (σ.head+px.cnt)) 161,row g1 #[pq gl] 93,row g5 #[.slice A91 (RV.length+1) c92] 42,row g9 #[.slice A76 ((σ.rcd++px.data).length) c77] 31,row g24 #[nI_ (σ.idx+1)] 3,row g30 #[nI_ px.cnt] 3]:Prop)) () kr_ kr_ kr_ kr_ (S99.drew) ?_ ?_ ?_
         ·intro i_ c2_ p_ vals_ w1 hi_ hiE_ hp_ hk_ hu_ hPh_ hd_
          rcases i_ with _|_|_|_|_|_|_|_|_|i_
          ·skip
           rcases p_ with _|_|p_
           ·skip
            have S100:St (fun k=>k=Bx∨D k) W9 w1 [vec 5 1 (nS_) ([]:List UInt8).length (([]:List UInt8).map bv),stars ((RV++[(rv_ A76 c77 (σ.rcd++px.data))]).map recD),vec 31 1 (.slice A91 (RV.length+1) c92) (RV++[(rv_ A76 c77 (σ.rcd++px.data))]).length ((RV++[(rv_ A76 c77 (σ.rcd++px.data))]).map (·.1)),row Bx (pC_ px (some ad) c8) 165,row gl (wC_ gd l σ.head) 161,row g1 #[pq gl] 93,row g5 #[.slice A91 (RV.length+1) c92] 42,row g9 #[.slice A76 ((σ.rcd++px.data).length) c77] 31,row g24 #[nI_ (σ.idx+1)] 3,row g30 #[nI_ px.cnt] 3]:=hPh_
            refine toldI (tG_ rfl hd_ (gv_ldR (v:=pq gl) rfl kr_ kr_ (((S100.blk 5 rfl).cell 0).trans rfl) ?_))
            exact ⟨rfl,rfl⟩
           ·skip
            exact absurd (hu_ 0 dc_ kr_) dc_
           ·exact absurd hp_ (by simp)
          ·skip
           refine toldI (tG_ rfl hd_ (gv_val (v:=pq gl) (w':=w1) kr_ ?_))
           exact ⟨rfl,rfl⟩
          ·skip
           refine toldI (tG_ rfl hd_ (gv_val (v:=po gl 7) (w':=w1) kr_ ?_))
           exact ⟨rfl,rfl⟩
          ·skip
           rcases p_ with _|_|p_
           ·skip
            have S103:St (fun k=>k=Bx∨D k) W9 w1 [vec 5 1 (nS_) ([]:List UInt8).length (([]:List UInt8).map bv),stars ((RV++[(rv_ A76 c77 (σ.rcd++px.data))]).map recD),vec 31 1 (.slice A91 (RV.length+1) c92) (RV++[(rv_ A76 c77 (σ.rcd++px.data))]).length ((RV++[(rv_ A76 c77 (σ.rcd++px.data))]).map (·.1)),row Bx (pC_ px (some ad) c8) 165,row gl (wC_ gd l σ.head) 161,row g1 #[pq gl] 93,row g5 #[.slice A91 (RV.length+1) c92] 42,row g9 #[.slice A76 ((σ.rcd++px.data).length) c77] 31,row g24 #[nI_ (σ.idx+1)] 3,row g30 #[nI_ px.cnt] 3]:=hPh_
            refine toldI (tG_ rfl hd_ (gv_ldR (v:=nI_ σ.head) rfl kr_ kr_ (((S103.blk 4 rfl).cell 7).trans rfl) ?_))
            exact ⟨rfl,rfl⟩
           ·skip
            exact absurd (hu_ 0 dc_ kr_) dc_
           ·exact absurd hp_ (by simp)
          ·skip
           rcases p_ with _|_|p_
           ·skip
            have S104:St (fun k=>k=Bx∨D k) W9 w1 [vec 5 1 (nS_) ([]:List UInt8).length (([]:List UInt8).map bv),stars ((RV++[(rv_ A76 c77 (σ.rcd++px.data))]).map recD),vec 31 1 (.slice A91 (RV.length+1) c92) (RV++[(rv_ A76 c77 (σ.rcd++px.data))]).length ((RV++[(rv_ A76 c77 (σ.rcd++px.data))]).map (·.1)),row Bx (pC_ px (some ad) c8) 165,row gl (wC_ gd l σ.head) 161,row g1 #[pq gl] 93,row g5 #[.slice A91 (RV.length+1) c92] 42,row g9 #[.slice A76 ((σ.rcd++px.data).length) c77] 31,row g24 #[nI_ (σ.idx+1)] 3,row g30 #[nI_ px.cnt] 3]:=hPh_
            refine toldI (tG_ rfl hd_ (gv_ldR (v:=nI_ px.cnt) rfl kr_ kr_ (((S104.blk 9 rfl).cell 0).trans rfl) ?_))
            exact ⟨rfl,rfl⟩
           ·skip
            exact absurd (hu_ 0 dc_ kr_) dc_
           ·exact absurd hp_ (by simp)
          ·skip
           refine toldI (tG_ rfl hd_ (gv_int (k:=.i64) (z:=IntKind.i64.wrap (((σ.head:Nat):Int)+((px.cnt:Nat):Int))) (z':=((σ.head+px.cnt:Nat):Int)) kr_ wq_ ?_))
           exact ⟨rfl,rfl⟩
          ·skip
           refine toldI (tG_ rfl hd_ (gv_val (v:=pq gl) (w':=w1) kr_ ?_))
           exact ⟨rfl,rfl⟩
          ·skip
           refine toldI (tG_ rfl hd_ (gv_val (v:=po gl 7) (w':=w1) kr_ ?_))
           exact ⟨rfl,rfl⟩
          ·skip
           exact absurd hiE_ dc_
          ·exact absurd hi_ om_
         ·intro k_ c2_ vals_ w1 hk_ hPh_ hd_
          rcases k_ with _|k_
          ·skip
           have S108:St (fun k=>k=Bx∨D k) W9 w1 [vec 5 1 (nS_) ([]:List UInt8).length (([]:List UInt8).map bv),stars ((RV++[(rv_ A76 c77 (σ.rcd++px.data))]).map recD),vec 31 1 (.slice A91 (RV.length+1) c92) (RV++[(rv_ A76 c77 (σ.rcd++px.data))]).length ((RV++[(rv_ A76 c77 (σ.rcd++px.data))]).map (·.1)),row Bx (pC_ px (some ad) c8) 165,row gl (wC_ gd l σ.head) 161,row g1 #[pq gl] 93,row g5 #[.slice A91 (RV.length+1) c92] 42,row g9 #[.slice A76 ((σ.rcd++px.data).length) c77] 31,row g24 #[nI_ (σ.idx+1)] 3,row g30 #[nI_ px.cnt] 3]:=hPh_
           refine toldI (tG_ rfl hd_ (gv_st (k:=7) (v:=nI_ (σ.head+px.cnt)) S108 4 rfl rfl kr_ kr_ kr_ rfl rfl (L':=[vec 5 1 (nS_) ([]:List UInt8).length (([]:List UInt8).map bv),stars ((RV++[(rv_ A76 c77 (σ.rcd++px.data))]).map recD),vec 31 1 (.slice A91 (RV.length+1) c92) (RV++[(rv_ A76 c77 (σ.rcd++px.data))]).length ((RV++[(rv_ A76 c77 (σ.rcd++px.data))]).map (·.1)),row Bx (pC_ px (some ad) c8) 165,row gl (wC_ gd l (σ.head+px.cnt)) 161,row g1 #[pq gl] 93,row g5 #[.slice A91 (RV.length+1) c92] 42,row g9 #[.slice A76 ((σ.rcd++px.data).length) c77] 31,row g24 #[nI_ (σ.idx+1)] 3,row g30 #[nI_ px.cnt] 3]) rfl (fun w109 S110=> ?_)))
           refine ⟨(),rfl, ?_,S110⟩
           intro i_ hi_ hne_ hdp_
           rcases i_ with _|_|_|_|_|_|_|_|_|i_
           ·rfl
           ·rfl
           ·rfl
           ·rfl
           ·rfl
           ·rfl
           ·rfl
           ·rfl
           ·exact absurd rfl hne_
           ·exact absurd hi_ om_
          ·exact absurd hk_ (by simp)
         ·intro c2_ w1 hPh_
          have S111:St (fun k=>k=Bx∨D k) W9 w1 [vec 5 1 (nS_) ([]:List UInt8).length (([]:List UInt8).map bv),stars ((RV++[(rv_ A76 c77 (σ.rcd++px.data))]).map recD),vec 31 1 (.slice A91 (RV.length+1) c92) (RV++[(rv_ A76 c77 (σ.rcd++px.data))]).length ((RV++[(rv_ A76 c77 (σ.rcd++px.data))]).map (·.1)),row Bx (pC_ px (some ad) c8) 165,row gl (wC_ gd l (σ.head+px.cnt)) 161,row g1 #[pq gl] 93,row g5 #[.slice A91 (RV.length+1) c92] 42,row g9 #[.slice A76 ((σ.rcd++px.data).length) c77] 31,row g24 #[nI_ (σ.idx+1)] 3,row g30 #[nI_ px.cnt] 3]:=hPh_
          refine wI_ ?_
          refine then_n ?_
          refine wpIn_region_lit ?_
          refine gI_ hW (gv_st (k:=0) (v:=nS_) S111 7 rfl rfl kr_ kr_ kr_ rfl rfl (L':=[vec 5 1 (nS_) ([]:List UInt8).length (([]:List UInt8).map bv),stars ((RV++[(rv_ A76 c77 (σ.rcd++px.data))]).map recD),vec 31 1 (.slice A91 (RV.length+1) c92) (RV++[(rv_ A76 c77 (σ.rcd++px.data))]).length ((RV++[(rv_ A76 c77 (σ.rcd++px.data))]).map (·.1)),row Bx (pC_ px (some ad) c8) 165,row gl (wC_ gd l (σ.head+px.cnt)) 161,row g1 #[pq gl] 93,row g5 #[.slice A91 (RV.length+1) c92] 42,row g9 #[nS_] 31,row g24 #[nI_ (σ.idx+1)] 3,row g30 #[nI_ px.cnt] 3]) rfl (fun w112 S113=> ?_))
          refine gI_ hW (gv_st (k:=0) (v:=iv 0) S113 8 rfl rfl kr_ kr_ kr_ rfl rfl (L':=[vec 5 1 (nS_) ([]:List UInt8).length (([]:List UInt8).map bv),stars ((RV++[(rv_ A76 c77 (σ.rcd++px.data))]).map recD),vec 31 1 (.slice A91 (RV.length+1) c92) (RV++[(rv_ A76 c77 (σ.rcd++px.data))]).length ((RV++[(rv_ A76 c77 (σ.rcd++px.data))]).map (·.1)),row Bx (pC_ px (some ad) c8) 165,row gl (wC_ gd l (σ.head+px.cnt)) 161,row g1 #[pq gl] 93,row g5 #[.slice A91 (RV.length+1) c92] 42,row g9 #[nS_] 31,row g24 #[iv 0] 3,row g30 #[nI_ px.cnt] 3]) rfl (fun w114 S115=> ?_))
          refine wI_ ?_
          refine inb_n ?_
          have S116:=St.pm 10 [3,4,5,6,7,8,9,2,1,0] S115
          have hglc:w114.cell? ⟨gl,2,none⟩=some (iv (l.n:Nat))∧w114.cell? ⟨gl,4,none⟩=some (iv (l.epoch:Nat))∧w114.cell? ⟨gl,6,none⟩=some (iv (l.tail:Nat)):=⟨((S116.blk 1 rfl).cell 2).trans rfl,((S116.blk 1 rfl).cell 4).trans rfl,((S116.blk 1 rfl).cell 6).trans rfl⟩
          have hgl9:W9.cell? ⟨gl,2,none⟩=some (iv (l.n:Nat))∧W9.cell? ⟨gl,4,none⟩=some (iv (l.epoch:Nat))∧W9.cell? ⟨gl,6,none⟩=some (iv (l.tail:Nat)):=⟨((T3.blk 1 rfl).cell 2).trans rfl,((T3.blk 1 rfl).cell 4).trans rfl,((T3.blk 1 rfl).cell 6).trans rfl⟩
          have hkp:KpR b1 b2 gl gr W9 w114:=fun a ha=>by
           rcases ha with h|h|h|h|h|h
           ·exact Fr.cellK S116.fr (by rw [h];exact hnB b1 hb1 hn1) om_
           ·exact Fr.cellK S116.fr (by rw [h];exact hnB b2 hb2 hn2) om_
           ·exact Fr.cellK S116.fr (by rw [h];exact hnB gr hgr hnr) om_
           ·subst h;exact hglc.1.trans hgl9.1.symm
           ·subst h;exact hglc.2.1.trans hgl9.2.1.symm
           ·subst h;exact hglc.2.2.trans hgl9.2.2.symm
          have hst:scStep σ px=some ⟨σ.recs++[σ.rcd++px.data],[],0,px.cnt,σ.head+px.cnt⟩:=by unfold scStep;rw [hcn];rw [if_neg om_,if_neg om_,if_pos om_]
          refine ⟨St.keepsFrom S116 hDc,hkp,⟨σ.recs++[σ.rcd++px.data],[],0,px.cnt,σ.head+px.cnt⟩,RV++[(rv_ A76 c77 (σ.rcd++px.data))],.slice A91 (RV.length+1) c92,nS_, ?_, ?_, ?_,St.unbase T (St.tail S116) hD2⟩
          ·rw [pcsOf,List.map_append];show scRun _ (pcsOf pre++[px])=_;rw [scRun_snoc,e1];exact hst
          ·rw [List.map_append,e2];rfl
          ·rw [List.length_append];exact e3.step q5 hst
        ·skip
         refine wI_ ?_
         refine then_n ?_
         refine wpIn_cond_false kr_ ?_
         refine wpIn_skip ?_
         refine inb_n ?_
         have S117:=St.pm 10 [1,2,3,4,5,6,7,8,9,0] S81
         have hglc:w80.cell? ⟨gl,2,none⟩=some (iv (l.n:Nat))∧w80.cell? ⟨gl,4,none⟩=some (iv (l.epoch:Nat))∧w80.cell? ⟨gl,6,none⟩=some (iv (l.tail:Nat)):=⟨((S117.blk 1 rfl).cell 2).trans rfl,((S117.blk 1 rfl).cell 4).trans rfl,((S117.blk 1 rfl).cell 6).trans rfl⟩
         have hgl9:W9.cell? ⟨gl,2,none⟩=some (iv (l.n:Nat))∧W9.cell? ⟨gl,4,none⟩=some (iv (l.epoch:Nat))∧W9.cell? ⟨gl,6,none⟩=some (iv (l.tail:Nat)):=⟨((T3.blk 1 rfl).cell 2).trans rfl,((T3.blk 1 rfl).cell 4).trans rfl,((T3.blk 1 rfl).cell 6).trans rfl⟩
         have hkp:KpR b1 b2 gl gr W9 w80:=fun a ha=>by
          rcases ha with h|h|h|h|h|h
          ·exact Fr.cellK S117.fr (by rw [h];exact hnB b1 hb1 hn1) om_
          ·exact Fr.cellK S117.fr (by rw [h];exact hnB b2 hb2 hn2) om_
          ·exact Fr.cellK S117.fr (by rw [h];exact hnB gr hgr hnr) om_
          ·subst h;exact hglc.1.trans hgl9.1.symm
          ·subst h;exact hglc.2.1.trans hgl9.2.1.symm
          ·subst h;exact hglc.2.2.trans hgl9.2.2.symm
         have hst:scStep σ px=some ⟨σ.recs,σ.rcd++px.data,σ.idx+1,px.cnt,σ.head⟩:=by unfold scStep;rw [hcn];rw [if_neg om_,if_neg om_,if_neg om_]
         refine ⟨St.keepsFrom S117 hDc,hkp,⟨σ.recs,σ.rcd++px.data,σ.idx+1,px.cnt,σ.head⟩,RV,v5,.slice A76 (σ.rcd++px.data).length c77, ?_, ?_, ?_,St.unbase T (St.tail S117) hD2⟩
         ·rw [pcsOf,List.map_append];show scRun _ (pcsOf pre++[px])=_;rw [scRun_snoc,e1];exact hst
         ·exact e2
         ·rw [List.length_append];exact e3.step q5 hst
   ·skip
    have hi0:σ.idx≠0:=by omega
    refine gI_ hW (gV fv ?_)
    refine wI_ ?_
    refine then_n ?_
    refine wpIn_cond_false kr_ ?_
    refine wpIn_seq ?_
    refine wpIn_region_lit ?_
    refine gI_ hW (gV (po Bx 3) ?_)
    refine gI_ hW (gv_ldR (v:=nI_ px.cnt) rfl kr_ kr_ (((T3.blk 0 rfl).cell 3).trans rfl) ?_)
    refine gI_ hW (gv_ldR (v:=nI_ σ.cnt) rfl kr_ kr_ (((T3.blk 6 rfl).cell 0).trans rfl) ?_)
    refine gI_ hW (gv_ne (x:=((px.cnt:Nat):Int)) (y:=((σ.cnt:Nat):Int)) kr_ (fun hb118=> ?_) (fun hb118=> ?_))
    ·skip
     refine gI_ hW (gV tv ?_)
     refine wI_ ?_
     refine then_n ?_
     refine wpIn_cond_true kr_ ?_
     refine wpIn_exit ?_
     refine inb_y dc_ ?_
     refine then_x ?_
     refine inb_y dc_ ?_
     have S119:=St.pm 10 [0,1,2,3,4,5,6,7,8,9] T3
     have hglc:W9.cell? ⟨gl,2,none⟩=some (iv (l.n:Nat))∧W9.cell? ⟨gl,4,none⟩=some (iv (l.epoch:Nat))∧W9.cell? ⟨gl,6,none⟩=some (iv (l.tail:Nat)):=⟨((S119.blk 1 rfl).cell 2).trans rfl,((S119.blk 1 rfl).cell 4).trans rfl,((S119.blk 1 rfl).cell 6).trans rfl⟩
     have hgl9:W9.cell? ⟨gl,2,none⟩=some (iv (l.n:Nat))∧W9.cell? ⟨gl,4,none⟩=some (iv (l.epoch:Nat))∧W9.cell? ⟨gl,6,none⟩=some (iv (l.tail:Nat)):=⟨((T3.blk 1 rfl).cell 2).trans rfl,((T3.blk 1 rfl).cell 4).trans rfl,((T3.blk 1 rfl).cell 6).trans rfl⟩
     have hkp:KpR b1 b2 gl gr W9 W9:=fun a ha=>by
      rcases ha with h|h|h|h|h|h
      ·exact Fr.cellK S119.fr (by rw [h];exact hnB b1 hb1 hn1) om_
      ·exact Fr.cellK S119.fr (by rw [h];exact hnB b2 hb2 hn2) om_
      ·exact Fr.cellK S119.fr (by rw [h];exact hnB gr hgr hnr) om_
      ·subst h;exact hglc.1.trans hgl9.1.symm
      ·subst h;exact hglc.2.1.trans hgl9.2.1.symm
      ·subst h;exact hglc.2.2.trans hgl9.2.2.symm
     have hst:scStep σ px=none:=by unfold scStep;rw [if_pos om_]
     exact ⟨St.keepsFrom S119 hDc,pre,_,σ,RV,v5,v6,σ.cnt,rfl,rfl,e1,hst,e2,St.unbase T (St.tail S119) hD2⟩
    ·skip
     have hcn:scCnt σ px=σ.cnt:=by unfold scCnt;rw [if_neg hi0]
     refine gI_ hW (gV fv ?_)
     refine wI_ ?_
     refine then_n ?_
     refine wpIn_cond_false kr_ ?_
     refine wpIn_skip ?_
     refine inb_n ?_
     refine then_n ?_
     refine wpIn_seq ?_
     refine wpIn_region_lit ?_
     refine gI_ hW (gV (po Bx 4) ?_)
     refine gI_ hW (gv_ldR (v:=.slice (some ad) px.data.length c8) rfl kr_ kr_ (((T3.blk 0 rfl).cell 4).trans rfl) ?_)
     refine gI_ hW (gV (iv (px.data.length:Nat)) ?_)
     refine gI_ hW (gV (.bool ((px.data.length:Int)==492)) ?_)
     refine gI_ hW (gV (.bool ((px.data.length:Int)==492)) ?_)
     refine wI_ ?_
     refine then_n ?_
     refine wpIn_seq ?_
     refine wpIn_seq ?_
     refine wpIn_region_lit ?_
     refine gI_ hW (gV (po Bx 2) ?_)
     refine gI_ hW (gv_ldR (v:=nI_ px.idx) rfl kr_ kr_ (((T3.blk 0 rfl).cell 2).trans rfl) ?_)
     refine gI_ hW (gv_ldR (v:=nI_ σ.idx) rfl kr_ kr_ (((T3.blk 5 rfl).cell 0).trans rfl) ?_)
     refine gI_ hW (gv_ne (x:=((px.idx:Nat):Int)) (y:=((σ.idx:Nat):Int)) kr_ (fun hb120=> ?_) (fun hb120=> ?_))
     ·skip
      refine gI_ hW (gV tv ?_)
      refine gIn hW ?_
      refine gIn hW ?_
      refine gI_ hW (gV tv ?_)
      refine gI_ hW (gV tv ?_)
      refine gIn hW ?_
      refine gIn hW ?_
      refine gI_ hW (gV tv ?_)
      refine gI_ hW (gV tv ?_)
      refine gIn hW ?_
      refine gIn hW ?_
      refine gIn hW ?_
      refine gIn hW ?_
      refine gIn hW ?_
      refine gIn hW ?_
      refine gIn hW ?_
      refine gIn hW ?_
      refine gI_ hW (gV tv ?_)
      refine wI_ ?_
      refine then_n ?_
      refine wpIn_cond_true kr_ ?_
      refine wpIn_exit ?_
      refine then_x ?_
      refine inb_y dc_ ?_
      have S121:=St.pm 10 [0,1,2,3,4,5,6,7,8,9] T3
      have hglc:W9.cell? ⟨gl,2,none⟩=some (iv (l.n:Nat))∧W9.cell? ⟨gl,4,none⟩=some (iv (l.epoch:Nat))∧W9.cell? ⟨gl,6,none⟩=some (iv (l.tail:Nat)):=⟨((S121.blk 1 rfl).cell 2).trans rfl,((S121.blk 1 rfl).cell 4).trans rfl,((S121.blk 1 rfl).cell 6).trans rfl⟩
      have hgl9:W9.cell? ⟨gl,2,none⟩=some (iv (l.n:Nat))∧W9.cell? ⟨gl,4,none⟩=some (iv (l.epoch:Nat))∧W9.cell? ⟨gl,6,none⟩=some (iv (l.tail:Nat)):=⟨((T3.blk 1 rfl).cell 2).trans rfl,((T3.blk 1 rfl).cell 4).trans rfl,((T3.blk 1 rfl).cell 6).trans rfl⟩
      have hkp:KpR b1 b2 gl gr W9 W9:=fun a ha=>by
       rcases ha with h|h|h|h|h|h
       ·exact Fr.cellK S121.fr (by rw [h];exact hnB b1 hb1 hn1) om_
       ·exact Fr.cellK S121.fr (by rw [h];exact hnB b2 hb2 hn2) om_
       ·exact Fr.cellK S121.fr (by rw [h];exact hnB gr hgr hnr) om_
       ·subst h;exact hglc.1.trans hgl9.1.symm
       ·subst h;exact hglc.2.1.trans hgl9.2.1.symm
       ·subst h;exact hglc.2.2.trans hgl9.2.2.symm
      have hst:scStep σ px=none:=by unfold scStep;rw [hcn];rw [if_neg om_,if_pos om_]
      exact ⟨St.keepsFrom S121 hDc,pre,_,σ,RV,v5,v6,σ.cnt,rfl,rfl,e1,hst,e2,St.unbase T (St.tail S121) hD2⟩
     ·skip
      refine gI_ hW (gV fv ?_)
      refine gIw hW (gv_ldR (v:=nI_ σ.cnt) rfl kr_ kr_ (((T3.blk 6 rfl).cell 0).trans rfl) ?_)
      refine gIw hW (gv_dec (p:=(((σ.cnt:Nat):Int):Int)<1) kr_ (fun hb122=> ?_) (fun hb122=> ?_))
      ·skip
       refine gI_ hW (gV tv ?_)
       refine gI_ hW (gV tv ?_)
       refine gIn hW ?_
       refine gIn hW ?_
       refine gI_ hW (gV tv ?_)
       refine gI_ hW (gV tv ?_)
       refine gIn hW ?_
       refine gIn hW ?_
       refine gIn hW ?_
       refine gIn hW ?_
       refine gIn hW ?_
       refine gIn hW ?_
       refine gIn hW ?_
       refine gIn hW ?_
       refine gI_ hW (gV tv ?_)
       refine wI_ ?_
       refine then_n ?_
       refine wpIn_cond_true kr_ ?_
       refine wpIn_exit ?_
       refine then_x ?_
       refine inb_y dc_ ?_
       have S123:=St.pm 10 [0,1,2,3,4,5,6,7,8,9] T3
       have hglc:W9.cell? ⟨gl,2,none⟩=some (iv (l.n:Nat))∧W9.cell? ⟨gl,4,none⟩=some (iv (l.epoch:Nat))∧W9.cell? ⟨gl,6,none⟩=some (iv (l.tail:Nat)):=⟨((S123.blk 1 rfl).cell 2).trans rfl,((S123.blk 1 rfl).cell 4).trans rfl,((S123.blk 1 rfl).cell 6).trans rfl⟩
       have hgl9:W9.cell? ⟨gl,2,none⟩=some (iv (l.n:Nat))∧W9.cell? ⟨gl,4,none⟩=some (iv (l.epoch:Nat))∧W9.cell? ⟨gl,6,none⟩=some (iv (l.tail:Nat)):=⟨((T3.blk 1 rfl).cell 2).trans rfl,((T3.blk 1 rfl).cell 4).trans rfl,((T3.blk 1 rfl).cell 6).trans rfl⟩
       have hkp:KpR b1 b2 gl gr W9 W9:=fun a ha=>by
        rcases ha with h|h|h|h|h|h
        ·exact Fr.cellK S123.fr (by rw [h];exact hnB b1 hb1 hn1) om_
        ·exact Fr.cellK S123.fr (by rw [h];exact hnB b2 hb2 hn2) om_
        ·exact Fr.cellK S123.fr (by rw [h];exact hnB gr hgr hnr) om_
        ·subst h;exact hglc.1.trans hgl9.1.symm
        ·subst h;exact hglc.2.1.trans hgl9.2.1.symm
        ·subst h;exact hglc.2.2.trans hgl9.2.2.symm
       have hst:scStep σ px=none:=by unfold scStep;rw [hcn];rw [if_neg om_,if_pos om_]
       exact ⟨St.keepsFrom S123 hDc,pre,_,σ,RV,v5,v6,σ.cnt,rfl,rfl,e1,hst,e2,St.unbase T (St.tail S123) hD2⟩
      ·skip
       refine gI_ hW (gV fv ?_)
       refine gI_ hW (gV fv ?_)
       refine gIw hW (gv_ldR (v:=nI_ σ.cnt) rfl kr_ kr_ (((T3.blk 6 rfl).cell 0).trans rfl) ?_)
       refine gIw hW (gv_dec (p:=(((σ.cnt:Nat):Int):Int)>17) kr_ (fun hb124=> ?_) (fun hb124=> ?_))
       ·skip
        refine gI_ hW (gV tv ?_)
        refine gI_ hW (gV tv ?_)
        refine gIn hW ?_
        refine gIn hW ?_
        refine gIn hW ?_
        refine gIn hW ?_
        refine gIn hW ?_
        refine gIn hW ?_
        refine gIn hW ?_
        refine gIn hW ?_
        refine gI_ hW (gV tv ?_)
        refine wI_ ?_
        refine then_n ?_
        refine wpIn_cond_true kr_ ?_
        refine wpIn_exit ?_
        refine then_x ?_
        refine inb_y dc_ ?_
        have S125:=St.pm 10 [0,1,2,3,4,5,6,7,8,9] T3
        have hglc:W9.cell? ⟨gl,2,none⟩=some (iv (l.n:Nat))∧W9.cell? ⟨gl,4,none⟩=some (iv (l.epoch:Nat))∧W9.cell? ⟨gl,6,none⟩=some (iv (l.tail:Nat)):=⟨((S125.blk 1 rfl).cell 2).trans rfl,((S125.blk 1 rfl).cell 4).trans rfl,((S125.blk 1 rfl).cell 6).trans rfl⟩
        have hgl9:W9.cell? ⟨gl,2,none⟩=some (iv (l.n:Nat))∧W9.cell? ⟨gl,4,none⟩=some (iv (l.epoch:Nat))∧W9.cell? ⟨gl,6,none⟩=some (iv (l.tail:Nat)):=⟨((T3.blk 1 rfl).cell 2).trans rfl,((T3.blk 1 rfl).cell 4).trans rfl,((T3.blk 1 rfl).cell 6).trans rfl⟩
        have hkp:KpR b1 b2 gl gr W9 W9:=fun a ha=>by
         rcases ha with h|h|h|h|h|h
         ·exact Fr.cellK S125.fr (by rw [h];exact hnB b1 hb1 hn1) om_
         ·exact Fr.cellK S125.fr (by rw [h];exact hnB b2 hb2 hn2) om_
         ·exact Fr.cellK S125.fr (by rw [h];exact hnB gr hgr hnr) om_
         ·subst h;exact hglc.1.trans hgl9.1.symm
         ·subst h;exact hglc.2.1.trans hgl9.2.1.symm
         ·subst h;exact hglc.2.2.trans hgl9.2.2.symm
        have hst:scStep σ px=none:=by unfold scStep;rw [hcn];rw [if_neg om_,if_pos om_]
        exact ⟨St.keepsFrom S125 hDc,pre,_,σ,RV,v5,v6,σ.cnt,rfl,rfl,e1,hst,e2,St.unbase T (St.tail S125) hD2⟩
       ·skip
        refine gI_ hW (gV fv ?_)
        refine gI_ hW (gV fv ?_)
        refine gIw hW (gv_ldR (v:=nI_ σ.idx) rfl kr_ kr_ (((T3.blk 5 rfl).cell 0).trans rfl) ?_)
        refine gIw hW (gv_ldR (v:=nI_ σ.cnt) rfl kr_ kr_ (((T3.blk 6 rfl).cell 0).trans rfl) ?_)
        refine gIw hW (gv_int (k:=.i64) (z:=IntKind.i64.wrap (((σ.cnt:Nat):Int)-1)) (z':=(((σ.cnt:Nat):Int):Int)-1) kr_ (wr_eq rfl om_ om_) ?_)
        refine gIw hW (gv_dec (p:=(((σ.idx:Nat):Int):Int)<((((σ.cnt:Nat):Int):Int)-1)) kr_ (fun hb126=> ?_) (fun hb126=> ?_))
        ·skip
         refine gIw hW (gv_val (v:=.bool true) (w':=W9) kr_ ?_)
         refine gIw hW (gv_val (v:=.bool ((px.data.length:Int)==492)) (w':=W9) kr_ ?_)
         refine gIw hW (gv_val (v:=.bool (!((px.data.length:Int)==492))) (w':=W9) kr_ ?_)
         refine gIw hW (gv_val (v:=.bool (!((px.data.length:Int)==492))) (w':=W9) kr_ ?_)
         refine gI_ hW (gV (.bool (!((px.data.length:Int)==492))) ?_)
         refine wI_ ?_
         refine then_n ?_
         refine wpIn_cond_split (t:= !((px.data.length:Int)==492)) kr_ (fun hc127=> ?_) (fun hc127=> ?_)
         ·skip
          have hnf9:px.data.length≠492:=by intro h9;rw [h9] at hc127;exact absurd hc127 dc_
          refine wpIn_exit ?_
          refine then_x ?_
          refine inb_y dc_ ?_
          have S128:=St.pm 10 [0,1,2,3,4,5,6,7,8,9] T3
          have hglc:W9.cell? ⟨gl,2,none⟩=some (iv (l.n:Nat))∧W9.cell? ⟨gl,4,none⟩=some (iv (l.epoch:Nat))∧W9.cell? ⟨gl,6,none⟩=some (iv (l.tail:Nat)):=⟨((S128.blk 1 rfl).cell 2).trans rfl,((S128.blk 1 rfl).cell 4).trans rfl,((S128.blk 1 rfl).cell 6).trans rfl⟩
          have hgl9:W9.cell? ⟨gl,2,none⟩=some (iv (l.n:Nat))∧W9.cell? ⟨gl,4,none⟩=some (iv (l.epoch:Nat))∧W9.cell? ⟨gl,6,none⟩=some (iv (l.tail:Nat)):=⟨((T3.blk 1 rfl).cell 2).trans rfl,((T3.blk 1 rfl).cell 4).trans rfl,((T3.blk 1 rfl).cell 6).trans rfl⟩
          have hkp:KpR b1 b2 gl gr W9 W9:=fun a ha=>by
           rcases ha with h|h|h|h|h|h
           ·exact Fr.cellK S128.fr (by rw [h];exact hnB b1 hb1 hn1) om_
           ·exact Fr.cellK S128.fr (by rw [h];exact hnB b2 hb2 hn2) om_
           ·exact Fr.cellK S128.fr (by rw [h];exact hnB gr hgr hnr) om_
           ·subst h;exact hglc.1.trans hgl9.1.symm
           ·subst h;exact hglc.2.1.trans hgl9.2.1.symm
           ·subst h;exact hglc.2.2.trans hgl9.2.2.symm
          have hst:scStep σ px=none:=by unfold scStep;rw [hcn];rw [if_neg om_,if_pos om_]
          exact ⟨St.keepsFrom S128 hDc,pre,_,σ,RV,v5,v6,σ.cnt,rfl,rfl,e1,hst,e2,St.unbase T (St.tail S128) hD2⟩
         ·skip
          have hf9:px.data.length=492:=by simp at hc127;omega
          refine wpIn_skip ?_
          refine then_n ?_
          refine wpIn_seq ?_
          refine wpIn_region_lit ?_
          refine gI_ hW (gv_ldR (v:=v6) rfl kr_ kr_ (((T3.blk 4 rfl).cell 0).trans rfl) ?_)
          refine gI_ hW (gV (po Bx 4) ?_)
          refine gI_ hW (gv_ldR (v:=.slice (some ad) px.data.length c8) rfl kr_ kr_ (((T3.blk 0 rfl).cell 4).trans rfl) ?_)
          have S129:St (fun k=>k=Bx∨D k) W9 W9 [vec 5 1 v6 σ.rcd.length (σ.rcd.map bv),row Bx (pC_ px (some ad) c8) 165,row gl (wC_ gd l σ.head) 161,row g1 #[pq gl] 93,row g5 #[v5] 42,row g9 #[v6] 31,row g24 #[nI_ σ.idx] 3,row g30 #[nI_ σ.cnt] 3,vec 31 1 v5 RV.length (RV.map (·.1)),stars (RV.map recD)]:=St.pm 10 [9,0,1,2,3,4,5,6,7,8] T3
          refine gI_ hW (gv_append (e:=5) (sz:=1) (n:=σ.rcd.length) (v:=v6) (vals:=σ.rcd.map bv) (z:=.int .u8 0) (by_:=1) (m:=px.data.length) (c':=c8) (ad:=ad) (news:=px.data.map bv) S129 rfl kr_ ⟨by kernel_rfl⟩ rfl kr_ kr_ hpos (by rw [List.length_map,Nat.mul_one]) (RdB.cells (hrd _ _ S129)) (bv_one px.data) om_ om_ (fun v130 w131 S132=> ?_))
          obtain ⟨A133,c134,rfl⟩:=St.vecV S132 0 rfl
          rw [←List.map_append,←List.length_append] at S132
          rw [←List.length_append]
          refine gI_ hW (gv_st (k:=0) (v:=.slice A133 ((σ.rcd++px.data).length) c134) S132 5 rfl rfl kr_ kr_ kr_ rfl rfl (L':=[vec 5 1 (.slice A133 (σ.rcd++px.data).length c134) (σ.rcd++px.data).length ((σ.rcd++px.data).map bv),row Bx (pC_ px (some ad) c8) 165,row gl (wC_ gd l σ.head) 161,row g1 #[pq gl] 93,row g5 #[v5] 42,row g9 #[.slice A133 ((σ.rcd++px.data).length) c134] 31,row g24 #[nI_ σ.idx] 3,row g30 #[nI_ σ.cnt] 3,vec 31 1 v5 RV.length (RV.map (·.1)),stars (RV.map recD)]) rfl (fun w135 S136=> ?_))
          refine wI_ ?_
          refine then_n ?_
          refine wpIn_seq ?_
          refine wpIn_region_lit ?_
          refine gI_ hW (gv_ldR (v:=nI_ σ.idx) rfl kr_ kr_ (((S136.blk 6 rfl).cell 0).trans rfl) ?_)
          refine gI_ hW (gv_int (k:=.i64) (z:=IntKind.i64.wrap (((σ.idx:Nat):Int)+1)) (z':=((σ.idx+1:Nat):Int)) kr_ wq_ ?_)
          refine gI_ hW (gv_st (k:=0) (v:=nI_ (σ.idx+1)) S136 6 rfl rfl kr_ kr_ kr_ rfl rfl (L':=[vec 5 1 (.slice A133 (σ.rcd++px.data).length c134) (σ.rcd++px.data).length ((σ.rcd++px.data).map bv),row Bx (pC_ px (some ad) c8) 165,row gl (wC_ gd l σ.head) 161,row g1 #[pq gl] 93,row g5 #[v5] 42,row g9 #[.slice A133 ((σ.rcd++px.data).length) c134] 31,row g24 #[nI_ (σ.idx+1)] 3,row g30 #[nI_ σ.cnt] 3,vec 31 1 v5 RV.length (RV.map (·.1)),stars (RV.map recD)]) rfl (fun w137 S138=> ?_))
          refine wI_ ?_
          refine then_n ?_
          refine wpIn_seq ?_
          refine wpIn_region_lit ?_
          refine gI_ hW (gv_ldR (v:=nI_ (σ.idx+1)) rfl kr_ kr_ (((S138.blk 6 rfl).cell 0).trans rfl) ?_)
          refine gI_ hW (gv_ldR (v:=nI_ σ.cnt) rfl kr_ kr_ (((S138.blk 7 rfl).cell 0).trans rfl) ?_)
          refine gI_ hW (gv_eq (x:=((σ.idx+1:Nat):Int)) (y:=((σ.cnt:Nat):Int)) kr_ (fun hb139=> ?_) (fun hb139=> ?_))
          ·skip
           exact absurd hb139 om_
          ·skip
           refine wI_ ?_
           refine then_n ?_
           refine wpIn_cond_false kr_ ?_
           refine wpIn_skip ?_
           refine inb_n ?_
           have S140:=St.pm 10 [1,2,3,4,5,6,7,8,9,0] S138
           have hglc:w137.cell? ⟨gl,2,none⟩=some (iv (l.n:Nat))∧w137.cell? ⟨gl,4,none⟩=some (iv (l.epoch:Nat))∧w137.cell? ⟨gl,6,none⟩=some (iv (l.tail:Nat)):=⟨((S140.blk 1 rfl).cell 2).trans rfl,((S140.blk 1 rfl).cell 4).trans rfl,((S140.blk 1 rfl).cell 6).trans rfl⟩
           have hgl9:W9.cell? ⟨gl,2,none⟩=some (iv (l.n:Nat))∧W9.cell? ⟨gl,4,none⟩=some (iv (l.epoch:Nat))∧W9.cell? ⟨gl,6,none⟩=some (iv (l.tail:Nat)):=⟨((T3.blk 1 rfl).cell 2).trans rfl,((T3.blk 1 rfl).cell 4).trans rfl,((T3.blk 1 rfl).cell 6).trans rfl⟩
           have hkp:KpR b1 b2 gl gr W9 w137:=fun a ha=>by
            rcases ha with h|h|h|h|h|h
            ·exact Fr.cellK S140.fr (by rw [h];exact hnB b1 hb1 hn1) om_
            ·exact Fr.cellK S140.fr (by rw [h];exact hnB b2 hb2 hn2) om_
            ·exact Fr.cellK S140.fr (by rw [h];exact hnB gr hgr hnr) om_
            ·subst h;exact hglc.1.trans hgl9.1.symm
            ·subst h;exact hglc.2.1.trans hgl9.2.1.symm
            ·subst h;exact hglc.2.2.trans hgl9.2.2.symm
           have hst:scStep σ px=some ⟨σ.recs,σ.rcd++px.data,σ.idx+1,σ.cnt,σ.head⟩:=by unfold scStep;rw [hcn];rw [if_neg om_,if_neg om_,if_neg om_]
           refine ⟨St.keepsFrom S140 hDc,hkp,⟨σ.recs,σ.rcd++px.data,σ.idx+1,σ.cnt,σ.head⟩,RV,v5,.slice A133 (σ.rcd++px.data).length c134, ?_, ?_, ?_,St.unbase T (St.tail S140) hD2⟩
           ·rw [pcsOf,List.map_append];show scRun _ (pcsOf pre++[px])=_;rw [scRun_snoc,e1];exact hst
           ·exact e2
           ·rw [List.length_append];exact e3.step q5 hst
        ·skip
         refine gIw hW (gv_val (v:=.bool false) (w':=W9) kr_ ?_)
         refine gIn hW ?_
         refine gIn hW ?_
         refine gIw hW (gv_val (v:=.bool false) (w':=W9) kr_ ?_)
         refine gI_ hW (gV fv ?_)
         refine wI_ ?_
         refine then_n ?_
         refine wpIn_cond_false kr_ ?_
         refine wpIn_skip ?_
         refine then_n ?_
         refine wpIn_seq ?_
         refine wpIn_region_lit ?_
         refine gI_ hW (gv_ldR (v:=v6) rfl kr_ kr_ (((T3.blk 4 rfl).cell 0).trans rfl) ?_)
         refine gI_ hW (gV (po Bx 4) ?_)
         refine gI_ hW (gv_ldR (v:=.slice (some ad) px.data.length c8) rfl kr_ kr_ (((T3.blk 0 rfl).cell 4).trans rfl) ?_)
         have S141:St (fun k=>k=Bx∨D k) W9 W9 [vec 5 1 v6 σ.rcd.length (σ.rcd.map bv),row Bx (pC_ px (some ad) c8) 165,row gl (wC_ gd l σ.head) 161,row g1 #[pq gl] 93,row g5 #[v5] 42,row g9 #[v6] 31,row g24 #[nI_ σ.idx] 3,row g30 #[nI_ σ.cnt] 3,vec 31 1 v5 RV.length (RV.map (·.1)),stars (RV.map recD)]:=St.pm 10 [9,0,1,2,3,4,5,6,7,8] T3
         refine gI_ hW (gv_append (e:=5) (sz:=1) (n:=σ.rcd.length) (v:=v6) (vals:=σ.rcd.map bv) (z:=.int .u8 0) (by_:=1) (m:=px.data.length) (c':=c8) (ad:=ad) (news:=px.data.map bv) S141 rfl kr_ ⟨by kernel_rfl⟩ rfl kr_ kr_ hpos (by rw [List.length_map,Nat.mul_one]) (RdB.cells (hrd _ _ S141)) (bv_one px.data) om_ om_ (fun v142 w143 S144=> ?_))
         obtain ⟨A145,c146,rfl⟩:=St.vecV S144 0 rfl
         rw [←List.map_append,←List.length_append] at S144
         rw [←List.length_append]
         refine gI_ hW (gv_st (k:=0) (v:=.slice A145 ((σ.rcd++px.data).length) c146) S144 5 rfl rfl kr_ kr_ kr_ rfl rfl (L':=[vec 5 1 (.slice A145 (σ.rcd++px.data).length c146) (σ.rcd++px.data).length ((σ.rcd++px.data).map bv),row Bx (pC_ px (some ad) c8) 165,row gl (wC_ gd l σ.head) 161,row g1 #[pq gl] 93,row g5 #[v5] 42,row g9 #[.slice A145 ((σ.rcd++px.data).length) c146] 31,row g24 #[nI_ σ.idx] 3,row g30 #[nI_ σ.cnt] 3,vec 31 1 v5 RV.length (RV.map (·.1)),stars (RV.map recD)]) rfl (fun w147 S148=> ?_))
         refine wI_ ?_
         refine then_n ?_
         refine wpIn_seq ?_
         refine wpIn_region_lit ?_
         refine gI_ hW (gv_ldR (v:=nI_ σ.idx) rfl kr_ kr_ (((S148.blk 6 rfl).cell 0).trans rfl) ?_)
         refine gI_ hW (gv_int (k:=.i64) (z:=IntKind.i64.wrap (((σ.idx:Nat):Int)+1)) (z':=((σ.idx+1:Nat):Int)) kr_ wq_ ?_)
         refine gI_ hW (gv_st (k:=0) (v:=nI_ (σ.idx+1)) S148 6 rfl rfl kr_ kr_ kr_ rfl rfl (L':=[vec 5 1 (.slice A145 (σ.rcd++px.data).length c146) (σ.rcd++px.data).length ((σ.rcd++px.data).map bv),row Bx (pC_ px (some ad) c8) 165,row gl (wC_ gd l σ.head) 161,row g1 #[pq gl] 93,row g5 #[v5] 42,row g9 #[.slice A145 ((σ.rcd++px.data).length) c146] 31,row g24 #[nI_ (σ.idx+1)] 3,row g30 #[nI_ σ.cnt] 3,vec 31 1 v5 RV.length (RV.map (·.1)),stars (RV.map recD)]) rfl (fun w149 S150=> ?_))
         refine wI_ ?_
         refine then_n ?_
         refine wpIn_seq ?_
         refine wpIn_region_lit ?_
         refine gI_ hW (gv_ldR (v:=nI_ (σ.idx+1)) rfl kr_ kr_ (((S150.blk 6 rfl).cell 0).trans rfl) ?_)
         refine gI_ hW (gv_ldR (v:=nI_ σ.cnt) rfl kr_ kr_ (((S150.blk 7 rfl).cell 0).trans rfl) ?_)
         refine gI_ hW (gv_eq (x:=((σ.idx+1:Nat):Int)) (y:=((σ.cnt:Nat):Int)) kr_ (fun hb151=> ?_) (fun hb151=> ?_))
         ·skip
          refine wI_ ?_
          refine then_n ?_
          refine wpIn_cond_true kr_ ?_
          refine wpIn_seq ?_
          refine wpIn_region_lit ?_
          refine gI_ hW (gv_ldR (v:=v5) rfl kr_ kr_ (((S150.blk 4 rfl).cell 0).trans rfl) ?_)
          refine gI_ hW (gv_ldR (v:=.slice A145 ((σ.rcd++px.data).length) c146) rfl kr_ kr_ (((S150.blk 5 rfl).cell 0).trans rfl) ?_)
          refine gI_ hW (gv_slit (e:=31) (sz:=1) (z:=nS_) (by_:=24) (vs:=#[(0,.slice A145 ((σ.rcd++px.data).length) c146)]) (cells:=#[.slice A145 ((σ.rcd++px.data).length) c146]) S150 rfl kr_ ⟨by kernel_rfl⟩ kr_ kr_ kr_ kr_ (fun g152 w153 hg154 S155=> ?_))
          have S156:=St.pm 11 [0,9,1,2,3,4,5,6,7,8,10] S155
          refine gI_ hW (gv_append (e:=31) (sz:=1) (n:=RV.length) (v:=v5) (vals:=(RV.map (·.1))) (z:=nS_) (by_:=24) (m:=1) (c':=1) (ad:=⟨g152,0,none⟩) (news:=[.slice A145 (σ.rcd++px.data).length c146]) (St.swap S156) rfl kr_ ⟨by kernel_rfl⟩ rfl kr_ kr_ dc_ rfl (row_news (S156.blk 0 rfl)) (by intro u hu;simp at hu;subst hu;rfl) om_ om_ (fun v158 w157 S159=> ?_))
          obtain ⟨A160,c161,rfl⟩:=St.vecV S159 0 rfl
          have S162:=St.pm 11 [0,10,2,3,4,5,6,7,8,9] S159
          have S163:=St.pm 10 [1,2,0,3,4,5,6,7,8,9] S162
          have S164:St (fun k=>k=Bx∨D k) W9 w157 [stars ((RV++[((.slice A145 (σ.rcd++px.data).length c146:Value),σ.rcd++px.data)]).map recD),vec 31 1 (.slice A160 (RV.length+1) c161) (RV.length+1) (RV.map (·.1)++[.slice A145 (σ.rcd++px.data).length c146]),row Bx #[nI_ px.epoch,nI_ px.pos,nI_ px.idx,nI_ px.cnt,.slice (some ad) px.data.length c8] 165,row gl #[.pointer (some ⟨gd,0,none⟩),nI_ l.first,nI_ l.n,.int .i64 l.life,nI_ l.epoch,nI_ l.top,nI_ l.tail,nI_ σ.head,.bool l.begun] 161,row g1 #[.pointer (some ⟨gl,0,none⟩)] 93,row g5 #[v5] 42,row g9 #[.slice A145 ((σ.rcd++px.data).length) c146] 31,row g24 #[nI_ (σ.idx+1)] 3,row g30 #[nI_ σ.cnt] 3]:=(by rw [List.map_append];exact St.star_join (St.swap (St.one_star (St.swap S163))))
          have S165:St (fun k=>k=Bx∨D k) W9 w157 [vec 5 1 (nS_) ([]:List UInt8).length (([]:List UInt8).map bv),stars ((RV++[(rv_ A145 c146 (σ.rcd++px.data))]).map recD),vec 31 1 (.slice A160 (RV.length+1) c161) (RV.length+1) (RV.map (·.1)++[.slice A145 (σ.rcd++px.data).length c146]),row Bx (pC_ px (some ad) c8) 165,row gl (wC_ gd l σ.head) 161,row g1 #[pq gl] 93,row g5 #[v5] 42,row g9 #[.slice A145 ((σ.rcd++px.data).length) c146] 31,row g24 #[nI_ (σ.idx+1)] 3,row g30 #[nI_ σ.cnt] 3]:=St.vec_nil S164
          have hrl:(RV++[((.slice A145 (σ.rcd++px.data).length c146:Value),σ.rcd++px.data)]).length=RV.length+1:=by rw [List.length_append];rfl
          have hrm:(RV++[((.slice A145 (σ.rcd++px.data).length c146:Value),σ.rcd++px.data)]).map (·.1)=RV.map (·.1)++[.slice A145 (σ.rcd++px.data).length c146]:=by rw [List.map_append];rfl
          have S166:St (fun k=>k=Bx∨D k) W9 w157 [vec 5 1 (.slice none 0 0) ([]:List UInt8).length (([]:List UInt8).map bv),stars ((RV++[((.slice A145 (σ.rcd++px.data).length c146:Value),σ.rcd++px.data)]).map recD),vec 31 1 (.slice A160 (RV.length+1) c161) (RV++[((.slice A145 (σ.rcd++px.data).length c146:Value),σ.rcd++px.data)]).length ((RV++[((.slice A145 (σ.rcd++px.data).length c146:Value),σ.rcd++px.data)]).map (·.1)),row Bx #[nI_ px.epoch,nI_ px.pos,nI_ px.idx,nI_ px.cnt,.slice (some ad) px.data.length c8] 165,row gl #[.pointer (some ⟨gd,0,none⟩),nI_ l.first,nI_ l.n,.int .i64 l.life,nI_ l.epoch,nI_ l.top,nI_ l.tail,nI_ σ.head,.bool l.begun] 161,row g1 #[.pointer (some ⟨gl,0,none⟩)] 93,row g5 #[v5] 42,row g9 #[.slice A145 ((σ.rcd++px.data).length) c146] 31,row g24 #[nI_ (σ.idx+1)] 3,row g30 #[nI_ σ.cnt] 3]:=(by rw [hrl,hrm];exact S165)
          refine gI_ hW (gv_st (k:=0) (v:=.slice A160 (RV.length+1) c161) S166 6 rfl rfl kr_ kr_ kr_ rfl rfl (L':=[vec 5 1 (nS_) ([]:List UInt8).length (([]:List UInt8).map bv),stars ((RV++[(rv_ A145 c146 (σ.rcd++px.data))]).map recD),vec 31 1 (.slice A160 (RV.length+1) c161) (RV++[(rv_ A145 c146 (σ.rcd++px.data))]).length ((RV++[(rv_ A145 c146 (σ.rcd++px.data))]).map (·.1)),row Bx (pC_ px (some ad) c8) 165,row gl (wC_ gd l σ.head) 161,row g1 #[pq gl] 93,row g5 #[.slice A160 (RV.length+1) c161] 42,row g9 #[.slice A145 ((σ.rcd++px.data).length) c146] 31,row g24 #[nI_ (σ.idx+1)] 3,row g30 #[nI_ σ.cnt] 3]) rfl (fun w167 S168=> ?_))
          refine wI_ ?_
          refine then_n ?_
          refine wpIn_seq ?_
          refine wp_region_phuI hW kr_ (γ:=Unit) 9 [8] (fun (c3_:Unit) (i_:Nat)=>(match i_ with|0=>pq gl|1=>pq gl|2=>po gl 7|3=>nI_ σ.head|4=>nI_ σ.cnt|5=>nI_ (σ.head+σ.cnt)|6=>pq gl|7=>po gl 7|8=>undef|_=>undef:Value)) (fun (c3_:Unit) (p_:Nat) (w_:World)=>(match p_ with|0=>St (fun k=>k=Bx∨D k) W9 w_ [vec 5 1 (nS_) ([]:List UInt8).length (([]:List UInt8).map bv),stars ((RV++[(rv_ A145 c146 (σ.rcd++px.data))]).map recD),vec 31 1 (.slice A160 (RV.length+1) c161) (RV++[(rv_ A145 c146 (σ.rcd++px.data))]).length ((RV++[(rv_ A145 c146 (σ.rcd++px.data))]).map (·.1)),row Bx (pC_ px (some ad) c8) 165,row gl (wC_ gd l σ.head) 161,row g1 #[pq gl] 93,row g5 #[.slice A160 (RV.length+1) c161] 42,row g9 #[.slice A145 ((σ.rcd++px.data).length) c146] 31,row g24 #[nI_ (σ.idx+1)] 3,row g30 #[nI_ σ.cnt] 3]|_=>St (fun k=>k=Bx∨D k) W9 w_ [vec 5 1 (nS_) ([]:List UInt8).length (([]:List UInt8).map bv),stars ((RV++[(rv_ A145 c146 (σ.rcd++px.data))]).map recD),vec 31 1 (.slice A160 (RV.length+1) c161) (RV++[(rv_ A145 c146 (σ.rcd++px.data))]).length ((RV++[(rv_ A145 c146 (σ.rcd++px.data))]).map (·.1)),row Bx (pC_ px (some ad) c8) 165,row gl (wC_ gd l (σ.head+σ.cnt)) 161,row g1 #[pq gl] 93,row g5 #[.slice A160 (RV.length+1) c161] 42,row g9 #[.slice A145 ((σ.rcd++px.data).length) c146] 31,row g24 #[nI_ (σ.idx+1)] 3,row g30 #[nI_ σ.cnt] 3]:Prop)) () kr_ kr_ kr_ kr_ (S168.drew) ?_ ?_ ?_
          ·intro i_ c3_ p_ vals_ w1 hi_ hiE_ hp_ hk_ hu_ hPh_ hd_
           rcases i_ with _|_|_|_|_|_|_|_|_|i_
           ·skip
            rcases p_ with _|_|p_
            ·skip
             have S169:St (fun k=>k=Bx∨D k) W9 w1 [vec 5 1 (nS_) ([]:List UInt8).length (([]:List UInt8).map bv),stars ((RV++[(rv_ A145 c146 (σ.rcd++px.data))]).map recD),vec 31 1 (.slice A160 (RV.length+1) c161) (RV++[(rv_ A145 c146 (σ.rcd++px.data))]).length ((RV++[(rv_ A145 c146 (σ.rcd++px.data))]).map (·.1)),row Bx (pC_ px (some ad) c8) 165,row gl (wC_ gd l σ.head) 161,row g1 #[pq gl] 93,row g5 #[.slice A160 (RV.length+1) c161] 42,row g9 #[.slice A145 ((σ.rcd++px.data).length) c146] 31,row g24 #[nI_ (σ.idx+1)] 3,row g30 #[nI_ σ.cnt] 3]:=hPh_
             refine toldI (tG_ rfl hd_ (gv_ldR (v:=pq gl) rfl kr_ kr_ (((S169.blk 5 rfl).cell 0).trans rfl) ?_))
             exact ⟨rfl,rfl⟩
            ·skip
             exact absurd (hu_ 0 dc_ kr_) dc_
            ·exact absurd hp_ (by simp)
           ·skip
            refine toldI (tG_ rfl hd_ (gv_val (v:=pq gl) (w':=w1) kr_ ?_))
            exact ⟨rfl,rfl⟩
           ·skip
            refine toldI (tG_ rfl hd_ (gv_val (v:=po gl 7) (w':=w1) kr_ ?_))
            exact ⟨rfl,rfl⟩
           ·skip
            rcases p_ with _|_|p_
            ·skip
             have S172:St (fun k=>k=Bx∨D k) W9 w1 [vec 5 1 (nS_) ([]:List UInt8).length (([]:List UInt8).map bv),stars ((RV++[(rv_ A145 c146 (σ.rcd++px.data))]).map recD),vec 31 1 (.slice A160 (RV.length+1) c161) (RV++[(rv_ A145 c146 (σ.rcd++px.data))]).length ((RV++[(rv_ A145 c146 (σ.rcd++px.data))]).map (·.1)),row Bx (pC_ px (some ad) c8) 165,row gl (wC_ gd l σ.head) 161,row g1 #[pq gl] 93,row g5 #[.slice A160 (RV.length+1) c161] 42,row g9 #[.slice A145 ((σ.rcd++px.data).length) c146] 31,row g24 #[nI_ (σ.idx+1)] 3,row g30 #[nI_ σ.cnt] 3]:=hPh_
             refine toldI (tG_ rfl hd_ (gv_ldR (v:=nI_ σ.head) rfl kr_ kr_ (((S172.blk 4 rfl).cell 7).trans rfl) ?_))
             exact ⟨rfl,rfl⟩
            ·skip
             exact absurd (hu_ 0 dc_ kr_) dc_
            ·exact absurd hp_ (by simp)
           ·skip
            rcases p_ with _|_|p_
            ·skip
             have S173:St (fun k=>k=Bx∨D k) W9 w1 [vec 5 1 (nS_) ([]:List UInt8).length (([]:List UInt8).map bv),stars ((RV++[(rv_ A145 c146 (σ.rcd++px.data))]).map recD),vec 31 1 (.slice A160 (RV.length+1) c161) (RV++[(rv_ A145 c146 (σ.rcd++px.data))]).length ((RV++[(rv_ A145 c146 (σ.rcd++px.data))]).map (·.1)),row Bx (pC_ px (some ad) c8) 165,row gl (wC_ gd l σ.head) 161,row g1 #[pq gl] 93,row g5 #[.slice A160 (RV.length+1) c161] 42,row g9 #[.slice A145 ((σ.rcd++px.data).length) c146] 31,row g24 #[nI_ (σ.idx+1)] 3,row g30 #[nI_ σ.cnt] 3]:=hPh_
             refine toldI (tG_ rfl hd_ (gv_ldR (v:=nI_ σ.cnt) rfl kr_ kr_ (((S173.blk 9 rfl).cell 0).trans rfl) ?_))
             exact ⟨rfl,rfl⟩
            ·skip
             exact absurd (hu_ 0 dc_ kr_) dc_
            ·exact absurd hp_ (by simp)
           ·skip
            refine toldI (tG_ rfl hd_ (gv_int (k:=.i64) (z:=IntKind.i64.wrap (((σ.head:Nat):Int)+((σ.cnt:Nat):Int))) (z':=((σ.head+σ.cnt:Nat):Int)) kr_ wq_ ?_))
            exact ⟨rfl,rfl⟩
           ·skip
            refine toldI (tG_ rfl hd_ (gv_val (v:=pq gl) (w':=w1) kr_ ?_))
            exact ⟨rfl,rfl⟩
           ·skip
            refine toldI (tG_ rfl hd_ (gv_val (v:=po gl 7) (w':=w1) kr_ ?_))
            exact ⟨rfl,rfl⟩
           ·skip
            exact absurd hiE_ dc_
           ·exact absurd hi_ om_
          ·intro k_ c3_ vals_ w1 hk_ hPh_ hd_
           rcases k_ with _|k_
           ·skip
            have S177:St (fun k=>k=Bx∨D k) W9 w1 [vec 5 1 (nS_) ([]:List UInt8).length (([]:List UInt8).map bv),stars ((RV++[(rv_ A145 c146 (σ.rcd++px.data))]).map recD),vec 31 1 (.slice A160 (RV.length+1) c161) (RV++[(rv_ A145 c146 (σ.rcd++px.data))]).length ((RV++[(rv_ A145 c146 (σ.rcd++px.data))]).map (·.1)),row Bx (pC_ px (some ad) c8) 165,row gl (wC_ gd l σ.head) 161,row g1 #[pq gl] 93,row g5 #[.slice A160 (RV.length+1) c161] 42,row g9 #[.slice A145 ((σ.rcd++px.data).length) c146] 31,row g24 #[nI_ (σ.idx+1)] 3,row g30 #[nI_ σ.cnt] 3]:=hPh_
            refine toldI (tG_ rfl hd_ (gv_st (k:=7) (v:=nI_ (σ.head+σ.cnt)) S177 4 rfl rfl kr_ kr_ kr_ rfl rfl (L':=[vec 5 1 (nS_) ([]:List UInt8).length (([]:List UInt8).map bv),stars ((RV++[(rv_ A145 c146 (σ.rcd++px.data))]).map recD),vec 31 1 (.slice A160 (RV.length+1) c161) (RV++[(rv_ A145 c146 (σ.rcd++px.data))]).length ((RV++[(rv_ A145 c146 (σ.rcd++px.data))]).map (·.1)),row Bx (pC_ px (some ad) c8) 165,row gl (wC_ gd l (σ.head+σ.cnt)) 161,row g1 #[pq gl] 93,row g5 #[.slice A160 (RV.length+1) c161] 42,row g9 #[.slice A145 ((σ.rcd++px.data).length) c146] 31,row g24 #[nI_ (σ.idx+1)] 3,row g30 #[nI_ σ.cnt] 3]) rfl (fun w178 S179=> ?_)))
            refine ⟨(),rfl, ?_,S179⟩
            intro i_ hi_ hne_ hdp_
            rcases i_ with _|_|_|_|_|_|_|_|_|i_
            ·rfl
            ·rfl
            ·rfl
            ·rfl
            ·rfl
            ·rfl
            ·rfl
            ·rfl
            ·exact absurd rfl hne_
            ·exact absurd hi_ om_
           ·exact absurd hk_ (by simp)
          ·intro c3_ w1 hPh_
           have S180:St (fun k=>k=Bx∨D k) W9 w1 [vec 5 1 (nS_) ([]:List UInt8).length (([]:List UInt8).map bv),stars ((RV++[(rv_ A145 c146 (σ.rcd++px.data))]).map recD),vec 31 1 (.slice A160 (RV.length+1) c161) (RV++[(rv_ A145 c146 (σ.rcd++px.data))]).length ((RV++[(rv_ A145 c146 (σ.rcd++px.data))]).map (·.1)),row Bx (pC_ px (some ad) c8) 165,row gl (wC_ gd l (σ.head+σ.cnt)) 161,row g1 #[pq gl] 93,row g5 #[.slice A160 (RV.length+1) c161] 42,row g9 #[.slice A145 ((σ.rcd++px.data).length) c146] 31,row g24 #[nI_ (σ.idx+1)] 3,row g30 #[nI_ σ.cnt] 3]:=hPh_
           refine wI_ ?_
           refine then_n ?_
           refine wpIn_region_lit ?_
           refine gI_ hW (gv_st (k:=0) (v:=nS_) S180 7 rfl rfl kr_ kr_ kr_ rfl rfl (L':=[vec 5 1 (nS_) ([]:List UInt8).length (([]:List UInt8).map bv),stars ((RV++[(rv_ A145 c146 (σ.rcd++px.data))]).map recD),vec 31 1 (.slice A160 (RV.length+1) c161) (RV++[(rv_ A145 c146 (σ.rcd++px.data))]).length ((RV++[(rv_ A145 c146 (σ.rcd++px.data))]).map (·.1)),row Bx (pC_ px (some ad) c8) 165,row gl (wC_ gd l (σ.head+σ.cnt)) 161,row g1 #[pq gl] 93,row g5 #[.slice A160 (RV.length+1) c161] 42,row g9 #[nS_] 31,row g24 #[nI_ (σ.idx+1)] 3,row g30 #[nI_ σ.cnt] 3]) rfl (fun w181 S182=> ?_))
           refine gI_ hW (gv_st (k:=0) (v:=iv 0) S182 8 rfl rfl kr_ kr_ kr_ rfl rfl (L':=[vec 5 1 (nS_) ([]:List UInt8).length (([]:List UInt8).map bv),stars ((RV++[(rv_ A145 c146 (σ.rcd++px.data))]).map recD),vec 31 1 (.slice A160 (RV.length+1) c161) (RV++[(rv_ A145 c146 (σ.rcd++px.data))]).length ((RV++[(rv_ A145 c146 (σ.rcd++px.data))]).map (·.1)),row Bx (pC_ px (some ad) c8) 165,row gl (wC_ gd l (σ.head+σ.cnt)) 161,row g1 #[pq gl] 93,row g5 #[.slice A160 (RV.length+1) c161] 42,row g9 #[nS_] 31,row g24 #[iv 0] 3,row g30 #[nI_ σ.cnt] 3]) rfl (fun w183 S184=> ?_))
           refine wI_ ?_
           refine inb_n ?_
           have S185:=St.pm 10 [3,4,5,6,7,8,9,2,1,0] S184
           have hglc:w183.cell? ⟨gl,2,none⟩=some (iv (l.n:Nat))∧w183.cell? ⟨gl,4,none⟩=some (iv (l.epoch:Nat))∧w183.cell? ⟨gl,6,none⟩=some (iv (l.tail:Nat)):=⟨((S185.blk 1 rfl).cell 2).trans rfl,((S185.blk 1 rfl).cell 4).trans rfl,((S185.blk 1 rfl).cell 6).trans rfl⟩
           have hgl9:W9.cell? ⟨gl,2,none⟩=some (iv (l.n:Nat))∧W9.cell? ⟨gl,4,none⟩=some (iv (l.epoch:Nat))∧W9.cell? ⟨gl,6,none⟩=some (iv (l.tail:Nat)):=⟨((T3.blk 1 rfl).cell 2).trans rfl,((T3.blk 1 rfl).cell 4).trans rfl,((T3.blk 1 rfl).cell 6).trans rfl⟩
           have hkp:KpR b1 b2 gl gr W9 w183:=fun a ha=>by
            rcases ha with h|h|h|h|h|h
            ·exact Fr.cellK S185.fr (by rw [h];exact hnB b1 hb1 hn1) om_
            ·exact Fr.cellK S185.fr (by rw [h];exact hnB b2 hb2 hn2) om_
            ·exact Fr.cellK S185.fr (by rw [h];exact hnB gr hgr hnr) om_
            ·subst h;exact hglc.1.trans hgl9.1.symm
            ·subst h;exact hglc.2.1.trans hgl9.2.1.symm
            ·subst h;exact hglc.2.2.trans hgl9.2.2.symm
           have hst:scStep σ px=some ⟨σ.recs++[σ.rcd++px.data],[],0,σ.cnt,σ.head+σ.cnt⟩:=by unfold scStep;rw [hcn];rw [if_neg om_,if_neg om_,if_pos om_]
           refine ⟨St.keepsFrom S185 hDc,hkp,⟨σ.recs++[σ.rcd++px.data],[],0,σ.cnt,σ.head+σ.cnt⟩,RV++[(rv_ A145 c146 (σ.rcd++px.data))],.slice A160 (RV.length+1) c161,nS_, ?_, ?_, ?_,St.unbase T (St.tail S185) hD2⟩
           ·rw [pcsOf,List.map_append];show scRun _ (pcsOf pre++[px])=_;rw [scRun_snoc,e1];exact hst
           ·rw [List.map_append,e2];rfl
           ·rw [List.length_append];exact e3.step q5 hst
         ·skip
          refine wI_ ?_
          refine then_n ?_
          refine wpIn_cond_false kr_ ?_
          refine wpIn_skip ?_
          refine inb_n ?_
          have S186:=St.pm 10 [1,2,3,4,5,6,7,8,9,0] S150
          have hglc:w149.cell? ⟨gl,2,none⟩=some (iv (l.n:Nat))∧w149.cell? ⟨gl,4,none⟩=some (iv (l.epoch:Nat))∧w149.cell? ⟨gl,6,none⟩=some (iv (l.tail:Nat)):=⟨((S186.blk 1 rfl).cell 2).trans rfl,((S186.blk 1 rfl).cell 4).trans rfl,((S186.blk 1 rfl).cell 6).trans rfl⟩
          have hgl9:W9.cell? ⟨gl,2,none⟩=some (iv (l.n:Nat))∧W9.cell? ⟨gl,4,none⟩=some (iv (l.epoch:Nat))∧W9.cell? ⟨gl,6,none⟩=some (iv (l.tail:Nat)):=⟨((T3.blk 1 rfl).cell 2).trans rfl,((T3.blk 1 rfl).cell 4).trans rfl,((T3.blk 1 rfl).cell 6).trans rfl⟩
          have hkp:KpR b1 b2 gl gr W9 w149:=fun a ha=>by
           rcases ha with h|h|h|h|h|h
           ·exact Fr.cellK S186.fr (by rw [h];exact hnB b1 hb1 hn1) om_
           ·exact Fr.cellK S186.fr (by rw [h];exact hnB b2 hb2 hn2) om_
           ·exact Fr.cellK S186.fr (by rw [h];exact hnB gr hgr hnr) om_
           ·subst h;exact hglc.1.trans hgl9.1.symm
           ·subst h;exact hglc.2.1.trans hgl9.2.1.symm
           ·subst h;exact hglc.2.2.trans hgl9.2.2.symm
          have hst:scStep σ px=some ⟨σ.recs,σ.rcd++px.data,σ.idx+1,σ.cnt,σ.head⟩:=by unfold scStep;rw [hcn];rw [if_neg om_,if_neg om_,if_neg om_]
          refine ⟨St.keepsFrom S186 hDc,hkp,⟨σ.recs,σ.rcd++px.data,σ.idx+1,σ.cnt,σ.head⟩,RV,v5,.slice A145 (σ.rcd++px.data).length c146, ?_, ?_, ?_,St.unbase T (St.tail S186) hD2⟩
          ·rw [pcsOf,List.map_append];show scRun _ (pcsOf pre++[px])=_;rw [scRun_snoc,e1];exact hst
          ·exact e2
          ·rw [List.length_append];exact e3.step q5 hst
  ·skip
   rintro D9 xs W9 hD9 ⟨hro,hnf⟩ ⟨σ,RV,v5,v6,e1,e2,e3,T⟩ hdf
   have hinv:=scRun_inv xs.length (pcsOf xs) (List.length_map ..) hro e1
   have hno:=hinv.last hnf
   have hrecs:=hinv.recs
   rw [←e2] at hrecs
   have T3:St D1 wl W9 [row gl (wC_ gd l σ.head) 161,row g1 #[pq gl] 93,row g5 #[v5] 42,row g9 #[v6] 31,row g24 #[nI_ σ.idx] 3,row g30 #[nI_ σ.cnt] 3,vec 31 1 v5 RV.length (RV.map (·.1)),stars (RV.map recD),vec 5 1 v6 σ.rcd.length (σ.rcd.map bv)]:=T
   have hW:=wide_wide
   refine inb_n ?_
   refine then_n ?_
   refine wpIn_seq ?_
   refine wpIn_region_lit ?_
   refine gI_ hW (gv_ldR (v:=v5) rfl kr_ kr_ (((T3.blk 2 rfl).cell 0).trans rfl) ?_)
   refine gI_ hW (gV v5 ?_)
   refine wEI (frD D9 [pq gl,sl gr 0 l.n l.n,pq g1,ud,v5,pq g5,pq g9,pq g24,pq g30,ud,ud,pq gl,pq gl,pq gl,po gl 6,nI_ l.tail,pq gl,po gl 7,pq gl,sl gr 0 l.n l.n,.func (.func 150) #[] #[pq b1,pq b2],ud,ud,ud,ud,ud,ud,ud,ud,ud,ud,ud,ud,ud,ud,ud,ud,ud,ud,ud,ud,ud,ud,ud,ud,ud,ud,ud,ud,ud,ud,ud,ud,ud,ud,ud,ud,ud,ud,ud,ud,ud,ud,ud,ud,ud,ud,ud,ud,ud,ud,ud,ud,ud,ud,ud,ud,ud,ud,v5] 0) ?_
   refine then_n ?_
   refine wpIn_ret ?_
   refine noG_r ?_
   refine leave_mark (v:=v5) hdf (fun w_=>results_t1 rfl kr_) ?_
   have T8:St D1 wl (W9.putObj D9 (.deferred none)) (scanL gl gd g1 g5 g9 g24 g30 l σ RV v5 v6):=St.ownFrom T (scanL_cel _ _ _ _ _ _ _ _ _ _ _ _) (Nat.le_refl _) (grownBy_putObj' W9 D9 (.deferred none)) (fun k h=>by cases h;exact ⟨hD9,_,hdf,rfl⟩)
   have T9:=St.mergeA hS T8 hO hdis hF1 hF2
   exact ⟨v5,RV,σ.head,rfl,hrecs,hno,St.pm 13 [6,7,0,11,12] T9⟩
  ·skip
   rintro D9 c_ xs W9 hD9 hro ⟨p0,x,σ,RV,v5,v6,cn,rfl,rfl,e1,hst,e2,T⟩ hdf
   have hro0:RowOf pc l.epoch l.tail (pcsOf p0):=fun j y hy=>hro j y (by rw [pcsOf,List.map_append,List.getElem?_append_left (List.getElem?_eq_some_iff.1 hy).1];exact hy)
   have hinv:=scRun_inv p0.length (pcsOf p0) (List.length_map ..) hro0 e1
   have hxe:=(hro p0.length x.1.1 (by rw [pcsOf,List.map_append,List.getElem?_append_right (by simp)];simp)).1
   rw [hxe] at hst
   have hno:=hinv.stop hst
   have hrecs:=hinv.recs
   rw [←e2] at hrecs
   have T3:St D1 wl W9 [row gl (wC_ gd l σ.head) 161,row g1 #[pq gl] 93,row g5 #[v5] 42,row g9 #[v6] 31,row g24 #[nI_ σ.idx] 3,row g30 #[nI_ cn] 3,vec 31 1 v5 RV.length (RV.map (·.1)),stars (RV.map recD),vec 5 1 v6 σ.rcd.length (σ.rcd.map bv)]:=T
   have hW:=wide_wide
   refine wpIn_exit ?_
   refine inb_x ?_
   refine then_n ?_
   refine wpIn_seq ?_
   refine wpIn_region_lit ?_
   refine gI_ hW (gv_ldR (v:=v5) rfl kr_ kr_ (((T3.blk 2 rfl).cell 0).trans rfl) ?_)
   refine gI_ hW (gV v5 ?_)
   refine wEI (frD D9 [pq gl,sl gr 0 l.n l.n,pq g1,ud,v5,pq g5,pq g9,pq g24,pq g30,ud,ud,pq gl,pq gl,pq gl,po gl 6,nI_ l.tail,pq gl,po gl 7,pq gl,sl gr 0 l.n l.n,.func (.func 150) #[] #[pq b1,pq b2],ud,ud,ud,ud,ud,ud,ud,ud,ud,ud,ud,ud,ud,ud,ud,ud,ud,ud,ud,ud,ud,ud,ud,ud,ud,ud,ud,ud,ud,ud,ud,ud,ud,ud,ud,ud,ud,ud,ud,ud,ud,ud,ud,ud,ud,ud,ud,ud,ud,ud,ud,ud,ud,ud,ud,ud,ud,ud,v5] 0) ?_
   refine then_n ?_
   refine wpIn_ret ?_
   refine noG_r ?_
   refine leave_mark (v:=v5) hdf (fun w_=>results_t1 rfl kr_) ?_
   have T8:St D1 wl (W9.putObj D9 (.deferred none)) (scanL gl gd g1 g5 g9 g24 g30 l ({σ with cnt:=cn}) RV v5 v6):=St.ownFrom T (scanL_cel _ _ _ _ _ _ _ _ _ _ _ _) (Nat.le_refl _) (grownBy_putObj' W9 D9 (.deferred none)) (fun k h=>by cases h;exact ⟨hD9,_,hdf,rfl⟩)
   have T9:=St.mergeA hS T8 hO hdis hF1 hF2
   exact ⟨v5,RV,σ.head,rfl,hrecs,hno,St.pm 13 [6,7,0,11,12] T9⟩
theorem w_scan {F:Nat→Prop}{w0 w:World}{L:List Ast}{gl gd gr:Nat}{l:Lg}{M:List PcV}{pc:Nat→Pc}(S:St F w0 w (PLog gl gd l::row gr (pcRow M) 165::stars (M.map pcD)::L))(hl:LOk l)(hM:M.length=l.n)(hpc:∀j x,M[j]?=some x→x.1=pc j∧∃A c,x.2=.slice A x.1.data.length c)(hper:∀p,pc (p+l.n)=pc p)(hlt:∀p,(pc p).epoch<4294967296∧(pc p).pos<4294967296∧(pc p).idx<4294967296∧(pc p).cnt<4294967296)(hd492:∀p,(pc p).data.length≤492):Calls Try.prog 112 #[.pointer (some ⟨gl,0,none⟩),.slice (some ⟨gr,0,none⟩) l.n l.n] w fun e w'=>∃(v:Value) (RV:List RecV) (h:Nat),e=.returned v∧Recs pc l.epoch l.tail (RV.map (·.2)) h∧NoRec pc l.epoch h∧St F w0 w' (vec 31 1 v RV.length (RV.map (·.1))::stars (RV.map recD)::PLog gl gd {l with head:=h}::row gr (pcRow M) 165::stars (M.map pcD)::L):=callsIn_wide.1 (w_scan_in S hl hM hpc hper hlt hd492)
end Go.Proofs
end
section
open Go Go.RowKit Go.Proofs.YtgeioealgidkiaaW.PrintWords Go.Proofs.YtgeioealgidkiaaW.PrintMore
namespace Go.Proofs
open Go.Vel
set_option linter.unusedVariables false
set_option maxRecDepth 100000
set_option maxHeartbeats 4000000
attribute [local irreducible] gives wpList Code.wp
theorem bits_and_low (n:Nat)(hn:n≤9223372036854775807):bits .and .i64 ((n:Nat):Int) 4294967295=((n%4294967296:Nat):Int):=by
 show IntKind.i64.wrap ((BitVec.ofInt 64 ((n:Nat):Int)&&&BitVec.ofInt 64 4294967295).toNat:Int)=_
 rw [BitVec.toNat_and]
 have f1:(BitVec.ofInt 64 ((n:Nat):Int)).toNat=n:=by rw [BitVec.toNat_ofInt];omega
 have f2:(BitVec.ofInt 64 4294967295).toNat=2^32-1:=by decide
 rw [f1,f2,Nat.and_two_pow_sub_one_eq_mod,IntKind.wrap_i64]
 omega
theorem ps_newest0 {F:Nat→Prop}{w0 w:World}{L:List Ast}(S:St F w0 w L){A B:Option Addr}{a b:List UInt8}{m n ca cb:Nat}(hm0:m=a.length)(hn0:n=b.length)(ha:RoT F w0 L A a)(hb:RoT F w0 L B b)(hma:a.length≤512)(hmb:b.length≤512):Calls Try.prog 98 #[.slice A m ca,.slice B n cb] w fun e w'=>∃A c,e=.returned (.tuple #[.int .i64 ((newestF a b).1:Int),.int .i64 ((newestF a b).2.1:Int),.slice A (newestF a b).2.2.1.length c,.int .i64 ((newestF a b).2.2.2:Int)])∧St F w0 w' (bytesX (.slice A (newestF a b).2.2.1.length c) (newestF a b).2.2.1::L):=by
 subst hm0 hn0
 refine (ps_newest S ha hb om_ om_).mono fun e w' h=> ?_
 obtain ⟨v,rfl,S2⟩:=h
 obtain ⟨A',c',rfl,_⟩:=St.bytesX_v S2
 exact ⟨A',c',rfl,S2⟩
theorem flush_live {s:Dsk}(hz:s.left≠0):s.flushR.2=0:=by
 rcases flushR_cases s with ⟨h,e⟩|⟨h,e⟩
 ·exact absurd h hz
 ·rw [e]
theorem pcAt_lt (s:Dsk)(f n p:Nat):(pcAt s f n p).epoch<4294967296∧(pcAt s f n p).pos<4294967296∧(pcAt s f n p).idx<4294967296∧(pcAt s f n p).cnt<4294967296:=pcF_lt _
theorem newR_some {s:Dsk}{f:Nat}(h:¬((newestF (s.now f) (s.now (f+1))).2.2.2≠0∨(newestF (s.now f) (s.now (f+1))).2.2.1≠[]∨(newestF (s.now f) (s.now (f+1))).2.1/4294967296<1∨1073741824<(newestF (s.now f) (s.now (f+1))).2.1/4294967296∨1073741824<(newestF (s.now f) (s.now (f+1))).2.1%4294967296)):newR s f=some ((newestF (s.now f) (s.now (f+1))).2.1/4294967296,(newestF (s.now f) (s.now (f+1))).2.1%4294967296):=by
 unfold newR;exact if_neg h
theorem newR_none {s:Dsk}{f:Nat}(h:(newestF (s.now f) (s.now (f+1))).2.2.2≠0∨(newestF (s.now f) (s.now (f+1))).2.2.1≠[]∨(newestF (s.now f) (s.now (f+1))).2.1/4294967296<1∨1073741824<(newestF (s.now f) (s.now (f+1))).2.1/4294967296∨1073741824<(newestF (s.now f) (s.now (f+1))).2.1%4294967296):newR s f=none:=by
 unfold newR;exact if_pos h
theorem w_open_go {F:Nat→Prop}{w0 w:World}{L:List Ast}{gd:Nat}{s:Dsk}{first n:Int}(S:St F w0 w (PW gd s::L))(ha0:argsR s first n=0):Calls Try.prog 61 #[.pointer (some ⟨gd,0,none⟩),.int .i64 first,.int .i64 n] w fun e w'=>(newR s.take first.toNat=none∧e=.returned (.tuple #[.pointer none,.slice none 0 0,.int .i64 6])∧St F w0 w' (PW gd s.take::L))∨
  (∃(ep tl:Nat),newR s.take first.toNat=some (ep,tl)∧topTo (pcAt s.take first.toNat n.toNat) ep n.toNat=1073741824∧e=.returned (.tuple #[.pointer none,nS_,iv 41])∧St F w0 w' (PW gd s.take::L))∨
  (∃(ep tl gl:Nat) (v:Value) (RV:List RecV) (h:Nat),newR s.take first.toNat=some (ep,tl)∧topTo (pcAt s.take first.toNat n.toNat) ep n.toNat≠1073741824∧Recs (pcAt s.take first.toNat n.toNat) ep tl (RV.map (·.2)) h∧NoRec (pcAt s.take first.toNat n.toNat) ep h∧e=.returned (.tuple #[pq gl,v,iv 0])∧St F w0 w' (vec 31 1 v RV.length (RV.map (·.1))::stars (RV.map recD)::PLog gl gd ⟨first.toNat,n.toNat,inc s.life,ep,topTo (pcAt s.take first.toNat n.toNat) ep n.toNat,tl,h,false⟩::PW gd s.take.flushR.1::L)):=by
 have hok:=St.pw_ok S
 have hn2:=hok.n2
 obtain ⟨hz,hf0,hm18,hm256,hin⟩:=argsR_ok ha0
 obtain ⟨f,rfl⟩:∃f:Nat,first=(f:Int):=⟨first.toNat,by omega⟩
 obtain ⟨m,rfl⟩:∃m:Nat,n=(m:Int):=⟨n.toNat,by omega⟩
 simp only [Int.toNat_natCast]
 obtain ⟨s1,hs1⟩:∃s1,s.take=s1:=⟨_,rfl⟩
 have hz1:s1.left≠0:=by rw [←hs1];exact hz
 have hl1:s1.last=s.last:=by rw [←hs1];rfl
 have hok1:DOk s1:=by rw [←hs1];exact ⟨hok.len,hok.plen,hok.n1,hok.n2,hok.lb⟩
 rw [hs1]
 have ha5:=hok1.now (k:=f) (by rw [hl1];omega)
 have hb5:=hok1.now (k:=f+1) (by rw [hl1];omega)
 have hq63:=newest_lt (s1.now f) (s1.now (f+1))
 have hsome:=newR_some (s:=s1) (f:=f)
 have hnone:=newR_none (s:=s1) (f:=f)
 obtain ⟨q,hq⟩:∃q,newestF (s1.now f) (s1.now (f+1))=q:=⟨_,rfl⟩
 rw [hq] at hq63 hsome hnone
 refine eN (fr [pq gd,nI_ f,nI_ m] 116) Try.func61 rfl (sR (pv pn (pv (nS_) (pv (iv 0) (wE (nS (sR (pv (pq gd) (pv (nI_ f) (pv (nI_ m) (g_ (gv_call (args:=#[pq gd,nI_ f,nI_ m]) rfl Try.func108 kr_ rfl rfl kr_ ?_))))))))))))
 have hpl:=w_place (first:=((f:Nat):Int)) (n:=((m:Nat):Int)) S 0 rfl
 rw [ha0] at hpl
 refine Calls.mono hpl ?_
 rintro _ _ ⟨rfl,rfl⟩
 refine ⟨_,rfl,(pv (iv 0) (wER (pv (iv 0) (dN 0 0 (fun hd1=>False.elim om_) fun _=>wE (nCF (wp_skip (nSR (pv (pq gd) (pv (nI_ f) (pv (nI_ m) (pv (pq gd) (sP Try.func63 #[pq gd] (pw_take S) fun w2 S3=> ?_))))))))))))⟩
 rw [hs1] at S3
 refine pv (.agg #[pq gd,nI_ f,nI_ m,iv (inc s.life),iv 0,iv 0,iv 0,iv 0,fv]) (nB rfl (.agg #[pq gd,nI_ f,nI_ m,iv (inc s.life),iv 0,iv 0,iv 0,iv 0,.bool false]) S3 fun g4 w5 hg6 S7=>pv (pq g4) (wER (pv (pq g4) (sP2 Try.func109 #[pq g4] (w_pair (l:=⟨f,m,inc s.life,0,0,0,0,false⟩) S7 ⟨by show f≤2048;omega,by show 18≤m;omega,by show m≤256;omega,Nat.zero_le _,Nat.zero_lt_succ _,Nat.zero_le _⟩ hz1 (by show f+1<_;rw [hl1];omega)) fun A7 B7 w8 S9=> ?_))))
 change St F w0 w8 (bytesA (.slice A7 512 512) (s1.now f)::bytesA (.slice B7 512 512) (s1.now (f+1))::row g4 #[pq gd,nI_ f,nI_ m,iv (inc s.life),nI_ 0,nI_ 0,nI_ 0,nI_ 0,.bool false] 161::PW gd s1::L) at S9
 refine pv (.tuple #[.slice A7 512 512,.slice B7 512 512,iv 0]) (pv (.slice A7 512 512) (pv (.slice B7 512 512) (pv (iv 0) (pv (.slice A7 512 512) (pv (.slice B7 512 512) (pv (iv 0) (wE (nS (sR (pv (iv 0) (dN 0 0 (fun hd10=>False.elim om_) fun _=>wE (nCF ?_))))))))))))
 refine wp_skip (nSR (pv (.slice A7 512 512) (pv (.slice B7 512 512) (g_ (gv_call (args:=#[.slice A7 512 512,.slice B7 512 512]) rfl Try.func98 kr_ rfl rfl kr_ ?_)))))
 have hnw:=ps_newest0 (ca:=512) (cb:=512) S9 (a:=s1.now f) (b:=s1.now (f+1)) ha5.symm hb5.symm (RoT.bytes 0 rfl rfl) (RoT.bytes 1 rfl rfl) om_ om_
 rw [hq] at hnw
 refine Calls.mono hnw ?_
 rintro _ w11 ⟨A8,c8,rfl,S12⟩
 refine ⟨_,rfl,(pv (.tuple #[iv (q.1:Int),iv (q.2.1:Int),.slice A8 q.2.2.1.length c8,iv (q.2.2.2:Int)]) (pv (iv (q.1:Int)) (pv (iv (q.2.1:Int)) (pv (.slice A8 q.2.2.1.length c8) (pv (iv (q.2.2.2:Int)) (pv (iv (q.1:Int)) (pv (iv (q.2.1:Int)) (pv (.slice A8 q.2.2.1.length c8) (pv (iv (q.2.2.2:Int)) (wE (nS (sR (pv (iv (q.2.2.2:Int)) (dN (q.2.2.2:Int) 0 (fun hb13=> ?_) fun hb13=> ?_))))))))))))))⟩
 ·have hno:=hnone (.inl om_)
  refine pv tv (wN (wN (wN (pv tv (wE (nCT (sR (pv pn (pv (nS_) (pv (iv 6) (wE (then_n (rR ?_)))))))))))))
  refine bodyPost_ret (v:=.tuple #[pn,nS_,iv 6]) (Go.Vel.results_tmp3 rfl _ _ kr_ kr_ kr_) rfl ?_
  have S14:=St.pm 5 [4] S12
  exact .inl ⟨hno,rfl,S14⟩
 ·refine pv fv (pW (.slice A8 q.2.2.1.length c8) (pW (iv (q.2.2.1.length:Nat)) (wl_when kr_ (gv_dec (p:=((q.2.2.1.length:Nat):Int)>0) kr_ (fun hb15=> ?_) (fun hb15=> ?_)))))
  ·have hno:=hnone (.inr (.inl (List.ne_nil_of_length_pos om_)))
   refine pv tv (wE (nCT (sR (pv pn (pv (nS_) (pv (iv 6) (wE (then_n (rR (bodyPost_ret (v:=.tuple #[pn,nS_,iv 6]) (Go.Vel.results_tmp3 rfl _ _ kr_ kr_ kr_) rfl ?_))))))))))
   have S16:=St.pm 5 [4] S12
   exact .inl ⟨hno,rfl,S16⟩
  ·refine pv fv (wE (nCF (wp_skip (nSR (pv (pq g4) (pv (pq g4) (pv (iv (q.2.1:Int)) (g_ (gv_shr (k:=.i64) (yk:=.u64) (z:=(q.2.1:Int)) (i:=32) (j:=32) (z':=((q.2.1/4294967296:Nat):Int)) rfl kr_ kr_ rfl dc_ rfl (pv (iv (q.2.1:Int)) (gI .i64 (bits .and .i64 (q.2.1:Int) 4294967295) ((q.2.1%4294967296:Nat):Int) (bits_and_low _ hq63) (pv (pq g4) (pv (po g4 4) (sS S12 3 rfl 4 (nI_ (q.2.1/4294967296)) fun w17 S18=> ?_))))))))))))))
   refine pv (pq g4) (pv (po g4 6) (sS S18 3 rfl 6 (nI_ (q.2.1%4294967296)) fun w19 S20=>wE (nS (sR (pv (pq g4) (pv (pq g4) (pv (po g4 4) (lR (nI_ (q.2.1/4294967296)) S20 3 4 (dC ((((q.2.1/4294967296:Nat):Int):Int)<1) (fun hb21=> ?_) fun hb21=> ?_)))))))))
   ·have hno:=hnone (.inr (.inr (.inl om_)))
    refine pv tv (wN (wN (wN (wN (wN (pv tv (pv tv (wN (wN (wN (wN (wN (pv tv ?_)))))))))))))
    refine wE (nCT (sR (pv pn (pv (nS_) (pv (iv 6) (wE (then_n (rR (bodyPost_ret (v:=.tuple #[pn,nS_,iv 6]) (Go.Vel.results_tmp3 rfl _ _ kr_ kr_ kr_) rfl ?_)))))))))
    have S22:=St.pm 5 [4] S20
    exact .inl ⟨hno,rfl,S22⟩
   ·refine pv fv (pW (pq g4) (pW (pq g4) (pW (po g4 4) (wl_when kr_ (gv_ldR (v:=nI_ (q.2.1/4294967296)) rfl kr_ kr_ (((S20.blk 3 rfl).cell 4).trans rfl) (wl_when kr_ (gv_dec (p:=(((q.2.1/4294967296:Nat):Int):Int)>1073741824) kr_ (fun hb23=> ?_) (fun hb23=> ?_))))))))
    ·have hno:=hnone (.inr (.inr (.inr (.inl om_))))
     refine pv tv (pv tv (wN (wN (wN (wN (wN (pv tv (wE (nCT (sR (pv pn (pv (nS_) (pv (iv 6) ?_)))))))))))))
     refine wE (then_n (rR (bodyPost_ret (v:=.tuple #[pn,nS_,iv 6]) (Go.Vel.results_tmp3 rfl _ _ kr_ kr_ kr_) rfl ?_)))
     have S24:=St.pm 5 [4] S20
     exact .inl ⟨hno,rfl,S24⟩
    ·refine pv fv (pv fv (pW (pq g4) (pW (pq g4) (pW (po g4 6) (wl_when kr_ (gv_ldR (v:=nI_ (q.2.1%4294967296)) rfl kr_ kr_ (((S20.blk 3 rfl).cell 6).trans rfl) (wl_when kr_ (gv_dec (p:=(((q.2.1%4294967296:Nat):Int):Int)>1073741824) kr_ (fun hb25=> ?_) (fun hb25=> ?_)))))))))
     ·have hno:=hnone (.inr (.inr (.inr (.inr om_))))
      refine pv tv (wE (nCT (sR (pv pn (pv (nS_) (pv (iv 6) (wE ?_)))))))
      refine then_n (rR (bodyPost_ret (v:=.tuple #[pn,nS_,iv 6]) (Go.Vel.results_tmp3 rfl _ _ kr_ kr_ kr_) rfl ?_))
      have S26:=St.pm 5 [4] S20
      exact .inl ⟨hno,rfl,S26⟩
     ·refine pv fv (wE (nCF (wp_skip (nSR (pv (pq g4) (g_ (gv_call (args:=#[pq g4]) rfl Try.func110 kr_ rfl rfl kr_ ?_)))))))
      have S27:=St.pm 5 [3,4,0,1,2] S20
      have hgood:=hsome (fun hh=>by rcases hh with h|h|h|h|h<;>first|omega|exact h (List.length_eq_zero_iff.1 om_))
      have hlk:LOk ⟨f,m,inc s.life,q.2.1/4294967296,0,q.2.1%4294967296,0,false⟩:=⟨by show f≤2048;omega,by show 18≤m;omega,by show m≤256;omega,by show q.2.1/4294967296≤_;omega,Nat.zero_lt_succ _,by show q.2.1%4294967296≤_;omega⟩
      refine Calls.mono (w_ring (l:=⟨f,m,inc s.life,q.2.1/4294967296,0,q.2.1%4294967296,0,false⟩) S27 hlk hz1 (by show f+2+m≤_;rw [hl1];omega)) ?_
      rintro _ w28 ⟨gr,M,rfl,hM,S29⟩
      refine ⟨_,rfl, ?_⟩
      change St F w0 w28 (row gr (pcRow M) 165::stars (M.map pcD)::row g4 #[pq gd,nI_ f,nI_ m,iv (inc s.life),nI_ (q.2.1/4294967296),nI_ 0,nI_ (q.2.1%4294967296),nI_ 0,.bool false] 161::PW gd s1::bytesX (.slice A8 q.2.2.1.length c8) q.2.2.1::bytesA (.slice A7 512 512) (s1.now f)::bytesA (.slice B7 512 512) (s1.now (f+1))::L) at S29
      refine pv (.tuple #[sl gr 0 m m,iv 0]) (pv (sl gr 0 m m) (pv (iv 0) (pv (sl gr 0 m m) (pv (iv 0) (wE ?_)))))
      refine nS (sR (pv (iv 0) (dN 0 0 (fun hd30=>False.elim om_) fun _=>wE (nCF (wp_skip (nS (sR (pv (pq g4) (pv (pq g4) (pv (pq g4) (pv (po g4 4) (lR (nI_ (q.2.1/4294967296)) S29 2 4 ?_))))))))))))
      refine pv (sl gr 0 m m) (sP Try.func111 #[nI_ (q.2.1/4294967296),sl gr 0 m m] (w_top (n:=m) (ep:=q.2.1/4294967296) (pc:=pcAt s1 f m) S29 hM.len (fun j x hx=>hM.pc j x hx) (fun j=>(pcAt_lt s1 f m j).1) om_ om_) fun w31 S32=> ?_)
      obtain ⟨tp,htp⟩:∃tp,topTo (pcAt s1 f m) (q.2.1/4294967296) m=tp:=⟨_,rfl⟩
      have htl:=topTo_le (pcAt s1 f m) (q.2.1/4294967296) om_ m
      rw [htp] at htl
      rw [htp]
      refine pv (pq g4) (pv (po g4 5) (sS S32 2 rfl 5 (nI_ tp) fun w33 S34=>wER (pv (pq g4) (pv (pq g4) (pv (po g4 5) (lR (nI_ tp) S34 2 5 (dE ((tp:Nat):Int) 1073741824 (fun hb35=> ?_) fun hb35=> ?_)))))))
      ·refine wE (nCT (sR (pv pn (pv (nS_) (pv (iv 41) (wE (then_n (rR (bodyPost_ret (v:=.tuple #[pn,nS_,iv 41]) (Go.Vel.results_tmp3 rfl _ _ kr_ kr_ kr_) rfl ?_)))))))))
       have S36:=St.pm 7 [3] S34
       exact .inr (.inl ⟨_,_,hgood,by rw [htp];omega,rfl,S36⟩)
      ·refine wE (nCF (wp_skip (nSR (pv (pq g4) (pv (sl gr 0 m m) (g_ (gv_call (args:=#[pq g4,sl gr 0 m m]) rfl Try.func112 kr_ rfl rfl kr_ ?_)))))))
       have S37:=St.pm 7 [2,0,1,3,4,5,6] S34
       refine Calls.mono (w_scan (l:=⟨f,m,inc s.life,q.2.1/4294967296,tp,q.2.1%4294967296,0,false⟩) (pc:=pcAt s1 f m) S37 ⟨by show f≤2048;omega,by show 18≤m;omega,by show m≤256;omega,by show q.2.1/4294967296≤_;omega,by show tp<_;omega,by show q.2.1%4294967296≤_;omega⟩ hM.len (fun j x hx=>hM.pc j x hx) (pcAt_round s1 f m) (pcAt_lt s1 f m) (fun p=>pcF_data _)) ?_
       rintro _ w38 ⟨v40,RV,hd9,rfl,hR1,hR2,S39⟩
       refine ⟨_,rfl,(pv v40 (wE (nS (sR (pv (pq gd) (g_ (gv_call (args:=#[pq gd]) rfl Try.func87 kr_ rfl rfl kr_ ?_)))))))⟩
       have S41:=St.pm 9 [5,0,1,2,3,4,6,7,8] S39
       have hfl:=pw_flush S41
       rw [flush_live hz1] at hfl
       refine Calls.mono hfl ?_
       rintro _ w42 ⟨rfl,S43⟩
       refine ⟨_,rfl,(pv (iv 0) (wER (pv (iv 0) (dN 0 0 (fun hd44=>False.elim om_) fun _=>wE (nCF (wp_skip (nSR (pv (pq g4) (pv v40 (pv (pq g4) (pv v40 (pv (iv 0) ?_))))))))))))⟩
       refine wE (then_n (wp_ret (bodyPost_ret (v:=.tuple #[pq g4,v40,iv 0]) (Go.Vel.results_tmp3 rfl _ _ kr_ kr_ kr_) rfl ?_)))
       have S45:=St.pm 9 [1,2,3,0] S43
       exact .inr (.inr ⟨_,_,_,_,RV,hd9,hgood,by rw [htp];omega,hR1,hR2,rfl,by rw [htp];exact S45⟩)
end Go.Proofs
end
section
namespace Go.Proofs
open Go Go.Vel
theorem open_or (s:List UInt8)(hs:s.length=512):openF s=([],30)∨∃b,b.length≤504∧s=form (s.getD 0 0) b:=by
 rw [openF_at hs rfl rfl]
 split
 ·exact .inl rfl
 ·rename_i h
  split
  ·rename_i h2
   exact .inr ⟨_,by rw [List.length_take];omega,h2⟩
  ·exact .inl rfl
theorem form_end (t:UInt8)(b:List UInt8)(hb:b.length≤504):(form t b).getD 511 0=t:=by
 have hl:=length_text hb
 have e:form t b=(t::((text b).take 2++(le4 (crc (text b))++(text b).drop 2)))++[t]:=by unfold form;simp
 have h511:(t::((text b).take 2++(le4 (crc (text b))++(text b).drop 2))).length=511:=by simp [length_le4];omega
 rw [e,List.getD_eq_getElem?_getD,List.getElem?_append_right om_,h511]
 rfl
theorem open_ends (s:List UInt8)(hs:s.length=512)(h:s.getD 0 0≠s.getD 511 0):openF s=([],30):=by
 rcases open_or s hs with h1|⟨b,hb,h1⟩
 ·exact h1
 ·exfalso
  apply h
  have:=form_end (s.getD 0 0) b hb
  rw [←h1] at this
  exact this.symm
def step (s:List UInt8)(p:Nat)(x:UInt8):List UInt8:=s.set p (s.getD p 0^^^x)
end Go.Proofs
end
section
open Go Go.RowKit Go.Proofs.YtgeioealgidkiaaW.PrintWords Go.Proofs.YtgeioealgidkiaaW.PrintMore
namespace Go.Proofs
open Go.Vel
set_option linter.unusedVariables false
theorem openF_form (t:UInt8)(b:List UInt8)(ht:t.toNat≤2)(hb:b.length≤504):openF (form t b)=(b,0):=by
 obtain ⟨s0,s1,s2,s3,hs⟩:∃s0 s1 s2 s3,le4 (crc (text b))=[s0,s1,s2,s3]:=⟨_,_,_,_,rfl⟩
 have hf:=form_eq t b s0 s1 s2 s3 hs
 have h1:(form t b).getD 1 0=UInt8.ofNat (b.length%256):=by rw [hf];rfl
 have h2:(form t b).getD 2 0=UInt8.ofNat (b.length/256):=by rw [hf];rfl
 have hn:b.length=((form t b).getD 1 0).toNat+256*((form t b).getD 2 0).toNat:=by
  rw [h1,h2,UInt8.toNat_ofNat',UInt8.toNat_ofNat',Nat.mod_eq_of_lt (show b.length%256<2^8 by omega),Nat.mod_eq_of_lt (show b.length/256<2^8 by omega)];omega
 have h0:t=(form t b).getD 0 0:=rfl
 rw [openF_at (length_form t hb) h0 hn,if_neg om_]
 have hd:((form t b).drop 7).take b.length=b:=by
  rw [hf];simp
 rw [hd,if_pos rfl]
theorem turn_ne (x y:UInt8):turnOf x y≠x∧turnOf x y≠y∧(turnOf x y).toNat≤2:=by
 have e0:∀z:UInt8,(0:UInt8)≠z↔z.toNat≠0:=fun z=>by rw [ne_eq,←UInt8.toNat_inj];simp;omega
 have e1:∀z:UInt8,(1:UInt8)≠z↔z.toNat≠1:=fun z=>by rw [ne_eq,←UInt8.toNat_inj];simp;omega
 have e2:∀z:UInt8,(2:UInt8)≠z↔z.toNat≠2:=fun z=>by rw [ne_eq,←UInt8.toNat_inj];simp;omega
 unfold turnOf
 split
 ·rename_i h;exact ⟨h.1,h.2,by decide⟩
 ·split
  ·rename_i h;exact ⟨h.1,h.2,by decide⟩
  ·rename_i h h'
   rw [e0,e0] at h
   rw [e1,e1] at h'
   exact ⟨(e2 x).2 om_,(e2 y).2 om_,by decide⟩
theorem mix_is (a b:List UInt8)(c:Nat)(hc:c≤512)(ha:a.length=512)(hb:b.length=512)(h:a.getD 0 0≠b.getD 511 0):(a.take c++b.drop c)=b∨(a.take c++b.drop c)=a∨openF (a.take c++b.drop c)=([],30):=by
 rcases Nat.eq_zero_or_pos c with h0|h0
 ·left;rw [h0];simp
 ·rcases Nat.lt_or_ge c 512 with h5|h5
  ·right;right
   refine open_ends _ (by simp;omega) ?_
   have e0:(a.take c++b.drop c).getD 0 0=a.getD 0 0:=by
    rw [List.getD_eq_getElem?_getD,List.getD_eq_getElem?_getD,List.getElem?_append_left (by simp;omega),List.getElem?_take_of_lt h0]
   have e1:(a.take c++b.drop c).getD 511 0=b.getD 511 0:=by
    rw [List.getD_eq_getElem?_getD,List.getD_eq_getElem?_getD,List.getElem?_append_right (by simp;omega),List.getElem?_drop]
    have:c+(511-(a.take c).length)=511:=by rw [List.length_take];omega
    rw [this]
   rw [e0,e1];exact h
  ·right;left
   rw [List.take_of_length_le om_,List.drop_of_length_le om_,List.append_nil]
theorem over_mixes (o b:List UInt8)(c:Nat)(hc:c≤512)(ho:o.length=512)(hb:b.length≤504)(s:List UInt8)(hs:s=form (turnOf (o.getD 0 0) (o.getD 511 0)) b):
  s.length=512∧(let m:=o.take c++s.drop c;m=o∨m=s∨openF m=([],30))∧(let m:=s.take c++o.drop c;m=o∨m=s∨openF m=([],30)):=by
 obtain ⟨n0,n1,n2⟩:=turn_ne (o.getD 0 0) (o.getD 511 0)
 have hl:s.length=512:=by rw [hs];exact length_form _ hb
 have e0:s.getD 0 0=turnOf (o.getD 0 0) (o.getD 511 0):=by rw [hs];rfl
 have e1:s.getD 511 0=turnOf (o.getD 0 0) (o.getD 511 0):=by rw [hs];exact form_end _ b hb
 refine ⟨hl, ?_, ?_⟩
 ·rcases mix_is o s c hc ho hl (by rw [e1];exact n0.symm) with h|h|h
  ·exact .inr (.inl h)
  ·exact .inl h
  ·exact .inr (.inr h)
 ·rcases mix_is s o c hc hl ho (by rw [e0];exact n1) with h|h|h
  ·exact .inl h
  ·exact .inr (.inl h)
  ·exact .inr (.inr h)
theorem leN_le8 {no:Int}(h0:0≤no)(h1:no≤9223372036854775807):leN (le8 no)=no.toNat:=by
 have e:le8 no=(List.range 8).map fun i=>UInt8.ofNat (no.toNat/256^i%256):=by
  apply List.ext_getElem?
  intro k
  rw [List.getElem?_map]
  by_cases hk:k<8
  ·have h2:=le8_nat h0 hk
   rw [List.getElem?_range hk,Option.map_some,←h2,List.getD_eq_getElem?_getD,List.getElem?_eq_getElem (by rw [length_le8];exact hk)];rfl
  ·rw [List.getElem?_eq_none (by rw [length_le8];omega),List.getElem?_eq_none (by simpa using hk)];rfl
 rw [e]
 have hn:no.toNat≤9223372036854775807:=by omega
 generalize no.toNat=n at*
 simp only [List.range,List.range.loop,List.map_cons,List.map_nil,leN,UInt8.toNat_ofNat',Nat.reducePow,Nat.div_one]
 omega
theorem readF_new {t:UInt8}{no:Int}{d:List UInt8}(ht:t.toNat≤2)(h0:1≤no)(h1:no≤9223372036854775807)(hd:d.length≤496):readF (form t (le8 no++d))=(no.toNat,d):=by
 have h8:=length_le8 no
 have ho:=openF_form t (le8 no++d) ht (by rw [List.length_append];omega)
 have hk:(le8 no++d).take 8=le8 no:=by rw [List.take_append_of_le_length om_,List.take_of_length_le om_]
 have hdr:(le8 no++d).drop 8=d:=by rw [List.drop_append,List.drop_of_length_le om_,h8];rfl
 have hn:=leN_le8 (no:=no) om_ h1
 unfold readF
 rw [ho]
 simp only []
 rw [if_neg (by rw [List.length_append];omega),hk,hdr,hn,if_neg om_]
theorem readF_torn {m:List UInt8}(h:openF m=([],30)):readF m=(0,[]):=by
 unfold readF;rw [h];rfl
def putIn (a b:List UInt8)(slot:Nat)(x:List UInt8):List UInt8×List UInt8:=if slot=0 then (x,b) else (a,x)
theorem newest_of {l r:List UInt8}(h:l.length=512∧r.length=512):newestF l r=if (readF l).1=0∧(readF r).1=0 then (0,0,[],30) else if (readF l).1<(readF r).1 then (1,(readF r).1,(readF r).2,0) else (0,(readF l).1,(readF l).2,0):=by
 unfold newestF;rw [if_pos h]
structure Renewed (a b:List UInt8)(no:Int)(d:List UInt8):Prop where
 len:(renewF a b no d).2.1.length=512
 slot:(renewF a b no d).1=0∨(renewF a b no d).1=1
 other:(newestF a b).2.2.2=0→(renewF a b no d).1≠(newestF a b).1
 first:(newestF a b).2.2.2≠0→(renewF a b no d).1=0
 new:newestF (putIn a b (renewF a b no d).1 (renewF a b no d).2.1).1 (putIn a b (renewF a b no d).1 (renewF a b no d).2.1).2=((renewF a b no d).1,no.toNat,d,0)
 torn:∀m,m=(if (renewF a b no d).1=1 then b else a)∨m=(renewF a b no d).2.1∨openF m=([],30)→m.length=512→newestF (putIn a b (renewF a b no d).1 m).1 (putIn a b (renewF a b no d).1 m).2=((renewF a b no d).1,no.toNat,d,0)∨newestF (putIn a b (renewF a b no d).1 m).1 (putIn a b (renewF a b no d).1 m).2=newestF a b
 mix:∀c,c≤512→let o:=(if (renewF a b no d).1=1 then b else a);let s:=(renewF a b no d).2.1;(o.take c++s.drop c=o∨o.take c++s.drop c=s∨openF (o.take c++s.drop c)=([],30))∧(s.take c++o.drop c=o∨s.take c++o.drop c=s∨openF (s.take c++o.drop c)=([],30))
theorem renew_told {a b:List UInt8}{no:Int}{d:List UInt8}(hl:a.length=512∧b.length=512)(hd:d.length≤496)(hno:no≤9223372036854775807):
  ((renewF a b no d).2.2≠0∧¬(1≤no∧((newestF a b).2.2.2≠0∨((newestF a b).2.1:Int)<no)))∨((renewF a b no d).2.2=0∧(1≤no∧((newestF a b).2.2.2≠0∨((newestF a b).2.1:Int)<no))∧Renewed a b no d):=by
 by_cases h1:no<1
 ·left
  have e:renewF a b no d=(0,[],1):=by unfold renewF;rw [if_neg (fun h=>h hl),if_pos h1]
  rw [e];exact ⟨by decide,fun h=>by omega⟩
 by_cases h3:(newestF a b).2.2.2=0∧no≤((newestF a b).2.1:Int)
 ·left
  have e:renewF a b no d=(0,[],31):=by rw [renew_mid hl h1 om_,if_pos h3]
  rw [e];exact ⟨by decide,fun h=>by omega⟩
 right
 have h8:=length_le8 no
 have hbl:(le8 no++d).length≤504:=by rw [List.length_append];omega
 have e:=renew_end hl h1 (show¬496<d.length by omega) h3
 have sealed:∀o:List UInt8,o.length=512→sealF o (le8 no++d)=(form (turnOf (o.getD 0 0) (o.getD 511 0)) (le8 no++d),0):=fun o ho=>by unfold sealF;rw [if_neg om_,if_neg om_]
 have hnn:=newest_of hl
 have key:∀(slot:Nat) (o other:List UInt8),(slot=0∧o=a∧other=b)∨(slot=1∧o=b∧other=a)→(readF other).1<no.toNat→((newestF a b).2.2.2=0→newestF a b=(1-slot,(readF other).1,(readF other).2,0))→((newestF a b).2.2.2≠0→(readF other).1=0∧newestF a b=(0,0,[],30)∧slot=0)→renewF a b no d=(slot,form (turnOf (o.getD 0 0) (o.getD 511 0)) (le8 no++d),0)→(renewF a b no d).2.2=0∧Renewed a b no d:=by
  intro slot o other hs hlt hq0 hq1 er
  have ho:o.length=512:=by rcases hs with ⟨_,rfl,_⟩|⟨_,rfl,_⟩<;>omega
  obtain ⟨n0,n1,n2⟩:=turn_ne (o.getD 0 0) (o.getD 511 0)
  obtain ⟨s,hsd⟩:∃s,s=form (turnOf (o.getD 0 0) (o.getD 511 0)) (le8 no++d):=⟨_,rfl⟩
  have hsl:s.length=512:=by rw [hsd];exact length_form _ hbl
  have hrs:readF s=(no.toNat,d):=by rw [hsd];exact readF_new n2 om_ hno hd
  have hsl01:slot=0∨slot=1:=hs.elim (fun h=>.inl h.1) (fun h=>.inr h.1)
  have hold:(if slot=1 then b else a)=o:=by
   rcases hs with ⟨rfl,rfl,_⟩|⟨rfl,rfl,_⟩
   ·exact if_neg dc_
   ·exact if_pos rfl
  rw [←hsd] at er
  have hnew:newestF (putIn a b slot s).1 (putIn a b slot s).2=(slot,no.toNat,d,0):=by
   rcases hs with ⟨rfl,rfl,rfl⟩|⟨rfl,rfl,rfl⟩
   ·show newestF s other=_
    rw [newest_of ⟨hsl,hl.2⟩,hrs,if_neg (by simp only [];omega),if_neg (by simp only [];omega)]
   ·show newestF other s=_
    rw [newest_of ⟨hl.1,hsl⟩,hrs,if_neg (by simp only [];omega),if_pos (by simp only [];omega)]
  have hback:newestF (putIn a b slot o).1 (putIn a b slot o).2=newestF a b:=by
   rcases hs with ⟨rfl,rfl,rfl⟩|⟨rfl,rfl,rfl⟩<;>rfl
  have htorn:∀m:List UInt8,m.length=512→openF m=([],30)→newestF (putIn a b slot m).1 (putIn a b slot m).2=newestF a b:=fun m hm ht=>by
   have hr:=readF_torn ht
   by_cases hq:(newestF a b).2.2.2=0
   ·rw [hq0 hq]
    have hne:(readF other).1≠0:=fun h0=>by
     have h9:=hq0 hq
     rw [hnn] at h9
     split at h9
     ·exact absurd (show (30:Nat)=0 from congrArg (fun x=>x.2.2.2) h9) dc_
     ·rename_i hz
      split at h9
      ·rename_i hz2
       simp only [Prod.mk.injEq] at h9
       omega
      ·rename_i hz2
       simp only [Prod.mk.injEq] at h9
       omega
    rcases hs with ⟨rfl,rfl,rfl⟩|⟨rfl,rfl,rfl⟩
    ·show newestF m other=_
     rw [newest_of ⟨hm,hl.2⟩,hr,if_neg (by simp only [];omega),if_pos (by simp only [];omega)]
    ·show newestF other m=_
     rw [newest_of ⟨hl.1,hm⟩,hr,if_neg (by simp only [];omega),if_neg (by simp only [];omega)]
   ·obtain ⟨g1,g2,rfl⟩:=hq1 hq
    rw [g2]
    rcases hs with ⟨_,rfl,rfl⟩|⟨h,_⟩
    ·show newestF m other=_
     rw [newest_of ⟨hm,hl.2⟩,hr,if_pos ⟨rfl,g1⟩]
    ·cases h
  refine ⟨by rw [er],by rw [er];exact hsl,by rw [er];exact hsl01,fun hq=> ?_,fun hq=> ?_,by rw [er];exact hnew,fun m hm hm5=> ?_,fun c hc=> ?_⟩
  ·rw [er,hq0 hq];show slot≠1-slot;omega
  ·rw [er];exact (hq1 hq).2.2
  ·rw [er] at hm ⊢
   simp only [] at hm ⊢
   rw [hold] at hm
   rcases hm with rfl|rfl|hm
   ·exact .inr hback
   ·exact .inl hnew
   ·exact .inr (htorn m hm5 hm)
  ·rw [er]
   simp only []
   rw [hold]
   exact (over_mixes o (le8 no++d) c hc ho hbl s hsd).2
 have h13:1≤no∧((newestF a b).2.2.2≠0∨((newestF a b).2.1:Int)<no):=⟨by omega,by omega⟩
 by_cases hz:(readF a).1=0∧(readF b).1=0
 ·rw [if_pos hz] at hnn
  rw [hnn] at e h3
  rw [if_neg (by simp),sealed a hl.1] at e
  obtain ⟨r1,r2⟩:=key 0 a b (.inl ⟨rfl,rfl,rfl⟩) om_ (fun h=>by rw [hnn] at h;exact absurd (show (30:Nat)=0 from h) dc_) (fun _=>⟨hz.2,hnn,rfl⟩) e
  exact ⟨r1,h13,r2⟩
 ·rw [if_neg hz] at hnn
  by_cases hlt:(readF a).1<(readF b).1
  ·rw [if_pos hlt] at hnn
   rw [hnn] at e h3
   rw [if_neg (by simp),sealed a hl.1] at e
   obtain ⟨r1,r2⟩:=key 0 a b (.inl ⟨rfl,rfl,rfl⟩) (by have h4:¬no≤((readF b).1:Int):=fun h=>h3 ⟨rfl,h⟩;omega) (fun _=>hnn) (fun h=>by rw [hnn] at h;exact absurd rfl h) e
   exact ⟨r1,h13,r2⟩
  ·rw [if_neg hlt] at hnn
   rw [hnn] at e h3
   rw [if_pos ⟨rfl,rfl⟩,sealed b hl.2] at e
   obtain ⟨r1,r2⟩:=key 1 b a (.inr ⟨rfl,rfl,rfl⟩) (by have h4:¬no≤((readF a).1:Int):=fun h=>h3 ⟨rfl,h⟩;omega) (fun _=>hnn) (fun h=>by rw [hnn] at h;exact absurd rfl h) e
   exact ⟨r1,h13,r2⟩
structure Did (s s':Dsk)(m:Nat):Prop where
 len:s'.last.length=s.last.length
 life:s'.life=s.life
 pend:s'.pend.length≤s.pend.length+m
 left:s'.left≠0→s.left≠0
theorem Did.trans {s s1 s2:Dsk}{m n:Nat}(h:Did s s1 m)(g:Did s1 s2 n):Did s s2 (m+n):=
 ⟨g.len.trans h.len,g.life.trans h.life,by have:=h.pend;have:=g.pend;omega,fun q=>h.left (g.left q)⟩
theorem Did.le {s s1:Dsk}{m n:Nat}(h:Did s s1 m)(hmn:m≤n):Did s s1 n:=⟨h.len,h.life,by have:=h.pend;omega,h.left⟩
theorem Did.write (s:Dsk)(a:Int)(d:List UInt8):Did s (s.writeR a d).1 1:=by
 unfold Dsk.writeR
 split
 ·exact ⟨rfl,rfl,Nat.le_succ _,id⟩
 ·rename_i h
  split
  ·exact ⟨rfl,rfl,Nat.le_succ _,id⟩
  ·split
   ·exact ⟨rfl,rfl,Nat.le_succ _,id⟩
   ·exact ⟨rfl,rfl,by simp,fun _=>h⟩
theorem Did.flush (s:Dsk):Did s s.flushR.1 0:=by
 unfold Dsk.flushR
 split
 ·exact ⟨rfl,rfl,Nat.le_refl _,id⟩
 ·rename_i h;exact ⟨length_applyP _ _,rfl,Nat.zero_le _,fun _=>h⟩
theorem flushR_err (s:Dsk):(s.flushR.2=0∧s.flushR.1.pend=[]∧s.left≠0)∨(s.flushR.2=3∧s.flushR.1=s∧s.left=0):=by
 rcases flushR_cases s with ⟨h,e⟩|⟨h,e⟩
 ·rw [e];exact .inr ⟨rfl,rfl,h⟩
 ·rw [e];exact .inl ⟨rfl,rfl,h⟩
theorem DOk.write {s:Dsk}(h:DOk s)(a:Int)(d:List UInt8):DOk (s.writeR a d).1:=by
 by_cases hw:(s.writeR a d).2=0
 ·obtain ⟨h1,h2,h3,h4,e⟩:=writeR_ok hw
  rw [e]
  refine ⟨h.len,fun x hx=> ?_,h.n1,h.n2, ?_⟩
  ·rcases List.mem_append.1 hx with hx|hx
   ·exact h.plen x hx
   ·rw [List.mem_singleton] at hx;subst hx;exact ⟨h3,by show a.toNat<s.last.length;omega⟩
  ·have:=h.lb
   show-1≤spent s.left∧spent s.left≤_
   unfold spent;split<;>omega
 ·obtain ⟨e1,e2,e3,_⟩:=writeR_no hw
  exact ⟨by rw [e1];exact h.len,by rw [e1,e2];exact h.plen,by rw [e1];exact h.n1,by rw [e1];exact h.n2,by rw [e3];exact h.lb⟩
theorem renewR_did (s:Dsk)(f no:Nat):Did s (renewR s f no).1 1∧((renewR s f no).2=0∨(renewR s f no).2=3):=by
 unfold renewR
 obtain ⟨r,hr⟩:∃r,renewF (s.now f) (s.now (f+1)) (no:Int) []=r:=⟨_,rfl⟩
 rw [hr]
 simp only []
 have h1:=Did.write s ((f+r.1:Nat):Int) r.2.1
 split
 ·exact ⟨h1,.inr rfl⟩
 ·refine ⟨h1.trans (Did.flush _), ?_⟩
  rcases flushR_err (s.writeR ((f+r.1:Nat):Int) r.2.1).1 with h|h
  ·exact .inl h.1
  ·exact .inr h.1
def Low (s:Dsk)(f no:Nat):Prop:=(newestF (s.now f) (s.now (f+1))).2.2.2≠0∨(newestF (s.now f) (s.now (f+1))).2.1≤no
theorem Low.congr {s s':Dsk}{f no:Nat}(h:Low s f no)(h0:s'.now f=s.now f)(h1:s'.now (f+1)=s.now (f+1)):Low s' f no:=by
 unfold Low at*;rw [h0,h1];exact h
theorem Low.flush {s:Dsk}{f no:Nat}(h:Low s f no)(hf:f+1<s.last.length):Low s.flushR.1 f no:=h.congr (now_flushR om_) (now_flushR hf)
theorem Low.ren {s:Dsk}{f no no':Nat}(h:Low s f no)(hok:DOk s)(hf:f+1<s.last.length)(h1:no<no')(h2:no'≤9223372036854775807):(renewF (s.now f) (s.now (f+1)) (no':Int) []).2.2=0:=by
 rcases renew_told (a:=s.now f) (b:=s.now (f+1)) (no:=(no':Int)) (d:=[]) ⟨hok.now om_,hok.now hf⟩ (Nat.zero_le _) om_ with ⟨_,g⟩|⟨g,_⟩
 ·exact absurd ⟨by omega,h.elim .inl (fun q=>.inr om_)⟩ g
 ·exact g
theorem renewR_good {s:Dsk}(hok:DOk s){f no:Nat}(hf:f+1<s.last.length)(hno:no≤9223372036854775807)(hren:(renewF (s.now f) (s.now (f+1)) (no:Int) []).2.2=0):
  ((renewR s f no).2=0→∃x,newestF ((renewR s f no).1.now f) ((renewR s f no).1.now (f+1))=(x,no,[],0))∧((renewR s f no).2≠0→(renewR s f no).1.left=0)∧((renewR s f no).1.left≠0→(renewR s f no).1.pend=[])∧(∀k,k≠f→k≠f+1→k<s.last.length→(renewR s f no).1.now k=s.now k):=by
 by_cases hz:s.left=0
 ·rw [renewR_dead hz];exact ⟨fun h=>absurd (show (3:Int)=0 from h) dc_,fun _=>hz,fun h=>absurd hz h,fun _ _ _ _=>rfl⟩
 ·obtain ⟨hq1,hq5⟩:=renew_ok (hok.now om_) (hok.now hf) hren
  rw [renewR_go hz hf hq1 hq5]
  rcases renew_told (a:=s.now f) (b:=s.now (f+1)) (no:=(no:Int)) (d:=[]) ⟨hok.now om_,hok.now hf⟩ (Nat.zero_le _) om_ with ⟨g,_⟩|⟨_,_,g⟩
  ·exact absurd hren g
  ·have hnew:=g.new
   have hslot:=g.slot
   have hnw:∀k,(s.anch f no).now k=if f+(renewF (s.now f) (s.now (f+1)) (no:Int) []).1=k then (renewF (s.now f) (s.now (f+1)) (no:Int) []).2.1 else s.now k:=fun k=>now_write (s:=s) (s':=s.anch f no) rfl rfl k
   obtain ⟨r,hr⟩:∃r,renewF (s.now f) (s.now (f+1)) (no:Int) []=r:=⟨_,rfl⟩
   rw [hr] at hnew hslot hnw hq1
   have hn:∀k,k<s.last.length→(s.anch f no).flushR.1.now k=if f+r.1=k then r.2.1 else s.now k:=fun k hk=>(now_flushR (s:=s.anch f no) hk).trans (hnw k)
   refine ⟨fun _=>⟨r.1, ?_⟩,fun h=> ?_,fun h=> ?_,fun k h1 h2 h3=> ?_⟩
   ·rw [hn f om_,hn (f+1) hf]
    rcases hslot with h0|h0
    ·rw [h0,if_pos (show f+0=f from rfl),if_neg (show¬f+0=f+1 by omega)];rw [h0] at hnew;exact hnew
    ·rw [h0,if_neg (show¬f+1=f by omega),if_pos (show f+1=f+1 from rfl)];rw [h0] at hnew;exact hnew
   ·rcases flushR_err (s.anch f no) with q|q
    ·exact absurd q.1 h
    ·rw [q.2.1];exact q.2.2
   ·rcases flushR_err (s.anch f no) with q|q
    ·exact q.2.1
    ·rw [q.2.1] at h;exact absurd q.2.2 h
   ·rw [hn k h3,if_neg om_]
theorem zerosR_did:∀(k a:Nat) (s:Dsk),a+k≤s.last.length→Did s (zerosR s a k).1 k∧((zerosR s a k).2=0∨((zerosR s a k).2=3∧(zerosR s a k).1.left=0))
 |0,a,s,_=>⟨⟨rfl,rfl,Nat.le_refl _,id⟩,.inl rfl⟩
 |k+1,a,s,h=>by
  have hw:=Did.write s (a:Int) zsec
  unfold zerosR
  by_cases h0:(s.writeR (a:Int) zsec).2≠0
  ·rw [if_pos h0]
   obtain ⟨_,_,e3,e4,_⟩:=writeR_no h0
   obtain ⟨g1,g2⟩:=e4 om_ om_ zsec_len
   exact ⟨hw.le om_,.inr ⟨g1,by rw [e3];exact g2⟩⟩
  ·rw [if_neg h0]
   obtain ⟨g1,g2⟩:=zerosR_did k (a+1) (s.writeR (a:Int) zsec).1 (by rw [hw.len];omega)
   exact ⟨(hw.trans g1).le om_,g2⟩
structure Fmt (s s':Dsk)(e:Int):Prop where
 len:s'.last.length=s.last.length
 life:s'.life=inc s.life
 pend:s'.pend.length≤s.pend.length+259
 room:s'.left≠0→s'.pend.length≤1
 err:e=0∨e=3
theorem formatR_did {s:Dsk}{first n:Int}(ha:argsR s first n=0):Fmt s (formatR s first n).1 (formatR s first n).2:=by
 obtain ⟨hz,hf0,hm18,hm256,hin⟩:=argsR_ok ha
 obtain ⟨g1,g2⟩:=zerosR_did (n.toNat+2) first.toNat s.take (by show first.toNat+(n.toNat+2)≤s.last.length;omega)
 unfold formatR
 rw [if_neg om_]
 obtain ⟨z,hzr⟩:∃z,zerosR s.take first.toNat (n.toNat+2)=z:=⟨_,rfl⟩
 rw [hzr] at g1 g2 ⊢
 simp only []
 have ht:s.take.life=inc s.life:=rfl
 have htl:s.take.last.length=s.last.length:=rfl
 have htp:s.take.pend.length=s.pend.length:=rfl
 have hp:=g1.pend
 by_cases h0:z.2≠0
 ·rw [if_pos h0]
  rcases g2 with g2|⟨g2,g3⟩
  ·exact absurd g2 h0
  ·exact ⟨g1.len,g1.life,by omega,fun h=>absurd g3 h,.inr g2⟩
 ·rw [if_neg h0]
  have hfl:=Did.flush z.1
  have hfp:=hfl.pend
  rcases flushR_err z.1 with ⟨q1,q2,q3⟩|⟨q1,q2,q3⟩
  ·rw [if_neg om_]
   obtain ⟨r1,r2⟩:=renewR_did z.1.flushR.1 first.toNat (1*4294967296+0)
   have hrp:=r1.pend
   rw [q2] at hrp
   have hrp:=Nat.le_trans hrp (Nat.le_refl 1)
   exact ⟨r1.len.trans (hfl.len.trans g1.len),r1.life.trans (hfl.life.trans g1.life),Nat.le_trans hrp om_,fun _=>hrp,r2⟩
  ·rw [if_pos om_]
   exact ⟨hfl.len.trans g1.len,hfl.life.trans g1.life,by omega,fun h=>by rw [q2] at h;exact absurd q3 h,.inr q1⟩
theorem laysR_did {l:Lg}{d:List UInt8}{c:Nat}(hc:c=countR d.length)(hn:1≤l.n):∀(k i:Nat) (s:Dsk),i+k=c→DOk s→l.first+2+l.n≤s.last.length→
  Did s (laysR l d c s i k).1 k∧((laysR l d c s i k).2=0∨(laysR l d c s i k).1.left=0)∧∀j,j<l.first+2→(laysR l d c s i k).1.now j=s.now j
 |0,i,s,_,_,_=>⟨⟨rfl,rfl,Nat.le_refl _,id⟩,.inl rfl,fun _ _=>rfl⟩
 |k+1,i,s,hk,hok,hin=>by
  have hp:=partR_len (d:=d) (i:=i) hc om_
  have hmod:(l.head+i)%l.n<l.n:=Nat.mod_lt _ om_
  have h5:(sealF (s.now (l.first+2+(l.head+i)%l.n)) (bodyR l.epoch (l.head+i) i c (partR d i))).1.length=512:=(sealF_len (hok.now om_) (by rw [length_bodyR];omega)).1
  have hlay:layR s l d i c=s.writeR ((l.first+2+(l.head+i)%l.n:Nat):Int) (sealF (s.now (l.first+2+(l.head+i)%l.n)) (bodyR l.epoch (l.head+i) i c (partR d i))).1:=rfl
  unfold laysR
  rw [hlay]
  obtain ⟨x,hx⟩:∃x,(sealF (s.now (l.first+2+(l.head+i)%l.n)) (bodyR l.epoch (l.head+i) i c (partR d i))).1=x:=⟨_,rfl⟩
  rw [hx] at h5 ⊢
  have hw:=Did.write s ((l.first+2+(l.head+i)%l.n:Nat):Int) x
  by_cases h0:(s.writeR ((l.first+2+(l.head+i)%l.n:Nat):Int) x).2≠0
  ·rw [if_pos h0]
   obtain ⟨e1,e2,e3,e4,_⟩:=writeR_no h0
   obtain ⟨_,g2⟩:=e4 om_ om_ h5
   exact ⟨hw.le om_,.inr (by rw [e3];exact g2),fun j _=>now_congr e1 e2 j⟩
  ·rw [if_neg h0]
   obtain ⟨_,_,_,_,e⟩:=writeR_ok (Classical.not_not.1 h0)
   obtain ⟨g1,g2,g3⟩:=laysR_did hc hn k (i+1) _ om_ (hok.write ((l.first+2+(l.head+i)%l.n:Nat):Int) x) (by rw [hw.len];exact hin)
   refine ⟨(hw.trans g1).le om_,g2,fun j hj=>(g3 j hj).trans ?_⟩
   rw [e,Int.toNat_natCast];exact (now_write (s:=s) (s':=s.wrote (l.first+2+(l.head+i)%l.n) x) rfl rfl j).trans (if_neg om_)
structure LgOk (m:Nat)(l:Lg):Prop where
 ok:LOk l
 hd:LHd l
 fit:l.first+2+l.n≤m
 end_:l.begun=true→l.head≤1073741824
structure Live (s:Dsk)(l:Lg):Prop where
 low:Low s l.first (l.epoch*4294967296+l.tail)
 pend:l.begun=true→s.pend.length≤l.head-l.tail
 top:l.begun=false→l.epoch≤l.top
structure WInv (k:Nat)(s:Dsk)(ls:List Lg):Prop where
 pend:s.pend.length≤1000
 room:s.left≠0→s.pend.length≤256
 life:0≤s.life∧s.life≤(k:Int)+1
 inj:∀(i j:Nat) (a b:Lg),ls[i]?=some a→ls[j]?=some b→a.life=b.life→i=j
 le:∀a∈ls,a.life≤s.life
 ok:∀a∈ls,LgOk s.last.length a
 live:∀a∈ls,aliveR s a=true→Live s a
theorem alive_iff {s:Dsk}{l:Lg}:aliveR s l=true↔s.left≠0∧s.life=l.life:=by unfold aliveR;simp
theorem inc_ok {x:Int}(h0:0≤x)(h1:x<9223372036854775807):inc x=x+1:=by unfold inc;rw [IntKind.wrap_i64];omega
theorem WInv.next {k:Nat}{s:Dsk}{ls:List Lg}(h:WInv k s ls):WInv (k+1) s ls:=⟨h.pend,h.room,⟨h.life.1,by have:=h.life.2;omega⟩,h.inj,h.le,h.ok,h.live⟩
theorem WInv.start {s:Dsk}(hp:s.pend=[])(hl:s.life=1):WInv 0 s []:=
 ⟨by rw [hp];exact Nat.zero_le _,fun _=>by rw [hp];exact Nat.zero_le _,by omega,fun i j a b h=>by simp at h,fun a h=>by simp at h,fun a h=>by simp at h,fun a h=>by simp at h⟩
theorem WInv.push {k:Nat}{s:Dsk}{ls:List Lg}(h:WInv k s ls)(hlt:∀a∈ls,a.life<s.life){l:Lg}(hl:l.life=s.life)(ok:LgOk s.last.length l)(hv:Live s l):WInv k s (ls++[l]):=by
 have hg:∀i a,(ls++[l])[i]?=some a→(ls[i]?=some a∧a.life<s.life)∨(i=ls.length∧a=l):=fun i a q=>by
  by_cases hi:i<ls.length
  ·rw [List.getElem?_append_left hi] at q;exact .inl ⟨q,hlt a (List.mem_of_getElem? q)⟩
  ·rw [List.getElem?_append_right om_] at q
   have hi2:=(List.getElem?_eq_some_iff.1 q).1
   have:i-ls.length=0:=by simp at hi2;omega
   rw [this] at q
   simp at q
   exact .inr ⟨by omega,q.symm⟩
 have hm:∀a,a∈ls++[l]→a∈ls∨a=l:=fun a q=>by simpa using q
 refine ⟨h.pend,h.room,h.life,fun i j a b qi qj hab=> ?_,fun a q=> ?_,fun a q=> ?_,fun a q hq=> ?_⟩
 ·rcases hg i a qi with ⟨p1,p2⟩|⟨p1,p2⟩<;>rcases hg j b qj with ⟨q1,q2⟩|⟨q1,q2⟩
  ·exact h.inj i j a b p1 q1 hab
  ·subst q2;omega
  ·subst p2;omega
  ·omega
 ·rcases hm a q with q|rfl
  ·exact h.le a q
  ·omega
 ·rcases hm a q with q|rfl
  ·exact h.ok a q
  ·exact ok
 ·rcases hm a q with q|rfl
  ·exact h.live a q hq
  ·exact hv
theorem WInv.fuse {k:Nat}{s:Dsk}{ls:List Lg}(h:WInv k s ls)(n:Int):WInv (k+1) (s.fuseR n) ls:=by
 obtain ⟨e1,e2⟩:=fuseR_same s n
 have e3:(s.fuseR n).life=s.life:=by unfold Dsk.fuseR;split<;>rfl
 have e4:(s.fuseR n).left≠0→s.left≠0:=fun q hz=>q (by unfold Dsk.fuseR;rw [if_pos hz];exact hz)
 refine ⟨by rw [e2];exact h.pend,fun q=>by rw [e2];exact h.room (e4 q),by rw [e3];have:=h.life;omega,h.inj,fun a q=>by rw [e3];exact h.le a q,fun a q=>by rw [e1];exact h.ok a q,fun a q hq=> ?_⟩
 obtain ⟨g1,g2⟩:=alive_iff.1 hq
 have hv:=h.live a q (alive_iff.2 ⟨e4 g1,by rw [←e3];exact g2⟩)
 exact ⟨hv.low.congr (now_congr e1 e2 _) (now_congr e1 e2 _),fun b=>by rw [e2];exact hv.pend b,hv.top⟩
theorem ready_iff {s:Dsk}{l:Lg}:readyR s l=0↔aliveR s l=true∧l.begun=true:=by
 unfold readyR
 split
 ·rename_i h;rw [h];simp
 ·rename_i h
  split
  ·rename_i h2;rw [h2];simp
  ·rename_i h2;simp at h h2;simp [h,h2]
theorem DOk.flush {s:Dsk}(h:DOk s):DOk s.flushR.1:=by
 rcases flushR_cases s with ⟨_,e⟩|⟨_,e⟩
 ·rw [e];exact h
 ·rw [e]
  have h5:∀(ps:List (Nat×List UInt8)) (l:List (List UInt8)),(∀x∈l,x.length=512)→(∀x∈ps,x.2.length=512)→∀x∈applyP l ps,x.length=512:=by
   intro ps
   induction ps with
   |nil=>intro l hl _ x hx;exact hl x hx
   |cons p r ih=>
    intro l hl hp x hx
    refine ih (l.set p.1 p.2) (fun y hy=> ?_) (fun y hy=>hp y (List.mem_cons_of_mem _ hy)) x hx
    rcases List.mem_or_eq_of_mem_set hy with q|q
    ·exact hl y q
    ·rw [q];exact hp p (List.mem_cons_self)
  refine ⟨h5 s.pend s.last h.len (fun x hx=>(h.plen x hx).1),fun x hx=>by simp at hx,by show 1≤(applyP _ _).length;rw [length_applyP];exact h.n1,by show (applyP _ _).length≤_;rw [length_applyP];exact h.n2, ?_⟩
  have:=h.lb
  show-1≤spent s.left∧spent s.left≤_
  unfold spent;split<;>omega
theorem Low.of {s:Dsk}{f no:Nat}(h:∃x,newestF (s.now f) (s.now (f+1))=(x,no,[],0)):Low s f no:=by
 obtain ⟨x,h⟩:=h;unfold Low;rw [h];exact .inr (Nat.le_refl _)
theorem leB_cons (v n:Nat):leB v (n+1)=UInt8.ofNat (v%256)::leB (v/256) n:=by
 unfold leB
 rw [List.range_succ_eq_map,List.map_cons,List.map_map]
 congr 1
 ·simp
 ·apply List.map_congr_left
  intro i _
  simp only [Function.comp]
  rw [Nat.pow_succ',Nat.div_div_eq_div_mul]
theorem leN_leB:∀(n v:Nat),leN (leB v n)=v%256^n
 |0,v=>by simp [leB,leN,Nat.mod_one]
 |n+1,v=>by
  rw [leB_cons,leN,leN_leB n,UInt8.toNat_ofNat',Nat.mod_eq_of_lt (show v%256<2^8 from by omega),Nat.pow_succ',Nat.mod_mul]
theorem leN_leB_lt {n v:Nat}(h:v<256^n):leN (leB v n)=v:=by rw [leN_leB,Nat.mod_eq_of_lt h]
theorem cut_app {α:Type}(a b c:List α){i n:Nat}(hi:a.length=i)(hn:b.length=n):((a++(b++c)).drop i).take n=b:=by
 subst hi hn
 rw [List.drop_append,List.drop_of_length_le (Nat.le_refl _),List.nil_append,Nat.sub_self,List.drop_zero,List.take_append,List.take_of_length_le (Nat.le_refl _),Nat.sub_self,List.take_zero,List.append_nil]
theorem pcOf_body {E p i c:Nat}{d:List UInt8}(hE:E<4294967296)(hp:p<4294967296)(hi:i<65536)(hc:c<65536):pcOf (bodyR E p i c d)=⟨E,p,i,c,d⟩:=by
 have l4:=length_leB E 4
 have m4:=length_leB p 4
 have l2:=length_leB i 2
 have m2:=length_leB c 2
 unfold pcOf numN bodyR
 have e1:((leB E 4++leB p 4++leB i 2++leB c 2++d).drop 0).take 4=leB E 4:=by
  have:=cut_app [] (leB E 4) (leB p 4++(leB i 2++(leB c 2++d))) rfl l4
  simpa [List.append_assoc] using this
 have e2:((leB E 4++leB p 4++leB i 2++leB c 2++d).drop 4).take 4=leB p 4:=by
  have:=cut_app (leB E 4) (leB p 4) (leB i 2++(leB c 2++d)) l4 m4
  simpa [List.append_assoc] using this
 have e3:((leB E 4++leB p 4++leB i 2++leB c 2++d).drop 8).take 2=leB i 2:=by
  have:=cut_app (leB E 4++leB p 4) (leB i 2) (leB c 2++d) (i:=8) (by rw [List.length_append];omega) l2
  simpa [List.append_assoc] using this
 have e4:((leB E 4++leB p 4++leB i 2++leB c 2++d).drop 10).take 2=leB c 2:=by
  have:=cut_app (leB E 4++leB p 4++leB i 2) (leB c 2) d (i:=10) (by rw [List.length_append,List.length_append];omega) m2
  simpa [List.append_assoc] using this
 have e5:(leB E 4++leB p 4++leB i 2++leB c 2++d).drop 12=d:=by
  rw [List.drop_append,List.drop_of_length_le (by simp only [List.length_append];omega),List.nil_append]
  rw [show 12-(leB E 4++leB p 4++leB i 2++leB c 2).length=0 by simp only [List.length_append];omega,List.drop_zero]
 rw [e1,e2,e3,e4,e5,leN_leB_lt om_,leN_leB_lt om_,leN_leB_lt om_,leN_leB_lt om_]
def partF (o:List UInt8)(E p i c:Nat)(d:List UInt8):List UInt8:=(sealF o (bodyR E p i c d)).1
theorem partF_form {o:List UInt8}{E p i c:Nat}{d:List UInt8}(ho:o.length=512)(hd:d.length≤492):partF o E p i c d=form (turnOf (o.getD 0 0) (o.getD 511 0)) (bodyR E p i c d):=by
 unfold partF sealF
 rw [if_neg om_,if_neg (by rw [length_bodyR];omega)]
theorem pcF_part {o:List UInt8}{E p i c:Nat}{d:List UInt8}(ho:o.length=512)(hd:d.length≤492)(hE:E<4294967296)(hp:p<4294967296)(hi:i<65536)(hc:c<65536):pcF (partF o E p i c d)=⟨E,p,i,c,d⟩:=by
 have h:=openF_form (turnOf (o.getD 0 0) (o.getD 511 0)) (bodyR E p i c d) (turn_ne _ _).2.2 (by rw [length_bodyR];omega)
 unfold pcF
 rw [partF_form ho hd,h,if_pos ⟨rfl,by rw [length_bodyR];omega⟩]
 exact pcOf_body hE hp hi hc
theorem pcF_torn {m:List UInt8}(h:openF m=([],30)):pcF m=pcNo:=by
 unfold pcF;rw [h,if_neg (by simp)]
def Over (o x:List UInt8):Prop:=o.length=512∧∃b,b.length≤504∧x=form (turnOf (o.getD 0 0) (o.getD 511 0)) b
theorem Over.ne {o x:List UInt8}(h:Over o x):x≠o:=by
 obtain ⟨ho,b,hb,rfl⟩:=h
 intro e
 have h1:(form (turnOf (o.getD 0 0) (o.getD 511 0)) b).getD 0 0=turnOf (o.getD 0 0) (o.getD 511 0):=rfl
 rw [e] at h1
 exact (turn_ne (o.getD 0 0) (o.getD 511 0)).1 h1.symm
theorem torn_over {o x:List UInt8}(h:Over o x)(p:Pick):tornS [o,x] p=o∨tornS [o,x] p=x∨openF (tornS [o,x] p)=([],30):=by
 obtain ⟨ho,b,hb,hx⟩:=h
 have hc:p.2.2.toNat%513≤512:=by have:=Nat.mod_lt p.2.2.toNat (show 0<513 by decide);omega
 obtain ⟨hl,m1,m2⟩:=over_mixes o b (p.2.2.toNat%513) hc ho hb x hx
 have hi:∀q:Nat,[o,x].getD (q% [o,x].length) []=o∨[o,x].getD (q% [o,x].length) []=x:=fun q=>by
  have h2:q% [o,x].length=0∨q% [o,x].length=1:=by
   have:=Nat.mod_lt q (show 0<2 by decide)
   have e:[o,x].length=2:=rfl
   rw [e];omega
  rcases h2 with h2|h2<;>rw [h2]
  ·exact .inl rfl
  ·exact .inr rfl
 have hid:∀y:List UInt8,y.take (p.2.2.toNat%513)++y.drop (p.2.2.toNat%513)=y:=fun y=>List.take_append_drop _ y
 unfold tornS
 rcases hi p.1.toNat with e1|e1<;>rcases hi p.2.1.toNat with e2|e2<;>rw [e1,e2]
 ·exact .inl (hid o)
 ·exact m1
 ·exact m2
 ·exact .inr (.inl (hid x))
structure Sgl (s:Dsk):Prop where
 nodup:(s.pend.map (·.1)).Nodup
 over:∀x∈s.pend,Over (s.last.getD x.1 []) x.2
theorem Sgl.nil {s:Dsk}(h:s.pend=[]):Sgl s:=⟨by rw [h];exact List.nodup_nil,fun x hx=>by rw [h] at hx;cases hx⟩
theorem pend_one:∀{l:List (Nat×List UInt8)},(l.map (·.1)).Nodup→∀{x:Nat×List UInt8},x∈l→(l.filter (fun y=>y.1==x.1)).map (·.2)=[x.2]
 |[],_,x,h=>by cases h
 |y::r,hn,x,h=>by
  rw [List.map_cons,List.nodup_cons] at hn
  by_cases hxy:y.1=x.1
  ·have hno:r.filter (fun z=>z.1==x.1)=[]:=by
    rw [List.filter_eq_nil_iff]
    intro z hz hb
    exact hn.1 (List.mem_map.2 ⟨z,hz,by rw [hxy];simpa using hb⟩)
   rcases List.mem_cons.1 h with rfl|h
   ·rw [List.filter_cons_of_pos (by simp),hno];rfl
   ·exact absurd (List.mem_map.2 ⟨x,h,hxy.symm⟩) hn.1
  ·rw [List.filter_cons_of_neg (by simpa using hxy)]
   rcases List.mem_cons.1 h with rfl|h
   ·exact absurd rfl hxy
   ·exact pend_one hn.2 h
theorem Sgl.now {s:Dsk}(h:Sgl s){x:Nat×List UInt8}(hx:x∈s.pend):pendOf s x.1=[x.2]∧s.now x.1=x.2:=by
 have e:pendOf s x.1=[x.2]:=pend_one h.nodup hx
 refine ⟨e, ?_⟩
 unfold Dsk.now;rw [e];rfl
theorem now_free {s:Dsk}{k:Nat}(h:∀x∈s.pend,x.1≠k):pendOf s k=[]∧s.now k=s.last.getD k []:=by
 have e:pendOf s k=[]:=by
  unfold pendOf
  rw [List.map_eq_nil_iff,List.filter_eq_nil_iff]
  intro x hx hb
  exact h x hx (by simpa using hb)
 exact ⟨e,Dsk.now_none e⟩
theorem crash_at' {s:Dsk}{k:Nat}(hk:k<s.last.length)(ps:List Pick):(pendOf s k=[]∧(s.crashR ps).last.getD k []=s.last.getD k [])∨(pendOf s k≠[]∧∃i,(s.crashR ps).last.getD k []=tornS (candS s k) (pickAt ps i)):=by
 show (pendOf s k=[]∧(applyP s.last (crashOuts s ps)).getD k []=_)∨(_∧∃i,(applyP s.last (crashOuts s ps)).getD k []=_)
 have hmem:∀x∈crashOuts s ps,∃i,x.2=tornS (candS s x.1) (pickAt ps i)∧pendOf s x.1≠[]:=fun x hx=>by
  unfold crashOuts at hx
  obtain ⟨i,hi,rfl⟩:=List.mem_mapIdx.1 hx
  have hm:(crashKeys s)[i]∈crashKeys s:=List.getElem_mem hi
  exact ⟨i,rfl,(keysTo_mem.1 hm).2⟩
 rw [List.getD_eq_getElem?_getD,get_applyP]
 by_cases hp:pendOf s k=[]
 ·refine .inl ⟨hp, ?_⟩
  have hn:newest (crashOuts s ps) k=none:=by
   unfold newest
   rw [List.getLast?_eq_none_iff,List.map_eq_nil_iff,List.filter_eq_nil_iff]
   intro x hx hb
   obtain ⟨i,_,h2⟩:=hmem x hx
   have:x.1=k:=by simpa using hb
   subst this;exact h2 hp
  rw [hn,List.getD_eq_getElem?_getD]
 ·refine .inr ⟨hp, ?_⟩
  have hkm:k∈crashKeys s:=keysTo_mem.2 ⟨hk,hp⟩
  have hne:newest (crashOuts s ps) k≠none:=by
   unfold newest
   rw [ne_eq,List.getLast?_eq_none_iff,List.map_eq_nil_iff,List.filter_eq_nil_iff]
   intro h
   obtain ⟨j,hj⟩:=List.getElem?_of_mem hkm
   have hx:outOf s ps j k∈crashOuts s ps:=by
    unfold crashOuts
    have hl:=(List.getElem?_eq_some_iff.1 hj).1
    exact List.mem_mapIdx.2 ⟨j,hl,by rw [(List.getElem?_eq_some_iff.1 hj).2]⟩
   exact h _ hx (by simp [outOf])
  cases hq:newest (crashOuts s ps) k with
  |none=>exact absurd hq hne
  |some d=>
   unfold newest at hq
   have hm:=List.mem_of_getLast? hq
   obtain ⟨x,hx,rfl⟩:=List.mem_map.1 hm
   obtain ⟨hx1,hx2⟩:=List.mem_filter.1 hx
   obtain ⟨i,h1,_⟩:=hmem x hx1
   have h3:x.1=k:=by simpa using hx2
   simp only []
   rw [if_pos hk,h1,h3]
   exact ⟨i,rfl⟩
structure CutOf (s x:Dsk):Prop where
 pend:x.pend=[]
 len:x.last.length=s.last.length
 free:∀k,k<s.last.length→(∀y∈s.pend,y.1≠k)→x.last.getD k []=s.last.getD k []
 one:∀y∈s.pend,x.last.getD y.1 []=s.last.getD y.1 []∨x.last.getD y.1 []=y.2∨openF (x.last.getD y.1 [])=([],30)
theorem Sgl.cut {s:Dsk}(h:Sgl s)(hok:DOk s)(ps:List Pick):CutOf s (s.crashR ps):=by
 refine ⟨rfl,crashR_len s ps,fun k hk hf=> ?_,fun y hy=> ?_⟩
 ·rcases crash_at' hk ps with ⟨_,e⟩|⟨e,_⟩
  ·exact e
  ·exact absurd (now_free hf).1 e
 ·obtain ⟨e1,e2⟩:=h.now hy
  rcases crash_at' (hok.plen y hy).2 ps with ⟨e,_⟩|⟨_,i,e⟩
  ·rw [e1] at e;cases e
  ·rw [e]
   show tornS (s.last.getD y.1 []::pendOf s y.1) _=_∨tornS (s.last.getD y.1 []::pendOf s y.1) _=_∨openF (tornS (s.last.getD y.1 []::pendOf s y.1) _)=_
   rw [e1]
   exact torn_over (h.over y hy) _
section
theorem Recs.congr {pc pc':Nat→Pc}{E a:Nat}{R:List (List UInt8)}{h:Nat}(r:Recs pc E a R h)(hq:∀p i c,a≤p→p<h→(pc p).Part E p i c→pc' p=pc p):Recs pc' E a R h:=by
 induction r with
 |nil=>exact .nil
 |@step R h c r hr ih=>
  have hp:∀j,j<c→pc' (h+j)=pc (h+j):=fun j hj=>hq (h+j) j c (by have:=r.le;omega) om_ (hr.part j hj)
  have e:catF pc h c=catF pc' h c:=by
   unfold catF
   congr 1
   apply List.map_congr_left
   intro j hj
   rw [hp j (List.mem_range.1 hj)]
  rw [e]
  have hc:=hr.c1
  refine Recs.step (ih fun p i c' h1 h2 h3=>hq p i c' h1 om_ h3) ⟨hr.c1,hr.c17, ?_,fun j hj=> ?_⟩
  ·have:=hp 0 om_
   rw [Nat.add_zero] at this
   rw [this];exact hr.cnt
  ·rw [hp j hj];exact hr.part j hj
theorem Recs.pre {pc:Nat→Pc}{e:Nat}:∀(k:Nat) {a:Nat} {R R':List (List UInt8)} {h h':Nat},R.length≤k→Recs pc e a R h→Recs pc e a R' h'→NoRec pc e h'→R.length≤R'.length∧R=R'.take R.length
 |k,a,R,R',h,h',hk,r,r',e'=>by
  by_cases hx:∃c,IsRec pc e a c
  ·obtain ⟨c,hc⟩:=hx
   rcases r.uncons hc with ⟨rfl,rfl⟩|⟨R1,rfl,r1⟩
   ·exact ⟨Nat.zero_le _,by simp⟩
   ·rcases r'.uncons hc with ⟨rfl,rfl⟩|⟨R2,rfl,r2⟩
    ·exact absurd hc (e' c)
    ·cases k with
     |zero=>exact absurd hk (by simp)
     |succ k=>
      obtain ⟨q1,q2⟩:=Recs.pre k (by simpa using hk) r1 r2 e'
      refine ⟨by simpa using q1, ?_⟩
      rw [List.length_cons,List.take_succ_cons,←q2]
  ·have hno:∀{R h},Recs pc e a R h→R=[]:=fun {R h} r=>by
    have h1:R=[]∧h=a∨False:=by
     induction r with
     |nil=>exact .inl ⟨rfl,rfl⟩
     |step _ hr ih=>
      rcases ih with ⟨rfl,rfl⟩|h
      ·exact .inr (hx ⟨_,hr⟩)
      ·exact .inr h
    exact (h1.elim id False.elim).1
   have e0:=hno r
   subst e0
   exact ⟨Nat.zero_le _,by simp⟩
theorem topTo_eq {pc:Nat→Pc}{E:Nat}:∀k,(∀j,j<k→(pc j).epoch≤E)→topTo pc E k=E
 |0,_=>rfl
 |k+1,h=>by
  unfold topTo
  rw [topTo_eq k fun j hj=>h j om_]
  have:=h k om_
  split
  ·exact Nat.max_eq_left this
  ·rfl
def Dsk.lst (s:Dsk)(k:Nat):List UInt8:=s.last.getD k []
structure Core (s:Dsk)(n E T Y H H':Nat)(R:List (List UInt8))(low:Nat):Prop where
 n0:18≤n∧n≤256
 len:s.last.length=n+2
 sgl:Sgl s
 ends:T≤Y∧Y≤H∧H≤H'∧H'≤T+n
 keys:∀y∈s.pend,∃p,Y≤p∧p<H'∧y.1=2+p%n∧(pcF y.2).epoch=E∧(pcF y.2).pos=p
 pair:∃x,newestF (s.lst 0) (s.lst 1)=(x,E*4294967296+T,[],0)
 old:∀k,k<n→(pcF (s.lst (2+k))).epoch≤E∧((pcF (s.lst (2+k))).epoch=E→(pcF (s.lst (2+k))).data≠[]→(pcF (s.lst (2+k))).pos<Y)
 recs:Recs (pcAt s 0 n) E T R H
 low:low≤R.length∧Recs (pcAt s 0 n) E T (R.take low) Y
theorem pcAt_lst {s:Dsk}{n p:Nat}(h:∀y∈s.pend,y.1≠2+p%n):pcAt s 0 n p=pcF (s.lst (2+p%n)):=by
 unfold pcAt Dsk.lst
 rw [Nat.zero_add,(now_free h).2]
theorem pcAt_new {s:Dsk}{n p:Nat}(hs:Sgl s){y:Nat×List UInt8}(hy:y∈s.pend)(h:y.1=2+p%n):pcAt s 0 n p=pcF y.2:=by
 unfold pcAt
 rw [Nat.zero_add,←h,(hs.now hy).2]
theorem mod_eq_far {n p q:Nat}(h:p%n=q%n)(h1:p<q+n)(h2:q<p+n):p=q:=by
 rcases Nat.lt_or_ge p q with hlt|hge
 ·have e:(q-p)%n=0:=by
   have:=Nat.sub_mod_eq_zero_of_mod_eq h.symm
   exact this
  rw [Nat.mod_eq_of_lt om_] at e;omega
 ·have e:(p-q)%n=0:=Nat.sub_mod_eq_zero_of_mod_eq h
  rw [Nat.mod_eq_of_lt om_] at e;omega
section
variable {s:Dsk}{n E T Y H H':Nat}{R:List (List UInt8)}{low:Nat}
theorem Core.none (h:Core s n E T Y H H' R low){q i c:Nat}(hq:H'≤q):¬(pcAt s 0 n q).Part E q i c:=by
 intro hp
 have hn:=h.n0
 have he:=h.ends
 have hm:=Nat.mod_lt q (show 0<n by omega)
 by_cases hx:∃y∈s.pend,y.1=2+q%n
 ·obtain ⟨y,hy,e⟩:=hx
  obtain ⟨p,h1,h2,h3,h4,h5⟩:=h.keys y hy
  rw [pcAt_new h.sgl hy e] at hp
  have:=hp.pos;omega
 ·rw [pcAt_lst (fun y hy e=>hx ⟨y,hy,e⟩)] at hp
  have:=(h.old (q%n) hm).2 hp.epoch hp.data
  have:=hp.pos;omega
theorem Core.no (h:Core s n E T Y H H R low):NoRec (pcAt s 0 n) E H:=fun c hr=>h.none (Nat.le_refl _) (by have:=hr.part 0 hr.c1;rwa [Nat.add_zero] at this)
structure Left (x:Dsk)(n E T:Nat)(R:List (List UInt8))(low:Nat):Prop where
 pair:∃q,newestF (x.lst 0) (x.lst 1)=(q,E*4294967296+T,[],0)
 old:∀k,k<n→(pcF (x.lst (2+k))).epoch≤E
 tell:∀R' h',Recs (pcAt x 0 n) E T R' h'→NoRec (pcAt x 0 n) E h'→low≤R'.length∧R'.length≤R.length∧R'=R.take R'.length
theorem Core.cut (h:Core s n E T Y H H' R low)(hno:NoRec (pcAt s 0 n) E H){x:Dsk}(c:CutOf s x):Left x n E T R low:=by
 have hn:=h.n0
 have he:=h.ends
 have hl:=h.len
 have hpn:∀p,pcAt x 0 n p=pcF (x.lst (2+p%n)):=fun p=>pcAt_lst (by rw [c.pend];intro y hy;cases hy)
 have hfree:∀k,k<2→∀y∈s.pend,y.1≠k:=fun k hk y hy e=>by
  obtain ⟨p,_,_,h3,_,_⟩:=h.keys y hy
  omega
 have key:∀k,k<n→pcF (x.lst (2+k))=pcF (s.lst (2+k))∨(∃y∈s.pend,y.1=2+k∧pcF (x.lst (2+k))=pcF y.2)∨pcF (x.lst (2+k))=pcNo:=fun k hk=>by
  by_cases hx:∃y∈s.pend,y.1=2+k
  ·obtain ⟨y,hy,e⟩:=hx
   rcases c.one y hy with e1|e1|e1
   ·left;unfold Dsk.lst;rw [←e,e1]
   ·right;left;exact ⟨y,hy,e,by unfold Dsk.lst;rw [←e,e1]⟩
   ·right;right;exact pcF_torn (by unfold Dsk.lst;rw [←e];exact e1)
  ·left;unfold Dsk.lst;rw [c.free (2+k) om_ (fun y hy e=>hx ⟨y,hy,e⟩)]
 refine ⟨?_,fun k hk=> ?_,fun R' h' r' n'=> ?_⟩
 ·obtain ⟨q,hq⟩:=h.pair
  refine ⟨q, ?_⟩
  unfold Dsk.lst at hq ⊢
  rw [c.free 0 om_ (hfree 0 om_),c.free 1 om_ (hfree 1 om_)];exact hq
 ·rcases key k hk with e|⟨y,hy,_,e⟩|e
  ·rw [e];exact (h.old k hk).1
  ·obtain ⟨p,_,_,_,h4,_⟩:=h.keys y hy
   rw [e];omega
  ·rw [e];exact Nat.zero_le _
 ·have hA:Recs (pcAt s 0 n) E T R' h':=r'.congr fun p i cc h1 h2 h3=>by
   have hm:=Nat.mod_lt p (show 0<n by omega)
   rw [hpn] at h3 ⊢
   rcases key (p%n) hm with e|⟨y,hy,ey,e⟩|e
   ·by_cases hx:∃y∈s.pend,y.1=2+p%n
    ·obtain ⟨y,hy,ey⟩:=hx
     obtain ⟨q,q1,q2,q3,q4,q5⟩:=h.keys y hy
     rw [e] at h3
     have hlt:=(h.old (p%n) hm).2 h3.epoch h3.data
     have hpos:=h3.pos
     have:=mod_eq_far (n:=n) (p:=p) (q:=q) om_ om_ om_
     omega
    ·rw [e,pcAt_lst (fun y hy ey=>hx ⟨y,hy,ey⟩)]
   ·rw [e,pcAt_new h.sgl hy ey]
   ·rw [e] at h3;exact absurd rfl h3.data
  have hB:Recs (pcAt x 0 n) E T (R.take low) Y:=h.low.2.congr fun p i cc h1 h2 h3=>by
   have hm:=Nat.mod_lt p (show 0<n by omega)
   have hf:∀y∈s.pend,y.1≠2+p%n:=fun y hy ey=>by
    obtain ⟨q,q1,q2,q3,q4,q5⟩:=h.keys y hy
    have:=mod_eq_far (n:=n) (p:=p) (q:=q) om_ om_ om_
    omega
   rw [hpn,pcAt_lst hf]
   unfold Dsk.lst;rw [c.free _ om_ hf]
  obtain ⟨a1,a2⟩:=Recs.pre _ (Nat.le_refl _) hA h.recs hno
  obtain ⟨b1,b2⟩:=Recs.pre _ (Nat.le_refl _) hB r' n'
  have hlow:=h.low.1
  rw [List.length_take] at b1
  exact ⟨by omega,a1,a2⟩
theorem Core.same {s':Dsk}(h:Core s n E T Y H H' R low)(h1:s'.last=s.last)(h2:s'.pend=s.pend):Core s' n E T Y H H' R low:=by
 have e:pcAt s' 0 n=pcAt s 0 n:=by funext p;unfold pcAt;rw [now_congr h1 h2]
 have el:∀k,s'.lst k=s.lst k:=fun k=>by unfold Dsk.lst;rw [h1]
 exact ⟨h.n0,by rw [h1];exact h.len,⟨by rw [h2];exact h.sgl.nodup,by rw [h1,h2];exact h.sgl.over⟩,h.ends,by rw [h2];exact h.keys,by rw [el,el];exact h.pair,fun k hk=>by rw [el];exact h.old k hk,by rw [e];exact h.recs,by rw [e];exact h.low⟩
theorem lst_flush {s':Dsk}(h1:s'=s.flushR.1)(hz:s.left≠0){k:Nat}(hk:k<s.last.length):s'.lst k=s.now k:=by
 have hp:s'.pend=[]:=by
  rcases flushR_err s with q|q
  ·rw [h1];exact q.2.1
  ·exact absurd q.2.2 hz
 have:=now_flushR (s:=s) hk
 rw [←h1,now_nil hp] at this
 exact this
theorem Core.flush (h:Core s n E T Y H H R low)(hz:s.left≠0):Core s.flushR.1 n E T H H H R R.length:=by
 have hn:=h.n0
 have he:=h.ends
 have hl:=h.len
 obtain ⟨s',hs'⟩:∃s',s'=s.flushR.1:=⟨_,rfl⟩
 have hp:s'.pend=[]:=by
  rcases flushR_err s with q|q
  ·rw [hs'];exact q.2.1
  ·exact absurd q.2.2 hz
 have hlen:s'.last.length=s.last.length:=by rw [hs'];exact (Did.flush s).len
 have hlst:∀k,k<s.last.length→s'.lst k=s.now k:=fun k hk=>lst_flush hs' hz hk
 rw [←hs']
 have hfree:∀k,k<2→∀y∈s.pend,y.1≠k:=fun k hk y hy e=>by
  obtain ⟨p,_,_,h3,_,_⟩:=h.keys y hy
  omega
 have e:pcAt s' 0 n=pcAt s 0 n:=by
  funext p
  have hm:=Nat.mod_lt p (show 0<n by omega)
  unfold pcAt
  rw [hs',now_flushR om_]
 refine ⟨hn,by omega,Sgl.nil hp,by omega,(by rw [hp];intro y hy;cases hy), ?_,fun k hk=> ?_,by rw [e];exact h.recs,Nat.le_refl _,by rw [e,List.take_length];exact h.recs⟩
 ·obtain ⟨q,hq⟩:=h.pair
  refine ⟨q, ?_⟩
  rw [hlst 0 om_,hlst 1 om_,(now_free (hfree 0 om_)).2,(now_free (hfree 1 om_)).2];exact hq
 ·rw [hlst (2+k) om_]
  by_cases hx:∃y∈s.pend,y.1=2+k
  ·obtain ⟨y,hy,ey⟩:=hx
   obtain ⟨p,h1,h2,h3,h4,h5⟩:=h.keys y hy
   rw [←ey,(h.sgl.now hy).2]
   exact ⟨by omega,fun _ _=>by omega⟩
  ·rw [(now_free (fun y hy e=>hx ⟨y,hy,e⟩)).2]
   have:=h.old k hk
   exact ⟨this.1,fun a b=>by have:=this.2 a b;unfold Dsk.lst at this;omega⟩
end
end
section
section
variable {s:Dsk}{n E T Y H H':Nat}{R:List (List UInt8)}{low:Nat}
theorem Core.free (h:Core s n E T Y H H' R low){q:Nat}(h1:H'≤q)(h2:q<T+n):∀y∈s.pend,y.1≠2+q%n:=fun y hy e=>by
 have he:=h.ends
 obtain ⟨p,q1,q2,q3,_,_⟩:=h.keys y hy
 have:=mod_eq_far (n:=n) (p:=p) (q:=q) om_ om_ om_
 omega
theorem Core.write (h:Core s n E T Y H H' R low)(hok:DOk s){i c:Nat}{d:List UInt8}(hH:H'<T+n)(hd:d.length≤492)(hE:E<4294967296)(hp:H'<4294967296)(hi:i<65536)(hc:c<65536){K:Nat}(hK:K=2+H'%n){X:List UInt8}(hX:X=partF (s.now K) E H' i c d):
  Core (s.wrote K X) n E T Y H (H'+1) R low∧pcAt (s.wrote K X) 0 n H'=⟨E,H',i,c,d⟩∧∀q,q%n≠H'%n→pcAt (s.wrote K X) 0 n q=pcAt s 0 n q:=by
 have hn:=h.n0
 have he:=h.ends
 have hl:=h.len
 have hm:=Nat.mod_lt H' (show 0<n by omega)
 have hf:=h.free (Nat.le_refl H') hH
 rw [←hK] at hf
 have hnow:s.now K=s.last.getD K []:=(now_free hf).2
 have h512:(s.now K).length=512:=hok.now om_
 have hx:pcF X=⟨E,H',i,c,d⟩:=by rw [hX];exact pcF_part h512 hd hE hp hi hc
 have hov:Over (s.last.getD K []) X:=by
  rw [←hnow]
  exact ⟨h512,bodyR E H' i c d,by rw [length_bodyR];omega,by rw [hX];exact partF_form h512 hd⟩
 obtain ⟨s',hs'⟩:∃s',s'=s.wrote K X:=⟨_,rfl⟩
 have h1:s'.last=s.last:=by rw [hs'];rfl
 have h2:s'.pend=s.pend++[(K,X)]:=by rw [hs'];rfl
 rw [←hs']
 have hnw:=now_write (s:=s) (s':=s') h1 h2
 have hat:pcAt s' 0 n H'=⟨E,H',i,c,d⟩:=by
  unfold pcAt
  rw [Nat.zero_add,←hK,hnw,if_pos rfl,hx]
 have hoth:∀q,q%n≠H'%n→pcAt s' 0 n q=pcAt s 0 n q:=fun q hq=>by
  unfold pcAt
  rw [hnw,if_neg om_]
 have hlst:∀k,s'.lst k=s.lst k:=fun k=>by unfold Dsk.lst;rw [h1]
 have hback:∀p i c,T≤p→p<H'→(pcAt s 0 n p).Part E p i c→pcAt s' 0 n p=pcAt s 0 n p:=fun p i c q1 q2 _=>hoth p fun e=>by
  have:=mod_eq_far (n:=n) (p:=p) (q:=H') e om_ om_
  omega
 refine ⟨⟨hn,by rw [h1];exact hl,⟨?_,fun y hy=> ?_⟩,by omega,fun y hy=> ?_,by rw [hlst,hlst];exact h.pair,fun k hk=>by rw [hlst];exact h.old k hk,h.recs.congr fun p i c q1 q2 q3=>hback p i c q1 om_ q3,h.low.1,h.low.2.congr fun p i c q1 q2 q3=>hback p i c q1 om_ q3⟩,hat,hoth⟩
 ·rw [h2,List.map_append]
  refine List.nodup_append.2 ⟨h.sgl.nodup,by simp,fun a ha b hb e=> ?_⟩
  obtain ⟨y,hy,rfl⟩:=List.mem_map.1 ha
  simp at hb
  exact hf y hy (e.trans hb)
 ·rw [h2] at hy
  rcases List.mem_append.1 hy with hy|hy
  ·rw [h1];exact h.sgl.over y hy
  ·rw [List.mem_singleton] at hy;subst hy;rw [h1];exact hov
 ·rw [h2] at hy
  rcases List.mem_append.1 hy with hy|hy
  ·obtain ⟨p,q1,q2,q3⟩:=h.keys y hy
   exact ⟨p,q1,by omega,q3⟩
  ·rw [List.mem_singleton] at hy;subst hy
   exact ⟨H',by omega,by omega,hK,by rw [hx],by rw [hx]⟩
end
theorem parts_take (d:List UInt8):∀c,((List.range c).map (partR d)).flatten=d.take (c*492)
 |0=>by simp
 |c+1=>by
  rw [List.range_succ,List.map_append,List.flatten_append,parts_take d c,List.map_singleton,List.flatten_singleton]
  unfold partR
  rw [←List.take_add,Nat.add_mul,Nat.one_mul]
theorem parts_cat {pc:Nat→Pc}{H c:Nat}{d:List UInt8}(hc:c=countR d.length)(h:∀i,i<c→(pc (H+i)).data=partR d i):catF pc H c=d:=by
 unfold catF
 have e:(List.range c).map (fun j=>(pc (H+j)).data)=(List.range c).map (partR d):=List.map_congr_left fun j hj=>h j (List.mem_range.1 hj)
 rw [e,parts_take,List.take_of_length_le]
 unfold countR at hc;omega
theorem parts_rec {pc:Nat→Pc}{E H c:Nat}{d:List UInt8}(hc:c=countR d.length)(h0:1≤d.length)(h1:d.length≤8364)(h:∀i,i<c→pc (H+i)=⟨E,H+i,i,c,partR d i⟩):IsRec pc E H c:=by
 have hc1:1≤c:=by unfold countR at hc;omega
 refine ⟨hc1,by unfold countR at hc;omega, ?_,fun j hj=> ?_⟩
 ·have:=h 0 om_
  rw [Nat.add_zero] at this
  rw [this]
 ·obtain ⟨q1,q2,q3⟩:=partR_len (d:=d) (i:=j) hc hj
  rw [h j hj]
  refine ⟨fun e=> ?_,rfl,rfl,rfl,rfl, ?_⟩
  ·have e:partR d j=[]:=e
   rw [e] at q2;exact absurd q2 dc_
  ·by_cases hj1:j+1=c
   ·exact .inl hj1
   ·right
    show (partR d j).length=492
    rw [q1]
    unfold countR at hc;omega
section
variable {n E T Y H top tl:Nat}{life:Int}{b:Bool}{R:List (List UInt8)}{low:Nat}{d:List UInt8}{c:Nat}
theorem lays_core {l:Lg}(hl:l=⟨0,n,life,E,top,tl,H,b⟩)(hc:c=countR d.length)(h1:d.length≤8364)(hE:E<4294967296)(hH:H+c≤T+n)(hp:H+c<4294967296):
  ∀(k i:Nat) (s:Dsk),i+k=c→Core s n E T Y H (H+i) R low→DOk s→(∀j,j<i→pcAt s 0 n (H+j)=⟨E,H+j,j,c,partR d j⟩)→
   ∃j,j≤c∧Core (laysR l d c s i k).1 n E T Y H (H+j) R low∧(∀m,m<j→pcAt (laysR l d c s i k).1 0 n (H+m)=⟨E,H+m,m,c,partR d m⟩)∧((laysR l d c s i k).2=0∧j=c∨(laysR l d c s i k).2=3∧j<c∧(laysR l d c s i k).1.left=0)∧(laysR l d c s i k).1.life=s.life∧(s.left= -1→(laysR l d c s i k).2=0∧(laysR l d c s i k).1.left= -1)
 |0,i,s,hk,h,_,hat=>⟨i,by omega,h,hat,.inl ⟨rfl,by omega⟩,rfl,fun q=>⟨rfl,q⟩⟩
 |k+1,i,s,hk,h,hok,hat=>by
  have hn:=h.n0
  have he:=h.ends
  have hlen:=h.len
  have hm:=Nat.mod_lt (H+i) (show 0<n by omega)
  have hpl:=partR_len (d:=d) (i:=i) hc om_
  have hc17:c≤17:=by unfold countR at hc;omega
  obtain ⟨K,hK⟩:∃K,K=2+(H+i)%n:=⟨_,rfl⟩
  obtain ⟨X,hX⟩:∃X,X=partF (s.now K) E (H+i) i c (partR d i):=⟨_,rfl⟩
  have hlay:layR s l d i c=s.writeR ((K:Nat):Int) X:=by
   rw [hl,hX,hK]
   show s.writeR ((0+2+(H+i)%n:Nat):Int) (sealF (s.now (0+2+(H+i)%n)) (bodyR E (H+i) i c (partR d i))).1=_
   rw [Nat.zero_add];rfl
  have hXl:X.length=512:=by
   rw [hX,partF_form (hok.now om_) hpl.2.2]
   exact length_form _ (by rw [length_bodyR];omega)
  unfold laysR
  rw [hlay]
  by_cases hz:s.left=0
  ·have hne:(s.writeR ((K:Nat):Int) X).2≠0:=by
    intro q
    exact (writeR_ok q).2.2.2.1 hz
   obtain ⟨e1,e2,e3,_,e5⟩:=writeR_no hne
   have el:=(Did.write s ((K:Nat):Int) X).life
   rw [if_pos hne]
   obtain ⟨s',hs'⟩:∃s',s'=(s.writeR ((K:Nat):Int) X).1:=⟨_,rfl⟩
   rw [←hs'] at e1 e2 e3 el ⊢
   refine ⟨i,by omega,h.same e1 e2,fun m hm=> ?_,.inr ⟨e5 hz,by omega,by rw [e3];exact hz⟩,el,fun q=>by omega⟩
   rw [←hat m hm]
   unfold pcAt
   rw [now_congr e1 e2]
  ·have hgo:=writeR_go (k:=K) (d:=X) hz om_ hXl
   rw [hgo,if_neg (fun q=>q rfl)]
   obtain ⟨g1,g2,g3⟩:=h.write hok (i:=i) (c:=c) (d:=partR d i) om_ hpl.2.2 hE om_ om_ om_ hK hX
   have hok':DOk (s.wrote K X):=by
    have:=hok.write ((K:Nat):Int) X
    rw [hgo] at this;exact this
   obtain ⟨j,j1,j2,j3,j4,j5,j6⟩:=lays_core hl hc h1 hE hH hp k (i+1) (s.wrote K X) om_ g1 hok' (fun m hm=>by
    by_cases hmi:m=i
    ·rw [hmi];exact g2
    ·rw [g3 (H+m) fun e=>by
      have:=mod_eq_far (n:=n) (p:=H+m) (q:=H+i) e om_ om_
      omega]
     exact hat m om_)
   refine ⟨j,j1,j2,j3,j4,j5,fun q=>j6 ?_⟩
   show spent s.left= -1
   rw [q];rfl
theorem append_core {s:Dsk}{l:Lg}(hl:l=⟨0,n,s.life,E,top,T,H,true⟩)(h:Core s n E T Y H H R low)(hok:DOk s)(hz:s.left≠0)(hE:E<4294967296)(hb:H+17≤1073741824)(d:List UInt8):
  ((appendR s l d).2.2=0∧1≤d.length∧d.length≤8364∧(appendR s l d).2.1=⟨0,n,s.life,E,top,T,H+countR d.length,true⟩∧countR d.length≤17∧H+countR d.length≤T+n∧Core (appendR s l d).1 n E T Y (H+countR d.length) (H+countR d.length) (R++[d]) low∧(s.left= -1→(appendR s l d).1.left= -1)∧(appendR s l d).1.life=s.life)∨
  ((appendR s l d).2.2≠0∧(appendR s l d).2.2≠3∧appendR s l d=(s,l,(appendR s l d).2.2)∧(1≤d.length→d.length≤8364→(appendR s l d).2.2=40∧T+n<H+countR d.length))∨
  ((appendR s l d).2.2=3∧(appendR s l d).1.left=0∧(appendR s l d).2.1=l∧s.left≠ -1∧(appendR s l d).1.life=s.life∧∃j,Core (appendR s l d).1 n E T Y H (H+j) R low∧NoRec (pcAt (appendR s l d).1 0 n) E H):=by
 have he:=h.ends
 have ha:aliveR s l=true:=alive_iff.2 ⟨hz,by rw [hl]⟩
 have hr:readyR s l=0:=ready_iff.2 ⟨ha,by rw [hl]⟩
 have e1:l.head=H:=by rw [hl]
 have e2:l.tail=T:=by rw [hl]
 have e3:l.n=n:=by rw [hl]
 unfold appendR
 rw [if_neg om_,e1,e2,e3]
 by_cases h0:d.length=0
 ·rw [if_pos h0];exact .inr (.inl ⟨by show (2:Int)≠0;decide,by show (2:Int)≠3;decide,rfl,fun q=>by omega⟩)
 ·rw [if_neg h0]
  by_cases h7:8364<d.length
  ·rw [if_pos h7];exact .inr (.inl ⟨by show (7:Int)≠0;decide,by show (7:Int)≠3;decide,rfl,fun _ q=>by omega⟩)
  ·rw [if_neg h7]
   obtain ⟨c,hc⟩:∃c,c=countR d.length:=⟨_,rfl⟩
   have hc17:c≤17:=by unfold countR at hc;omega
   rw [←hc,if_neg om_]
   by_cases h40:n<H-T+c
   ·rw [if_pos h40];exact .inr (.inl ⟨by show (40:Int)≠0;decide,by show (40:Int)≠3;decide,rfl,fun _ _=>⟨rfl,by omega⟩⟩)
   ·rw [if_neg h40]
    obtain ⟨j,j1,j2,j3,j4,j5,j6⟩:=lays_core hl hc om_ hE om_ om_ c 0 s om_ h hok (fun j hj=>absurd hj (Nat.not_lt_zero _))
    obtain ⟨r,hrr⟩:∃r,r=laysR l d c s 0 c:=⟨_,rfl⟩
    rw [←hrr] at j2 j3 j4 j5 j6
    simp only []
    rw [←hrr]
    rcases j4 with ⟨q1,rfl⟩|⟨q1,q2,q3⟩
    ·rw [if_neg om_]
     have hrec:=parts_rec hc om_ om_ j3
     have hcat:=parts_cat (pc:=pcAt r.1 0 n) (H:=H) hc (fun i hi=>by rw [j3 i hi])
     refine .inl ⟨rfl,by omega,by omega,by rw [hl],by omega,by omega, ?_,fun q=>(j6 q).2,j5⟩
     show Core r.1 n E T Y (H+j) (H+j) (R++[d]) low
     have hR:=j2.recs.step hrec
     rw [hcat] at hR
     have hlow:=j2.low
     refine ⟨j2.n0,j2.len,j2.sgl,by omega,j2.keys,j2.pair,j2.old,hR,by rw [List.length_append];omega, ?_⟩
     rw [List.take_append_of_le_length hlow.1];exact hlow.2
    ·rw [if_pos om_]
     refine .inr (.inr ⟨q1,q3,rfl,fun q=>by have:=(j6 q).2;omega,j5,j,j2,fun c' hr'=> ?_⟩)
     by_cases hj0:j=0
     ·subst hj0
      exact j2.none (q:=H) om_ (by have:=hr'.part 0 hr'.c1;rwa [Nat.add_zero] at this)
     ·have e0:=j3 0 om_
      rw [Nat.add_zero] at e0
      have hcc:c=c':=by have:=hr'.cnt;rw [e0] at this;exact this
      exact j2.none (q:=H+j) (Nat.le_refl _) (hr'.part j om_)
end
end
section
theorem renew_over {a b:List UInt8}{no:Int}(ha:a.length=512)(hb:b.length=512)(h:(renewF a b no []).2.2=0):Over (if (renewF a b no []).1=1 then b else a) (renewF a b no []).2.1:=by
 have h8:(le8 no++[]).length≤504:=by simp [le8]
 have key:∀o:List UInt8,o.length=512→Over o (sealF o (le8 no++[])).1:=fun o ho=>⟨ho,_,h8,by unfold sealF;rw [if_neg om_,if_neg om_]⟩
 by_cases h1:no<1
 ·exfalso
  unfold renewF at h
  rw [if_neg (fun hh=>hh ⟨ha,hb⟩),if_pos h1] at h
  cases h
 ·have e:=renew_mid (l:=a) (r:=b) (no:=no) (d:=[]) ⟨ha,hb⟩ h1 dc_
  by_cases h3:(newestF a b).2.2.2=0∧no≤((newestF a b).2.1:Int)
  ·rw [if_pos h3] at e
   rw [e] at h;cases h
  ·rw [if_neg h3] at e
   by_cases hC:(newestF a b).2.2.2=0∧(newestF a b).1=0
   ·rw [if_pos hC] at e
    rw [e]
    show Over (if (1:Nat)=1 then b else a) _
    rw [if_pos rfl];exact key b hb
   ·rw [if_neg hC] at e
    rw [e]
    show Over (if (0:Nat)=1 then b else a) _
    rw [if_neg dc_];exact key a ha
theorem now_lst {s:Dsk}(hp:s.pend=[])(k:Nat):s.now k=s.lst k:=now_nil hp k
theorem renew_two {s:Dsk}(hok:DOk s)(hp:s.pend=[])(hz:s.left≠0)(hf:2≤s.last.length){no:Nat}(hno:no≤9223372036854775807)(hren:(renewF (s.now 0) (s.now (0+1)) (no:Int) []).2.2=0):
  ((renewR s 0 no).2=0∧(renewR s 0 no).1.pend=[]∧(∃x,newestF ((renewR s 0 no).1.lst 0) ((renewR s 0 no).1.lst 1)=(x,no,[],0))∧∀k,2≤k→k<s.last.length→(renewR s 0 no).1.lst k=s.lst k)∨
  ((renewR s 0 no).2=3∧(renewR s 0 no).1.left=0∧Sgl (renewR s 0 no).1∧∀x,CutOf (renewR s 0 no).1 x→((∃q,newestF (x.lst 0) (x.lst 1)=(q,no,[],0))∨newestF (x.lst 0) (x.lst 1)=newestF (s.lst 0) (s.lst 1))∧∀k,2≤k→k<s.last.length→x.lst k=s.lst k):=by
 have h0:=hok.now (k:=0) om_
 have h1:=hok.now (k:=1) om_
 obtain ⟨q1,q5⟩:=renew_ok h0 (hok.now (k:=0+1) om_) hren
 obtain ⟨g1,g2,g3,g4⟩:=renewR_good hok (f:=0) om_ hno hren
 have hgo:=renewR_go (first:=0) hz om_ q1 q5
 have hov:=renew_over h0 h1 hren
 have hdid:=(renewR_did s 0 no).2
 rcases flushR_err (s.anch 0 no) with ⟨f1,f2,f3⟩|⟨f1,f2,f3⟩
 ·left
  have e0:(renewR s 0 no).2=0:=by rw [hgo];exact f1
  have ep:(renewR s 0 no).1.pend=[]:=by rw [hgo];exact f2
  obtain ⟨x,hx⟩:=g1 e0
  refine ⟨e0,ep,⟨x, ?_⟩,fun k k1 k2=> ?_⟩
  ·rw [←now_lst ep,←now_lst ep];exact hx
  ·rw [←now_lst ep,←now_lst hp];exact g4 k om_ om_ k2
 ·right
  rcases renew_told (a:=s.now 0) (b:=s.now (0+1)) (no:=(no:Int)) (d:=[]) ⟨h0,h1⟩ (Nat.zero_le _) om_ with ⟨g,_⟩|⟨_,_,g⟩
  ·exact absurd hren g
  have hslot:=g.slot
  have htorn:=g.torn
  have hnew:=g.new
  obtain ⟨r,hr⟩:∃r,renewF (s.now 0) (s.now (0+1)) (no:Int) []=r:=⟨_,rfl⟩
  have hov:Over (if r.1=1 then s.now (0+1) else s.now 0) r.2.1:=by rw [←hr];exact hov
  rw [hr] at hslot htorn hnew q1 q5
  have hs1:(renewR s 0 no).1=s.anch 0 no:=by rw [hgo];exact f2
  have hap:(s.anch 0 no).pend=[(r.1,r.2.1)]:=by
   show s.pend++[(0+(renewF (s.now 0) (s.now (0+1)) (no:Int) []).1,(renewF (s.now 0) (s.now (0+1)) (no:Int) []).2.1)]=_
   rw [hp,hr,Nat.zero_add];rfl
  have hal:(s.anch 0 no).last=s.last:=rfl
  refine ⟨by rw [hgo];exact f1,by rw [hs1];exact f3, ?_,fun x c=> ?_⟩
  ·rw [hs1]
   refine ⟨by rw [hap];simp,fun y hy=> ?_⟩
   rw [hap,List.mem_singleton] at hy
   subst hy
   rw [hal]
   rcases hslot with e|e
   ·rw [if_neg (by rw [e];decide),now_lst hp] at hov
    rw [e];exact hov
   ·rw [if_pos e,now_lst hp] at hov
    rw [e];exact hov
  ·rw [hs1] at c
   have c1:=c.one (r.1,r.2.1) (by rw [hap];exact List.mem_singleton.2 rfl)
   have cf:∀k,k≠r.1→k<s.last.length→x.lst k=s.lst k:=fun k k1 k2=>c.free k k2 (fun y hy e=>by
    rw [hap,List.mem_singleton] at hy
    subst hy
    exact k1 e.symm)
   refine ⟨?_,fun k k1 k2=>cf k om_ k2⟩
   rw [hal] at c1
   have hlen:(x.lst r.1).length=512:=by
    rcases c1 with e|e|e
    ·show (x.last.getD r.1 []).length=512
     rw [e,List.getD_eq_getElem?_getD,List.getElem?_eq_getElem (show r.1<s.last.length by omega)]
     exact hok.len _ (List.getElem_mem _)
    ·show (x.last.getD r.1 []).length=512
     rw [e];exact q5
    ·show (x.last.getD r.1 []).length=512
     refine Classical.byContradiction fun hne=> ?_
     have:openF (x.last.getD r.1 [])=([],2):=by unfold openF;rw [if_pos hne]
     rw [this] at e
     exact absurd (congrArg (·.2) e) dc_
   have hx:=htorn (x.lst r.1) (by
    rcases c1 with e|e|e
    ·left
     show x.last.getD r.1 []=_
     rw [e]
     rcases hslot with e2|e2
     ·rw [if_neg (by rw [e2];decide),e2,now_lst hp];rfl
     ·rw [if_pos e2,e2,now_lst hp];rfl
    ·exact .inr (.inl e)
    ·exact .inr (.inr e)) hlen
   have hpair:(putIn (s.now 0) (s.now (0+1)) r.1 (x.lst r.1)).1=x.lst 0∧(putIn (s.now 0) (s.now (0+1)) r.1 (x.lst r.1)).2=x.lst 1:=by
    rcases hslot with e|e
    ·rw [e]
     exact ⟨rfl,by show s.now (0+1)=_;rw [now_lst hp,cf 1 om_ om_]⟩
    ·rw [e]
     exact ⟨by show s.now 0=_;rw [now_lst hp,cf 0 om_ om_],rfl⟩
   rw [hpair.1,hpair.2] at hx
   rcases hx with hx|hx
   ·left;exact ⟨r.1,hx⟩
   ·right;rw [hx,now_lst hp,now_lst hp]
section
variable {s:Dsk}{n E T Y H H':Nat}{R:List (List UInt8)}{low:Nat}
structure Flat (s:Dsk)(n E T:Nat)(R:List (List UInt8))(H:Nat):Prop where
 n0:18≤n∧n≤256
 len:s.last.length=n+2
 pend:s.pend=[]
 pair:∃x,newestF (s.lst 0) (s.lst 1)=(x,E*4294967296+T,[],0)
 old:∀k,k<n→(pcF (s.lst (2+k))).epoch≤E
 recs:Recs (pcAt s 0 n) E T R H
 no:NoRec (pcAt s 0 n) E H
theorem pcAt_flat {s x:Dsk}(hp:s.pend=[])(hx:x.pend=[]){n:Nat}(hn:0<n)(hl:n+2≤s.last.length)(h:∀k,2≤k→k<s.last.length→x.lst k=s.lst k):pcAt x 0 n=pcAt s 0 n:=by
 funext p
 have hm:=Nat.mod_lt p hn
 unfold pcAt
 rw [now_lst hp,now_lst hx,h _ om_ om_]
theorem recs_of_none {pc:Nat→Pc}{E a:Nat}(h:∀c,¬IsRec pc E a c){R:List (List UInt8)}{hd:Nat}(r:Recs pc E a R hd):R=[]:=by
 have h1:R=[]∧hd=a∨False:=by
  induction r with
  |nil=>exact .inl ⟨rfl,rfl⟩
  |step _ hr ih=>
   rcases ih with ⟨rfl,rfl⟩|q
   ·exact .inr (h _ hr)
   ·exact .inr q
 exact (h1.elim id False.elim).1
theorem Flat.left (h:Flat s n E T R H){x:Dsk}(hx:x.pend=[])(hpair:newestF (x.lst 0) (x.lst 1)=newestF (s.lst 0) (s.lst 1))(hr:∀k,2≤k→k<s.last.length→x.lst k=s.lst k):Left x n E T R R.length:=by
 have hn:=h.n0
 have hl:=h.len
 have e:=pcAt_flat h.pend hx (n:=n) om_ om_ hr
 refine ⟨by rw [hpair];exact h.pair,fun k hk=>by rw [hr (2+k) om_ om_];exact h.old k hk,fun R' h' r n'=> ?_⟩
 rw [e] at r n'
 obtain ⟨q1,q2⟩:=Recs.pre _ (Nat.le_refl _) r h.recs h.no
 obtain ⟨q3,_⟩:=Recs.pre _ (Nat.le_refl _) h.recs r n'
 exact ⟨q3,q1,q2⟩
theorem left_none {s x:Dsk}{n E T:Nat}(hs:s.pend=[])(hx:x.pend=[])(hn:18≤n)(hl:s.last.length=n+2)(hpair:∃q,newestF (x.lst 0) (x.lst 1)=(q,E*4294967296+T,[],0))(hr:∀k,2≤k→k<s.last.length→x.lst k=s.lst k)(hold:∀k,k<n→(pcF (s.lst (2+k))).epoch≤E)(hno:NoRec (pcAt s 0 n) E T)(low:Nat)(hlow:low=0):Left x n E T [] low:=by
 have e:=pcAt_flat hs hx (n:=n) om_ om_ hr
 refine ⟨hpair,fun k hk=>by rw [hr (2+k) om_ om_];exact hold k hk,fun R' h' r n'=> ?_⟩
 rw [e] at r
 have:=recs_of_none hno r
 subst this
 exact ⟨by omega,Nat.le_refl _,rfl⟩
theorem no_epoch {s:Dsk}{n E T:Nat}(hp:s.pend=[])(hn:0<n)(h:∀k,k<n→(pcF (s.lst (2+k))).epoch≤E):NoRec (pcAt s 0 n) (E+1) T:=fun c hr=>by
 have h1:=(hr.part 0 hr.c1).epoch
 have hm:=Nat.mod_lt (T+0) hn
 unfold pcAt at h1
 rw [Nat.zero_add,now_lst hp] at h1
 have:=h _ hm
 omega
theorem start_core (h:Flat s n E T R H)(hok:DOk s){l:Lg}(hl:l=⟨0,n,s.life,E,E,T,H,false⟩)(hE:E<1073741824)(hT:T≤1073741824):
  (s.left≠0∧(startR s l).2.2=0∧(startR s l).2.1=⟨0,n,s.life,E+1,E,0,0,true⟩∧Core (startR s l).1 n (E+1) 0 0 0 0 [] 0∧(startR s l).1.life=s.life)∨
  ((startR s l).2.2=3∧(startR s l).1.left=0∧(startR s l).2.1=l∧Sgl (startR s l).1∧(startR s l).1.life=s.life∧∀x,CutOf (startR s l).1 x→Left x n E T R R.length∨Left x n (E+1) 0 [] 0):=by
 have hn:=h.n0
 have hlen:=h.len
 have hcut0:∀x,CutOf s x→Left x n E T R R.length:=fun x c=>by
  have hf:∀k,k<s.last.length→x.lst k=s.lst k:=fun k hk=>c.free k hk (by rw [h.pend];intro y hy;cases hy)
  exact h.left c.pend (by rw [hf 0 om_,hf 1 om_]) fun k _ hk=>hf k hk
 by_cases hz:s.left=0
 ·have ha:aliveR s l=false:=alive_burnt hz
  have e:startR s l=(s,l,3):=by unfold startR;rw [if_pos ha]
  rw [e]
  exact .inr ⟨rfl,hz,rfl,Sgl.nil h.pend,rfl,fun x c=>.inl (hcut0 x c)⟩
 ·have ha:aliveR s l=true:=alive_iff.2 ⟨hz,by rw [hl]⟩
  have hno:(E+1)*4294967296+0≤9223372036854775807:=by omega
  have hlw:Low s 0 (E*4294967296+T):=by
   obtain ⟨x,hx⟩:=h.pair
   refine .inr ?_
   show (newestF (s.now 0) (s.now 1)).2.1≤_
   rw [now_lst h.pend,now_lst h.pend,hx];exact Nat.le_refl _
  have hren:=hlw.ren hok om_ (no':=(E+1)*4294967296+0) om_ hno
  have e:startR s l=if (renewR s 0 ((E+1)*4294967296+0)).2≠0 then ((renewR s 0 ((E+1)*4294967296+0)).1,l,(renewR s 0 ((E+1)*4294967296+0)).2) else ((renewR s 0 ((E+1)*4294967296+0)).1,⟨0,n,s.life,E+1,E,0,0,true⟩,0):=by
   unfold startR
   rw [if_neg (by rw [ha];decide),hl]
   rfl
  have hlife:=(renewR_did s 0 ((E+1)*4294967296+0)).1.life
  have hlen2:=(renewR_did s 0 ((E+1)*4294967296+0)).1.len
  rcases renew_two hok h.pend hz om_ hno hren with ⟨q1,q2,q3,q4⟩|⟨q1,q2,q3,q4⟩
  ·obtain ⟨r,hr⟩:∃r,r=renewR s 0 ((E+1)*4294967296+0):=⟨_,rfl⟩
   rw [←hr] at q1 q2 q3 q4 e hlife hlen2
   rw [e,if_neg om_]
   refine .inl ⟨hz,rfl,rfl, ?_,hlife⟩
   have hold:∀k,k<n→(pcF (r.1.lst (2+k))).epoch≤E:=fun k hk=>by rw [q4 (2+k) om_ om_];exact h.old k hk
   refine ⟨hn,by show r.1.last.length=n+2;omega,Sgl.nil q2,by omega,(by rw [show (r.1,(⟨0,n,s.life,E+1,E,0,0,true⟩:Lg),(0:Int)).1.pend=[] from q2];intro y hy;cases hy),q3,fun k hk=>⟨?_,fun q=> ?_⟩,.nil,Nat.le_refl _,.nil⟩
   ·have:=hold k hk
    show (pcF (r.1.lst (2+k))).epoch≤E+1
    omega
   ·have:=hold k hk
    have q:(pcF (r.1.lst (2+k))).epoch=E+1:=q
    omega
  ·obtain ⟨r,hr⟩:∃r,r=renewR s 0 ((E+1)*4294967296+0):=⟨_,rfl⟩
   rw [←hr] at q1 q2 q3 q4 e hlife hlen2
   rw [e,if_pos om_]
   refine .inr ⟨q1,q2,rfl,q3,hlife,fun x c=> ?_⟩
   obtain ⟨a1,a2⟩:=q4 x c
   rcases a1 with a1|a1
   ·exact .inr (left_none h.pend c.pend hn.1 hlen a1 a2 (fun k hk=>by have:=h.old k hk;omega) (no_epoch h.pend om_ h.old) 0 rfl)
   ·exact .inl (h.left c.pend a1 a2)
theorem trim_core (h:Core s n E T Y H H R low)(hok:DOk s){l:Lg}{top:Nat}(hl:l=⟨0,n,s.life,E,top,T,H,true⟩)(hz:s.left≠0)(hE:E<1073741824)(hH:H≤1073741824):
  ((trimR s l).2.2=0∧(trimR s l).2.1=⟨0,n,s.life,E,top,H,H,true⟩∧Core (trimR s l).1 n E H H H H [] 0∧(trimR s l).1.life=s.life)∨
  ((trimR s l).2.2=3∧(trimR s l).1.left=0∧(trimR s l).2.1=l∧Sgl (trimR s l).1∧(trimR s l).1.life=s.life∧∀x,CutOf (trimR s l).1 x→Left x n E T R R.length∨Left x n E H [] 0):=by
 have hn:=h.n0
 have he:=h.ends
 have hlen:=h.len
 have ha:aliveR s l=true:=alive_iff.2 ⟨hz,by rw [hl]⟩
 have hr0:readyR s l=0:=ready_iff.2 ⟨ha,by rw [hl]⟩
 have e1:l.head=H:=by rw [hl]
 have e2:l.tail=T:=by rw [hl]
 have e3:l.first=0:=by rw [hl]
 have e4:l.epoch=E:=by rw [hl]
 have hc:=h.flush hz
 obtain ⟨f1,f2⟩:s.flushR.2=0∧s.flushR.1.pend=[]:=by
  rcases flushR_err s with q|q
  ·exact ⟨q.1,q.2.1⟩
  ·exact absurd q.2.2 hz
 have flife:=(Did.flush s).life
 obtain ⟨f,hf⟩:∃f,f=s.flushR:=⟨_,rfl⟩
 have hokf:DOk f.1:=by rw [hf];exact hok.flush
 rw [←hf] at hc f1 f2 flife
 unfold trimR
 rw [if_neg om_,←hf,e1,e2,e3,e4]
 have hcl:=hc.len
 by_cases ht:T=H
 ·rw [if_pos (.inr ht)]
  subst ht
  have hR:R=[]:=by
   have:=h.recs.count
   exact List.eq_nil_of_length_eq_zero om_
  subst hR
  exact .inl ⟨f1,hl,hc,flife⟩
 ·rw [if_neg (fun q=>q.elim (fun q=>q f1) ht)]
  by_cases hz2:f.1.left=0
  ·rw [renewR_dead hz2]
   simp only []
   rw [if_pos dc_]
   refine .inr ⟨rfl,hz2,rfl,hc.sgl,flife,fun x c=>.inl ?_⟩
   exact hc.cut hc.no c
  ·have hno:E*4294967296+H≤9223372036854775807:=by omega
   have hlw:Low f.1 0 (E*4294967296+T):=by
    obtain ⟨x,hx⟩:=hc.pair
    refine .inr ?_
    show (newestF (f.1.now 0) (f.1.now 1)).2.1≤_
    rw [now_lst f2,now_lst f2,hx];exact Nat.le_refl _
   have hren:=hlw.ren hokf om_ (no':=E*4294967296+H) om_ hno
   have hlife:=(renewR_did f.1 0 (E*4294967296+H)).1.life
   have hlen2:=(renewR_did f.1 0 (E*4294967296+H)).1.len
   have hflat:Flat f.1 n E T R H:=⟨hn,hcl,f2,hc.pair,fun k hk=>(hc.old k hk).1,hc.recs,hc.no⟩
   rcases renew_two hokf f2 hz2 om_ hno hren with ⟨q1,q2,q3,q4⟩|⟨q1,q2,q3,q4⟩
   ·obtain ⟨r,hr⟩:∃r,r=renewR f.1 0 (E*4294967296+H):=⟨_,rfl⟩
    rw [←hr] at q1 q2 q3 q4 hlife hlen2
    simp only []
    rw [←hr,if_neg om_]
    refine .inl ⟨rfl,by rw [hl], ?_,hlife.trans flife⟩
    show Core r.1 n E H H H H [] 0
    exact ⟨hn,by omega,Sgl.nil q2,by omega,(by rw [q2];intro y hy;cases hy),q3,fun k hk=>by rw [q4 (2+k) om_ om_];exact hc.old k hk,.nil,Nat.le_refl _,.nil⟩
   ·obtain ⟨r,hr⟩:∃r,r=renewR f.1 0 (E*4294967296+H):=⟨_,rfl⟩
    rw [←hr] at q1 q2 q3 q4 hlife hlen2
    simp only []
    rw [←hr,if_pos om_]
    refine .inr ⟨q1,q2,rfl,q3,hlife.trans flife,fun x c=> ?_⟩
    obtain ⟨a1,a2⟩:=q4 x c
    rcases a1 with a1|a1
    ·exact .inr (left_none f2 c.pend hn.1 hcl a1 a2 (fun k hk=>(hc.old k hk).1) hc.no 0 rfl)
    ·exact .inl (hflat.left c.pend a1 a2)
end
end
theorem write_m {s:Dsk}{k:Nat}{d:List UInt8}(h:s.left= -1)(hk:k<s.last.length)(hd:d.length=512):(s.writeR (k:Int) d).2=0∧(s.writeR (k:Int) d).1=s.wrote k d∧(s.wrote k d).left= -1:=by
 rw [writeR_go om_ hk hd]
 exact ⟨rfl,rfl,by show spent s.left= -1;rw [h];rfl⟩
theorem flush_m {s:Dsk}(h:s.left= -1):s.flushR.2=0∧s.flushR.1.left= -1:=by
 rcases flushR_cases s with ⟨q,e⟩|⟨q,e⟩
 ·omega
 ·rw [e];exact ⟨rfl,by show spent s.left= -1;rw [h];rfl⟩
structure Zero (s:Dsk):Prop where
 left:s.left= -1
 len:s.last.length=20
 now:∀j,j<20→s.now j=zsec
structure FrD (s:Dsk)(no:Nat):Prop where
 left:s.left= -1
 len:s.last.length=20
 pair:∃x,newestF (s.now 0) (s.now 1)=(x,no,[],0)
 ring:∀j,2≤j→j<20→s.now j=zsec
theorem Zero.flush {s:Dsk}(h:Zero s):Zero s.flushR.1:=⟨(flush_m h.left).2,(Did.flush s).len.trans h.len,fun j hj=>(now_flushR (by rw [h.len];exact hj)).trans (h.now j hj)⟩
theorem DOk.take {s:Dsk}(h:DOk s):DOk s.take:=⟨h.len,h.plen,h.n1,h.n2,h.lb⟩
theorem DOk.zeros:∀(k a:Nat) (s:Dsk),DOk s→DOk (zerosR s a k).1
 |0,_,_,h=>h
 |k+1,a,s,h=>by
  unfold zerosR
  split
  ·exact h.write _ _
  ·exact DOk.zeros k (a+1) _ (h.write _ _)
theorem pc_zero:pcF zsec=pcNo:=by
 have h:(openF zsec).1.length<12:=by
  unfold openF
  split
  ·decide
  ·split
   ·decide
   ·split
    ·rw [List.length_take,show (zsec.getD 1 0).toNat+256*(zsec.getD 2 0).toNat=0 from by decide];omega
    ·decide
 unfold pcF;rw [if_neg om_]
theorem FrD.take {s:Dsk}{no:Nat}(h:FrD s no):FrD s.take no:=⟨h.left,h.len,h.pair,h.ring⟩
theorem FrD.flush {s:Dsk}{no:Nat}(h:FrD s no):FrD s.flushR.1 no:=by
 have hl:=h.len
 refine ⟨(flush_m h.left).2,(Did.flush s).len.trans hl, ?_,fun j h2 h3=>(now_flushR om_).trans (h.ring j h2 h3)⟩
 rw [now_flushR om_,now_flushR om_];exact h.pair
theorem FrD.newR {s:Dsk}(h:FrD s 4294967296):newR s 0=some (1,0):=by
 obtain ⟨x,hx⟩:=h.pair
 have hx':newestF (s.now 0) (s.now (0+1))=(x,4294967296,[],0):=hx
 rw [newR_some (f:=0) (by rw [hx'];simp),hx']
 exact congrArg some (Prod.ext (show 4294967296/4294967296=1 by decide) (show 4294967296%4294967296=0 by decide))
theorem topTo_no {pc:Nat→Pc}(h:∀p,pc p=pcNo)(e:Nat):∀k,topTo pc e k=e
 |0=>rfl
 |k+1=>by
  unfold topTo
  rw [h,topTo_no h e k]
  exact (if_pos (show pcNo.epoch≤1073741824 from Nat.zero_le _)).trans (Nat.max_eq_left (Nat.zero_le _))
theorem recs_no {pc:Nat→Pc}(h:∀p,pc p=pcNo){e a:Nat}{R:List (List UInt8)}{hd:Nat}(r:Recs pc e a R hd):R=[]∧hd=a:=by
 cases r with
 |nil=>exact ⟨rfl,rfl⟩
 |step _ hr=>exact absurd (show (pc _).data=[] from by rw [h];rfl) (hr.part 0 hr.c1).data
structure ZeroN (n:Nat)(s:Dsk):Prop where
 left:s.left= -1
 len:s.last.length=n+2
 now:∀j,j<n+2→s.now j=zsec
theorem zeros_zN {n:Nat}:∀(k a:Nat) (s:Dsk),a+k≤n+2→ZeroN n s→(zerosR s a k).2=0∧ZeroN n (zerosR s a k).1
 |0,_,_,_,h=>⟨rfl,h⟩
 |k+1,a,s,ha,h=>by
  obtain ⟨h1,h2,h3⟩:=write_m (k:=a) (d:=zsec) h.left (by rw [h.len];omega) zsec_len
  unfold zerosR
  rw [if_neg om_,h2]
  refine zeros_zN k (a+1) _ om_ ⟨h3,h.len,fun j hj=> ?_⟩
  rw [now_write (s:=s) (s':=s.wrote a zsec) rfl rfl j]
  split
  ·rfl
  ·exact h.now j hj
structure FrN (n:Nat)(s:Dsk)(no:Nat):Prop where
 left:s.left= -1
 len:s.last.length=n+2
 pair:∃x,newestF (s.now 0) (s.now 1)=(x,no,[],0)
 ring:∀j,2≤j→j<n+2→s.now j=zsec
theorem renew_N {n:Nat}{s:Dsk}(hok:DOk s){no:Nat}(h:s.left= -1)(hlen:s.last.length=n+2)(hr:∀j,2≤j→j<n+2→s.now j=zsec)(hno:no≤9223372036854775807)(hren:(renewF (s.now 0) (s.now (0+1)) (no:Int) []).2.2=0):(renewR s 0 no).2=0∧FrN n (renewR s 0 no).1 no∧(renewR s 0 no).1.pend=[]∧(renewR s 0 no).1.life=s.life:=by
 obtain ⟨g1,g2,g3,g4⟩:=renewR_good hok (f:=0) (no:=no) om_ hno hren
 obtain ⟨q1,q5⟩:=renew_ok (hok.now om_) (hok.now om_) hren
 have hl:(renewR s 0 no).1.left= -1:=by
  rw [renewR_go om_ om_ q1 q5]
  exact (flush_m (s:=s.anch 0 no) (by show spent s.left= -1;rw [h];rfl)).2
 have he:(renewR s 0 no).2=0:=Classical.not_not.1 fun q=>by have:=g2 q;omega
 exact ⟨he,⟨hl,(renewR_did s 0 no).1.len.trans hlen,g1 he,fun j h2 h3=>(g4 j om_ om_ om_).trans (hr j h2 h3)⟩,g3 om_,(renewR_did s 0 no).1.life⟩
theorem ZeroN.flush {n:Nat}{s:Dsk}(h:ZeroN n s):ZeroN n s.flushR.1:=⟨(flush_m h.left).2,(Did.flush s).len.trans h.len,fun j hj=>(now_flushR (by rw [h.len];exact hj)).trans (h.now j hj)⟩
theorem args_N {n:Nat}{s:Dsk}(h:s.left= -1)(hl:s.last.length=n+2)(h1:18≤n)(h2:n≤256):argsR s 0 (n:Int)=0:=by
 unfold argsR
 rw [if_neg om_,if_neg om_,if_neg om_,if_neg om_]
theorem format_N {n:Nat}{s:Dsk}(hok:DOk s)(h:ZeroN n s)(h1:18≤n)(h2:n≤256):(formatR s 0 (n:Int)).2=0∧FrN n (formatR s 0 (n:Int)).1 4294967296∧(formatR s 0 (n:Int)).1.pend=[]∧(formatR s 0 (n:Int)).1.life=inc s.life:=by
 have ht:ZeroN n s.take:=⟨h.left,h.len,h.now⟩
 obtain ⟨g1,g2⟩:=zeros_zN (n+2) 0 s.take om_ ht
 have hk:DOk (zerosR s.take 0 (n+2)).1.flushR.1:=(DOk.zeros (n+2) 0 s.take hok.take).flush
 have hf:=flush_m g2.left
 have hz:=g2.flush
 have ha:=args_N h.left h.len h1 h2
 have e:formatR s 0 (n:Int)=renewR (zerosR s.take 0 (n+2)).1.flushR.1 0 4294967296:=by
  unfold formatR
  rw [if_neg om_]
  show (if (zerosR s.take 0 ((n:Int).toNat+2)).2≠0 then zerosR s.take 0 ((n:Int).toNat+2) else if (zerosR s.take 0 ((n:Int).toNat+2)).1.flushR.2≠0 then (zerosR s.take 0 ((n:Int).toNat+2)).1.flushR else renewR (zerosR s.take 0 ((n:Int).toNat+2)).1.flushR.1 0 4294967296)=_
  rw [Int.toNat_natCast,if_neg om_,if_neg om_]
 obtain ⟨r1,r2,r3,r4⟩:=renew_N hk hz.left hz.len (fun j _ h3=>hz.now j h3) (no:=4294967296) dc_ (by rw [hz.now 0 om_,hz.now (0+1) om_];exact renew_zeros dc_)
 refine ⟨by rw [e];exact r1,by rw [e];exact r2,by rw [e];exact r3, ?_⟩
 exact (formatR_did ha).life
theorem FrN.pc {n:Nat}{s:Dsk}{no:Nat}(h:FrN n s no)(hn:0<n)(p:Nat):pcAt s 0 n p=pcNo:=by
 have:=Nat.mod_lt p hn
 unfold pcAt
 rw [h.ring _ om_ om_];exact pc_zero
theorem FrN.take {n:Nat}{s:Dsk}{no:Nat}(h:FrN n s no):FrN n s.take no:=⟨h.left,h.len,h.pair,h.ring⟩
theorem FrN.flush {n:Nat}{s:Dsk}{no:Nat}(h:FrN n s no):FrN n s.flushR.1 no:=by
 have hl:=h.len
 refine ⟨(flush_m h.left).2,(Did.flush s).len.trans hl, ?_,fun j h2 h3=>(now_flushR om_).trans (h.ring j h2 h3)⟩
 rw [now_flushR om_,now_flushR om_];exact h.pair
theorem FrN.newR {n:Nat}{s:Dsk}(h:FrN n s 4294967296):newR s 0=some (1,0):=by
 obtain ⟨x,hx⟩:=h.pair
 have hx':newestF (s.now 0) (s.now (0+1))=(x,4294967296,[],0):=hx
 rw [newR_some (f:=0) (by rw [hx'];simp),hx']
 exact congrArg some (Prod.ext (show 4294967296/4294967296=1 by decide) (show 4294967296%4294967296=0 by decide))
theorem start_N {n:Nat}{s:Dsk}(hok:DOk s)(h:FrN n s 4294967296){l:Lg}(hl:l=⟨0,n,s.life,1,1,0,0,false⟩):(startR s l).2.2=0∧(startR s l).2.1=⟨0,n,s.life,2,1,0,0,true⟩∧FrN n (startR s l).1 8589934592∧(startR s l).1.life=s.life∧(startR s l).1.pend=[]:=by
 have hlen:=h.len
 have hleft:=h.left
 obtain ⟨g1,g2,g3,g4⟩:=renew_N hok (no:=8589934592) h.left h.len h.ring dc_ ((Low.of (no:=4294967296) h.pair).ren hok om_ dc_ dc_)
 have ha:aliveR s l=true:=alive_iff.2 ⟨by omega,by rw [hl]⟩
 have e8:(l.top+1)*4294967296+0=8589934592:=by rw [hl];show (1+1)*4294967296+0=8589934592;decide
 have ef:l.first=0:=by rw [hl]
 have hb:l.begun=false:=by rw [hl]
 have e:startR s l=((renewR s 0 8589934592).1,{l with epoch:=l.top+1,tail:=0,head:=0,begun:=true},0):=by
  unfold startR
  rw [if_neg (by rw [ha];decide),if_neg (by rw [hb];decide),e8,ef]
  simp only []
  rw [if_neg om_]
 rw [e];exact ⟨rfl,by rw [hl],g2,g4,g3⟩
theorem zero_mkN {n:Nat}:ZeroN n (Dsk.mk0 (List.replicate (n+2) zsec)):=⟨rfl,by show (List.replicate (n+2) zsec).length=n+2;rw [List.length_replicate],fun j hj=>by
 rw [now_nil rfl]
 show (List.replicate (n+2) zsec).getD j []=zsec
 rw [List.getD_eq_getElem?_getD,List.getElem?_replicate,if_pos hj];rfl⟩
section
def May (B:List (List UInt8))(low:Nat)(none:Bool)(told:List (List UInt8)):Prop:=
 (none=true∧told=[])∨(low≤told.length∧told.length≤B.length∧told=B.take told.length)
structure Cutted (k n:Nat)(x:Dsk)(B:List (List UInt8))(low:Nat)(none:Bool)(E T:Nat):Prop where
 e1:1≤E
 e2:E≤k+2
 t:T≤17*k
 pair:∃q,newestF (x.lst 0) (x.lst 1)=(q,E*4294967296+T,[],0)
 old:∀j,j<n→(pcF (x.lst (2+j))).epoch≤E
 tell:∀R' h',Recs (pcAt x 0 n) E T R' h'→NoRec (pcAt x 0 n) E h'→May B low none R'
def Back (k n:Nat)(s:Dsk)(B:List (List UInt8))(low:Nat)(none:Bool):Prop:=∀x,CutOf s x→∃E T,Cutted k n x B low none E T
theorem Left.cutted {k n E T low low':Nat}{x:Dsk}{R B:List (List UInt8)}{none:Bool}(h:Left x n E T R low)(h1:1≤E)(h2:E≤k+2)(h3:T≤17*k)(hm:∀R',low≤R'.length→R'.length≤R.length→R'=R.take R'.length→May B low' none R'):Cutted k n x B low' none E T:=
 ⟨h1,h2,h3,h.pair,h.old,fun R' h' r n'=>by obtain ⟨q1,q2,q3⟩:=h.tell R' h' r n';exact hm R' q1 q2 q3⟩
theorem Left.cut1 {k n E T low:Nat}{x:Dsk}{R B:List (List UInt8)}{none:Bool}(h:Left x n E T R low)(h1:1≤E)(h2:E≤k+2)(h3:T≤17*k)(hb:R=B.take R.length)(hl:R.length≤B.length):Cutted k n x B low none E T:=
 h.cutted h1 h2 h3 fun R' q1 q2 q3=>.inr ⟨q1,by omega,by
  rw [hb,List.take_take,Nat.min_eq_left q2] at q3;exact q3⟩
theorem Left.cut0 {k n E T low low':Nat}{x:Dsk}{B:List (List UInt8)}(h:Left x n E T [] low)(h1:1≤E)(h2:E≤k+2)(h3:T≤17*k):Cutted k n x B low' true E T:=
 h.cutted h1 h2 h3 fun R' _ q2 _=>.inl ⟨rfl,List.eq_nil_of_length_eq_zero (by simpa using q2)⟩
theorem Cutted.next {k n E T low:Nat}{x:Dsk}{B:List (List UInt8)}{none:Bool}(h:Cutted k n x B low none E T):Cutted (k+1) n x B low none E T:=⟨h.e1,by have:=h.e2;omega,by have:=h.t;omega,h.pair,h.old,h.tell⟩
theorem Cutted.mono {k n E T low:Nat}{x:Dsk}{B:List (List UInt8)}{none:Bool}(h:Cutted k n x B low none E T):Cutted k n x B low true E T:=⟨h.e1,h.e2,h.t,h.pair,h.old,fun R' h' r n'=>(h.tell R' h' r n').elim (fun q=>.inl ⟨rfl,q.2⟩) .inr⟩
structure PInv (k n:Nat)(s:Dsk)(l:Lg)(B:List (List UInt8))(low:Nat)(none:Bool):Prop where
 n0:18≤n∧n≤256
 len:s.last.length=n+2
 ok:DOk s
 life:0≤s.life∧s.life≤2*(k:Int)+5
 lg:LgOk (n+2) l
 pend:s.pend.length≤20*k+300
 st:(none=false∧∃E top T H Y,l=⟨0,n,s.life,E,top,T,H,true⟩∧1≤E∧E≤k+2∧top≤k+2∧H≤17*k∧Core s n E T Y H H B low)∨(s.left=0∧Sgl s∧Back k n s B low none)
theorem PInv.sgl {k n:Nat}{s:Dsk}{l:Lg}{B:List (List UInt8)}{low:Nat}{none:Bool}(h:PInv k n s l B low none):Sgl s:=by
 rcases h.st with ⟨_,E,top,T,H,Y,_,_,_,_,_,hc⟩|⟨_,q,_⟩
 ·exact hc.sgl
 ·exact q
theorem PInv.back {k n:Nat}{s:Dsk}{l:Lg}{B:List (List UInt8)}{low:Nat}{none:Bool}(h:PInv k n s l B low none):Back k n s B low none:=by
 rcases h.st with ⟨_,E,top,T,H,Y,_,h1,h2,_,h3,hc⟩|⟨_,_,q⟩
 ·intro x c
  have he:=hc.ends
  exact ⟨E,T,(hc.cut hc.no c).cut1 h1 h2 om_ (by rw [List.take_length]) (Nat.le_refl _)⟩
 ·exact q
theorem Back.next {k n:Nat}{s:Dsk}{B:List (List UInt8)}{low:Nat}{none:Bool}(h:Back k n s B low none):Back (k+1) n s B low none:=fun x c=>by obtain ⟨E,T,q⟩:=h x c;exact ⟨E,T,q.next⟩
theorem PInv.next {k n:Nat}{s:Dsk}{l:Lg}{B:List (List UInt8)}{low:Nat}{none:Bool}(h:PInv k n s l B low none):PInv (k+1) n s l B low none:=
 ⟨h.n0,h.len,h.ok,by have:=h.life;omega,h.lg,by have:=h.pend;omega,by
  rcases h.st with ⟨q,E,top,T,H,Y,h0,h1,h2,h3,h4,hc⟩|⟨q1,q2,q3⟩
  ·exact .inl ⟨q,E,top,T,H,Y,h0,h1,by omega,by omega,by omega,hc⟩
  ·exact .inr ⟨q1,q2,q3.next⟩⟩
theorem appendR_did {s:Dsk}{l:Lg}(hok:DOk s)(hn:1≤l.n)(hin:l.first+2+l.n≤s.last.length)(d:List UInt8):Did s (appendR s l d).1 17:=by
 have hs:Did s s 17:=⟨rfl,rfl,by omega,id⟩
 unfold appendR
 split
 ·exact hs
 ·split
  ·exact hs
  ·rename_i h0
   split
   ·exact hs
   ·rename_i h1
    split
    ·exact hs
    ·split
     ·exact hs
     ·have g:=(laysR_did (l:=l) (d:=d) rfl hn (countR d.length) 0 s (Nat.zero_add _) hok hin).1
      have hc:countR d.length≤17:=by unfold countR;omega
      simp only []
      split
      ·exact g.le hc
      ·exact g.le hc
theorem trimR_did {s:Dsk}{l:Lg}:Did s (trimR s l).1 17:=by
 unfold trimR
 split
 ·exact ⟨rfl,rfl,Nat.le_add_right _ _,id⟩
 ·split
  ·exact (Did.flush s).le om_
  ·simp only []
   split
   ·exact ((Did.flush s).trans (renewR_did _ _ _).1).le om_
   ·exact ((Did.flush s).trans (renewR_did _ _ _).1).le om_
theorem startR_did {s:Dsk}{l:Lg}:Did s (startR s l).1 17:=by
 unfold startR
 split
 ·exact ⟨rfl,rfl,Nat.le_add_right _ _,id⟩
 ·split
  ·exact ⟨rfl,rfl,Nat.le_add_right _ _,id⟩
  ·simp only []
   split
   ·exact (renewR_did _ _ _).1.le om_
   ·exact (renewR_did _ _ _).1.le om_
section
variable {F:Nat→Prop}{w0 w:World}{L:List Ast}{g gd k n:Nat}{l:Lg}{s:Dsk}{B:List (List UInt8)}{low:Nat}{none:Bool}
theorem dead_append {s:Dsk}{l:Lg}(hz:s.left=0)(d:List UInt8):appendR s l d=(s,l,3):=by
 have hr:readyR s l=3:=by unfold readyR;rw [if_pos (alive_burnt hz)]
 unfold appendR;rw [if_pos om_,hr]
theorem dead_trim {s:Dsk}{l:Lg}(hz:s.left=0):trimR s l=(s,l,3):=by
 have hr:readyR s l=3:=by unfold readyR;rw [if_pos (alive_burnt hz)]
 unfold trimR;rw [if_pos om_,hr]
theorem dead_sync {s:Dsk}{l:Lg}(hz:s.left=0):syncR s l=(s,3):=by
 have hr:readyR s l=3:=by unfold readyR;rw [if_pos (alive_burnt hz)]
 unfold syncR;rw [if_pos om_,hr]
theorem PInv.append (h:PInv k n s l B low none)(hk:k≤70000){s':Dsk}(hok':DOk s')(d:List UInt8)(hs':s'=(appendR s l d).1):
  ((appendR s l d).2.2=0∧s.left≠0∧1≤d.length∧d.length≤8364∧PInv (k+1) n s' (appendR s l d).2.1 (B++[d]) low none)∨
  ((appendR s l d).2.2=3∧s.left≠0∧PInv (k+1) n s' (appendR s l d).2.1 (B++[d]) low none)∨
  ((appendR s l d).2.2=3∧s.left=0∧PInv (k+1) n s' (appendR s l d).2.1 B low none)∨
  ((appendR s l d).2.2≠0∧(appendR s l d).2.2≠3∧PInv (k+1) n s' (appendR s l d).2.1 B low none):=by
 have hd:=appendR_did h.ok (l:=l) (by have:=h.lg.ok.n0;omega) (by have:=h.lg.fit;have:=h.len;omega) d
 have hdp:=hd.pend
 have hdl:=hd.len
 have hlife:=h.life
 have hpend:=h.pend
 have hlen:=h.len
 rw [←hs'] at hd hdp hdl
 by_cases hz:s.left=0
 ·have e:=dead_append (l:=l) hz d
  refine .inr (.inr (.inl ⟨by rw [e],hz, ?_⟩))
  rw [hs',e];exact h.next
 ·rcases h.st with ⟨hnone,E,top,T,H,Y,hl,h1,h2,h3,h4,hc⟩|⟨q,_⟩
  ·have hn:=hc.n0
   have he:=hc.ends
   rcases append_core hl hc h.ok hz om_ om_ d with ⟨e,a1,a2,a3,a4,a5,a6,_,a7⟩|⟨e0,e3,a1,_⟩|⟨e,a1,a2,_,a3,j,a4,a5⟩
   ·refine .inl ⟨e,hz,a1,a2, ?_⟩
    rw [a3]
    rw [←hs'] at a6 a7
    refine ⟨hn,by omega,hok',by rw [a7];omega,⟨⟨Nat.zero_le _,hn.1,hn.2,by show E≤_;omega,by show top<_;omega,by show T≤_;omega⟩,⟨by show T≤H+_;omega,by show H+_≤T+n;omega⟩,by show 0+2+n≤n+2;omega,fun _=>by show H+_≤_;omega⟩,by omega,.inl ⟨hnone,E,top,T,H+countR d.length,Y,by rw [a7],h1,by omega,by omega,by omega,a6⟩⟩
   ·refine .inr (.inr (.inr ⟨e0,e3, ?_⟩))
    have e1:s'=s:=by rw [hs',a1]
    rw [e1,show (appendR s l d).2.1=l from by rw [a1]]
    exact h.next
   ·refine .inr (.inl ⟨e,hz, ?_⟩)
    rw [a2]
    rw [←hs'] at a1 a3 a4 a5
    refine ⟨hn,by omega,hok',by rw [a3];omega,h.lg,by omega,.inr ⟨a1,a4.sgl,fun x c=>⟨E,T, ?_⟩⟩⟩
    exact (a4.cut a5 c).cut1 h1 om_ om_ (by rw [List.take_append_of_le_length (Nat.le_refl _),List.take_length]) (by rw [List.length_append];omega)
  ·exact absurd q hz
theorem PInv.sync (h:PInv k n s l B low none){s':Dsk}(hok':DOk s')(hs':s'=(syncR s l).1):
  ((syncR s l).2=0∧PInv (k+1) n s' l B B.length none)∨((syncR s l).2=3∧PInv (k+1) n s' l B low none):=by
 have hlife:=h.life
 have hpend:=h.pend
 have hlen:=h.len
 by_cases hz:s.left=0
 ·have e:=dead_sync (l:=l) hz
  refine .inr ⟨by rw [e], ?_⟩
  rw [hs',e];exact h.next
 ·rcases h.st with ⟨hnone,E,top,T,H,Y,hl,h1,h2,h3,h4,hc⟩|⟨q,_⟩
  ·have ha:aliveR s l=true:=alive_iff.2 ⟨hz,by rw [hl]⟩
   have hr:readyR s l=0:=ready_iff.2 ⟨ha,by rw [hl]⟩
   have e:syncR s l=s.flushR:=by unfold syncR;rw [if_neg om_]
   have hf:=Did.flush s
   have hfl:=hf.life
   have hfp:=hf.pend
   have hfn:=hf.len
   have hcf:=hc.flush hz
   rw [e] at hs' ⊢
   rw [←hs'] at hfl hfp hfn hcf
   rcases flushR_err s with ⟨q,_⟩|⟨_,_,q⟩
   ·exact .inl ⟨q,h.n0,by omega,hok',by omega,h.lg,by omega,.inl ⟨hnone,E,top,T,H,H,by rw [hfl];exact hl,h1,by omega,by omega,by omega,hcf⟩⟩
   ·exact absurd q hz
  ·exact absurd q hz
theorem PInv.trim (h:PInv k n s l B low none)(hk:k≤70000){s':Dsk}(hok':DOk s')(hs':s'=(trimR s l).1):
  ((trimR s l).2.2=0∧s.left≠0∧PInv (k+1) n s' (trimR s l).2.1 [] 0 false)∨((trimR s l).2.2=3∧s.left≠0∧PInv (k+1) n s' (trimR s l).2.1 B low true)∨((trimR s l).2.2=3∧s.left=0∧PInv (k+1) n s' (trimR s l).2.1 B low none):=by
 have hd:=trimR_did (s:=s) (l:=l)
 have hdp:=hd.pend
 have hdl:=hd.len
 have hlife:=h.life
 have hpend:=h.pend
 have hlen:=h.len
 rw [←hs'] at hd hdp hdl
 by_cases hz:s.left=0
 ·have e:=dead_trim (l:=l) hz
  refine .inr (.inr ⟨by rw [e],hz, ?_⟩)
  rw [hs',e];exact h.next
 ·rcases h.st with ⟨hnone,E,top,T,H,Y,hl,h1,h2,h3,h4,hc⟩|⟨q,_⟩
  ·have hn:=hc.n0
   have he:=hc.ends
   rcases trim_core hc h.ok hl hz om_ om_ with ⟨e,a1,a2,a3⟩|⟨e,a1,a2,a3,a4,a5⟩
   ·refine .inl ⟨e,hz, ?_⟩
    rw [a1]
    rw [←hs'] at a2 a3
    refine ⟨hn,by omega,hok',by rw [a3];omega,⟨⟨Nat.zero_le _,hn.1,hn.2,by show E≤_;omega,by show top<_;omega,by show H≤_;omega⟩,⟨Nat.le_refl _,by show H≤H+n;omega⟩,by show 0+2+n≤n+2;omega,fun _=>by show H≤_;omega⟩,by omega,.inl ⟨rfl,E,top,H,H,H,by rw [a3],h1,by omega,by omega,by omega,a2⟩⟩
   ·refine .inr (.inl ⟨e,hz, ?_⟩)
    rw [a2]
    rw [←hs'] at a1 a3 a4 a5
    refine ⟨hn,by omega,hok',by rw [a4];omega,h.lg,by omega,.inr ⟨a1,a3,fun x c=> ?_⟩⟩
    have hlow:=hc.low.1
    rcases a5 x c with q|q
    ·exact ⟨E,T,q.cutted h1 om_ om_ fun R' q1 q2 q3=>.inr ⟨by omega,q2,q3⟩⟩
    ·exact ⟨E,H,q.cut0 h1 om_ om_⟩
  ·exact absurd q hz
theorem CutOf.fuse {s x:Dsk}{a:Int}(c:CutOf (s.fuseR a) x):CutOf s x:=by
 obtain ⟨e1,e2⟩:=fuseR_same s a
 refine ⟨c.pend,c.len.trans (by rw [e1]),fun j hj hf=> ?_,fun y hy=> ?_⟩
 ·have:=c.free j (by rw [e1];exact hj) (by rw [e2];exact hf)
  rw [this,e1]
 ·have:=c.one y (by rw [e2];exact hy)
  rw [e1] at this;exact this
theorem fuseR_life (s:Dsk)(a:Int):(s.fuseR a).life=s.life:=by unfold Dsk.fuseR;split<;>rfl
theorem PInv.fuse (h:PInv k n s l B low none)(a:Int)(hok':DOk (s.fuseR a)):PInv (k+1) n (s.fuseR a) l B low none:=by
 obtain ⟨e1,e2⟩:=fuseR_same s a
 have hlife:=h.life
 have hpend:=h.pend
 have hlen:=h.len
 refine ⟨h.n0,by rw [e1];exact hlen,hok',by rw [fuseR_life];omega,h.lg,by rw [e2];omega, ?_⟩
 rcases h.st with ⟨hnone,E,top,T,H,Y,hl,h1,h2,h3,h4,hc⟩|⟨q1,q2,q3⟩
 ·exact .inl ⟨hnone,E,top,T,H,Y,by rw [fuseR_life];exact hl,h1,by omega,by omega,by omega,hc.same e1 e2⟩
 ·refine .inr ⟨by unfold Dsk.fuseR;rw [if_pos q1];exact q1,⟨by rw [e2];exact q2.nodup,by rw [e1,e2];exact q2.over⟩,fun x c=>q3.next x c.fuse⟩
end
end
end Go.Proofs
end
section
open Go Go.RowKit Go.Proofs.YtgeioealgidkiaaW.PrintWords Go.Proofs.YtgeioealgidkiaaW.PrintMore
namespace Go.Proofs
open Go.Vel
set_option linter.unusedVariables false
set_option maxRecDepth 100000
section
structure PCut (k n:Nat)(x:Dsk)(B:List (List UInt8))(low:Nat)(nn:Bool):Prop where
 n0:18≤n∧n≤256
 len:x.last.length=n+2
 ok:DOk x
 pend:x.pend=[]
 left:x.left= -1
 life:0≤x.life∧x.life≤2*(k:Int)+6
 cut:∃E T,Cutted k n x B low nn E T
theorem Cutted.flat {k n E T low:Nat}{x y:Dsk}{B:List (List UInt8)}{nn:Bool}(h:Cutted k n x B low nn E T)(hx:x.pend=[])(hy:y.pend=[])(hn:0<n)(hl:x.last.length=n+2)(e:∀j,j<n+2→y.lst j=x.lst j):Cutted k n y B low nn E T:=by
 have e1:=pcAt_flat hx hy (n:=n) hn om_ (fun j _ h2=>e j om_)
 exact ⟨h.e1,h.e2,h.t,by rw [e 0 om_,e 1 om_];exact h.pair,fun j hj=>by rw [e (2+j) om_];exact h.old j hj,by rw [e1];exact h.tell⟩
theorem PInv.crash {k n low:Nat}{s:Dsk}{l:Lg}{B:List (List UInt8)}{nn:Bool}(h:PInv k n s l B low nn)(hk:k≤70000)(ps:List Pick)(hok:DOk (s.crashR ps)):PCut k n (s.crashR ps) B low nn:=by
 have hl:=h.life
 have e:(s.crashR ps).life=s.life+1:=inc_ok hl.1 om_
 exact ⟨h.n0,(crashR_len s ps).trans h.len,hok,rfl,rfl,by rw [e];omega,h.back _ (h.sgl.cut h.ok ps)⟩
theorem PCut.load {k n low:Nat}{x y:Dsk}{B:List (List UInt8)}{nn:Bool}(h:PCut k n x B low nn)(hy:y=Dsk.mk0 x.last)(hok:DOk y):PCut k n y B low nn:=by
 obtain ⟨E,T,hc⟩:=h.cut
 have hn:=h.n0
 have el:y.last=x.last:=by rw [hy];rfl
 refine ⟨h.n0,by rw [el];exact h.len,hok,by rw [hy];rfl,by rw [hy];rfl,by rw [show y.life=1 by rw [hy];rfl];omega,E,T,hc.flat h.pend (by rw [hy];rfl) om_ h.len fun j _=>by unfold Dsk.lst;rw [el]⟩
theorem catF_len {pc:Nat→Pc}(h:∀p,(pc p).data.length≤492)(p:Nat):∀c,(catF pc p c).length≤c*492
 |0=>by simp [catF]
 |c+1=>by
  rw [catF_succ,List.length_append]
  have:=catF_len h p c
  have:=h (p+c)
  omega
theorem Recs.lens {pc:Nat→Pc}{E a:Nat}{R:List (List UInt8)}{h:Nat}(r:Recs pc E a R h)(hd:∀p,(pc p).data.length≤492):∀x∈R,1≤x.length∧x.length≤8364:=by
 induction r with
 |nil=>intro x hx;cases hx
 |@step R h c r hr ih=>
  intro x hx
  rcases List.mem_append.1 hx with hx|hx
  ·exact ih x hx
  ·rw [List.mem_singleton] at hx
   subst hx
   have h1:=catF_len hd h c
   have h2:=hr.c17
   have h3:=hr.c1
   have h4:=(hr.part 0 h3).data
   refine ⟨?_,by omega⟩
   have:catF pc h c=(pc (h+0)).data++catF pc (h+1) (c-1):=by
    unfold catF
    rw [show c=(c-1)+1 by omega,List.range_succ_eq_map,List.map_cons,List.flatten_cons,List.map_map]
    congr 2
    rw [show c-1+1-1=c-1 by omega]
    apply List.map_congr_left
    intro j _
    show (pc (h+(j+1))).data=(pc (h+1+j)).data
    rw [show h+(j+1)=h+1+j by omega]
   rw [this,List.length_append]
   have:=List.length_pos_iff.2 h4
   omega
section
variable {F:Nat→Prop}{w0 w:World}{L:List Ast}{g gd k n:Nat}{l:Lg}{s:Dsk}{B:List (List UInt8)}{low:Nat}{nn:Bool}
theorem p_open {x:Dsk}(P:PCut k n x B low nn)(hk:k≤70000){s1:Dsk}(hl1:s1.last=x.last)(hp1:s1.pend=[])(hz1:s1.left≠0)(hf1:s1.life=x.life)(S:St F w0 w (PW gd s1::L)):
  Calls Try.prog 61 #[pq gd,iv 0,iv (n:Nat)] w fun e w'=>∃gl A c RV h E T s2,e=.returned (.tuple #[pq gl,.slice A (List.length RV) c,iv 0])∧May B low nn (RV.map (·.2))∧Flat s2 n E T (RV.map (·.2)) h∧1≤E∧E≤k+2∧T≤17*k∧s2.life=x.life+1∧s2.left=spent s1.left∧RV.length≤256∧(∀x∈RV,1≤x.2.length∧x.2.length≤8364)∧
   St F w0 w' (vec 31 1 (.slice A RV.length c) RV.length (RV.map (·.1))::stars (RV.map recD)::PLog gl gd ⟨0,n,s2.life,E,E,T,h,false⟩::PW gd s2::L):=by
 obtain ⟨E,T,hc⟩:=P.cut
 have hn:=P.n0
 have hlen:=P.len
 have hlf:=P.life
 have e1:=hc.e1
 have e2:=hc.e2
 have ht:=hc.t
 have ha:argsR s1 0 (n:Int)=0:=by
  unfold argsR
  rw [if_neg hz1,if_neg (by rw [hl1];omega),if_neg om_,if_neg (by rw [hl1];omega)]
 have hlst:∀j,s1.lst j=x.lst j:=fun j=>by unfold Dsk.lst;rw [hl1]
 have hpt:s1.take.pend=[]:=hp1
 have hcT:Cutted k n s1.take B low nn E T:=hc.flat P.pend hpt om_ hlen fun j _=>hlst j
 obtain ⟨q,hq⟩:=hcT.pair
 have hnow:newestF (s1.take.now 0) (s1.take.now (0+1))=(q,E*4294967296+T,[],0):=by rw [now_lst hpt,now_lst hpt];exact hq
 have hnew:newR s1.take (0:Int).toNat=some (E,T):=by
  show newR s1.take 0=_
  rw [newR_some (f:=0) (by rw [hnow];simp only [];rw [show (E*4294967296+T)/4294967296=E by omega,show (E*4294967296+T)%4294967296=T by omega];simp;omega),hnow]
  simp only []
  rw [show (E*4294967296+T)/4294967296=E by omega,show (E*4294967296+T)%4294967296=T by omega]
 have htop:topTo (pcAt s1.take (0:Int).toNat (n:Int).toNat) E (n:Int).toNat=E:=topTo_eq _ fun j hj=>by
  have hm:=Nat.mod_lt j (show 0<n by omega)
  show (pcAt s1.take 0 n j).epoch≤E
  unfold pcAt
  rw [Nat.zero_add,now_lst hpt]
  exact hcT.old _ hm
 refine (w_open_go S ha).mono fun e w' hh=> ?_
 rcases hh with ⟨h1,_⟩|⟨ep,tl,h1,h2,_⟩|⟨ep,tl,gl,v,RV,hd,h1,h2,h3,h4,rfl,S2⟩
 ·rw [hnew] at h1;cases h1
 ·rw [hnew] at h1;cases h1;rw [htop] at h2;omega
 ·rw [hnew] at h1;cases h1
  rw [htop] at S2
  obtain ⟨A,c,rfl⟩:=St.vecV S2 0 rfl
  have h3:Recs (pcAt s1.take 0 n) E T (RV.map (·.2)) hd:=h3
  have h4:NoRec (pcAt s1.take 0 n) E hd:=h4
  have hz2:s1.take.left≠0:=hz1
  obtain ⟨s2,hs2⟩:∃s2,s2=s1.take.flushR.1:=⟨_,rfl⟩
  have hp2:s2.pend=[]:=by
   rcases flushR_err s1.take with q|q
   ·rw [hs2];exact q.2.1
   ·exact absurd q.2.2 hz2
  have hlen2:s2.last.length=n+2:=by rw [hs2,(Did.flush s1.take).len];show s1.last.length=_;rw [hl1];exact hlen
  have hlen1:s1.take.last.length=n+2:=by show s1.last.length=_;rw [hl1];exact hlen
  have hl2:∀j,j<n+2→s2.lst j=s1.take.lst j:=fun j hj=>by rw [lst_flush hs2 hz2 om_,now_lst hpt]
  have hpc:pcAt s2 0 n=pcAt s1.take 0 n:=pcAt_flat hpt hp2 om_ om_ fun j _ h2=>hl2 j om_
  have hlife:s2.life=x.life+1:=by
   rw [hs2,(Did.flush s1.take).life]
   show inc s1.life=_
   rw [hf1,inc_ok hlf.1 om_]
  have hleft:s2.left=spent s1.left:=by
   rcases flushR_cases s1.take with ⟨q,_⟩|⟨_,q⟩
   ·exact absurd q hz2
   ·rw [hs2,q];rfl
  have hr:=h3.room (n:=n) (fun p=>pcAt_round _ _ _ p) om_
  have hcnt:=h3.count
  rw [List.length_map] at hcnt
  have hlens:=h3.lens fun p=>pcF_data _
  refine ⟨gl,A,c,RV,hd,E,T,s2,rfl,hcT.tell _ _ h3 h4,⟨hn,hlen2,hp2,⟨q,by rw [hl2 0 om_,hl2 1 om_];exact hq⟩,fun j hj=>by rw [hl2 (2+j) om_];exact hcT.old j hj,by rw [hpc];exact h3,by rw [hpc];exact h4⟩,e1,e2,ht,hlife,hleft,by omega,fun y hy=>hlens y.2 (List.mem_map_of_mem hy), ?_⟩
  have e3:inc s1.life=s2.life:=by rw [hlife,hf1,inc_ok hlf.1 om_]
  have S3:St F w0 w' (vec 31 1 (.slice A RV.length c) RV.length (RV.map (·.1))::stars (RV.map recD)::PLog gl gd ⟨0,n,inc s1.life,E,E,T,hd,false⟩::PW gd s1.take.flushR.1::L):=S2
  rw [←hs2,e3] at S3
  exact S3
theorem renewR_left {s:Dsk}(hok:DOk s)(hz:s.left≠0)(hf:2≤s.last.length){no:Nat}(hren:(renewF (s.now 0) (s.now (0+1)) (no:Int) []).2.2=0):((renewR s 0 no).2=3→s.left=1)∧(s.left= -1→(renewR s 0 no).1.left= -1):=by
 obtain ⟨q1,q5⟩:=renew_ok (hok.now (k:=0) om_) (hok.now (k:=0+1) om_) hren
 have hlb:=hok.lb
 rw [renewR_go (first:=0) hz om_ q1 q5]
 have hl:(s.anch 0 no).left=spent s.left:=rfl
 rcases flushR_cases (s.anch 0 no) with ⟨q,e⟩|⟨q,e⟩
 ·rw [hl] at q
  unfold spent at q
  refine ⟨fun _=>by split at q<;>omega,fun h=>by split at q<;>omega⟩
 ·rw [e]
  refine ⟨fun h=>absurd (show (0:Int)=3 from h) dc_,fun h=> ?_⟩
  show spent (s.anch 0 no).left= -1
  rw [hl,h];rfl
theorem p_start {s2:Dsk}{E T h:Nat}{R:List (List UInt8)}{gl:Nat}(hf:Flat s2 n E T R h)(e1:1≤E)(e2:E≤k+2)(ht:T≤17*k)(hk:k≤70000)(hlife:0≤s2.life∧s2.life≤2*(k:Int)+7)(S:St F w0 w (PLog gl gd ⟨0,n,s2.life,E,E,T,h,false⟩::PW gd s2::L)):
  Calls Try.prog 71 #[pq gl] w fun e w'=>∃s3 l3,l3.life=s3.life∧((e=.returned (iv 0)∧PInv (k+1) n s3 l3 [] 0 false∧(s2.left= -1→s3.left= -1)∧St F w0 w' (PLog gl gd l3::PW gd s3::L))∨(e=.returned (iv 3)∧(s2.left=0∨s2.left=1)∧PInv (k+1) n s3 l3 R R.length true∧St F w0 w' (PLog gl gd l3::PW gd s3::L))):=by
 have hok:=St.pw_ok (L:=[]) (S.mem 1 rfl)
 have hn:=hf.n0
 have hlen:=hf.len
 have hr:=hf.recs.room (n:=n) (fun p=>pcAt_round _ _ _ p) om_
 have hle:=hf.recs.le
 have hlw:Low s2 0 (E*4294967296+T):=by
  obtain ⟨x,hx⟩:=hf.pair
  refine .inr ?_
  show (newestF (s2.now 0) (s2.now 1)).2.1≤_
  rw [now_lst hf.pend,now_lst hf.pend,hx];exact Nat.le_refl _
 have hren:=hlw.ren hok om_ (no':=(E+1)*4294967296+0) om_ om_
 have hlok:LOk ⟨0,n,s2.life,E,E,T,h,false⟩:=⟨Nat.zero_le _,hn.1,hn.2,by show E≤_;omega,by show E<_;omega,by show T≤_;omega⟩
 refine (w_start S hlok (by rw [hf.pend];decide) (by show 0+1<_;omega) (fun _ _=>hren)).mono fun e w' hh=> ?_
 obtain ⟨he,S2⟩:=hh
 have hok3:=St.pw_ok (L:=[]) (S2.mem 1 rfl)
 obtain ⟨l2,hl2⟩:∃l2:Lg,l2=⟨0,n,s2.life,E,E,T,h,false⟩:=⟨_,rfl⟩
 rw [←hl2] at he S2 hok3
 have hdid:=startR_did (s:=s2) (l:=l2)
 have hdp:=hdid.pend
 have hdl:=hdid.len
 have hz3:s2.pend.length=0:=by rw [hf.pend];rfl
 rcases start_core hf hok hl2 om_ om_ with ⟨q0,q1,q2,q3,q4⟩|⟨q1,q2,q3,q4,q5,q6⟩
 ·refine ⟨(startR s2 l2).1,(startR s2 l2).2.1,by rw [q2,q4],.inl ⟨by rw [he,q1], ?_,fun hm=> ?_,S2⟩⟩
  ·rw [q2]
   refine ⟨hn,by omega,hok3,by rw [q4];omega,⟨⟨Nat.zero_le _,hn.1,hn.2,by show E+1≤_;omega,by show E<_;omega,Nat.zero_le _⟩,⟨Nat.le_refl _,Nat.zero_le _⟩,by show 0+2+n≤n+2;omega,fun _=>Nat.zero_le _⟩,by omega,.inl ⟨rfl,E+1,E,0,0,0,by rw [q4],by omega,by omega,by omega,by omega,q3⟩⟩
  ·have ha:aliveR s2 l2=true:=alive_iff.2 ⟨q0,by rw [hl2]⟩
   have e:(startR s2 l2).1=(renewR s2 0 ((E+1)*4294967296+0)).1:=by
    unfold startR
    rw [if_neg (by rw [ha];decide),hl2]
    simp only []
    rw [if_neg dc_]
    split<;>rfl
   rw [e]
   exact (renewR_left hok q0 om_ hren).2 hm
 ·refine ⟨(startR s2 l2).1,(startR s2 l2).2.1,by rw [q3,q5,hl2],.inr ⟨by rw [he,q1], ?_, ?_,S2⟩⟩
  ·by_cases hz:s2.left=0
   ·exact .inl hz
   ·right
    have ha:aliveR s2 l2=true:=alive_iff.2 ⟨hz,by rw [hl2]⟩
    have e:(startR s2 l2).2.2=3→(renewR s2 0 ((E+1)*4294967296+0)).2=3:=by
     unfold startR
     rw [if_neg (by rw [ha];decide),hl2]
     simp only []
     rw [if_neg dc_]
     split
     ·exact id
     ·intro h3;exact absurd (show (0:Int)=3 from h3) dc_
    exact (renewR_left hok hz om_ hren).1 (e q1)
  ·rw [q3]
   have hlg:LgOk (n+2) l2:=by rw [hl2];exact ⟨hlok,⟨hle,hr⟩,by show 0+2+n≤n+2;omega,fun b=>by cases b⟩
   refine ⟨hn,by omega,hok3,by rw [q5];omega,hlg,by omega,.inr ⟨q2,q4,fun x c=> ?_⟩⟩
   rcases q6 x c with q|q
   ·exact ⟨E,T,q.cut1 e1 om_ om_ (by rw [List.take_length]) (Nat.le_refl _)⟩
   ·exact ⟨E+1,0,q.cut0 om_ om_ om_⟩
theorem p_append (h:PInv k n s l B low nn)(hk:k≤70000)(S:St F w0 w (PLog g gd l::PW gd s::L)){A:Option Addr}{d:List UInt8}{cd:Nat}(hd:RoT F w0 L A d)(hcap:d.length≤cd)(hdm:d.length≤140737488355328):
  Calls Try.prog 57 #[pq g,.slice A d.length cd] w fun e w'=>∃(c:Int) (s':Dsk) (l':Lg),e=.returned (iv c)∧((c=0∧s.left≠0∧1≤d.length∧d.length≤8364∧PInv (k+1) n s' l' (B++[d]) low nn)∨(c=3∧s.left≠0∧PInv (k+1) n s' l' (B++[d]) low nn)∨(c=3∧s.left=0∧PInv (k+1) n s' l' B low nn)∨(c≠0∧c≠3∧PInv (k+1) n s' l' B low nn))∧St F w0 w' (PLog g gd l'::PW gd s'::L):=by
 have hp:=h.pend
 refine (w_append S h.lg.ok h.lg.hd hd hcap hdm (fun _=>by rw [h.len];exact h.lg.fit) om_).mono fun e w' hh=> ?_
 obtain ⟨he,S2⟩:=hh
 have hok3:=St.pw_ok (L:=[]) (S2.mem 1 rfl)
 exact ⟨_,_,_,he,h.append hk hok3 d rfl,S2⟩
theorem p_sync (h:PInv k n s l B low nn)(S:St F w0 w (PLog g gd l::PW gd s::L)):
  Calls Try.prog 60 #[pq g] w fun e w'=>∃(c:Int) (s':Dsk),e=.returned (iv c)∧((c=0∧PInv (k+1) n s' l B B.length nn)∨(c=3∧PInv (k+1) n s' l B low nn))∧St F w0 w' (PLog g gd l::PW gd s'::L):=by
 refine (w_sync S).mono fun e w' hh=> ?_
 obtain ⟨he,S2⟩:=hh
 have hok3:=St.pw_ok (L:=[]) (S2.mem 1 rfl)
 exact ⟨_,_,he,h.sync hok3 rfl,S2⟩
theorem PInv.ren (h:PInv k n s l B low nn)(hk:k≤70000)(hr:readyR s l=0):(renewF (s.flushR.1.now l.first) (s.flushR.1.now (l.first+1)) ((l.epoch*4294967296+l.head:Nat):Int) []).2.2=0∨l.tail=l.head:=by
 obtain ⟨ha,hb⟩:=ready_iff.1 hr
 have hz:=(alive_iff.1 ha).1
 rcases h.st with ⟨hnone,E,top,T,H,Y,hl,h1,h2,h3,h4,hc⟩|⟨q,_⟩
 ·have he:=hc.ends
  have hcf:=hc.flush hz
  have hlen:=hcf.len
  have hp:s.flushR.1.pend=[]:=by
   rcases flushR_err s with q|q
   ·exact q.2.1
   ·exact absurd q.2.2 hz
  by_cases ht:T=H
  ·right;rw [hl];exact ht
  ·left
   have hlw:Low s.flushR.1 0 (E*4294967296+T):=by
    obtain ⟨x,hx⟩:=hcf.pair
    refine .inr ?_
    show (newestF (s.flushR.1.now 0) (s.flushR.1.now 1)).2.1≤_
    rw [now_lst hp,now_lst hp,hx];exact Nat.le_refl _
   rw [hl]
   exact hlw.ren h.ok.flush om_ (no':=E*4294967296+H) om_ om_
 ·exact absurd q hz
theorem p_trim (h:PInv k n s l B low nn)(hk:k≤70000)(S:St F w0 w (PLog g gd l::PW gd s::L)):
  Calls Try.prog 55 #[pq g] w fun e w'=>∃(c:Int) (s':Dsk) (l':Lg),e=.returned (iv c)∧((c=0∧s.left≠0∧PInv (k+1) n s' l' [] 0 false)∨(c=3∧s.left≠0∧PInv (k+1) n s' l' B low true)∨(c=3∧s.left=0∧PInv (k+1) n s' l' B low nn))∧St F w0 w' (PLog g gd l'::PW gd s'::L):=by
 have hp:=h.pend
 have hfit:=h.lg.fit
 have hlen:=h.len
 have hn0:=h.lg.ok.n0
 refine (w_trim S h.lg.ok h.lg.hd om_ om_ (fun hr _ ht=>(h.ren hk hr).resolve_right ht)).mono fun e w' hh=> ?_
 obtain ⟨he,S2⟩:=hh
 have hok3:=St.pw_ok (L:=[]) (S2.mem 1 rfl)
 exact ⟨_,_,_,he,h.trim hk hok3 rfl,S2⟩
end
end
end Go.Proofs
end
section
open Go Go.RowKit Go.Proofs.YtgeioealgidkiaaW.PrintWords Go.Proofs.YtgeioealgidkiaaW.PrintMore
namespace Go.Proofs
open Go.Vel
set_option linter.unusedVariables false
set_option maxRecDepth 100000
set_option maxHeartbeats 4000000
attribute [local irreducible] gives wpList Code.wp
section
variable {F:Nat→Prop} {w0 w:World} {L:List Ast}
theorem byte_eq {a b:List UInt8}{k:Nat}(h:¬((a.getD k 0).toNat:Int)=((b.getD k 0).toNat:Int)):a≠b:=fun e=>h (by rw [e])
theorem bytes_ext {a b:List UInt8}(hl:a.length=b.length)(h:∀m,m<a.length→((a.getD m 0).toNat:Int)=((b.getD m 0).toNat:Int)):a=b:=by
 apply List.ext_getElem hl
 intro m h1 h2
 have:=h m h1
 rw [List.getD_eq_getElem?_getD,List.getD_eq_getElem?_getD,List.getElem?_eq_getElem h1,List.getElem?_eq_getElem h2] at this
 simp only [Option.getD_some] at this
 exact UInt8.toNat_inj.1 om_
theorem same_spec {A B:Option Addr}{a b:List UInt8}{ca cb:Nat}(S:St F w0 w L)(hx:RoT F w0 L A a)(hy:RoT F w0 L B b)(hm:a.length≤9223372036854775807)(hm2:b.length≤9223372036854775807):
  Calls Try.prog 24 #[.slice A a.length ca,.slice B b.length cb] w fun e w'=>e=.returned (.bool (decide (a=b)))∧St F w0 w' L:=by
 refine eN (fr [.slice A a.length ca,.slice B b.length cb] 24) Try.func24 rfl (sR (pv fv (wE (nS (sR (pv (.slice A a.length ca) (pv (iv (a.length:Nat)) (pv (.slice B b.length cb) (pv (iv (b.length:Nat)) (dN (a.length:Nat) (b.length:Nat) (fun hb1=> ?_) fun hb1=> ?_))))))))))
 ·have hlen:¬a.length=b.length:=fun e=>hb1 (by rw [e])
  exact wE (nCT (sR (pv fv (wE (then_n (rR (bA (.bool false) ⟨by rw [decide_eq_false (fun e=>hlen (by rw [e]))],S⟩)))))))
 ·have hlen:a.length=b.length:=Int.ofNat.inj hb1
  refine wE (nCF (wp_skip (nS (sR (pv (iv 0) (wE (then_n (wp_block (wp_loop_g (G:=Nat) (fun (g_:Nat) (a_:Act) (w_:World)=>∃J:Nat→Value,a_=(fr ([.slice A a.length ca,.slice B b.length cb,ud,ud,J 4,nI_ g_,.slice A a.length ca,iv (a.length:Nat),.slice B b.length cb,iv (b.length:Nat),fv]++jR J 11 15) 0)∧St F w0 w_ (L)∧(g_≤a.length∧∀m,m<g_→((a.getD m 0).toNat:Int)=((b.getD m 0).toNat:Int))) (fun g_=>a.length-g_) 0 (jE_ ⟨S,⟨Nat.zero_le _,fun m h=>absurd h (Nat.not_lt_zero _)⟩⟩) ?_)))))))))
  rintro k a_ w2 ⟨J,rfl,S3,hI4⟩
  skip
  have S3:St F w0 w2 (L):=S3
  have hI4:(k≤a.length∧∀m,m<k→((a.getD m 0).toNat:Int)=((b.getD m 0).toNat:Int)):=hI4
  refine wp_seq (sR (pv (nI_ k) (pv (.slice A a.length ca) (pv (iv (a.length:Nat)) (dC ((((k:Nat):Int):Int)<(a.length:Nat)) (fun hb5=> ?_) fun hb5=> ?_)))))
  ·have hk:k<a.length:=by omega
   obtain ⟨ada,rfl⟩:=(hx.now S3).at hk
   obtain ⟨adb,rfl⟩:=(hy.now S3).at (hlen▸hk)
   refine wE (nCT (wp_skip (nS (wp_block (wp_seq (wp_region_phu (γ:=Unit) 9 [] (fun (c_:Unit) (i_:Nat)=>(match i_ with|0=>.slice (some ada) a.length ca|1=>nI_ k|2=>.pointer (some (ada.add k))|3=>.int .u8 ((a.getD k 0).toNat:Int)|4=>.slice (some adb) b.length cb|5=>nI_ k|6=>.pointer (some (adb.add k))|7=>.int .u8 ((b.getD k 0).toNat:Int)|8=>.bool (((a.getD k 0).toNat:Int) !=((b.getD k 0).toNat:Int))|_=>undef:Value)) (fun (c_:Unit) (p_:Nat) (w_:World)=>(match p_ with|_=>St F w0 w_ (L):Prop)) () kr_ kr_ kr_ kr_ (S3.drew) ?_ ?_ ?_))))))
   ·intro i_ c_ p_ vals_ w1 hi_ hiE_ hp_ hk_ hu_ hPh_ hd_
    rcases i_ with _|_|_|_|_|_|_|_|_|i_
    ·exact tG_ rfl hd_ (gV (.slice (some ada) a.length ca) ⟨rfl,rfl⟩)
    ·exact tG_ rfl hd_ (gV (nI_ k) ⟨rfl,rfl⟩)
    ·exact tG_ rfl hd_ (gv_ixB (e:=5) (sz:=1) (n:=a.length) (c:=ca) (i:=((k:Nat):Int)) (k:=.i64) (ad:=ada) (ad':=(ada.add k)) (j:=k) rfl kr_ kr_ kr_ kr_ rfl hk (by rw [Nat.mul_one]) ⟨rfl,rfl⟩)
    ·have S9:=St.id hPh_
     exact tG_ rfl hd_ (gL (.int .u8 ((a.getD k 0).toNat:Int)) rfl ((hx.now S9).cell hk) ⟨rfl,rfl⟩)
    ·exact tG_ rfl hd_ (gV (.slice (some adb) b.length cb) ⟨rfl,rfl⟩)
    ·exact tG_ rfl hd_ (gV (nI_ k) ⟨rfl,rfl⟩)
    ·exact tG_ rfl hd_ (gv_ixB (e:=5) (sz:=1) (n:=b.length) (c:=cb) (i:=((k:Nat):Int)) (k:=.i64) (ad:=adb) (ad':=(adb.add k)) (j:=k) rfl kr_ kr_ kr_ kr_ rfl (hlen▸hk) (by rw [Nat.mul_one]) ⟨rfl,rfl⟩)
    ·have S13:=St.id hPh_
     exact tG_ rfl hd_ (gL (.int .u8 ((b.getD k 0).toNat:Int)) rfl ((hy.now S13).cell (hlen▸hk)) ⟨rfl,rfl⟩)
    ·exact tG_ rfl hd_ (gV (.bool (((a.getD k 0).toNat:Int) !=((b.getD k 0).toNat:Int))) ⟨rfl,rfl⟩)
    ·exact absurd hi_ om_
   ·intro k_ c_ vals_ w1 hk_ hPh_ hd_
    exact absurd hk_ (Nat.not_lt_zero _)
   ·intro c_ w1 hPh_
    have S15:=St.id hPh_
    refine (wE (then_n (wp_cond_split (t:=((a.getD k 0).toNat:Int) !=((b.getD k 0).toNat:Int)) kr_ (fun hc16=> ?_) (fun hc16=> ?_))))
    ·exact sR (pv fv (wE (then_n (wp_ret (inb_r (then_r (then_r (inb_r (then_r (bA (.bool false) ⟨by rw [decide_eq_false (byte_eq (by simpa using hc16))],S15⟩))))))))))
    ·have heqk:((a.getD k 0).toNat:Int)=((b.getD k 0).toNat:Int):=by simpa using hc16
     exact wp_skip (inb_n (nR (pv (nI_ k) (gI .i64 (IntKind.i64.wrap (((k:Nat):Int)+1)) (((k:Nat):Int)+1) (wr_ok om_ om_) (pv (iv (((k:Nat):Int)+1)) (wE (then_n ⟨k+1,(jE_ ⟨S15,⟨by omega,fun m hm=>(Nat.lt_succ_iff_lt_or_eq.1 hm).elim (hI4.2 m) (fun e=>e▸heqk)⟩⟩),(by show a.length-(k+1)<a.length-k;omega)⟩)))))))
  ·have hke:k=a.length:=by omega
   exact wE (nCF (wp_exit (then_x (then_x (inb_x (nSR (pv tv (wE (then_n (wp_ret (bA (.bool true) ⟨by rw [decide_eq_true (bytes_ext hlen (fun m hm=>hI4.2 m om_))],S3⟩)))))))))))
theorem same_b {A B:Option Addr}{a b:List UInt8}{ca cb:Nat}{t:Bool}(ht:decide (a=b)=t)(S:St F w0 w L)(hx:RoT F w0 L A a)(hy:RoT F w0 L B b)(hm:a.length≤9223372036854775807)(hm2:b.length≤9223372036854775807):
  Calls Try.prog 24 #[.slice A a.length ca,.slice B b.length cb] w fun e w'=>e=.returned (.bool t)∧St F w0 w' L:=ht▸same_spec S hx hy hm hm2
theorem ltwinS {A:Option Addr}{l:List UInt8}{c:Nat}(S:St F w0 w L)(hr:RoT F w0 L A l)(hlm:l.length≤140737488355328):Calls Try.prog 59 #[.slice A l.length c] w fun e w'=>∃go,e=.returned (.slice (some ⟨go,0,none⟩) l.length l.length)∧St F w0 w' (row go (bvs l) 5::L):=by
 refine eN (fr [.slice A l.length c] 10) Try.func59 rfl (sR (pv (.slice none 0 0) (wER (pv (.slice A l.length c) (pv (iv (l.length:Nat)) (g_ (gv_make (e:=5) (u:=(l.length:Nat)) (v:=(l.length:Nat)) (z:=.int .u8 0) (sz:=1) (by_:=1) (n:=l.length) (c:=l.length) (cs:=(bvs (List.replicate l.length 0))) S rfl kr_ ⟨by kernel_rfl⟩ kr_ kr_ rfl rfl (Nat.le_refl _) om_ om_ (mk_bytes _) (fun g1 w2 hg3 S4=>pv (sl g1 0 l.length l.length) (wER (pv (sl g1 0 l.length l.length) (pv (.slice A l.length c) (g_ (gv_copy (e:=5) (off:=0) (dLen:=l.length) (dCap:=l.length) (sLen:=l.length) (sCap:=c) (A:=A) (B:=(List.replicate l.length 0)) (l:=l) S4 0 rfl rfl kr_ kr_ kr_ kr_ rfl (hr.out _ [row g1 (bvs (List.replicate l.length 0)) 5] S4) (by simp) (L':=(row g1 (bvs l) 5::L)) (by rw [copy_all rfl];rfl) (fun w5 m7 S6=>wER (pv (sl g1 0 l.length l.length) ?_)))))))))))))))
 exact pv (sl g1 0 l.length l.length) (wE (then_n (wp_ret (bA (sl g1 0 l.length l.length) ⟨_,rfl,S6⟩))))
theorem splice_full {α:Type}{a b:List α}(h:b.length=a.length):splice a 0 b=b:=by
 simp [splice,h]
theorem len_zc (z:Array Value)(n:Nat):(madeCells z n).toList.length=n:=by simp [madeCells]
theorem picks_one:∀(ps:List Pick),∀u∈picksV ps,u.oneCell'=true:=fun ps u hu=>by
 obtain ⟨p,_,hp⟩:=List.mem_flatMap.1 hu
 simp [pickCells] at hp
 rcases hp with rfl|rfl|rfl<;>rfl
theorem tpicks {A:Option Addr}{ps:List Pick}{c:Nat}(S:St F w0 w L)(hr:RoV F w0 L A (picksV ps))(hlm:ps.length*24≤140737488355328):Calls Try.prog 69 #[.slice A ps.length c] w fun e w'=>∃go,e=.returned (.slice (some ⟨go,0,none⟩) ps.length ps.length)∧St F w0 w' (row go (picksV ps).toArray 145::L):=by
 refine eN (fr [.slice A ps.length c] 10) Try.func69 rfl (sR (pv (.slice none 0 0) (wER (pv (.slice A ps.length c) (pv (iv (ps.length:Nat)) (g_ (gv_make (e:=145) (u:=((ps.length:Nat):Int)) (v:=((ps.length:Nat):Int)) (z:=.agg #[iv 0,iv 0,iv 0]) (sz:=3) (by_:=24) (n:=ps.length) (c:=ps.length) (cs:=(madeCells (Value.agg #[iv 0,iv 0,iv 0]).cells (ps.length*3)).toList.toArray) S rfl kr_ ⟨by kernel_rfl⟩ kr_ kr_ rfl rfl (Nat.le_refl _) om_ om_ (by simp) (fun g1 w2 hg3 S4=>pv (sl g1 0 ps.length ps.length) (wER (pv (sl g1 0 ps.length ps.length) (pv (.slice A ps.length c) (g_ (gv_copyV (e:=145) (sz:=3) (g:=g1) (off:=0) (dLen:=ps.length) (dCap:=ps.length) (sLen:=ps.length) (sCap:=c) (A:=A) (cs:=(madeCells (Value.agg #[iv 0,iv 0,iv 0]).cells (ps.length*3)).toList) (news:=picksV ps) S4 0 rfl rfl kr_ kr_ kr_ kr_ (by rw [length_picksV];show _=min ps.length ps.length*3;rw [Nat.min_self]) (hr.out _ [_] S4) (picks_one ps) (by rw [length_picksV,len_zc];omega) (L':=(row g1 ((picksV ps).toArray) 145::L)) (by rw [splice_full (by rw [length_picksV,len_zc])];rfl) (fun w5 m6 S7=>wER (pv (sl g1 0 ps.length ps.length) ?_)))))))))))))))
 exact pv (sl g1 0 ps.length ps.length) (wE (then_n (wp_ret (bA (sl g1 0 ps.length ps.length) ⟨_,rfl,S7⟩))))
theorem RdV.fr {F:Nat→Prop}{w w':World}{A:Option Addr}{vs:List Value}(h:RdV w A vs)(hf:Fr F w w')(hF:∀k,F k→False):RdV w' A vs:=fun h0=>by
 obtain ⟨ad,e,hc⟩:=h h0
 refine ⟨ad,e,fun j u hu=> ?_⟩
 have h1:=hc j u hu
 have hb:(ad.add j).block<w.heap.size:=by
  unfold World.cell? at h1
  cases hq:w.heap[(ad.add j).block]? with
  |none=>simp [hq] at h1
  |some o=>exact (Array.getElem?_eq_some_iff.1 hq).1
 rw [←h1]
 unfold World.cell?
 rw [hf.block _ hb (fun hk=>hF _ hk)]
theorem RoV.of_rd {w:World}{A:Option Addr}{vs:List Value}(h:RdV w A vs)(L:List Ast):RoV none' w L A vs:=⟨fun w' L' S=>RdV.fr h S.fr (fun _ h=>h)⟩
theorem pw_crash {g:Nat}{s:Dsk}{A:Option Addr}{ps:List Pick}{n c:Nat}(S:St F w0 w (PW g s::L))(hr:RoV F w0 L A (picksV ps))(hn:n=ps.length)(hpm:ps.length≤9223372036854775807):
  Calls Try.prog 64 #[pq g,.slice A n c] w fun e w'=>e=.returned (.tuple #[])∧St F w0 w' (PW g (s.crashR ps)::L):=by
 obtain ⟨r,S⟩:=St.pw S
 exact (pd_crash S hr hn hpm).mono fun e w' h=>⟨h.1,St.wp (r:=r) (s:=s.crashR ps) h.2⟩
structure RoL (F:Nat→Prop)(w0:World)(L:List Ast)(A:Option Addr)(R:List RecV):Prop where
 vs:RoV F w0 L A (R.map (·.1))
 el:∀x∈R,∃B c,x.1=.slice B x.2.length c∧RoT F w0 L B x.2∧x.2.length≤140737488355328
theorem rov_vec {F:Nat→Prop}{w0:World}{L:List Ast}{t:TypeId}{A:Option Addr}{n c:Nat}{vs:List Value}(i:Nat)(hi:L[i]?=some (vec t 1 (.slice A n c) n vs)):RoV F w0 L A vs:=⟨fun w' L' S=>by
 have h1:(L'++L)[L'.length+i]?=some (vec t 1 (.slice A n c) n vs):=by rw [List.getElem?_append_right om_];simpa using hi
 exact St.vec_rd S _ h1⟩
theorem rot_rec {F:Nat→Prop}{w0:World}{L:List Ast}{RV:List RecV}{x:RecV}{A:Option Addr}{c:Nat}(i:Nat)(hi:L[i]?=some (stars (RV.map recD)))(hx:x∈RV)(hv:x.1=.slice A x.2.length c):RoT F w0 L A x.2:=⟨fun w' L' S'=>by
 have h1:(L'++L)[L'.length+i]?=some (stars (RV.map recD)):=by rw [List.getElem?_append_right om_];simpa using hi
 have h2:=(S'.mem _ h1).star_mem (List.mem_map_of_mem hx)
 unfold recD at h2
 rw [hv] at h2
 exact RdV.bytes (St.vec_rd h2 0 rfl)⟩
theorem St.recv {RV:List RecV}{x:RecV}(S:St F w0 w L)(i:Nat)(hi:L[i]?=some (stars (RV.map recD)))(hx:x∈RV):∃A c,x.1=.slice A x.2.length c:=((S.mem i hi).star_mem (List.mem_map_of_mem hx)).vec_val
theorem RoL.more {F:Nat→Prop}{w0:World}{L:List Ast}{A:Option Addr}{R:List RecV}(h:RoL F w0 L A R)(X:Ast):RoL F w0 (X::L) A R:=⟨h.vs.more,fun x hx=>by obtain ⟨B,c,h1,h2,h3⟩:=h.el x hx;exact ⟨B,c,h1,h2.more,h3⟩⟩
end
section
theorem w_open_N {F:Nat→Prop}{w0 w:World}{L:List Ast}{gd n:Nat}{s:Dsk}(h1:18≤n)(h2:n≤256)(S:St F w0 w (PW gd s::L))(h:FrN n s 4294967296):Calls Try.prog 61 #[.pointer (some ⟨gd,0,none⟩),.int .i64 0,.int .i64 ((n:Nat):Int)] w fun e w'=>∃gl A c,e=.returned (.tuple #[.pointer (some ⟨gl,0,none⟩),.slice A 0 c,.int .i64 0])∧St F w0 w' (PLog gl gd ⟨0,n,inc s.life,1,1,0,0,false⟩::PW gd s.take.flushR.1::L):=by
 have hn:newR s.take (0:Int).toNat=some (1,0):=h.take.newR
 have ht:∀ep,topTo (pcAt s.take (0:Int).toNat (n:Int).toNat) ep (n:Int).toNat=ep:=fun ep=>topTo_no (fun p=>h.take.pc om_ p) ep n
 refine (w_open_go S (args_N h.left h.len h1 h2)).mono fun e w' hh=> ?_
 rcases hh with ⟨h1,_⟩|⟨ep,tl,h1,h2,_⟩|⟨ep,tl,gl,v,RV,hd,h1,h2,h3,_,rfl,S2⟩
 ·rw [hn] at h1;cases h1
 ·rw [hn] at h1;cases h1;rw [ht] at h2;exact absurd h2 dc_
 ·rw [hn] at h1;cases h1
  obtain ⟨e1,rfl⟩:=recs_no (fun p=>h.take.pc om_ p) h3
  have e2:RV=[]:=List.map_eq_nil_iff.1 e1
  subst e2
  rw [ht] at S2
  obtain ⟨A,c,rfl⟩:=St.vecV S2 0 rfl
  exact ⟨gl,A,c,rfl,S2.tail.tail⟩
theorem w_freshN {F:Nat→Prop}{w0 w:World}{L:List Ast}{n:Nat}(h18:18≤n)(h256:n≤256)(S:St F w0 w L):Calls Try.prog 54 #[.int .i64 ((n:Nat):Int)] w fun e w'=>∃gd gl s4,e=.returned (.tuple #[.pointer (some ⟨gd,0,none⟩),.pointer (some ⟨gl,0,none⟩)])∧FrN n s4 8589934592∧s4.pend=[]∧s4.life=3∧St F w0 w' (PLog gl gd ⟨0,n,s4.life,2,1,0,0,true⟩::PW gd s4::L):=by
 refine eN (fr [nI_ n] 51) Try.func54 rfl (sR (pv pn (pv pn (wER (pv (nI_ n) (gI .i64 (IntKind.i64.wrap (((n:Nat):Int)+2)) ((n+2:Nat):Int) wq_ (sP1 Try.func13 #[nI_ (n+2)] (pd_new (m:=n+2) om_ om_ S) fun gd w1 S2=> ?_)))))))
 have S3:=St.pw0 S2
 have hok0:=St.pw_ok S3
 have hz0:=zero_mkN (n:=n)
 have hp0:(Dsk.mk0 (List.replicate (n+2) zsec)).pend.length=0:=rfl
 have hq0:(Dsk.mk0 (List.replicate (n+2) zsec)).life=1:=rfl
 obtain ⟨s0,hs0⟩:∃s0,Dsk.mk0 (List.replicate (n+2) zsec)=s0:=⟨_,rfl⟩
 rw [hs0] at S3 hok0 hz0 hp0 hq0
 obtain ⟨hf1,hf2,hfe,hfl⟩:=format_N hok0 hz0 h18 h256
 obtain ⟨s1,hs1⟩:∃s1,(formatR s0 0 ((n:Nat):Int)).1=s1:=⟨_,rfl⟩
 rw [hs1] at hf2 hfe hfl
 have hl1:s1.life=2:=by rw [hfl,hq0];decide
 refine pv (.tuple #[pq gd,iv 0]) (pv (pq gd) (pv (iv 0) (pv (pq gd) (pv (iv 0) (wE (nS (sR (pv (pq gd) (pv fv (pv fv (pW (iv 0) (wl_when kr_ (gv_ne (x:=0) (y:=0) kr_ (fun hd4=>False.elim (hd4 rfl)) (fun _=>pv fv ?_))))))))))))))
 refine wE (nCF (wp_skip (nSR (pv (pq gd) (pv (nI_ n) (g_ (gv_call (args:=#[pq gd,iv 0,nI_ n]) rfl Try.func62 kr_ rfl rfl kr_ ?_)))))))
 have hff:=w_format (first:=0) (n:=((n:Nat):Int)) S3 om_
 rw [hf1,hs1] at hff
 refine Calls.mono hff ?_
 rintro _ w5 ⟨rfl,S6⟩
 refine ⟨_,rfl,(pv (iv 0) (wE (nS (sR (pv (iv 0) (dN 0 0 (fun hd7=>False.elim (hd7 rfl)) fun _=>wE (nCF (wp_skip (nSR (pv (pq gd) (pv (nI_ n) (g_ (gv_call (args:=#[pq gd,iv 0,nI_ n]) rfl Try.func61 kr_ rfl rfl kr_ ?_)))))))))))))⟩
 refine Calls.mono (w_open_N h18 h256 S6 hf2) ?_
 rintro _ w8 ⟨gl,A2,c2,rfl,S9⟩
 refine ⟨_,rfl, ?_⟩
 have hf3:=hf2.take.flush
 have hl3:s1.take.flushR.1.life=inc s1.life:=(Did.flush s1.take).life
 have hp3:=(Did.flush s1.take).pend
 have hp3:s1.take.flushR.1.pend.length≤s1.pend.length+0:=hp3
 obtain ⟨s3,hs3⟩:∃s3,s1.take.flushR.1=s3:=⟨_,rfl⟩
 rw [hs3] at S9 hf3 hl3 hp3
 rw [←hl3] at S9
 have hl33:s3.life=3:=by rw [hl3,hl1];decide
 have hp33:s3.pend.length=0:=by rw [hfe] at hp3;exact Nat.le_zero.1 hp3
 refine pv (.tuple #[pq gl,.slice A2 0 c2,iv 0]) (pv (pq gl) (pv (.slice A2 0 c2) (pv (iv 0) (pv (pq gl) (pv (.slice A2 0 c2) (pv (iv 0) (wE (nS (sR (pv (pq gl) (pv fv (pv fv (pW (iv 0) ?_)))))))))))))
 refine wl_when kr_ (gv_ne (x:=0) (y:=0) kr_ (fun hd10=>False.elim (hd10 rfl)) (fun _=>pv fv (pv fv (pW (.slice A2 0 c2) (pW (iv 0) (wl_when kr_ (gv_ne (x:=0) (y:=0) kr_ (fun hd11=>False.elim (hd11 rfl)) (fun _=>pv fv (wE (nCF (wp_skip (nSR (pv (pq gl) (g_ (gv_call (args:=#[pq gl]) rfl Try.func71 kr_ rfl rfl kr_ ?_)))))))))))))))
 have hok3:=St.pw_ok (L:=[]) (S9.mem 1 rfl)
 have hl4:=hf3.len
 obtain ⟨q1,q2,q3,q4,q5⟩:=start_N hok3 hf3 (l:=⟨0,n,s3.life,1,1,0,0,false⟩) rfl
 have hst:=w_start S9 ⟨Nat.zero_le _,h18,h256,show 1≤1073741824 by decide,show 1<1073741824 by decide,Nat.zero_le _⟩ om_ (by show 0+1<s3.last.length;omega) (fun _ _=>(Low.of (no:=4294967296) hf3.pair).ren hok3 (by show 0+1<s3.last.length;omega) (show 4294967296<(1+1)*4294967296+0 by decide) (show (1+1)*4294967296+0≤9223372036854775807 by decide))
 obtain ⟨s4,hs4⟩:∃s4,(startR s3 ⟨0,n,s3.life,1,1,0,0,false⟩).1=s4:=⟨_,rfl⟩
 rw [q1,q2,hs4] at hst
 rw [hs4] at q3 q4 q5
 rw [←q4] at hst
 refine Calls.mono hst ?_
 rintro _ w12 ⟨rfl,S13⟩
 refine ⟨_,rfl,(pv (iv 0) (wE (nS (sR (pv (iv 0) (dN 0 0 (fun hd14=>False.elim (hd14 rfl)) fun _=>wE (nCF (wp_skip (nSR (pv (pq gd) (pv (pq gl) (pv (pq gd) ?_))))))))))))⟩
 exact pv (pq gl) (wE (then_n (wp_ret (bB (pq gd) (pq gl) ⟨gd,gl,s4,rfl,q3,q5,by omega,S13⟩))))
structure RingI (i n T H:Nat)(s:Dsk):Prop where
 core:∃R low Y,Core s n 2 T Y H H R low
 left:s.left= -1
 h:H≤17*i
 life:s.life=3
theorem FrN.core {n:Nat}{s:Dsk}(h:FrN n s 8589934592)(hp:s.pend=[])(h1:18≤n)(h2:n≤256):Core s n 2 0 0 0 0 [] 0:=by
 have hpc:∀k,k<n→pcF (s.lst (2+k))=pcNo:=fun k hk=>by rw [←now_lst hp,h.ring _ om_ om_];exact pc_zero
 obtain ⟨x,hx⟩:=h.pair
 refine ⟨⟨h1,h2⟩,h.len,Sgl.nil hp,by omega,(by rw [hp];intro y hy;cases hy),⟨x,by rw [←now_lst hp,←now_lst hp];exact hx⟩,fun k hk=> ?_,.nil,Nat.le_refl _,.nil⟩
 rw [hpc k hk]
 exact ⟨Nat.zero_le _,fun e=>absurd (show (0:Nat)=2 from e) dc_⟩
theorem RingI.next {i n T H:Nat}{s:Dsk}(h:RingI i n T H s):RingI (i+1) n T H s:=⟨h.core,h.left,by have:=h.h;omega,h.life⟩
section
variable {F:Nat→Prop}{w0 w:World}{L:List Ast}{gl gd i n T H:Nat}{s:Dsk}
end
end
section
theorem RoL.take {F:Nat→Prop}{w0:World}{L:List Ast}{A:Option Addr}{R:List RecV}(h:RoL F w0 L A R)(m:Nat):RoL F w0 L A (R.take m):=
 ⟨⟨fun w' L' S h0=>by
  have h1:0<(R.map (·.1)).length:=by rw [List.length_map] at h0 ⊢;rw [List.length_take] at h0;omega
  obtain ⟨ad,e,q⟩:=h.vs.out w' L' S h1
  refine ⟨ad,e,fun j u hu=>q j u ?_⟩
  rw [List.map_take,List.getElem?_take] at hu
  split at hu
  ·exact hu
  ·cases hu⟩,fun x hx=>h.el x (List.mem_of_mem_take hx)⟩
structure PBk where
 gd:Nat
 gl:Nat
 gb:Nat
 v:Value
 RV:List RecV
 XS:List RecV
 s:Dsk
 l:Lg
 low:Nat
 nn:Bool
def PBk.parts (gp n:Nat)(p:PBk):List Ast:=[row gp #[.pointer (some ⟨p.gd,0,none⟩),.pointer (some ⟨p.gl,0,none⟩),.int .i64 (n:Nat),.pointer (some ⟨p.gb,0,none⟩)] 123,row p.gb #[p.v,.int .i64 (p.low:Nat),.bool p.nn] 121,vec 31 1 p.v (p.RV++p.XS).length ((p.RV++p.XS).map (·.1)),stars (p.RV.map recD),PLog p.gl p.gd p.l,PW p.gd p.s]
def XOk (F:Nat→Prop)(w0:World)(XS:List RecV):Prop:=∀x∈XS,∃B c,x.1=.slice B x.2.length c∧(∀L,RoT F w0 L B x.2)∧x.2.length≤140737488355328
structure PBok (F:Nat→Prop)(w0:World)(k n:Nat)(p:PBk):Prop where
 xs:XOk F w0 p.XS
 rv:∀x∈p.RV,1≤x.2.length∧x.2.length≤8364
 len:(p.RV++p.XS).length≤256+k
 lo:p.low≤256+k
 lf:p.l.life≤p.s.life
section
variable {F:Nat→Prop}{w0 w:World}{L:List Ast}{gp k n:Nat}
theorem PBok.next {p:PBk}(h:PBok F w0 k n p):PBok F w0 (k+1) n p:=⟨h.xs,h.rv,by have:=h.len;omega,by have:=h.lo;omega,h.lf⟩
end
end
section
structure OpY where
 g:Nat
 A:Option Addr
 c:Nat
 m:Nat
def OpY.zero:OpY:=⟨0,none,0,0⟩
section
variable {F:Nat→Prop}{w0 w:World}{L:List Ast}{gd gp k n:Nat}{B:List (List UInt8)}{low:Nat}{nn:Bool}
end
end
section
section
variable {k n low:Nat}{s:Dsk}{l:Lg}{nn:Bool}
end
structure OpE where
 kind:Int
 a:Int
 b:Int
 A:Option Addr
 d:List UInt8
 cd:Nat
 A2:Option Addr
 ps:List Pick
 cq:Nat
def OpE.cells (o:OpE):List Value:=[.int .i64 o.kind,.int .i64 o.a,.int .i64 o.b,.slice o.A o.d.length o.cd,.slice o.A2 o.ps.length o.cq]
def opeV (l:List OpE):List Value:=l.flatMap OpE.cells
theorem length_opeV (l:List OpE):(opeV l).length=l.length*5:=by
 induction l with
 |nil=>rfl
 |cons p r ih=>simp [opeV,OpE.cells] at ih ⊢;omega
theorem opeV_at:∀(l:List OpE) (i:Nat) (p:OpE),l[i]?=some p→∀j u,p.cells[j]?=some u→(opeV l)[i*5+j]?=some u
 |[],i,p,h,_,_,_=>by simp at h
 |q::r,0,p,h,j,u,hu=>by
  simp at h;subst h
  have:=(List.getElem?_eq_some_iff.1 hu).1
  show ((q.cells++opeV r))[0*5+j]?=some u
  rw [List.getElem?_append_left om_];simpa using hu
 |q::r,i+1,p,h,j,u,hu=>by
  have ih:=opeV_at r i p (by simpa using h) j u hu
  show ((q.cells++opeV r))[(i+1)*5+j]?=some u
  rw [List.getElem?_append_right (by simp [OpE.cells];omega)]
  simpa [OpE.cells,show (i+1)*5+j-5=i*5+j from by omega] using ih
structure OpE.Ok (w:World)(o:OpE):Prop where
 d:RdB w o.A o.d
 p:RdV w o.A2 (picksV o.ps)
 cap:o.d.length≤o.cd
 dm:o.d.length≤140737488355328
 pm:o.ps.length*24≤140737488355328
 ha:o.a≤9223372036854775807
end
end Go.Proofs
end
section
open Go Go.RowKit Go.Proofs.YtgeioealgidkiaaW.PrintWords Go.Proofs.YtgeioealgidkiaaW.PrintMore
namespace Go.Proofs
open Go.Vel
set_option linter.unusedVariables false
theorem nodup_le:∀(l m:List Nat),l.Nodup→(∀x∈l,x∈m)→l.length≤m.length
 |[],m,_,_=>Nat.zero_le _
 |a::l,m,hn,hs=>by
  rw [List.nodup_cons] at hn
  have ha:=hs a (List.mem_cons_self ..)
  have h1:=nodup_le l (m.erase a) hn.2 fun x hx=>(List.mem_erase_of_ne (fun e=>hn.1 (by rw [←e];exact hx))).2 (hs x (List.mem_cons_of_mem _ hx))
  have h2:=List.length_erase_of_mem ha
  have h3:=List.length_pos_of_mem ha
  rw [List.length_cons];omega
def diffs (s:Dsk)(k:Nat):Nat:=((List.range k).filter fun j=> !decide (s.now j=s.lst j)).length
theorem diffs_le (s:Dsk)(k:Nat):diffs s k≤k:=by
 have:=List.length_filter_le (fun j=> !decide (s.now j=s.lst j)) (List.range k)
 rw [List.length_range] at this;exact this
theorem diffs_eq {s:Dsk}{k:Nat}(h:s.now k=s.lst k):diffs s (k+1)=diffs s k:=by
 unfold diffs;rw [List.range_succ,List.filter_append,List.filter_cons_of_neg (by simp [h])];simp
theorem diffs_ne {s:Dsk}{k:Nat}(h:s.now k≠s.lst k):diffs s (k+1)=diffs s k+1:=by
 unfold diffs;rw [List.range_succ,List.filter_append,List.filter_cons_of_pos (by simp [h])];simp
theorem Sgl.diffs {s:Dsk}(h:Sgl s)(hok:DOk s):diffs s s.last.length=s.pend.length:=by
 have hr:(List.range s.last.length).Nodup:=List.nodup_range
 have e:s.pend.length=(s.pend.map (·.1)).length:=(List.length_map ..).symm
 rw [e]
 apply Nat.le_antisymm
 ·refine nodup_le _ _ (hr.filter _) fun k hk=> ?_
  obtain ⟨h1,h2⟩:=List.mem_filter.1 hk
  by_cases hf:∀x∈s.pend,x.1≠k
  ·have:=(now_free hf).2
   rw [show s.lst k=s.last.getD k [] from rfl,this] at h2
   simp at h2
  ·simp only [Classical.not_forall] at hf
   obtain ⟨x,hx,hxk⟩:=hf
   exact List.mem_map.2 ⟨x,hx,Classical.not_not.1 hxk⟩
 ·refine nodup_le _ _ h.nodup fun k hk=> ?_
  obtain ⟨x,hx,rfl⟩:=List.mem_map.1 hk
  refine List.mem_filter.2 ⟨List.mem_range.2 (hok.plen x hx).2, ?_⟩
  have hne:s.now x.1≠s.lst x.1:=by rw [(h.now hx).2];exact (h.over x hx).ne
  simp [hne]
theorem CutOf.whole {s x:Dsk}(h:Sgl s)(c:CutOf s x){k:Nat}(hk:k<s.last.length):openF (x.lst k)=([],30)∨x.lst k=s.lst k∨x.lst k=s.now k:=by
 by_cases hf:∀y∈s.pend,y.1≠k
 ·exact .inr (.inl (c.free k hk hf))
 ·simp only [Classical.not_forall] at hf
  obtain ⟨y,hy,hyk⟩:=hf
  have hyk:y.1=k:=Classical.not_not.1 hyk
  subst hyk
  rcases c.one y hy with e|e|e
  ·exact .inr (.inl e)
  ·exact .inr (.inr (by rw [(h.now hy).2];exact e))
  ·exact .inl e
end Go.Proofs
end
section
open Go Go.RowKit Go.Proofs.YtgeioealgidkiaaW.PrintWords Go.Proofs.YtgeioealgidkiaaW.PrintMore
namespace Go.Proofs
open Go.Vel
set_option linter.unusedVariables false
set_option maxRecDepth 100000
set_option maxHeartbeats 4000000
attribute [local irreducible] gives wpList Code.wp
section
def chunks (g m k:Nat):List Value:=(List.range k).map fun j=>.slice (some ⟨g,j*512,none⟩) 512 (m-j*512)
theorem chunks_succ (g m k:Nat):chunks g m k++[.slice (some ⟨g,k*512,none⟩) 512 (m-k*512)]=chunks g m (k+1):=by
 unfold chunks;rw [List.range_succ,List.map_append];rfl
theorem chunks_len (g m k:Nat):(chunks g m k).length=k:=by unfold chunks;simp
theorem chunks_at {g m k j:Nat}(h:j<k):(chunks g m k)[j]?=some (.slice (some ⟨g,j*512,none⟩) 512 (m-j*512)):=by
 unfold chunks;rw [List.getElem?_map,List.getElem?_range h];rfl
theorem w_parts {F:Nat→Prop}{w0 w:World}{L:List Ast}{gi m k:Nat}(S:St F w0 w L)(hk:k≤1000)(hm:m=k*512):Calls Try.prog 117 #[.slice (some ⟨gi,0,none⟩) m m] w fun e w'=>∃v,e=.returned v∧St F w0 w' (vec 31 1 v k (chunks gi m k)::L):=by
 refine eN (fr [sl gi 0 m m] 20) Try.func117 rfl (sR (pv (nS_) (wER (pv (nS_) (wE (nS (sR (pv (iv 0) (wE (then_n (wp_block ?_)))))))))))
 have S1:St F w0 w (vec 31 1 (nS_) 0 []::L):=St.vec_nil S
 have S2:St F w0 w (vec 31 1 (nS_) 0 (chunks gi m 0)::L):=S1
 refine wp_loop_g (G:=Nat×Value) (fun (g_:Nat×Value) (a_:Act) (w_:World)=>∃J:Nat→Value,a_=(fr ([sl gi 0 m m,ud,nS_,g_.2,nI_ (g_.1*512)]++jR J 5 15) 1)∧St F w0 w_ (vec 31 1 g_.2 g_.1 (chunks gi m g_.1)::L)∧(g_.1≤k)) (fun g_=>k-g_.1) (0,nS_) (jE_ ⟨S2,Nat.zero_le _⟩) ?_
 rintro ⟨i,v⟩ a_ w3 ⟨J,rfl,S4,hi1⟩
 skip
 have S4:St F w0 w3 (vec 31 1 v i (chunks gi m i)::L):=S4
 refine wp_seq (sR (pv (nI_ (i*512)) (gI .i64 (IntKind.i64.wrap (((i*512:Nat):Int)+512)) (((i*512:Nat):Int)+512) (wr_ok om_ om_) (pv (sl gi 0 m m) (pv (iv (m:Nat)) (dC ((((i*512:Nat):Int)+512:Int)≤(m:Nat)) (fun hb6=> ?_) fun hb6=> ?_))))))
 ·refine wE (nCT (wp_skip (nS (wp_block (wp_region_lit (pv v (pv (sl gi 0 m m) (pv (nI_ (i*512)) (pv (nI_ (i*512)) (gI .i64 (IntKind.i64.wrap (((i*512:Nat):Int)+512)) ((i*512+512:Nat):Int) (wr_ok om_ om_) (g_ (gv_cutE (e:=5) (sz:=1) (g:=gi) (off:=0) (n:=m) (c:=m) (kl:=.i64) (kh:=.i64) (u:=((i*512:Nat):Int)) (v:=((i*512+512:Nat):Int)) (lo:=(i*512)) (hi:=(i*512+512)) (off':=(i*512)) (n':=512) (c':=(m-i*512)) rfl kr_ kr_ kr_ kr_ kr_ rfl rfl om_ om_ om_ om_ om_ om_ (g_ (gv_slit (e:=31) (sz:=1) (z:=nS_) (by_:=24) (vs:=#[(0,.slice (some ⟨gi,i*512,none⟩) 512 (m-i*512))]) (cells:=#[.slice (some ⟨gi,i*512,none⟩) 512 (m-i*512)]) S4 rfl kr_ ⟨by kernel_rfl⟩ kr_ kr_ kr_ kr_ (fun g7 w8 hg9 S10=>g_ (gv_append (e:=31) (sz:=1) (n:=i) (v:=v) (vals:=(chunks gi m i)) (z:=nS_) (by_:=24) (m:=1) (c':=1) (ad:=⟨g7,0,none⟩) (news:=[.slice (some ⟨gi,i*512,none⟩) 512 (m-i*512)]) (St.swap S10) rfl kr_ ⟨by kernel_rfl⟩ rfl kr_ kr_ dc_ rfl (row_news (S10.blk 0 rfl)) (by intro u hu;simp at hu;subst hu;rfl) om_ om_ (fun v12 w11 S13=> ?_)))))))))))))))))
  refine pv v12 (wE (inb_n (nR (pv (nI_ (i*512)) (gI .i64 (IntKind.i64.wrap (((i*512:Nat):Int)+512)) (((i+1)*512:Nat):Int) (by rw [Nat.add_mul];exact wr_ok om_ om_) (pv (nI_ ((i+1)*512)) (wE (then_n ?_))))))))
  have S14:St F w0 w11 (vec 31 1 v12 (i+1) (chunks gi m i++[.slice (some ⟨gi,i*512,none⟩) 512 (m-i*512)])::L):=St.pm 2 [0] S13
  rw [chunks_succ] at S14
  exact ⟨(i+1,v12),(jE_ ⟨S14,(by show i+1≤k;omega)⟩),(by show k-(i+1)<k-i;omega)⟩
 ·refine wE (nCF (wp_exit (then_x (then_x (inb_x (nSR (pv v (pv v (wE (then_n (wp_ret (bA v ?_))))))))))))
  obtain rfl:i=k:=by omega
  have S15:=St.pm 1 [0] S4
  exact ⟨_,rfl,S15⟩
section
variable {F:Nat→Prop}{w0 w:World}{L:List Ast}
theorem St.bytes_open {v:Value}{l:List UInt8}(h0:l≠[])(S:St F w0 w (bytesA v l::L)):∃g,v=.slice (some ⟨g,0,none⟩) l.length l.length∧St F w0 w (row g (bvs l) 5::L):=by
 obtain ⟨q,hq⟩:=(S.mem 0 rfl).own.holds
 rcases hq with ⟨_,h,_⟩|⟨g,e,_⟩
 ·exact absurd h h0
 ·refine ⟨g,e,S.map1 fun p hp=> ?_⟩
  rcases hp with ⟨_,h,_⟩|⟨g',e',hr⟩
  ·exact absurd h h0
  ·rw [e] at e'
   have:g=g':=by simpa using e'
   subst this;exact hr
theorem St.bytes_rec {A:Option Addr}{n c:Nat}{x:List UInt8}(hx:x≠[])(S:St F w0 w (bytesA (.slice A n c) x::L)):St F w0 w (recD (.slice A n c,x)::L):=by
 obtain ⟨g,e,S⟩:=St.bytes_open hx S
 unfold recD
 rw [show ((Value.slice A n c,x):RecV).1=.slice (some ⟨g,0,none⟩) x.length x.length from e]
 refine St.vec_mk (junk:=[]) (by rw [List.append_nil];exact S) (Nat.le_refl _) (by simp) (by simp)
theorem St.rec_more {RV:List RecV}{x:RecV}(S:St F w0 w (recD x::stars (RV.map recD)::L)):St F w0 w (stars ((RV++[x]).map recD)::L):=by
 rw [List.map_append]
 have S1:St F w0 w (stars [recD x]::stars (RV.map recD)::L):=St.star (LA:=[recD x]) S
 exact St.star_join S1.swap
end
theorem same_m {F:Nat→Prop}{w0 w:World}{L:List Ast}{A B:Option Addr}{a b:List UInt8}{n m ca cb:Nat}{t:Bool}(hn:n=a.length)(hm:m=b.length)(ht:decide (a=b)=t)(S:St F w0 w L)(hx:RoT F w0 L A a)(hy:RoT F w0 L B b)(h1:n≤9223372036854775807)(h2:m≤9223372036854775807):
  Calls Try.prog 24 #[.slice A n ca,.slice B m cb] w fun e w'=>e=.returned (.bool t)∧St F w0 w' L:=by
 subst hn hm;exact same_b ht S hx hy h1 h2
theorem rot_at {F:Nat→Prop}{w0:World}{L:List Ast}{RV:List RecV}{A:Option Addr}{n c:Nat}{l:List UInt8}(i:Nat)(hi:L[i]?=some (stars (RV.map recD)))(hx:((.slice A n c:Value),l)∈RV)(hn:n=l.length):RoT F w0 L A l:=by
 subst hn;exact rot_rec (x:=(.slice A l.length c,l)) i hi hx rfl
theorem lst_len {s:Dsk}(hok:DOk s){j:Nat}(hj:j<s.last.length):(s.lst j).length=512:=hok.len _ (by unfold Dsk.lst;rw [List.getD_eq_getElem?_getD,List.getElem?_eq_getElem hj];exact List.getElem_mem _)
theorem flat_at {s:Dsk}(hok:DOk s){j:Nat}(hj:j<s.last.length):s.lst j=(s.last.flatten.drop (j*512)).take 512:=by
 have h5:∀x∈s.last,x.length=512:=hok.len
 rw [Nat.mul_comm]
 refine (flat_sec h5 j _ ?_).symm
 unfold Dsk.lst
 rw [List.getD_eq_getElem?_getD,List.getElem?_eq_getElem hj];rfl
theorem w_single {F:Nat→Prop}{w0 w:World}{L:List Ast}{gd k:Nat}{s:Dsk}(S:St F w0 w (PW gd s::L))(hz:s.left≠0)(hk:s.last.length=k)(hk1:1≤k)(hk2:k≤1000)(hd:diffs s k=s.pend.length):Calls Try.prog 68 #[.pointer (some ⟨gd,0,none⟩)] w fun e w'=>∃gi AO cO AN cN,∃RV:List RecV,e=.returned (.tuple #[.slice AO k cO,.slice AN k cN,.bool true])∧RV.map (fun x:RecV=>x.2)=(List.range k).map s.now∧St F w0 w' (row gi (bvs s.last.flatten) 5::vec 31 1 (.slice AO k cO) k (chunks gi s.last.flatten.length k)::vec 31 1 (.slice AN k cN) k (RV.map (fun x:RecV=>x.1))::stars (RV.map recD)::PW gd s::L):=by
 have hok:=St.pw_ok (L:=[]) (S.mem 0 rfl)
 have hfl:s.last.flatten.length=k*512:=by rw [flat_len hok.len,hk];omega
 have hfn:s.last.flatten≠[]:=fun e=>by rw [e] at hfl;simp at hfl;omega
 refine eN (fr [pq gd] 51) Try.func68 rfl (sR (pv (nS_) (pv (nS_) (pv fv (wER (pv (pq gd) (g_ (gv_call (args:=#[pq gd]) rfl Try.func18 kr_ rfl rfl kr_ (Calls.mono (pw_image S) ?_)))))))))
 rintro _ w1 ⟨v3,rfl,S2⟩
 obtain ⟨gi,hv_,S4⟩:=St.bytes_open hfn S2
 subst hv_
 refine ⟨_,rfl,(pv (sl gi 0 s.last.flatten.length s.last.flatten.length) (wER (pv (sl gi 0 s.last.flatten.length s.last.flatten.length) (g_ (gv_call (args:=#[sl gi 0 s.last.flatten.length s.last.flatten.length]) rfl Try.func117 kr_ rfl rfl kr_ (Calls.mono (w_parts (k:=k) S4 hk2 hfl) ?_))))))⟩
 rintro _ w5 ⟨v_,rfl,S6⟩
 obtain ⟨AO,cO,rfl⟩:=St.vecV S6 0 rfl
 refine ⟨_,rfl,(pv (.slice AO k cO) (wER (pv (nS_) (wER (pv (iv 0) (wE (nS (sR (pv (iv 0) (wE (then_n (wp_block ?_))))))))))))⟩
 have S7:St F w0 w5 (stars ((([]:List RecV)).map recD)::vec 31 1 (.slice AO k cO) k (chunks gi s.last.flatten.length k)::row gi (bvs s.last.flatten) 5::PW gd s::L):=St.star_nil S6
 have S8:St F w0 w5 (vec 31 1 (nS_) 0 ((([]:List RecV)).map (fun x:RecV=>x.1))::stars ((([]:List RecV)).map recD)::vec 31 1 (.slice AO k cO) k (chunks gi s.last.flatten.length k)::row gi (bvs s.last.flatten) 5::PW gd s::L):=St.vec_nil S7
 have S9:St F w0 w5 (vec 31 1 (nS_) 0 ((([]:List RecV)).map (fun x:RecV=>x.1))::stars ((([]:List RecV)).map recD)::row gi (bvs s.last.flatten) 5::vec 31 1 (.slice AO k cO) k (chunks gi s.last.flatten.length k)::PW gd s::L):=St.pm 5 [0,1,3,2,4] S8
 refine wp_loop_g (G:=Nat×Value×List RecV) (fun (g_:Nat×Value×List RecV) (a_:Act) (w_:World)=>∃J:Nat→Value,a_=(fr ([pq gd,ud,J 2,J 3,J 4,sl gi 0 s.last.flatten.length s.last.flatten.length,.slice AO k cO,g_.2.1,nI_ (diffs s g_.1),nI_ g_.1,J 10,J 11,ud,pq gd,sl gi 0 s.last.flatten.length s.last.flatten.length,sl gi 0 s.last.flatten.length s.last.flatten.length,.slice AO k cO]++jR J 17 27) 8)∧St F w0 w_ (vec 31 1 g_.2.1 g_.1 (g_.2.2.map (fun x:RecV=>x.1))::stars (g_.2.2.map recD)::row gi (bvs s.last.flatten) 5::vec 31 1 (.slice AO k cO) k (chunks gi s.last.flatten.length k)::PW gd s::L)∧(g_.1≤k∧g_.2.2.map (fun x:RecV=>x.2)=(List.range g_.1).map s.now)) (fun g_=>k-g_.1) (0,nS_,[]) (jE_ ⟨S9,⟨Nat.zero_le _,rfl⟩⟩) ?_
 rintro ⟨i,v,RV⟩ a_ w10 ⟨J,rfl,S11,⟨hi1,hRV⟩⟩
 skip
 have S11:St F w0 w10 (vec 31 1 v i (RV.map (fun x:RecV=>x.1))::stars (RV.map recD)::row gi (bvs s.last.flatten) 5::vec 31 1 (.slice AO k cO) k (chunks gi s.last.flatten.length k)::PW gd s::L):=S11
 refine wp_seq (sR (pv (nI_ i) (pv (.slice AO k cO) (pv (iv (k:Nat)) (dC ((((i:Nat):Int):Int)<(k:Nat)) (fun hb13=> ?_) fun hb13=> ?_)))))
 ·refine wE (nCT (wp_skip (nS (wp_block (sR (pv (pq gd) (pv (nI_ i) (g_ (gv_call (args:=#[pq gd,nI_ i]) rfl Try.func26 kr_ rfl rfl kr_ ?_)))))))))
  have hi:i<k:=by omega
  have S14:St F w0 w10 (PW gd s::vec 31 1 v i (RV.map (fun x:RecV=>x.1))::stars (RV.map recD)::row gi (bvs s.last.flatten) 5::vec 31 1 (.slice AO k cO) k (chunks gi s.last.flatten.length k)::L):=St.pm 5 [4,0,1,2,3] S11
  refine Calls.mono (pw_read (k:=i) S14 hz om_) ?_
  rintro _ w15 ⟨m17,rfl,S16⟩
  refine ⟨_,rfl,(pv (.tuple #[.slice m17 512 512,iv 0]) (pv (.slice m17 512 512) (pv (iv 0) (pv (.slice m17 512 512) (pv (iv 0) (wE (nS (sR (pv (iv 0) (dN 0 0 (fun hd18=>False.elim om_) fun _=>wE (nCF (wp_skip ?_))))))))))))⟩
  refine nSR (pv v (pv (.slice m17 512 512) (g_ (gv_slit (e:=31) (sz:=1) (z:=nS_) (by_:=24) (vs:=#[(0,.slice m17 512 512)]) (cells:=#[.slice m17 512 512]) S16 rfl kr_ ⟨by kernel_rfl⟩ kr_ kr_ kr_ kr_ (fun g19 w20 hg21 S22=> ?_)))))
  have S23:St F w0 w20 (row g19 #[.slice m17 512 512] 31::vec 31 1 v i (RV.map (fun x:RecV=>x.1))::bytesA (.slice m17 512 512) (s.now i)::PW gd s::stars (RV.map recD)::row gi (bvs s.last.flatten) 5::vec 31 1 (.slice AO k cO) k (chunks gi s.last.flatten.length k)::L):=St.pm 7 [0,3,1,2,4,5,6] S22
  refine g_ (gv_append (e:=31) (sz:=1) (n:=i) (v:=v) (vals:=(RV.map (fun x:RecV=>x.1))) (z:=nS_) (by_:=24) (m:=1) (c':=1) (ad:=⟨g19,0,none⟩) (news:=[.slice m17 512 512]) (St.swap S23) rfl kr_ ⟨by kernel_rfl⟩ rfl kr_ kr_ dc_ rfl (row_news (S23.blk 0 rfl)) (by intro u hu;simp at hu;subst hu;rfl) om_ om_ (fun v25 w24 S26=>pv v25 (wER ?_)))
  have hl5:(s.now i).length=512:=hok.now om_
  have hl6:(s.lst i).length=512:=lst_len hok om_
  have hne5:s.now i≠[]:=fun e=>by rw [e] at hl5;simp at hl5
  have S27:St F w0 w24 (bytesA (.slice m17 512 512) (s.now i)::stars (RV.map recD)::vec 31 1 v25 (i+1) (RV.map (fun x:RecV=>x.1)++[.slice m17 512 512])::row gi (bvs s.last.flatten) 5::vec 31 1 (.slice AO k cO) k (chunks gi s.last.flatten.length k)::PW gd s::L):=St.pm 7 [2,4,0,5,6,3] S26
  have S28:=St.rec_more (St.bytes_rec hne5 S27)
  have hRV2:(RV++[((.slice m17 512 512:Value),s.now i)]).map (fun x:RecV=>x.2)=(List.range (i+1)).map s.now:=by rw [List.map_append,hRV,List.range_succ,List.map_append];rfl
  have hV2:RV.map (fun x:RecV=>x.1)++[.slice m17 512 512]=(RV++[((.slice m17 512 512:Value),s.now i)]).map (fun x:RecV=>x.1):=by rw [List.map_append];rfl
  rw [hV2] at S28
  have S29:=St.pm 5 [1,0,2,3,4] S28
  have hch:(chunks gi s.last.flatten.length k)[i]?=_:=chunks_at hi
  obtain ⟨ad,hAd,hrs⟩:=St.vec_rd S29 3 rfl (by rw [chunks_len];omega)
  by_cases hq:s.now i=s.lst i
  ·have hdl:=diffs_le s i
   have hdf:=diffs_eq hq
   refine pv (.slice m17 512 512) (pv (.slice AO k cO) (pv (nI_ i) (g_ (gv_ixB (e:=31) (sz:=1) (n:=k) (c:=cO) (i:=((i:Nat):Int)) (k:=.i64) (ad:=ad) (ad':=(ad.add i)) (j:=i) rfl kr_ kr_ (by rw [←hAd];kernel_rfl) kr_ rfl om_ (by rw [Nat.mul_one]) (lQ (.slice (some ⟨gi,i*512,none⟩) 512 (s.last.flatten.length-i*512)) (hrs i _ hch) (sP Try.func24 #[.slice m17 512 512,.slice (some ⟨gi,i*512,none⟩) 512 (s.last.flatten.length-i*512)] (same_m (a:=s.now i) (b:=s.lst i) (n:=512) (m:=512) hl5.symm hl6.symm (decide_eq_true hq) S29 (rot_at 1 rfl (List.mem_append_right _ (List.mem_singleton.2 rfl)) hl5.symm) (RoT.item 2 rfl (i*512) 512 _ (flat_at hok om_)) dc_ dc_) fun w30 S31=>pv fv (wE (nCF (wp_skip (inb_n (nR (pv (nI_ i) (gI .i64 (IntKind.i64.wrap (((i:Nat):Int)+1)) (((i:Nat):Int)+1) (wr_ok om_ om_) ?_)))))))))))))
   exact pv (iv (((i:Nat):Int)+1)) (wE (then_n ⟨(i+1,v25,RV++[((.slice m17 512 512:Value),s.now i)]),(jF_ (fun z_:Nat=>(fr [pq gd,ud,J 2,J 3,J 4,sl gi 0 s.last.flatten.length s.last.flatten.length,.slice AO k cO,v25,nI_ z_,iv (((i:Nat):Int)+1),.slice m17 512 512,iv 0,ud,pq gd,sl gi 0 s.last.flatten.length s.last.flatten.length,sl gi 0 s.last.flatten.length s.last.flatten.length,.slice AO k cO,nI_ i,.slice AO k cO,iv (k:Nat),tv,nI_ i,iv (((i:Nat):Int)+1),.tuple #[.slice m17 512 512,iv 0],pq gd,nI_ i,.tuple #[.slice m17 512 512,iv 0],.slice m17 512 512,iv 0,iv 0,fv,v,.slice m17 512 512,sl g19 0 1 1,v25,.slice m17 512 512,.slice AO k cO,nI_ i,.pointer (some (ad.add i)),sl gi (i*512) 512 (s.last.flatten.length-i*512),tv,fv,J 42,J 43] 8)) (x:=diffs s i) (y:=diffs s (i+1)) hdf.symm ⟨S31,⟨by show i+1≤k;omega,hRV2⟩⟩),(by show k-(i+1)<k-i;omega)⟩))
  ·have hdl:=diffs_le s i
   have hdf:=diffs_ne hq
   refine pv (.slice m17 512 512) (pv (.slice AO k cO) (pv (nI_ i) (g_ (gv_ixB (e:=31) (sz:=1) (n:=k) (c:=cO) (i:=((i:Nat):Int)) (k:=.i64) (ad:=ad) (ad':=(ad.add i)) (j:=i) rfl kr_ kr_ (by rw [←hAd];kernel_rfl) kr_ rfl om_ (by rw [Nat.mul_one]) (lQ (.slice (some ⟨gi,i*512,none⟩) 512 (s.last.flatten.length-i*512)) (hrs i _ hch) (sP Try.func24 #[.slice m17 512 512,.slice (some ⟨gi,i*512,none⟩) 512 (s.last.flatten.length-i*512)] (same_m (a:=s.now i) (b:=s.lst i) (n:=512) (m:=512) hl5.symm hl6.symm (decide_eq_false hq) S29 (rot_at 1 rfl (List.mem_append_right _ (List.mem_singleton.2 rfl)) hl5.symm) (RoT.item 2 rfl (i*512) 512 _ (flat_at hok om_)) dc_ dc_) fun w32 S33=>pv tv (wE (nCT (wp_region_lit (pv (nI_ (diffs s i)) (gI .i64 (IntKind.i64.wrap (((diffs s i:Nat):Int)+1)) ((diffs s i+1:Nat):Int) (wr_eq om_ om_ om_) (pv (nI_ (diffs s i+1)) (wE ?_)))))))))))))
   exact inb_n (nR (pv (nI_ i) (gI .i64 (IntKind.i64.wrap (((i:Nat):Int)+1)) (((i:Nat):Int)+1) (wr_ok om_ om_) (pv (iv (((i:Nat):Int)+1)) (wE (then_n ⟨(i+1,v25,RV++[((.slice m17 512 512:Value),s.now i)]),(jF_ (fun z_:Nat=>(fr [pq gd,ud,J 2,J 3,J 4,sl gi 0 s.last.flatten.length s.last.flatten.length,.slice AO k cO,v25,nI_ z_,iv (((i:Nat):Int)+1),.slice m17 512 512,iv 0,ud,pq gd,sl gi 0 s.last.flatten.length s.last.flatten.length,sl gi 0 s.last.flatten.length s.last.flatten.length,.slice AO k cO,nI_ i,.slice AO k cO,iv (k:Nat),tv,nI_ i,iv (((i:Nat):Int)+1),.tuple #[.slice m17 512 512,iv 0],pq gd,nI_ i,.tuple #[.slice m17 512 512,iv 0],.slice m17 512 512,iv 0,iv 0,fv,v,.slice m17 512 512,sl g19 0 1 1,v25,.slice m17 512 512,.slice AO k cO,nI_ i,.pointer (some (ad.add i)),sl gi (i*512) 512 (s.last.flatten.length-i*512),fv,tv,nI_ (diffs s i),nI_ (diffs s i+1)] 8)) (x:=diffs s i+1) (y:=diffs s (i+1)) hdf.symm ⟨S33,⟨by show i+1≤k;omega,hRV2⟩⟩),(by show k-(i+1)<k-i;omega)⟩))))))
 ·refine wE (nCF (wp_exit (then_x (then_x (inb_x (nSR (pv (pq gd) (g_ (gv_call (args:=#[pq gd]) rfl Try.func17 kr_ rfl rfl kr_ ?_)))))))))
  have S37:St F w0 w10 (PW gd s::vec 31 1 v i (RV.map (fun x:RecV=>x.1))::stars (RV.map recD)::row gi (bvs s.last.flatten) 5::vec 31 1 (.slice AO k cO) k (chunks gi s.last.flatten.length k)::L):=St.pm 5 [4,0,1,2,3] S11
  refine Calls.mono (pw_counts S37) ?_
  rintro _ w35 ⟨r34,rfl,S36⟩
  refine ⟨_,rfl,(nW rfl (.agg #[iv 0,iv 0,iv 0,iv 0,iv 0]) S36 fun g38 w39 hg40 S41=>g_ (gv_stA (k:=0) (vs:=[iv r34,iv s.wr,iv s.fl,iv s.rf,nI_ s.pend.length]) S41 0 rfl rfl kr_ kr_ kr_ rfl (by simp [Value.oneCell']) (Nat.le_of_ble_eq_true kr_) (L':=(row g38 #[iv r34,iv s.wr,iv s.fl,iv s.rf,nI_ s.pend.length] 29::PW gd s::vec 31 1 v i (RV.map (fun x:RecV=>x.1))::stars (RV.map recD)::row gi (bvs s.last.flatten) 5::vec 31 1 (.slice AO k cO) k (chunks gi s.last.flatten.length k)::L)) rfl (fun w42 S43=>wE (nS ?_))))⟩
  have hik:i=k:=by omega
  rw [hik] at hRV
  have hd':((s.pend.length:Nat):Int)=((diffs s i:Nat):Int):=by rw [hik,hd]
  refine wp_region_phu (γ:=Unit) 8 [] (fun (c_:Unit) (i_:Nat)=>(match i_ with|0=>.slice AO k cO|1=>v|2=>po g38 4|3=>nI_ s.pend.length|4=>nI_ (diffs s i)|5=>.bool true|6=>.slice AO k cO|7=>v|_=>undef:Value)) (fun (c_:Unit) (p_:Nat) (w_:World)=>(match p_ with|_=>St F w0 w_ (row g38 #[iv r34,iv s.wr,iv s.fl,iv s.rf,nI_ s.pend.length] 29::PW gd s::vec 31 1 v i (RV.map (fun x:RecV=>x.1))::stars (RV.map recD)::row gi (bvs s.last.flatten) 5::vec 31 1 (.slice AO k cO) k (chunks gi s.last.flatten.length k)::L):Prop)) () kr_ kr_ kr_ kr_ (S43.drew) ?_ ?_ ?_
  ·intro i_ c_ p_ vals_ w1 hi_ hiE_ hp_ hk_ hu_ hPh_ hd_
   rcases i_ with _|_|_|_|_|_|_|_|i_
   ·exact tG_ rfl hd_ (gV (.slice AO k cO) ⟨rfl,rfl⟩)
   ·exact tG_ rfl hd_ (gV v ⟨rfl,rfl⟩)
   ·exact tG_ rfl hd_ (gV (po g38 4) ⟨rfl,rfl⟩)
   ·have S47:=St.id hPh_
    exact tG_ rfl hd_ (gL (nI_ s.pend.length) rfl (((S47.blk 0 rfl).cell 4).trans rfl) ⟨rfl,rfl⟩)
   ·exact tG_ rfl hd_ (gV (nI_ (diffs s i)) ⟨rfl,rfl⟩)
   ·exact tG_ rfl hd_ (gB_ (b:=((s.pend.length:Nat):Int)==((diffs s i:Nat):Int)) (b':=true) kr_ (by simp;omega) ⟨rfl,rfl⟩)
   ·exact tG_ rfl hd_ (gV (.slice AO k cO) ⟨rfl,rfl⟩)
   ·exact tG_ rfl hd_ (gV v ⟨rfl,rfl⟩)
   ·exact absurd hi_ om_
  ·intro k_ c_ vals_ w1 hk_ hPh_ hd_
   exact absurd hk_ (Nat.not_lt_zero _)
  ·intro c_ w1 hPh_
   have S52:=St.id hPh_
   refine (pv tv (wE (then_n (wp_ret (bodyPost_ret (v:=.tuple #[.slice AO k cO,v,.bool true]) (Go.Vel.results_tmp3 rfl _ _ kr_ kr_ kr_) rfl ?_)))))
   have S54:St F w0 w1 (row gi (bvs s.last.flatten) 5::vec 31 1 (.slice AO k cO) k (chunks gi s.last.flatten.length k)::vec 31 1 v i (RV.map (fun x:RecV=>x.1))::stars (RV.map recD)::PW gd s::L):=St.pm 6 [4,5,2,3,1] S52
   rw [hik] at S54
   obtain ⟨AN,cN,rfl⟩:=St.vecV S54 2 rfl
   exact ⟨gi,AO,cO,_,_,RV,rfl,hRV,S54⟩
end
section
variable {F:Nat→Prop} {w0 w:World} {L:List Ast}
theorem ropen9 (S:St F w0 w L){A:Option Addr}{a:List UInt8}{m ca:Nat}(hm:m=a.length)(hr:RoT F w0 L A a)(hma:a.length≤512):Calls Try.prog 118 #[.slice A m ca] w fun e w'=>∃A c,e=.returned (.tuple #[.slice A (openF a).1.length c,.int .i64 ((openF a).2:Int)])∧St F w0 w' (vec 5 1 (.slice A (openF a).1.length c) (openF a).1.length ((openF a).1.map bv)::L):=by
 subst hm;exact ropen S hr om_
theorem St.vec_ld {t:TypeId}{A:Option Addr}{ad:Addr}{n c j:Nat}{vals:List Value}{v:Value}(S:St F w0 w L)(q:Nat)(hq:L[q]?=some (vec t 1 (.slice A n c) n vals))(hA:A=some ad)(hj:vals[j]?=some v):w.cell? (ad.add j)=some v:=by
 obtain ⟨ad',e,h⟩:=St.vec_rd S q hq (Nat.lt_of_le_of_lt (Nat.zero_le _) (List.getElem?_eq_some_iff.1 hj).1)
 rw [hA] at e;cases e;exact h j v hj
theorem w_whole {gd gi k cO cN:Nat}{AO AN:Option Addr}{s x:Dsk}{RV:List RecV}(S:St F w0 w (PW gd x::row gi (bvs s.last.flatten) 5::vec 31 1 (.slice AO k cO) k (chunks gi s.last.flatten.length k)::vec 31 1 (.slice AN k cN) k (RV.map (fun x:RecV=>x.1))::stars (RV.map recD)::L))(hok0:DOk s)(hs:s.last.length=k)(hk:x.last.length=k)(hk1:1≤k)(hk2:k≤1000)(hRV:RV.map (fun x:RecV=>x.2)=(List.range k).map s.now)(hcut:∀j,j<k→openF (x.lst j)=([],30)∨x.lst j=s.lst j∨x.lst j=s.now j):Calls Try.prog 70 #[.pointer (some ⟨gd,0,none⟩),.slice AO k cO,.slice AN k cN] w fun e w'=>e=.returned (.bool true)∧St F w0 w' (PW gd x::L):=by
 have hok:=St.pw_ok (L:=[]) (S.mem 0 rfl)
 have hfl:x.last.flatten.length=k*512:=by rw [flat_len hok.len,hk];omega
 have hfn:x.last.flatten≠[]:=fun e=>by rw [e] at hfl;simp at hfl;omega
 refine eN (fr [pq gd,.slice AO k cO,.slice AN k cN] 65) Try.func70 rfl (sR (pv fv (wER (pv (pq gd) (g_ (gv_call (args:=#[pq gd]) rfl Try.func18 kr_ rfl rfl kr_ (Calls.mono (pw_image S) ?_)))))))
 rintro _ w1 ⟨v3,rfl,S2⟩
 obtain ⟨gj,hv_,S4⟩:=St.bytes_open hfn S2
 subst hv_
 refine ⟨_,rfl,(pv (sl gj 0 x.last.flatten.length x.last.flatten.length) (wER (pv (sl gj 0 x.last.flatten.length x.last.flatten.length) (g_ (gv_call (args:=#[sl gj 0 x.last.flatten.length x.last.flatten.length]) rfl Try.func117 kr_ rfl rfl kr_ (Calls.mono (w_parts (k:=k) S4 hk2 hfl) ?_))))))⟩
 rintro _ w5 ⟨v_,rfl,S6⟩
 obtain ⟨AX,cX,rfl⟩:=St.vecV S6 0 rfl
 refine ⟨_,rfl,(pv (.slice AX k cX) (wE (nS (sR (pv (.slice AX k cX) (pv (iv (k:Nat)) (pv (.slice AO k cO) (pv (iv (k:Nat)) (dN (k:Nat) (k:Nat) (fun hd7=>False.elim om_) fun _=>pv fv (pW (.slice AX k cX) (pW (iv (k:Nat)) (pW (.slice AN k cN) ?_))))))))))))⟩
 refine pW (iv (k:Nat)) (wl_when kr_ (gv_ne (x:=(k:Nat)) (y:=(k:Nat)) kr_ (fun hd8=>False.elim om_) (fun _=>pv fv (wE (nCF (wp_skip (nS (sR (pv (iv 0) (wE (then_n (wp_block (wp_loop_g (G:=Nat) (fun (g_:Nat) (a_:Act) (w_:World)=>∃J:Nat→Value,a_=(fr ([pq gd,.slice AO k cO,.slice AN k cN,ud,ud,ud,J 6,sl gj 0 x.last.flatten.length x.last.flatten.length,.slice AX k cX,nI_ g_,J 10,J 11,pq gd,sl gj 0 x.last.flatten.length x.last.flatten.length,sl gj 0 x.last.flatten.length x.last.flatten.length,.slice AX k cX,.slice AX k cX,iv (k:Nat),.slice AO k cO,iv (k:Nat),fv,fv,.slice AX k cX,iv (k:Nat),.slice AN k cN,iv (k:Nat),fv,fv]++jR J 28 40) 0)∧St F w0 w_ (vec 31 1 (.slice AX k cX) k (chunks gj x.last.flatten.length k)::row gj (bvs x.last.flatten) 5::PW gd x::row gi (bvs s.last.flatten) 5::vec 31 1 (.slice AO k cO) k (chunks gi s.last.flatten.length k)::vec 31 1 (.slice AN k cN) k (RV.map (fun x:RecV=>x.1))::stars (RV.map recD)::L)∧(g_≤k)) (fun g_=>k-g_) 0 (jE_ ⟨S6,Nat.zero_le _⟩) ?_)))))))))))))
 rintro i a_ w9 ⟨J,rfl,S10,hi1⟩
 skip
 have S10:St F w0 w9 (vec 31 1 (.slice AX k cX) k (chunks gj x.last.flatten.length k)::row gj (bvs x.last.flatten) 5::PW gd x::row gi (bvs s.last.flatten) 5::vec 31 1 (.slice AO k cO) k (chunks gi s.last.flatten.length k)::vec 31 1 (.slice AN k cN) k (RV.map (fun x:RecV=>x.1))::stars (RV.map recD)::L):=S10
 refine wp_seq (sR (pv (nI_ i) (pv (.slice AX k cX) (pv (iv (k:Nat)) (dC ((((i:Nat):Int):Int)<(k:Nat)) (fun hb12=> ?_) fun hb12=> ?_)))))
 ·refine wE (nCT (wp_skip (nS (wp_block (sR ?_)))))
  have hi:i<k:=by omega
  have hl6:(x.lst i).length=512:=lst_len hok om_
  have hl7:(s.lst i).length=512:=lst_len hok0 om_
  have hl5:(s.now i).length=512:=hok0.now om_
  obtain ⟨adX,hAdX,hrsX⟩:=St.vec_rd S10 0 rfl (by rw [chunks_len];omega)
  obtain ⟨adO,hAdO,hrsO⟩:=St.vec_rd S10 4 rfl (by rw [chunks_len];omega)
  have hchX:(chunks gj x.last.flatten.length k)[i]?=_:=chunks_at hi
  have hchO:(chunks gi s.last.flatten.length k)[i]?=_:=chunks_at hi
  have hlr:RV.length=k:=by have:=congrArg List.length hRV;rwa [List.length_map,List.length_map,List.length_range] at this
  obtain ⟨y,hy⟩:∃y,RV[i]?=some y:=⟨_,List.getElem?_eq_getElem om_⟩
  have hym:=List.mem_of_getElem? hy
  have hy2:y.2=s.now i:=by have:=congrArg (fun q=>q[i]?) hRV;simp only [List.getElem?_map,hy,List.getElem?_range hi,Option.map_some] at this;exact Option.some.inj this
  obtain ⟨adN,hAdN,hrsN⟩:=St.vec_rd S10 5 rfl (by rw [List.length_map];omega)
  obtain ⟨Ay,cy,hyv⟩:=St.recv S10 6 rfl hym
  have hyl:y.2.length=512:=by rw [hy2];exact hl5
  rw [hyl] at hyv
  have hchN:(RV.map (fun x:RecV=>x.1))[i]?=some (.slice Ay 512 cy):=by rw [List.getElem?_map,hy];exact congrArg some hyv
  refine pv (.slice AX k cX) (pv (nI_ i) (g_ (gv_ixB (e:=31) (sz:=1) (n:=k) (c:=cX) (i:=((i:Nat):Int)) (k:=.i64) (ad:=adX) (ad':=(adX.add i)) (j:=i) rfl kr_ kr_ (by rw [←hAdX];kernel_rfl) kr_ rfl om_ (by rw [Nat.mul_one]) (lQ (.slice (some ⟨gj,i*512,none⟩) 512 (x.last.flatten.length-i*512)) (St.vec_ld S10 0 rfl hAdX hchX) (sP2 Try.func118 #[.slice (some ⟨gj,i*512,none⟩) 512 (x.last.flatten.length-i*512)] (ropen9 (a:=x.lst i) (m:=512) S10 hl6.symm (RoT.item 1 rfl (i*512) 512 _ (flat_at hok om_)) om_) fun A9 c9 w13 S14=> ?_)))))
  have S15:=S14.tail
  refine pv (.tuple #[.slice A9 ((openF (x.lst i)).1.length) c9,iv ((openF (x.lst i)).2:Int)]) (pv (.slice A9 ((openF (x.lst i)).1.length) c9) (pv (iv ((openF (x.lst i)).2:Int)) (pv (.slice A9 ((openF (x.lst i)).1.length) c9) (pv (iv ((openF (x.lst i)).2:Int)) (wE (nS ?_))))))
  rcases (Classical.em ((openF (x.lst i)).2=0)) with he0|he0
  ·by_cases hq:x.lst i=s.lst i
   ·refine wp_region_phu (γ:=Unit) 26 [11] (fun (c_:Unit) (i_:Nat)=>(match i_ with|0=>iv ((openF (x.lst i)).2:Int)|1=>.bool true|2=>.bool true|3=>.slice AX k cX|4=>nI_ i|5=>.pointer (some (adX.add i))|6=>.slice (some ⟨gj,i*512,none⟩) 512 (x.last.flatten.length-i*512)|7=>.slice AO k cO|8=>nI_ i|9=>.pointer (some (adO.add i))|10=>.slice (some ⟨gi,i*512,none⟩) 512 (s.last.flatten.length-i*512)|11=>.bool true|12=>.bool false|13=>.bool false|14=>.bool false|15=>undef|16=>undef|17=>undef|18=>undef|19=>undef|20=>undef|21=>undef|22=>undef|23=>undef|24=>undef|25=>.bool false|_=>undef:Value)) (fun (c_:Unit) (p_:Nat) (w_:World)=>(match p_ with|0=>St F w0 w_ (vec 31 1 (.slice AX k cX) k (chunks gj x.last.flatten.length k)::row gj (bvs x.last.flatten) 5::PW gd x::row gi (bvs s.last.flatten) 5::vec 31 1 (.slice AO k cO) k (chunks gi s.last.flatten.length k)::vec 31 1 (.slice AN k cN) k (RV.map (fun x:RecV=>x.1))::stars (RV.map recD)::L)|_=>St F w0 w_ (vec 31 1 (.slice AX k cX) k (chunks gj x.last.flatten.length k)::row gj (bvs x.last.flatten) 5::PW gd x::row gi (bvs s.last.flatten) 5::vec 31 1 (.slice AO k cO) k (chunks gi s.last.flatten.length k)::vec 31 1 (.slice AN k cN) k (RV.map (fun x:RecV=>x.1))::stars (RV.map recD)::L):Prop)) () kr_ kr_ kr_ kr_ (S15.drew) ?_ ?_ ?_
    ·intro i_ c_ p_ vals_ w1 hi_ hiE_ hp_ hk_ hu_ hPh_ hd_
     rcases i_ with _|_|_|_|_|_|_|_|_|_|_|_|_|_|_|_|_|_|_|_|_|_|_|_|_|_|i_
     ·exact tG_ rfl hd_ (gV (iv ((openF (x.lst i)).2:Int)) ⟨rfl,rfl⟩)
     ·exact tG_ rfl hd_ (gB_ (b:=((openF (x.lst i)).2:Int)==0) (b':=true) kr_ (by simp;omega) ⟨rfl,rfl⟩)
     ·exact tG_ rfl hd_ (gV (.bool true) ⟨rfl,rfl⟩)
     ·exact tW_ 2 44 2 true rfl hd_ (gv_val (v:=.slice AX k cX) (w':=w1) kr_ ⟨rfl,rfl⟩)
     ·exact tW_ 2 44 2 true rfl hd_ (gv_val (v:=nI_ i) (w':=w1) kr_ ⟨rfl,rfl⟩)
     ·exact tW_ 2 44 2 true rfl hd_ (gv_ixB (e:=31) (sz:=1) (n:=k) (c:=cX) (i:=((i:Nat):Int)) (k:=.i64) (ad:=adX) (ad':=(adX.add i)) (j:=i) rfl kr_ kr_ (by rw [←hAdX];kernel_rfl) kr_ rfl om_ (by rw [Nat.mul_one]) ⟨rfl,rfl⟩)
     ·rcases p_ with _|_|p_
      ·have S22:=St.id hPh_
       exact tW_ 2 44 2 true rfl hd_ (gv_ldR (v:=.slice (some ⟨gj,i*512,none⟩) 512 (x.last.flatten.length-i*512)) rfl kr_ kr_ (St.vec_ld S22 0 rfl hAdX hchX) ⟨rfl,rfl⟩)
      ·exact absurd (hu_ 0 dc_ kr_) dc_
      ·exact absurd hp_ (by simp)
     ·exact tW_ 2 44 2 true rfl hd_ (gv_val (v:=.slice AO k cO) (w':=w1) kr_ ⟨rfl,rfl⟩)
     ·exact tW_ 2 44 2 true rfl hd_ (gv_val (v:=nI_ i) (w':=w1) kr_ ⟨rfl,rfl⟩)
     ·exact tW_ 2 44 2 true rfl hd_ (gv_ixB (e:=31) (sz:=1) (n:=k) (c:=cO) (i:=((i:Nat):Int)) (k:=.i64) (ad:=adO) (ad':=(adO.add i)) (j:=i) rfl kr_ kr_ (by rw [←hAdO];kernel_rfl) kr_ rfl om_ (by rw [Nat.mul_one]) ⟨rfl,rfl⟩)
     ·rcases p_ with _|_|p_
      ·have S26:=St.id hPh_
       exact tW_ 2 44 2 true rfl hd_ (gv_ldR (v:=.slice (some ⟨gi,i*512,none⟩) 512 (s.last.flatten.length-i*512)) rfl kr_ kr_ (St.vec_ld S26 4 rfl hAdO hchO) ⟨rfl,rfl⟩)
      ·exact absurd (hu_ 0 dc_ kr_) dc_
      ·exact absurd hp_ (by simp)
     ·exact absurd hiE_ dc_
     ·exact tW_ 2 44 2 true rfl hd_ (gv_val (v:=.bool false) (w':=w1) kr_ ⟨rfl,rfl⟩)
     ·exact tG_ rfl hd_ (gV (.bool false) ⟨rfl,rfl⟩)
     ·exact tG_ rfl hd_ (gV (.bool false) ⟨rfl,rfl⟩)
     ·exact tO_ 14 56 14 true false rfl hd_ ⟨rfl,rfl⟩
     ·exact tO_ 14 56 14 true false rfl hd_ ⟨rfl,rfl⟩
     ·exact tO_ 14 56 14 true false rfl hd_ ⟨rfl,rfl⟩
     ·exact tO_ 14 56 14 true false rfl hd_ ⟨rfl,rfl⟩
     ·exact tO_ 14 56 14 true false rfl hd_ ⟨rfl,rfl⟩
     ·exact tO_ 14 56 14 true false rfl hd_ ⟨rfl,rfl⟩
     ·exact tO_ 14 56 14 true false rfl hd_ ⟨rfl,rfl⟩
     ·exact tO_ 14 56 14 true false rfl hd_ ⟨rfl,rfl⟩
     ·exact tO_ 14 56 14 true false rfl hd_ ⟨rfl,rfl⟩
     ·exact tO_ 14 56 14 true false rfl hd_ ⟨rfl,rfl⟩
     ·exact tG_ rfl hd_ (gV (.bool false) ⟨rfl,rfl⟩)
     ·exact absurd hi_ om_
    ·intro k_ c_ vals_ w1 hk_ hPh_ hd_
     rcases k_ with _|k_
     ·have S41:=St.id hPh_
      refine tW_ 2 44 2 true rfl hd_ (gv_call (args:=#[.slice (some ⟨gj,i*512,none⟩) 512 (x.last.flatten.length-i*512),.slice (some ⟨gi,i*512,none⟩) 512 (s.last.flatten.length-i*512)]) rfl Try.func24 kr_ rfl rfl kr_ (Calls.mono (same_m (a:=x.lst i) (b:=s.lst i) (n:=512) (m:=512) hl6.symm hl7.symm (decide_eq_true hq) S41 (RoT.item 1 rfl (i*512) 512 _ (flat_at hok om_)) (RoT.item 3 rfl (i*512) 512 _ (flat_at hok0 om_)) dc_ dc_) ?_))
      rintro _ w42 ⟨rfl,S43⟩
      refine ⟨_,rfl,⟨(),rfl, ?_,S43⟩⟩
      intro i_ hi_ hne_ hdp_
      rcases i_ with _|_|_|_|_|_|_|_|_|_|_|_|_|_|_|_|_|_|_|_|_|_|_|_|_|_|i_
      ·rfl
      ·rfl
      ·rfl
      ·rfl
      ·rfl
      ·rfl
      ·rfl
      ·rfl
      ·rfl
      ·rfl
      ·rfl
      ·exact absurd rfl hne_
      ·exact dN_ hdp_
      ·exact dN_ hdp_
      ·exact dN_ hdp_
      ·exact dN_ hdp_
      ·exact dN_ hdp_
      ·exact dN_ hdp_
      ·exact dN_ hdp_
      ·exact dN_ hdp_
      ·exact dN_ hdp_
      ·exact dN_ hdp_
      ·exact dN_ hdp_
      ·exact dN_ hdp_
      ·exact dN_ hdp_
      ·exact dN_ hdp_
      ·exact absurd hi_ om_
     ·exact absurd hk_ (by simp)
    ·intro c_ w1 hPh_
     have S44:=St.id hPh_
     refine (wE ?_)
     exact nCF (wp_skip (inb_n (nR (pv (nI_ i) (gI .i64 (IntKind.i64.wrap (((i:Nat):Int)+1)) (((i:Nat):Int)+1) (wr_ok om_ om_) (pv (iv (((i:Nat):Int)+1)) (wE (then_n ⟨i+1,(jE_ ⟨S44,(by show i+1≤k;omega)⟩),(by show k-(i+1)<k-i;omega)⟩))))))))
   ·have hq2:x.lst i=s.now i:=by
         rcases hcut i hi with q|q|q
         ·rw [q] at he0;exact absurd he0 dc_
         ·exact absurd q hq
         ·exact q
    refine wp_region_phu (γ:=Unit) 26 [11,23] (fun (c2_:Unit) (i_:Nat)=>(match i_ with|0=>iv ((openF (x.lst i)).2:Int)|1=>.bool true|2=>.bool true|3=>.slice AX k cX|4=>nI_ i|5=>.pointer (some (adX.add i))|6=>.slice (some ⟨gj,i*512,none⟩) 512 (x.last.flatten.length-i*512)|7=>.slice AO k cO|8=>nI_ i|9=>.pointer (some (adO.add i))|10=>.slice (some ⟨gi,i*512,none⟩) 512 (s.last.flatten.length-i*512)|11=>.bool false|12=>.bool true|13=>.bool true|14=>.bool true|15=>.slice AX k cX|16=>nI_ i|17=>.pointer (some (adX.add i))|18=>.slice (some ⟨gj,i*512,none⟩) 512 (x.last.flatten.length-i*512)|19=>.slice AN k cN|20=>nI_ i|21=>.pointer (some (adN.add i))|22=>.slice Ay 512 cy|23=>.bool true|24=>.bool false|25=>.bool false|_=>undef:Value)) (fun (c2_:Unit) (p_:Nat) (w_:World)=>(match p_ with|0=>St F w0 w_ (vec 31 1 (.slice AX k cX) k (chunks gj x.last.flatten.length k)::row gj (bvs x.last.flatten) 5::PW gd x::row gi (bvs s.last.flatten) 5::vec 31 1 (.slice AO k cO) k (chunks gi s.last.flatten.length k)::vec 31 1 (.slice AN k cN) k (RV.map (fun x:RecV=>x.1))::stars (RV.map recD)::L)|1=>St F w0 w_ (vec 31 1 (.slice AX k cX) k (chunks gj x.last.flatten.length k)::row gj (bvs x.last.flatten) 5::PW gd x::row gi (bvs s.last.flatten) 5::vec 31 1 (.slice AO k cO) k (chunks gi s.last.flatten.length k)::vec 31 1 (.slice AN k cN) k (RV.map (fun x:RecV=>x.1))::stars (RV.map recD)::L)|_=>St F w0 w_ (vec 31 1 (.slice AX k cX) k (chunks gj x.last.flatten.length k)::row gj (bvs x.last.flatten) 5::PW gd x::row gi (bvs s.last.flatten) 5::vec 31 1 (.slice AO k cO) k (chunks gi s.last.flatten.length k)::vec 31 1 (.slice AN k cN) k (RV.map (fun x:RecV=>x.1))::stars (RV.map recD)::L):Prop)) () kr_ kr_ kr_ kr_ (S15.drew) ?_ ?_ ?_
    ·intro i_ c2_ p_ vals_ w1 hi_ hiE_ hp_ hk_ hu_ hPh_ hd_
     rcases i_ with _|_|_|_|_|_|_|_|_|_|_|_|_|_|_|_|_|_|_|_|_|_|_|_|_|_|i_
     ·exact tG_ rfl hd_ (gV (iv ((openF (x.lst i)).2:Int)) ⟨rfl,rfl⟩)
     ·exact tG_ rfl hd_ (gB_ (b:=((openF (x.lst i)).2:Int)==0) (b':=true) kr_ (by simp;omega) ⟨rfl,rfl⟩)
     ·exact tG_ rfl hd_ (gV (.bool true) ⟨rfl,rfl⟩)
     ·exact tW_ 2 44 2 true rfl hd_ (gv_val (v:=.slice AX k cX) (w':=w1) kr_ ⟨rfl,rfl⟩)
     ·exact tW_ 2 44 2 true rfl hd_ (gv_val (v:=nI_ i) (w':=w1) kr_ ⟨rfl,rfl⟩)
     ·exact tW_ 2 44 2 true rfl hd_ (gv_ixB (e:=31) (sz:=1) (n:=k) (c:=cX) (i:=((i:Nat):Int)) (k:=.i64) (ad:=adX) (ad':=(adX.add i)) (j:=i) rfl kr_ kr_ (by rw [←hAdX];kernel_rfl) kr_ rfl om_ (by rw [Nat.mul_one]) ⟨rfl,rfl⟩)
     ·rcases p_ with _|_|_|p_
      ·have S51:=St.id hPh_
       exact tW_ 2 44 2 true rfl hd_ (gv_ldR (v:=.slice (some ⟨gj,i*512,none⟩) 512 (x.last.flatten.length-i*512)) rfl kr_ kr_ (St.vec_ld S51 0 rfl hAdX hchX) ⟨rfl,rfl⟩)
      ·exact absurd (hu_ 0 dc_ kr_) dc_
      ·exact absurd (hu_ 0 dc_ kr_) dc_
      ·exact absurd hp_ (by simp)
     ·exact tW_ 2 44 2 true rfl hd_ (gv_val (v:=.slice AO k cO) (w':=w1) kr_ ⟨rfl,rfl⟩)
     ·exact tW_ 2 44 2 true rfl hd_ (gv_val (v:=nI_ i) (w':=w1) kr_ ⟨rfl,rfl⟩)
     ·exact tW_ 2 44 2 true rfl hd_ (gv_ixB (e:=31) (sz:=1) (n:=k) (c:=cO) (i:=((i:Nat):Int)) (k:=.i64) (ad:=adO) (ad':=(adO.add i)) (j:=i) rfl kr_ kr_ (by rw [←hAdO];kernel_rfl) kr_ rfl om_ (by rw [Nat.mul_one]) ⟨rfl,rfl⟩)
     ·rcases p_ with _|_|_|p_
      ·have S55:=St.id hPh_
       exact tW_ 2 44 2 true rfl hd_ (gv_ldR (v:=.slice (some ⟨gi,i*512,none⟩) 512 (s.last.flatten.length-i*512)) rfl kr_ kr_ (St.vec_ld S55 4 rfl hAdO hchO) ⟨rfl,rfl⟩)
      ·exact absurd (hu_ 0 dc_ kr_) dc_
      ·exact absurd (hu_ 0 dc_ kr_) dc_
      ·exact absurd hp_ (by simp)
     ·exact absurd hiE_ dc_
     ·exact tW_ 2 44 2 true rfl hd_ (gv_val (v:=.bool true) (w':=w1) kr_ ⟨rfl,rfl⟩)
     ·exact tG_ rfl hd_ (gV (.bool true) ⟨rfl,rfl⟩)
     ·exact tG_ rfl hd_ (gV (.bool true) ⟨rfl,rfl⟩)
     ·exact tW_ 14 56 14 true rfl hd_ (gv_val (v:=.slice AX k cX) (w':=w1) kr_ ⟨rfl,rfl⟩)
     ·exact tW_ 14 56 14 true rfl hd_ (gv_val (v:=nI_ i) (w':=w1) kr_ ⟨rfl,rfl⟩)
     ·exact tW_ 14 56 14 true rfl hd_ (gv_ixB (e:=31) (sz:=1) (n:=k) (c:=cX) (i:=((i:Nat):Int)) (k:=.i64) (ad:=adX) (ad':=(adX.add i)) (j:=i) rfl kr_ kr_ (by rw [←hAdX];kernel_rfl) kr_ rfl om_ (by rw [Nat.mul_one]) ⟨rfl,rfl⟩)
     ·rcases p_ with _|_|_|p_
      ·exact absurd (hk_ 0 dc_ kr_) dc_
      ·have S62:=St.id hPh_
       exact tW_ 14 56 14 true rfl hd_ (gv_ldR (v:=.slice (some ⟨gj,i*512,none⟩) 512 (x.last.flatten.length-i*512)) rfl kr_ kr_ (St.vec_ld S62 0 rfl hAdX hchX) ⟨rfl,rfl⟩)
      ·exact absurd (hu_ 1 dc_ kr_) dc_
      ·exact absurd hp_ (by simp)
     ·exact tW_ 14 56 14 true rfl hd_ (gv_val (v:=.slice AN k cN) (w':=w1) kr_ ⟨rfl,rfl⟩)
     ·exact tW_ 14 56 14 true rfl hd_ (gv_val (v:=nI_ i) (w':=w1) kr_ ⟨rfl,rfl⟩)
     ·exact tW_ 14 56 14 true rfl hd_ (gv_ixB (e:=31) (sz:=1) (n:=k) (c:=cN) (i:=((i:Nat):Int)) (k:=.i64) (ad:=adN) (ad':=(adN.add i)) (j:=i) rfl kr_ kr_ (by rw [←hAdN];kernel_rfl) kr_ rfl om_ (by rw [Nat.mul_one]) ⟨rfl,rfl⟩)
     ·rcases p_ with _|_|_|p_
      ·exact absurd (hk_ 0 dc_ kr_) dc_
      ·have S66:=St.id hPh_
       exact tW_ 14 56 14 true rfl hd_ (gv_ldR (v:=.slice Ay 512 cy) rfl kr_ kr_ (St.vec_ld S66 5 rfl hAdN hchN) ⟨rfl,rfl⟩)
      ·exact absurd (hu_ 1 dc_ kr_) dc_
      ·exact absurd hp_ (by simp)
     ·exact absurd hiE_ dc_
     ·exact tW_ 14 56 14 true rfl hd_ (gv_val (v:=.bool false) (w':=w1) kr_ ⟨rfl,rfl⟩)
     ·exact tG_ rfl hd_ (gV (.bool false) ⟨rfl,rfl⟩)
     ·exact absurd hi_ om_
    ·intro k_ c2_ vals_ w1 hk_ hPh_ hd_
     rcases k_ with _|_|k_
     ·have S69:=St.id hPh_
      refine tW_ 2 44 2 true rfl hd_ (gv_call (args:=#[.slice (some ⟨gj,i*512,none⟩) 512 (x.last.flatten.length-i*512),.slice (some ⟨gi,i*512,none⟩) 512 (s.last.flatten.length-i*512)]) rfl Try.func24 kr_ rfl rfl kr_ (Calls.mono (same_m (a:=x.lst i) (b:=s.lst i) (n:=512) (m:=512) hl6.symm hl7.symm (decide_eq_false hq) S69 (RoT.item 1 rfl (i*512) 512 _ (flat_at hok om_)) (RoT.item 3 rfl (i*512) 512 _ (flat_at hok0 om_)) dc_ dc_) ?_))
      rintro _ w70 ⟨rfl,S71⟩
      refine ⟨_,rfl,⟨(),rfl, ?_,S71⟩⟩
      intro i_ hi_ hne_ hdp_
      rcases i_ with _|_|_|_|_|_|_|_|_|_|_|_|_|_|_|_|_|_|_|_|_|_|_|_|_|_|i_
      ·rfl
      ·rfl
      ·rfl
      ·rfl
      ·rfl
      ·rfl
      ·rfl
      ·rfl
      ·rfl
      ·rfl
      ·rfl
      ·exact absurd rfl hne_
      ·exact dN_ hdp_
      ·exact dN_ hdp_
      ·exact dN_ hdp_
      ·exact dN_ hdp_
      ·exact dN_ hdp_
      ·exact dN_ hdp_
      ·exact dN_ hdp_
      ·exact dN_ hdp_
      ·exact dN_ hdp_
      ·exact dN_ hdp_
      ·exact dN_ hdp_
      ·exact dN_ hdp_
      ·exact dN_ hdp_
      ·exact dN_ hdp_
      ·exact absurd hi_ om_
     ·have S72:=St.id hPh_
      refine tW_ 14 56 14 true rfl hd_ (gv_call (args:=#[.slice (some ⟨gj,i*512,none⟩) 512 (x.last.flatten.length-i*512),.slice Ay 512 cy]) rfl Try.func24 kr_ rfl rfl kr_ (Calls.mono (same_m (a:=x.lst i) (b:=y.2) (n:=512) (m:=512) hl6.symm hyl.symm (decide_eq_true (hq2.trans hy2.symm)) S72 (RoT.item 1 rfl (i*512) 512 _ (flat_at hok om_)) (rot_rec 6 rfl hym (by rw [hyl];exact hyv)) dc_ dc_) ?_))
      rintro _ w73 ⟨rfl,S74⟩
      refine ⟨_,rfl,⟨(),rfl, ?_,S74⟩⟩
      intro i_ hi_ hne_ hdp_
      rcases i_ with _|_|_|_|_|_|_|_|_|_|_|_|_|_|_|_|_|_|_|_|_|_|_|_|_|_|i_
      ·rfl
      ·rfl
      ·rfl
      ·rfl
      ·rfl
      ·rfl
      ·rfl
      ·rfl
      ·rfl
      ·rfl
      ·rfl
      ·rfl
      ·rfl
      ·rfl
      ·rfl
      ·rfl
      ·rfl
      ·rfl
      ·rfl
      ·rfl
      ·rfl
      ·rfl
      ·rfl
      ·exact absurd rfl hne_
      ·exact dN_ hdp_
      ·exact dN_ hdp_
      ·exact absurd hi_ om_
     ·exact absurd hk_ (by simp)
    ·intro c2_ w1 hPh_
     have S75:=St.id hPh_
     refine (wE ?_)
     exact nCF (wp_skip (inb_n (nR (pv (nI_ i) (gI .i64 (IntKind.i64.wrap (((i:Nat):Int)+1)) (((i:Nat):Int)+1) (wr_ok om_ om_) (pv (iv (((i:Nat):Int)+1)) (wE (then_n ⟨i+1,(jE_ ⟨S75,(by show i+1≤k;omega)⟩),(by show k-(i+1)<k-i;omega)⟩))))))))
  ·refine wp_region_phu (γ:=Unit) 26 [] (fun (c3_:Unit) (i_:Nat)=>(match i_ with|0=>iv ((openF (x.lst i)).2:Int)|1=>.bool false|2=>.bool false|3=>undef|4=>undef|5=>undef|6=>undef|7=>undef|8=>undef|9=>undef|10=>undef|11=>undef|12=>undef|13=>.bool false|14=>.bool false|15=>undef|16=>undef|17=>undef|18=>undef|19=>undef|20=>undef|21=>undef|22=>undef|23=>undef|24=>undef|25=>.bool false|_=>undef:Value)) (fun (c3_:Unit) (p_:Nat) (w_:World)=>(match p_ with|_=>St F w0 w_ (vec 31 1 (.slice AX k cX) k (chunks gj x.last.flatten.length k)::row gj (bvs x.last.flatten) 5::PW gd x::row gi (bvs s.last.flatten) 5::vec 31 1 (.slice AO k cO) k (chunks gi s.last.flatten.length k)::vec 31 1 (.slice AN k cN) k (RV.map (fun x:RecV=>x.1))::stars (RV.map recD)::L):Prop)) () kr_ kr_ kr_ kr_ (S15.drew) ?_ ?_ ?_
   ·intro i_ c3_ p_ vals_ w1 hi_ hiE_ hp_ hk_ hu_ hPh_ hd_
    rcases i_ with _|_|_|_|_|_|_|_|_|_|_|_|_|_|_|_|_|_|_|_|_|_|_|_|_|_|i_
    ·exact tG_ rfl hd_ (gV (iv ((openF (x.lst i)).2:Int)) ⟨rfl,rfl⟩)
    ·exact tG_ rfl hd_ (gB_ (b:=((openF (x.lst i)).2:Int)==0) (b':=false) kr_ (by simp;omega) ⟨rfl,rfl⟩)
    ·exact tG_ rfl hd_ (gV (.bool false) ⟨rfl,rfl⟩)
    ·exact tO_ 2 44 2 true false rfl hd_ ⟨rfl,rfl⟩
    ·exact tO_ 2 44 2 true false rfl hd_ ⟨rfl,rfl⟩
    ·exact tO_ 2 44 2 true false rfl hd_ ⟨rfl,rfl⟩
    ·exact tO_ 2 44 2 true false rfl hd_ ⟨rfl,rfl⟩
    ·exact tO_ 2 44 2 true false rfl hd_ ⟨rfl,rfl⟩
    ·exact tO_ 2 44 2 true false rfl hd_ ⟨rfl,rfl⟩
    ·exact tO_ 2 44 2 true false rfl hd_ ⟨rfl,rfl⟩
    ·exact tO_ 2 44 2 true false rfl hd_ ⟨rfl,rfl⟩
    ·exact tO_ 2 44 2 true false rfl hd_ ⟨rfl,rfl⟩
    ·exact tO_ 2 44 2 true false rfl hd_ ⟨rfl,rfl⟩
    ·exact tG_ rfl hd_ (gV (.bool false) ⟨rfl,rfl⟩)
    ·exact tG_ rfl hd_ (gV (.bool false) ⟨rfl,rfl⟩)
    ·exact tO_ 14 56 14 true false rfl hd_ ⟨rfl,rfl⟩
    ·exact tO_ 14 56 14 true false rfl hd_ ⟨rfl,rfl⟩
    ·exact tO_ 14 56 14 true false rfl hd_ ⟨rfl,rfl⟩
    ·exact tO_ 14 56 14 true false rfl hd_ ⟨rfl,rfl⟩
    ·exact tO_ 14 56 14 true false rfl hd_ ⟨rfl,rfl⟩
    ·exact tO_ 14 56 14 true false rfl hd_ ⟨rfl,rfl⟩
    ·exact tO_ 14 56 14 true false rfl hd_ ⟨rfl,rfl⟩
    ·exact tO_ 14 56 14 true false rfl hd_ ⟨rfl,rfl⟩
    ·exact tO_ 14 56 14 true false rfl hd_ ⟨rfl,rfl⟩
    ·exact tO_ 14 56 14 true false rfl hd_ ⟨rfl,rfl⟩
    ·exact tG_ rfl hd_ (gV (.bool false) ⟨rfl,rfl⟩)
    ·exact absurd hi_ om_
   ·intro k_ c3_ vals_ w1 hk_ hPh_ hd_
    exact absurd hk_ (Nat.not_lt_zero _)
   ·intro c3_ w1 hPh_
    have S102:=St.id hPh_
    refine (wE ?_)
    exact nCF (wp_skip (inb_n (nR (pv (nI_ i) (gI .i64 (IntKind.i64.wrap (((i:Nat):Int)+1)) (((i:Nat):Int)+1) (wr_ok om_ om_) (pv (iv (((i:Nat):Int)+1)) (wE (then_n ⟨i+1,(jE_ ⟨S102,(by show i+1≤k;omega)⟩),(by show k-(i+1)<k-i;omega)⟩))))))))
 ·refine wE (nCF (wp_exit (then_x (then_x (inb_x (nSR (pv tv (wE (then_n (wp_ret (bA (.bool true) ?_)))))))))))
  have S103:=St.pm 7 [2] S10
  exact ⟨rfl,S103⟩
end
end Go.Proofs
end
