/- Part 2 of 4 of what the proof stands on: the words, the laws of the walk, the walks, the plain laws; each section is one text. -/
import Derived.Test.YtgeioealgidkiaaM1
import Derived.Test.YtgeioealgidkiaaChecked
import Derived.StillTailTactics
import Derived.OrdersIn
import Derived.RangeFuncNested
import Derived.RangeFuncBound
import Derived.RangeFuncCalls
import Derived.RangeFuncLeaves
import Derived.Scope
section
open Go Go.RowKit Go.Proofs.YtgeioealgidkiaaW.PrintWords
namespace Go.Proofs
open Go.Vel
set_option linter.unusedVariables false
set_option maxRecDepth 100000
set_option maxHeartbeats 4000000
attribute [local irreducible] gives wpList Code.wp
theorem crash_none {s:Dsk}{ps:List Pick}(h:s.pend=[]):crashOuts s ps=[]:=by
 have:crashKeys s=[]:=by
  unfold crashKeys keysTo
  rw [List.filter_eq_nil_iff]
  intro a _
  simp [pendOf,h]
 unfold crashOuts;rw [this];rfl
theorem keys_in {s:Dsk}{k:Nat}(h:pendOf s k≠[]):keysTo s (k+1)=keysTo s k++[k]:=by
 rw [keysTo_succ]
 cases hp:pendOf s k with
 |nil=>exact absurd hp h
 |cons _ _=>rfl
theorem keys_out {s:Dsk}{k:Nat}(h:pendOf s k=[]):keysTo s (k+1)=keysTo s k:=by rw [keysTo_succ,h];simp
theorem outs_in {s:Dsk}{ps:List Pick}{k:Nat}(h:pendOf s k≠[]):(keysTo s (k+1)).mapIdx (outOf s ps)=(keysTo s k).mapIdx (outOf s ps)++[outOf s ps (keysTo s k).length k]:=by
 rw [keys_in h,List.mapIdx_append];simp
theorem RFacts.more {s:Dsk}{LL:List (Nat×List UInt8)}{PP:List RPut}{pool:List (Nat×List UInt8)}(h:RFacts s LL PP pool)(x:Nat×List UInt8):RFacts s LL PP (x::pool):=
 ⟨h.last,h.pend,fun y hy=>List.mem_cons_of_mem _ (h.lin y hy),fun y hy=>List.mem_cons_of_mem _ (h.pin y hy),h.len,h.plen,h.n1,h.n2,h.lb,h.pn⟩
theorem RFacts.cand5 {s:Dsk}{LL:List (Nat×List UInt8)}{PP:List RPut}{pool:List (Nat×List UInt8)}(h:RFacts s LL PP pool){a:Nat}(ha:a<s.last.length):∀x∈candS s a,x.length=512:=fun x hx=>by
 rcases List.mem_cons.1 hx with rfl|hx
 ·exact h.len _ (List.mem_of_getElem? (mem_getD ha))
 ·unfold pendOf at hx
  obtain ⟨y,hy,rfl⟩:=List.mem_map.1 hx
  exact (h.plen y (List.mem_filter.1 hy).1).1
theorem RFacts.outs5 {s:Dsk}{LL:List (Nat×List UInt8)}{PP:List RPut}{pool:List (Nat×List UInt8)}(h:RFacts s LL PP pool)(ps:List Pick):∀x∈crashOuts s ps,x.2.length=512∧x.1<s.last.length:=fun x hx=>by
 unfold crashOuts at hx
 obtain ⟨i,hi,rfl⟩:=List.mem_mapIdx.1 hx
 have hm:(crashKeys s)[i]∈crashKeys s:=List.getElem_mem hi
 have hk:=(keysTo_mem.1 hm).1
 exact ⟨tornS_len (h.cand5 hk) (by simp [candS]),hk⟩
theorem rd_crash {F:Nat→Prop}{w0 w:World}{L:List Ast}{g:Nat}{s:Dsk}{A:Option Addr}{ps:List Pick}{n c:Nat}(S:St F w0 w (RDisk g s::L))(hr:RoV F w0 L A (picksV ps))(hn:n=ps.length)(hpm:ps.length≤9223372036854775807)(hpn':s.pend.length<4398046511104):
  Calls Try.prog 37 #[pq g,.slice A n c] w fun e w'=>e=.returned (.tuple #[])∧St F w0 w' (RDisk g (s.crashR ps)::L):=by
 obtain ⟨gl,cl,c2,A2,junk,LL,PP,pool,hf,hcl,hju,S⟩:=St.ropen S
 have hn2:=hf.n2
 have hll:=hf.ll
 have hpp:=hf.pp
 have hpn:=hf.pn
 by_cases he:s.pend=[]
 ·have ec:s.crashR ps={s with pend:=[],left:= -1,life:=inc s.life}:=by unfold Dsk.crashR;rw [crash_none he];rfl
  have h0:PP.length=0:=by rw [hpp,he];rfl
  rw [ec]
  change St F w0 w (rR2 g gl LL.length cl (.slice A2 PP.length c2) s.left s.life s.rd s.wr s.fl s.rf 0::row gl ((LL.map PEnt.val++junk).toArray) 31::vec 143 2 (.slice A2 PP.length c2) PP.length (putsV PP)::stars (pool.map PEnt.row)::L) at S
  refine eN (fr [pq g,.slice A n c] 84) Try.func37 rfl (sR (pv (iv 0) (wER (pv (nS_) (wE (nS (sR (pv (pq g) (pv (pq g) (pv (po g 1) (lR (.slice A2 PP.length c2) S 0 1 (pv (iv (PP.length:Nat)) (dC (((PP.length:Nat):Int)>0) (fun hd1=>False.elim om_) fun _=> ?_)))))))))))))
  refine wE (nCF (wp_skip (nS (sR (pv (iv 0) (wE (then_n (wp_block (wp_loop_g (G:=Nat) (fun (g_:Nat) (a_:Act) (w_:World)=>∃J:Nat→Value,a_=(fr ([pq g,.slice A n c,ud,ud,iv 0,nS_,ud,ud,ud,nI_ g_,pq g,pq g,po g 1,.slice A2 PP.length c2,iv (PP.length:Nat),fv,ud,ud,ud,ud,ud,ud,ud,ud,ud,ud,ud,ud,ud,ud,ud,ud,ud,ud,ud,ud,ud,ud,ud,ud,ud,ud,ud,ud,ud,ud,ud,ud,ud,ud,ud,ud]++jR J 52 21) 13)∧St F w0 w_ (rR2 g gl LL.length cl (.slice A2 PP.length c2) s.left s.life s.rd s.wr s.fl s.rf 0::row gl ((LL.map PEnt.val++junk).toArray) 31::vec 143 2 (.slice A2 PP.length c2) PP.length (putsV PP)::stars (pool.map PEnt.row)::L)∧(g_=0)) (fun g_=>0) 0 (jE_ ⟨S,rfl⟩) ?_)))))))))
  rintro i a_ w2 ⟨J,rfl,S3,hI4⟩
  skip
  have S3:St F w0 w2 (rR2 g gl LL.length cl (.slice A2 PP.length c2) s.left s.life s.rd s.wr s.fl s.rf 0::row gl ((LL.map PEnt.val++junk).toArray) 31::vec 143 2 (.slice A2 PP.length c2) PP.length (putsV PP)::stars (pool.map PEnt.row)::L):=S3
  have hI4:(i=0):=hI4
  refine wp_seq (sR (pv (nI_ i) (pv (nS_) (pv (iv 0) (dC ((((i:Nat):Int):Int)<0) (fun hd5=>False.elim om_) fun _=>wE (nCF (wp_exit (then_x (then_x (inb_x (nSR (pv (pq g) ?_))))))))))))
  refine pv (pq g) (pv (po g 1) (sS S3 0 rfl 1 (nS_) fun w6 S7=>wER (pv (pq g) (pv (pq g) (pv (po g 2) (sS S7 0 rfl 2 (iv (-1)) fun w8 S9=>wE (nR (pv (pq g) (pv (pq g) (pv (po g 3) (lR (iv s.life) S9 0 3 ?_)))))))))))
  refine pv (iv (inc s.life)) (pv (pq g) (pv (po g 3) (sS S9 0 rfl 3 (iv (inc s.life)) fun w10 S11=>wE (bodyPost_end (v:=.tuple #[]) (results_none rfl _ _ _) rfl ?_))))
  have S12:=St.pm 4 [0,1,3] S11
  have S9:=St.permT [_,_,_,_] [1,2,0,3] dc_ rfl (St.vec_nil (e:=143) (sz:=2) S12)
  exact ⟨rfl,St.rclose (gl:=gl) (cl:=cl) (c2:=0) (A2:=none) (junk:=junk) (LL:=LL) (PP:=([]:List RPut)) (pool:=pool) (s:={s with pend:=[],left:= -1,life:=inc s.life}) S9 (⟨hf.last,rfl,hf.lin,fun x hx=>(by cases hx),hf.len,fun x hx=>(by cases hx),hf.n1,hf.n2,show (-1:Int)≤ -1∧(-1:Int)≤9223372036854775807 by decide,Nat.zero_le _⟩) hcl hju⟩
 have hpos:0<PP.length:=by rw [hpp];exact List.length_pos_iff.2 he
 change St F w0 w (rR2 g gl LL.length cl (.slice A2 PP.length c2) s.left s.life s.rd s.wr s.fl s.rf 0::row gl ((LL.map PEnt.val++junk).toArray) 31::vec 143 2 (.slice A2 PP.length c2) PP.length (putsV PP)::stars (pool.map PEnt.row)::L) at S
 refine eN (fr [pq g,.slice A n c] 84) Try.func37 rfl (sR (pv (iv 0) (wER (pv (nS_) (wE (nS (sR (pv (pq g) (pv (pq g) (pv (po g 1) (lR (.slice A2 PP.length c2) S 0 1 (pv (iv (PP.length:Nat)) (dC (((PP.length:Nat):Int)>0) (fun _=> ?_) fun hd1=>False.elim om_)))))))))))))
 refine wE (nCT (sR (pv (iv 0) (wE (then_n (wp_block ?_))))))
 have S2:St F w0 w (vec 143 2 (nS_) ([]:List RPut).length (putsV ([]:List RPut))::rR2 g gl LL.length cl (.slice A2 PP.length c2) s.left s.life s.rd s.wr s.fl s.rf 0::row gl ((LL.map PEnt.val++junk).toArray) 31::vec 143 2 (.slice A2 PP.length c2) PP.length (putsV PP)::stars (pool.map PEnt.row)::L):=St.vec_nil S
 have S3:St F w0 w (rR2 g gl LL.length cl (.slice A2 PP.length c2) s.left s.life s.rd s.wr s.fl s.rf 0::row gl ((LL.map PEnt.val++junk).toArray) 31::vec 143 2 (.slice A2 PP.length c2) PP.length (putsV PP)::stars (pool.map PEnt.row)::vec 143 2 (nS_) ([]:List RPut).length (putsV ([]:List RPut))::L):=St.pm 5 [1,2,3,4,0] S2
 refine wp_loop_g (G:=Nat×Value×List RPut×List (Nat×List UInt8)) (fun (g_:Nat×Value×List RPut×List (Nat×List UInt8)) (a_:Act) (w_:World)=>∃J:Nat→Value,a_=(fr ([pq g,.slice A n c,ud,ud,nI_ ((keysTo s g_.1).length),g_.2.1,nI_ g_.1,J 7,J 8,ud,pq g,pq g,po g 1,.slice A2 PP.length c2,iv (PP.length:Nat),tv]++jR J 16 36) 34)∧St F w0 w_ (rR2 g gl LL.length cl (.slice A2 PP.length c2) s.left s.life s.rd s.wr s.fl s.rf 0::row gl ((LL.map PEnt.val++junk).toArray) 31::vec 143 2 (.slice A2 PP.length c2) PP.length (putsV PP)::stars (g_.2.2.2.map PEnt.row)::vec 143 2 g_.2.1 g_.2.2.1.length (putsV g_.2.2.1)::L)∧(g_.1≤LL.length∧g_.2.2.1.map (·.2)=(keysTo s g_.1).mapIdx (outOf s ps)∧RFacts s LL PP g_.2.2.2∧∀x∈g_.2.2.1,x.ref∈g_.2.2.2)) (fun g_=>LL.length-g_.1) (0,nS_,[],pool) (jE_ ⟨S3,⟨Nat.zero_le _,rfl,hf,fun x hx=>by cases hx⟩⟩) ?_
 rintro ⟨at_,v,FF,pool2⟩ a_ w4 ⟨J,rfl,S5,hI6⟩
 skip
 have S5:St F w0 w4 (rR2 g gl LL.length cl (.slice A2 PP.length c2) s.left s.life s.rd s.wr s.fl s.rf 0::row gl ((LL.map PEnt.val++junk).toArray) 31::vec 143 2 (.slice A2 PP.length c2) PP.length (putsV PP)::stars (pool2.map PEnt.row)::vec 143 2 v FF.length (putsV FF)::L):=S5
 have hI6:(at_≤LL.length∧FF.map (·.2)=(keysTo s at_).mapIdx (outOf s ps)∧RFacts s LL PP pool2∧∀x∈FF,x.ref∈pool2):=hI6
 refine wp_seq (sR (pv (nI_ at_) (pv (pq g) (pv (pq g) (pv (pq g) (lR (sl gl 0 LL.length cl) S5 0 0 (pv (iv (LL.length:Nat)) (dC ((((at_:Nat):Int):Int)<(LL.length:Nat)) (fun hb7=> ?_) fun hb7=> ?_))))))))
 ·have hk:at_<s.last.length:=by omega
  have hkl:=keysTo_len s at_
  have hFl:FF.length=(keysTo s at_).length:=by have:=congrArg List.length hI6.2.1;rw [List.length_map,List.length_mapIdx] at this;exact this
  refine wE (nCT (wp_skip (nS (wp_block (sR (pv (pq g) (pv (nI_ at_) (g_ (gv_call (args:=#[pq g,nI_ at_]) rfl Try.func85 kr_ rfl rfl kr_ (Calls.mono (rcand S5 hI6.2.2.1 hk hpn') ?_))))))))))
  rintro _ w8 ⟨v2,CC,rfl,hCC,hCp,S9⟩
  refine ⟨_,rfl, ?_⟩
  obtain ⟨A1,c1,rfl⟩:=St.vec_v S9 0 rfl
  have hCl:CC.length=(pendOf s at_).length+1:=by have:=congrArg List.length hCC;rw [List.length_map] at this;exact this
  have hpl:(pendOf s at_).length≤s.pend.length:=by unfold pendOf;rw [List.length_map];exact List.length_filter_le _ _
  have hC5:∀x∈CC,x.2.length=512:=fun x hx=>hI6.2.2.1.cand5 hk _ (by rw [←hCC];exact List.mem_map.2 ⟨x,hx,rfl⟩)
  change St F w0 w8 (vec 31 1 (.slice A1 CC.length c1) CC.length (CC.map PEnt.val)::rR2 g gl LL.length cl (.slice A2 PP.length c2) s.left s.life s.rd s.wr s.fl s.rf 0::row gl ((LL.map PEnt.val++junk).toArray) 31::vec 143 2 (.slice A2 PP.length c2) PP.length (putsV PP)::stars (pool2.map PEnt.row)::vec 143 2 v FF.length (putsV FF)::L) at S9
  refine pv (.slice A1 CC.length c1) (wE (nS (sR (pv (.slice A1 CC.length c1) (pv (iv (CC.length:Nat)) (dE (CC.length:Nat) 1 (fun hb7=> ?_) fun hb7=> ?_))))))
  ·have hp0:pendOf s at_=[]:=List.eq_nil_of_length_eq_zero om_
   refine wE (nCT (wp_exit (then_x (inb_x (nR (pv (nI_ at_) (gI .i64 (IntKind.i64.wrap (((at_:Nat):Int)+1)) ((at_+1:Nat):Int) wq_ (pv (nI_ (at_+1)) (wE (then_n ?_))))))))))
   have S10:=St.pm 6 [1,2,3,4,5] S9
   exact ⟨(at_+1,v,FF,pool2),(jF_ (fun z_:Nat=>(fr ([pq g,.slice A n c,ud,ud,nI_ z_,v,nI_ (at_+1),.slice A1 CC.length c1,J 8,ud,pq g,pq g,po g 1,.slice A2 PP.length c2,iv (PP.length:Nat),tv,nI_ at_,pq g,pq g,pq g,sl gl 0 LL.length cl,iv (LL.length:Nat),tv,nI_ at_,nI_ (at_+1),pq g,nI_ at_,.slice A1 CC.length c1,.slice A1 CC.length c1,iv (CC.length:Nat),tv]++jR J 31 21) 34)) (x:=(keysTo s at_).length) (y:=(keysTo s (at_+1)).length) (congrArg List.length (keys_out hp0)).symm ⟨S10,⟨(by show at_+1≤LL.length;omega),by rw [keys_out hp0];exact hI6.2.1,hI6.2.2.1,hI6.2.2.2⟩⟩),(by show LL.length-(at_+1)<LL.length-at_;omega)⟩
  ·have hp0:pendOf s at_≠[]:=fun h=>hb7 (by rw [hCl,h];rfl)
   refine wE (nCF (wp_skip (nSR (pv (.agg #[iv 0,iv 0,iv 0]) (nW rfl (.agg #[iv 0,iv 0,iv 0]) S9 fun g11 w12 hg13 S14=>g_ (gv_stA (k:=0) (vs:=[iv 0,iv 0,iv 0]) S14 0 rfl rfl kr_ kr_ kr_ rfl (by simp [Value.oneCell']) (Nat.le_of_ble_eq_true kr_) (L':=(row g11 #[iv 0,iv 0,iv 0] 145::vec 31 1 (.slice A1 CC.length c1) CC.length (CC.map PEnt.val)::rR2 g gl LL.length cl (.slice A2 PP.length c2) s.left s.life s.rd s.wr s.fl s.rf 0::row gl ((LL.map PEnt.val++junk).toArray) 31::vec 143 2 (.slice A2 PP.length c2) PP.length (putsV PP)::stars (pool2.map PEnt.row)::vec 143 2 v FF.length (putsV FF)::L)) rfl (fun w15 S16=>wE (nS (sR (pv (.slice A n c) (pv (iv (n:Nat)) (dC (((n:Nat):Int)>0) (fun hb17=> ?_) fun hb17=> ?_))))))))))))
   ·have hp1:0<ps.length:=by omega
    have hn1:n=n-1+1:=by omega
    obtain ⟨ad,hAd,hrp⟩:=hr.out _ [row g11 #[iv 0,iv 0,iv 0] 145,vec 31 1 (.slice A1 CC.length c1) CC.length (CC.map PEnt.val),row g #[.slice (some ⟨gl,0,none⟩) LL.length cl,.slice A2 PP.length c2,iv s.left,iv s.life,iv s.rd,iv s.wr,iv s.fl,iv s.rf,iv 0] 138,row gl ((LL.map PEnt.val++junk).toArray) 31,vec 143 2 (.slice A2 PP.length c2) PP.length (putsV PP),stars (pool2.map PEnt.row),vec 143 2 v FF.length (putsV FF)] S16 (by rw [length_picksV];omega)
    have hrq:RdV w15 (some ad) (picksV ps):=fun _=>⟨ad,rfl,hrp⟩
    have hkm:(keysTo s at_).length%ps.length<ps.length:=Nat.mod_lt _ hp1
    have hpk:ps[(keysTo s at_).length%ps.length]?=some (pickAt ps (keysTo s at_).length):=by unfold pickAt;rw [if_neg om_,List.getD_eq_getElem?_getD,List.getElem?_eq_getElem hkm];rfl
    refine wE (nCT (wp_region_lit (pv (.slice A n c) (pv (nI_ ((keysTo s at_).length)) (pv (.slice A n c) (pv (iv (n:Nat)) (g_ (gv_int (k:=.i64) (z:=Int.tmod (((keysTo s at_).length:Nat):Int) (n:Nat)) (z':=(((keysTo s at_).length%ps.length:Nat):Int)) (by rw [hn1];kernel_rfl) (tmod_nat' rfl om_) (g_ (gv_ixB (e:=145) (sz:=3) (n:=n) (c:=c) (i:=(((keysTo s at_).length%ps.length:Nat):Int)) (k:=.i64) (ad:=ad) (ad':=(ad.add (((keysTo s at_).length%ps.length)*3))) (j:=((keysTo s at_).length%ps.length)) rfl kr_ kr_ (by rw [←hAd];kernel_rfl) kr_ rfl om_ rfl (g_ (gv_ldRA (ad:=ad.add ((keysTo s at_).length%ps.length*3)) (vs:=[iv ((pickAt ps (keysTo s at_).length).1),iv ((pickAt ps (keysTo s at_).length).2.1),iv ((pickAt ps (keysTo s at_).length).2.2)]) (n:=3) rfl kr_ kr_ rfl (RoV.cells hrq ((keysTo s at_).length%ps.length*3) (fun j u hu=>picksV_at ps _ _ hpk j u hu) (Nat.succ_pos _)) (g_ (gv_stA (k:=0) (vs:=[iv ((pickAt ps (keysTo s at_).length).1),iv ((pickAt ps (keysTo s at_).length).2.1),iv ((pickAt ps (keysTo s at_).length).2.2)]) S16 0 rfl rfl kr_ kr_ kr_ rfl (by simp [Value.oneCell']) (Nat.le_of_ble_eq_true kr_) (L':=(row g11 #[iv ((pickAt ps (keysTo s at_).length).1),iv ((pickAt ps (keysTo s at_).length).2.1),iv ((pickAt ps (keysTo s at_).length).2.2)] 145::vec 31 1 (.slice A1 CC.length c1) CC.length (CC.map PEnt.val)::rR2 g gl LL.length cl (.slice A2 PP.length c2) s.left s.life s.rd s.wr s.fl s.rf 0::row gl ((LL.map PEnt.val++junk).toArray) 31::vec 143 2 (.slice A2 PP.length c2) PP.length (putsV PP)::stars (pool2.map PEnt.row)::vec 143 2 v FF.length (putsV FF)::L)) rfl (fun w18 S19=> ?_)))))))))))))))
    refine wER (pv v (pv (nI_ at_) (pv (.slice A1 CC.length c1) (g_ (gv_ldA (k:=0) (n:=3) (vs:=[iv ((pickAt ps (keysTo s at_).length).1),iv ((pickAt ps (keysTo s at_).length).2.1),iv ((pickAt ps (keysTo s at_).length).2.2)]) S19 0 rfl rfl kr_ kr_ rfl rfl (g_ (gv_call (args:=#[.slice A1 CC.length c1,.agg #[iv ((pickAt ps (keysTo s at_).length).1),iv ((pickAt ps (keysTo s at_).length).2.1),iv ((pickAt ps (keysTo s at_).length).2.2)]]) rfl Try.func86 kr_ rfl rfl kr_ ?_)))))))
    have S23:St F w0 w18 (vec 31 1 (.slice A1 CC.length c1) CC.length (CC.map PEnt.val)::stars (pool2.map PEnt.row)::row g11 #[iv ((pickAt ps (keysTo s at_).length).1),iv ((pickAt ps (keysTo s at_).length).2.1),iv ((pickAt ps (keysTo s at_).length).2.2)] 145::rR2 g gl LL.length cl (.slice A2 PP.length c2) s.left s.life s.rd s.wr s.fl s.rf 0::row gl ((LL.map PEnt.val++junk).toArray) 31::vec 143 2 (.slice A2 PP.length c2) PP.length (putsV PP)::vec 143 2 v FF.length (putsV FF)::L):=St.pm 7 [1,5,0,2,3,4,6] S19
    refine Calls.mono (rtorn S23 hCp hC5 om_ om_) ?_
    rintro _ w20 ⟨g22,rfl,S21⟩
    rw [hCC] at S21
    refine ⟨_,rfl, ?_⟩
    change St F w0 w20 (row g22 (bvs (tornS (candS s at_) (pickAt ps (keysTo s at_).length))) 5::vec 31 1 (.slice A1 CC.length c1) CC.length (CC.map PEnt.val)::stars (pool2.map PEnt.row)::row g11 #[iv ((pickAt ps (keysTo s at_).length).1),iv ((pickAt ps (keysTo s at_).length).2.1),iv ((pickAt ps (keysTo s at_).length).2.2)] 145::rR2 g gl LL.length cl (.slice A2 PP.length c2) s.left s.life s.rd s.wr s.fl s.rf 0::row gl ((LL.map PEnt.val++junk).toArray) 31::vec 143 2 (.slice A2 PP.length c2) PP.length (putsV PP)::vec 143 2 v FF.length (putsV FF)::L) at S21
    refine pv (.agg #[nI_ at_,sl g22 0 512 512]) (g_ (gv_slit (e:=143) (sz:=2) (z:=.agg #[iv 0,nS_]) (by_:=32) (vs:=#[(0,.agg #[nI_ at_,sl g22 0 512 512])]) (cells:=#[nI_ at_,sl g22 0 512 512]) S21 rfl kr_ ⟨by kernel_rfl⟩ kr_ kr_ kr_ kr_ (fun g24 w25 hg26 S27=> ?_)))
    have S28:St F w0 w25 (row g24 #[nI_ at_,sl g22 0 512 512] 143::vec 143 2 v FF.length (putsV FF)::row g22 (bvs (tornS (candS s at_) (pickAt ps (keysTo s at_).length))) 5::vec 31 1 (.slice A1 CC.length c1) CC.length (CC.map PEnt.val)::stars (pool2.map PEnt.row)::row g11 #[iv ((pickAt ps (keysTo s at_).length).1),iv ((pickAt ps (keysTo s at_).length).2.1),iv ((pickAt ps (keysTo s at_).length).2.2)] 145::rR2 g gl LL.length cl (.slice A2 PP.length c2) s.left s.life s.rd s.wr s.fl s.rf 0::row gl ((LL.map PEnt.val++junk).toArray) 31::vec 143 2 (.slice A2 PP.length c2) PP.length (putsV PP)::L):=St.pm 9 [0,8,1,2,3,4,5,6,7] S27
    refine g_ (gv_append (e:=143) (sz:=2) (n:=FF.length) (v:=v) (vals:=(putsV FF)) (z:=.agg #[iv 0,nS_]) (by_:=32) (m:=1) (c':=1) (ad:=⟨g24,0,none⟩) (news:=[nI_ at_,sl g22 0 512 512]) (St.swap S28) rfl kr_ ⟨by kernel_rfl⟩ rfl kr_ kr_ dc_ rfl (row_news (S28.blk 0 rfl)) (by intro u hu;simp at hu;rcases hu with rfl|rfl<;>rfl) om_ om_ (fun v30 w29 S31=>pv v30 (wE ?_)))
    refine nR (pv (nI_ ((keysTo s at_).length)) (gI .i64 (IntKind.i64.wrap ((((keysTo s at_).length:Nat):Int)+1)) (((keysTo s at_).length+1:Nat):Int) wq_ (pv (nI_ ((keysTo s at_).length+1)) (wE (inb_n (nR (pv (nI_ at_) (gI .i64 (IntKind.i64.wrap (((at_:Nat):Int)+1)) ((at_+1:Nat):Int) wq_ (pv (nI_ (at_+1)) (wE (then_n ?_)))))))))))
    have S32:St F w0 w29 (row g22 (bvs (tornS (candS s at_) (pickAt ps (keysTo s at_).length))) 5::stars (pool2.map PEnt.row)::rR2 g gl LL.length cl (.slice A2 PP.length c2) s.left s.life s.rd s.wr s.fl s.rf 0::row gl ((LL.map PEnt.val++junk).toArray) 31::vec 143 2 (.slice A2 PP.length c2) PP.length (putsV PP)::vec 143 2 v30 (FF.length+1) (putsV FF++[nI_ at_,sl g22 0 512 512])::L):=St.pm 9 [2,4,6,7,8,0] S31
    have S33:St F w0 w29 (stars (((g22,tornS (candS s at_) (pickAt ps (keysTo s at_).length))::pool2).map PEnt.row)::rR2 g gl LL.length cl (.slice A2 PP.length c2) s.left s.life s.rd s.wr s.fl s.rf 0::row gl ((LL.map PEnt.val++junk).toArray) 31::vec 143 2 (.slice A2 PP.length c2) PP.length (putsV PP)::vec 143 2 v30 (FF.length+1) (putsV FF++[nI_ at_,sl g22 0 512 512])::L):=St.pool_add S32
    have S34:St F w0 w29 (rR2 g gl LL.length cl (.slice A2 PP.length c2) s.left s.life s.rd s.wr s.fl s.rf 0::row gl ((LL.map PEnt.val++junk).toArray) 31::vec 143 2 (.slice A2 PP.length c2) PP.length (putsV PP)::stars (((g22,tornS (candS s at_) (pickAt ps (keysTo s at_).length))::pool2).map PEnt.row)::vec 143 2 v30 (FF.length+1) (putsV FF++[nI_ at_,sl g22 0 512 512])::L):=St.pm 5 [1,2,3,0,4] S33
    have hv9:putsV FF++[nI_ at_,.slice (some ⟨g22,0,none⟩) 512 512]=putsV (FF++[((g22,at_,tornS (candS s at_) (pickAt ps (keysTo s at_).length)):RPut)]):=putsV_snoc FF ((g22,at_,tornS (candS s at_) (pickAt ps (keysTo s at_).length)):RPut)
    have hn9:FF.length+1=(FF++[((g22,at_,tornS (candS s at_) (pickAt ps (keysTo s at_).length)):RPut)]).length:=by rw [List.length_append];rfl
    rw [hv9,hn9] at S34
    exact ⟨(at_+1,v30,FF++[((g22,at_,tornS (candS s at_) (pickAt ps (keysTo s at_).length)):RPut)],(g22,tornS (candS s at_) (pickAt ps (keysTo s at_).length))::pool2),(jF_ (fun z_:Nat=>(fr [pq g,.slice A n c,ud,ud,nI_ z_,v30,nI_ (at_+1),.slice A1 CC.length c1,pq g11,ud,pq g,pq g,po g 1,.slice A2 PP.length c2,iv (PP.length:Nat),tv,nI_ at_,pq g,pq g,pq g,sl gl 0 LL.length cl,iv (LL.length:Nat),tv,nI_ at_,nI_ (at_+1),pq g,nI_ at_,.slice A1 CC.length c1,.slice A1 CC.length c1,iv (CC.length:Nat),fv,.agg #[iv 0,iv 0,iv 0],.slice A n c,iv (n:Nat),tv,.slice A n c,nI_ ((keysTo s at_).length),.slice A n c,iv (n:Nat),nI_ ((keysTo s at_).length%ps.length),.pointer (some (ad.add (((keysTo s at_).length%ps.length)*3))),.agg #[iv ((pickAt ps (keysTo s at_).length).1),iv ((pickAt ps (keysTo s at_).length).2.1),iv ((pickAt ps (keysTo s at_).length).2.2)],v,nI_ at_,.slice A1 CC.length c1,.agg #[iv ((pickAt ps (keysTo s at_).length).1),iv ((pickAt ps (keysTo s at_).length).2.1),iv ((pickAt ps (keysTo s at_).length).2.2)],sl g22 0 512 512,.agg #[nI_ at_,sl g22 0 512 512],sl g24 0 1 1,v30,nI_ ((keysTo s at_).length),nI_ ((keysTo s at_).length+1)] 34)) (x:=(keysTo s at_).length+1) (y:=(keysTo s (at_+1)).length) (by rw [keys_in hp0,List.length_append];rfl) ⟨S34,⟨(by show at_+1≤LL.length;omega),by rw [outs_in hp0,List.map_append,hI6.2.1];rfl,hI6.2.2.1.more _,fun z hz=>(List.mem_append.1 hz).elim (fun h=>List.mem_cons_of_mem _ (hI6.2.2.2 z h)) (fun h=>by rw [List.mem_singleton] at h;subst h;exact List.mem_cons_self)⟩⟩),(by show LL.length-(at_+1)<LL.length-at_;omega)⟩
   ·have hpk:pickAt ps (keysTo s at_).length=(0,0,0):=if_pos om_
    have S35:St F w0 w15 (row g11 #[iv ((pickAt ps (keysTo s at_).length).1),iv ((pickAt ps (keysTo s at_).length).2.1),iv ((pickAt ps (keysTo s at_).length).2.2)] 145::vec 31 1 (.slice A1 CC.length c1) CC.length (CC.map PEnt.val)::rR2 g gl LL.length cl (.slice A2 PP.length c2) s.left s.life s.rd s.wr s.fl s.rf 0::row gl ((LL.map PEnt.val++junk).toArray) 31::vec 143 2 (.slice A2 PP.length c2) PP.length (putsV PP)::stars (pool2.map PEnt.row)::vec 143 2 v FF.length (putsV FF)::L):=(by rw [hpk];exact S16)
    refine wE (nCF (wp_skip (nSR (pv v (pv (nI_ at_) (pv (.slice A1 CC.length c1) (g_ (gv_ldA (k:=0) (n:=3) (vs:=[iv ((pickAt ps (keysTo s at_).length).1),iv ((pickAt ps (keysTo s at_).length).2.1),iv ((pickAt ps (keysTo s at_).length).2.2)]) S35 0 rfl rfl kr_ kr_ rfl rfl (g_ (gv_call (args:=#[.slice A1 CC.length c1,.agg #[iv ((pickAt ps (keysTo s at_).length).1),iv ((pickAt ps (keysTo s at_).length).2.1),iv ((pickAt ps (keysTo s at_).length).2.2)]]) rfl Try.func86 kr_ rfl rfl kr_ ?_))))))))))
    have S39:St F w0 w15 (vec 31 1 (.slice A1 CC.length c1) CC.length (CC.map PEnt.val)::stars (pool2.map PEnt.row)::row g11 #[iv ((pickAt ps (keysTo s at_).length).1),iv ((pickAt ps (keysTo s at_).length).2.1),iv ((pickAt ps (keysTo s at_).length).2.2)] 145::rR2 g gl LL.length cl (.slice A2 PP.length c2) s.left s.life s.rd s.wr s.fl s.rf 0::row gl ((LL.map PEnt.val++junk).toArray) 31::vec 143 2 (.slice A2 PP.length c2) PP.length (putsV PP)::vec 143 2 v FF.length (putsV FF)::L):=St.pm 7 [1,5,0,2,3,4,6] S35
    refine Calls.mono (rtorn S39 hCp hC5 om_ om_) ?_
    rintro _ w36 ⟨g38,rfl,S37⟩
    rw [hCC] at S37
    refine ⟨_,rfl, ?_⟩
    change St F w0 w36 (row g38 (bvs (tornS (candS s at_) (pickAt ps (keysTo s at_).length))) 5::vec 31 1 (.slice A1 CC.length c1) CC.length (CC.map PEnt.val)::stars (pool2.map PEnt.row)::row g11 #[iv ((pickAt ps (keysTo s at_).length).1),iv ((pickAt ps (keysTo s at_).length).2.1),iv ((pickAt ps (keysTo s at_).length).2.2)] 145::rR2 g gl LL.length cl (.slice A2 PP.length c2) s.left s.life s.rd s.wr s.fl s.rf 0::row gl ((LL.map PEnt.val++junk).toArray) 31::vec 143 2 (.slice A2 PP.length c2) PP.length (putsV PP)::vec 143 2 v FF.length (putsV FF)::L) at S37
    refine pv (.agg #[nI_ at_,sl g38 0 512 512]) (g_ (gv_slit (e:=143) (sz:=2) (z:=.agg #[iv 0,nS_]) (by_:=32) (vs:=#[(0,.agg #[nI_ at_,sl g38 0 512 512])]) (cells:=#[nI_ at_,sl g38 0 512 512]) S37 rfl kr_ ⟨by kernel_rfl⟩ kr_ kr_ kr_ kr_ (fun g40 w41 hg42 S43=> ?_)))
    have S44:St F w0 w41 (row g40 #[nI_ at_,sl g38 0 512 512] 143::vec 143 2 v FF.length (putsV FF)::row g38 (bvs (tornS (candS s at_) (pickAt ps (keysTo s at_).length))) 5::vec 31 1 (.slice A1 CC.length c1) CC.length (CC.map PEnt.val)::stars (pool2.map PEnt.row)::row g11 #[iv ((pickAt ps (keysTo s at_).length).1),iv ((pickAt ps (keysTo s at_).length).2.1),iv ((pickAt ps (keysTo s at_).length).2.2)] 145::rR2 g gl LL.length cl (.slice A2 PP.length c2) s.left s.life s.rd s.wr s.fl s.rf 0::row gl ((LL.map PEnt.val++junk).toArray) 31::vec 143 2 (.slice A2 PP.length c2) PP.length (putsV PP)::L):=St.pm 9 [0,8,1,2,3,4,5,6,7] S43
    refine g_ (gv_append (e:=143) (sz:=2) (n:=FF.length) (v:=v) (vals:=(putsV FF)) (z:=.agg #[iv 0,nS_]) (by_:=32) (m:=1) (c':=1) (ad:=⟨g40,0,none⟩) (news:=[nI_ at_,sl g38 0 512 512]) (St.swap S44) rfl kr_ ⟨by kernel_rfl⟩ rfl kr_ kr_ dc_ rfl (row_news (S44.blk 0 rfl)) (by intro u hu;simp at hu;rcases hu with rfl|rfl<;>rfl) om_ om_ (fun v46 w45 S47=>pv v46 (wE (nR (pv (nI_ ((keysTo s at_).length)) (gI .i64 (IntKind.i64.wrap ((((keysTo s at_).length:Nat):Int)+1)) (((keysTo s at_).length+1:Nat):Int) wq_ (pv (nI_ ((keysTo s at_).length+1)) (wE ?_))))))))
    refine inb_n (nR (pv (nI_ at_) (gI .i64 (IntKind.i64.wrap (((at_:Nat):Int)+1)) ((at_+1:Nat):Int) wq_ (pv (nI_ (at_+1)) (wE (then_n ?_))))))
    have S48:St F w0 w45 (row g38 (bvs (tornS (candS s at_) (pickAt ps (keysTo s at_).length))) 5::stars (pool2.map PEnt.row)::rR2 g gl LL.length cl (.slice A2 PP.length c2) s.left s.life s.rd s.wr s.fl s.rf 0::row gl ((LL.map PEnt.val++junk).toArray) 31::vec 143 2 (.slice A2 PP.length c2) PP.length (putsV PP)::vec 143 2 v46 (FF.length+1) (putsV FF++[nI_ at_,sl g38 0 512 512])::L):=St.pm 9 [2,4,6,7,8,0] S47
    have S49:St F w0 w45 (stars (((g38,tornS (candS s at_) (pickAt ps (keysTo s at_).length))::pool2).map PEnt.row)::rR2 g gl LL.length cl (.slice A2 PP.length c2) s.left s.life s.rd s.wr s.fl s.rf 0::row gl ((LL.map PEnt.val++junk).toArray) 31::vec 143 2 (.slice A2 PP.length c2) PP.length (putsV PP)::vec 143 2 v46 (FF.length+1) (putsV FF++[nI_ at_,sl g38 0 512 512])::L):=St.pool_add S48
    have S50:St F w0 w45 (rR2 g gl LL.length cl (.slice A2 PP.length c2) s.left s.life s.rd s.wr s.fl s.rf 0::row gl ((LL.map PEnt.val++junk).toArray) 31::vec 143 2 (.slice A2 PP.length c2) PP.length (putsV PP)::stars (((g38,tornS (candS s at_) (pickAt ps (keysTo s at_).length))::pool2).map PEnt.row)::vec 143 2 v46 (FF.length+1) (putsV FF++[nI_ at_,sl g38 0 512 512])::L):=St.pm 5 [1,2,3,0,4] S49
    have hv9:putsV FF++[nI_ at_,.slice (some ⟨g38,0,none⟩) 512 512]=putsV (FF++[((g38,at_,tornS (candS s at_) (pickAt ps (keysTo s at_).length)):RPut)]):=putsV_snoc FF ((g38,at_,tornS (candS s at_) (pickAt ps (keysTo s at_).length)):RPut)
    have hn9:FF.length+1=(FF++[((g38,at_,tornS (candS s at_) (pickAt ps (keysTo s at_).length)):RPut)]).length:=by rw [List.length_append];rfl
    rw [hv9,hn9] at S50
    exact ⟨(at_+1,v46,FF++[((g38,at_,tornS (candS s at_) (pickAt ps (keysTo s at_).length)):RPut)],(g38,tornS (candS s at_) (pickAt ps (keysTo s at_).length))::pool2),(jF_ (fun z_:Nat=>(fr ([pq g,.slice A n c,ud,ud,nI_ z_,v46,nI_ (at_+1),.slice A1 CC.length c1,pq g11,ud,pq g,pq g,po g 1,.slice A2 PP.length c2,iv (PP.length:Nat),tv,nI_ at_,pq g,pq g,pq g,sl gl 0 LL.length cl,iv (LL.length:Nat),tv,nI_ at_,nI_ (at_+1),pq g,nI_ at_,.slice A1 CC.length c1,.slice A1 CC.length c1,iv (CC.length:Nat),fv,.agg #[iv 0,iv 0,iv 0],.slice A n c,iv (n:Nat),fv]++jR J 35 7++[v,nI_ at_,.slice A1 CC.length c1,.agg #[iv ((pickAt ps (keysTo s at_).length).1),iv ((pickAt ps (keysTo s at_).length).2.1),iv ((pickAt ps (keysTo s at_).length).2.2)],sl g38 0 512 512,.agg #[nI_ at_,sl g38 0 512 512],sl g40 0 1 1,v46,nI_ ((keysTo s at_).length),nI_ ((keysTo s at_).length+1)]) 34)) (x:=(keysTo s at_).length+1) (y:=(keysTo s (at_+1)).length) (by rw [keys_in hp0,List.length_append];rfl) ⟨S50,⟨(by show at_+1≤LL.length;omega),by rw [outs_in hp0,List.map_append,hI6.2.1];rfl,hI6.2.2.1.more _,fun z hz=>(List.mem_append.1 hz).elim (fun h=>List.mem_cons_of_mem _ (hI6.2.2.2 z h)) (fun h=>by rw [List.mem_singleton] at h;subst h;exact List.mem_cons_self)⟩⟩),(by show LL.length-(at_+1)<LL.length-at_;omega)⟩
 ·have hFo:FF.map (·.2)=crashOuts s ps:=by rw [hI6.2.1,show at_=s.last.length by omega];rfl
  have hf2:=hI6.2.2.1
  have hFp:=hI6.2.2.2
  have hFl:FF.length≤2048:=by have:=congrArg List.length hI6.2.1;rw [List.length_map,List.length_mapIdx] at this;have:=keysTo_len s at_;omega
  have hFn:FF.length=(crashOuts s ps).length:=by rw [←hFo,List.length_map]
  have ho5:=hf2.outs5 ps
  have hFx:∀i,i<FF.length→∃x,FF[i]?=some x∧x.ref∈pool2∧(crashOuts s ps)[i]?=some x.2∧x.2.1<s.last.length:=fun i hi=>⟨FF[i],List.getElem?_eq_getElem hi,hFp _ (List.getElem_mem hi),by rw [←hFo,List.getElem?_map,List.getElem?_eq_getElem hi];rfl,(ho5 _ (by rw [←hFo];exact List.mem_map.2 ⟨_,List.getElem_mem hi,rfl⟩)).2⟩
  obtain ⟨A3,c3,rfl⟩:=St.vec_v S5 4 rfl
  refine wE (nCF (wp_exit (then_x (then_x (inb_x (nS (sR (pv (iv 0) (wE (then_n (wp_block (wp_loop_g (G:=Nat×List (Nat×List UInt8)) (fun (g_:Nat×List (Nat×List UInt8)) (a_:Act) (w_:World)=>∃J:Nat→Value,a_=(fr ([pq g,.slice A n c,ud,ud,nI_ ((keysTo s at_).length),.slice A3 FF.length c3,nI_ at_,J 7,J 8,nI_ g_.1,pq g,pq g,po g 1,.slice A2 PP.length c2,iv (PP.length:Nat),tv,nI_ at_,pq g,pq g,pq g,sl gl 0 LL.length cl,iv (LL.length:Nat),fv]++jR J 23 50) 13)∧St F w0 w_ (rR2 g gl LL.length cl (.slice A2 PP.length c2) s.left s.life s.rd s.wr s.fl s.rf 0::row gl ((g_.2.map PEnt.val++junk).toArray) 31::vec 143 2 (.slice A2 PP.length c2) PP.length (putsV PP)::stars (pool2.map PEnt.row)::vec 143 2 (.slice A3 FF.length c3) FF.length (putsV FF)::L)∧(g_.1≤FF.length∧g_.2.map (·.2)=applyP s.last ((crashOuts s ps).take g_.1)∧(∀x∈g_.2,x∈pool2))) (fun g_=>FF.length-g_.1) (0,LL) (jE_ ⟨S5,⟨Nat.zero_le _,(by rw [List.take_zero];exact hf2.last),hf2.lin⟩⟩) ?_))))))))))))
  rintro ⟨i,LL1⟩ a_ w51 ⟨J,rfl,S52,hI53⟩
  skip
  have S52:St F w0 w51 (rR2 g gl LL.length cl (.slice A2 PP.length c2) s.left s.life s.rd s.wr s.fl s.rf 0::row gl ((LL1.map PEnt.val++junk).toArray) 31::vec 143 2 (.slice A2 PP.length c2) PP.length (putsV PP)::stars (pool2.map PEnt.row)::vec 143 2 (.slice A3 FF.length c3) FF.length (putsV FF)::L):=S52
  have hI53:(i≤FF.length∧LL1.map (·.2)=applyP s.last ((crashOuts s ps).take i)∧(∀x∈LL1,x∈pool2)):=hI53
  refine wp_seq (sR (pv (nI_ i) (pv (.slice A3 FF.length c3) (pv (iv (FF.length:Nat)) (dC ((((i:Nat):Int):Int)<(FF.length:Nat)) (fun hb54=> ?_) fun hb54=> ?_)))))
  ·obtain ⟨x,hx,hxp,hxs,hxk⟩:=hFx i om_
   have hl1:=turn_len (LL:=LL) hI53.2.1
   obtain ⟨ad2,hAd2,hrd⟩:=(St.vec_rd S52 4 rfl) (by rw [length_putsV];omega)
   refine wE (nCT (wp_skip (nS (wp_block (wp_region_phu (γ:=Unit) 14 [] (fun (c_:Unit) (i_:Nat)=>(match i_ with|0=>pq g|1=>pq g|2=>pq g|3=>sl gl 0 LL.length cl|4=>.slice A3 FF.length c3|5=>nI_ i|6=>.pointer (some (ad2.add (i*2)))|7=>.pointer (some (ad2.add (i*2)))|8=>nI_ x.2.1|9=>.slice A3 FF.length c3|10=>nI_ i|11=>.pointer (some (ad2.add (i*2)))|12=>.pointer (some ((ad2.add (i*2)).add 1))|13=>sl x.1 0 512 512|_=>undef:Value)) (fun (c_:Unit) (p_:Nat) (w_:World)=>(match p_ with|_=>St F w0 w_ (rR2 g gl LL.length cl (.slice A2 PP.length c2) s.left s.life s.rd s.wr s.fl s.rf 0::row gl ((LL1.map PEnt.val++junk).toArray) 31::vec 143 2 (.slice A2 PP.length c2) PP.length (putsV PP)::stars (pool2.map PEnt.row)::vec 143 2 (.slice A3 FF.length c3) FF.length (putsV FF)::L):Prop)) () kr_ kr_ kr_ kr_ (S52.drew) ?_ ?_ ?_)))))
   ·intro i_ c_ p_ vals_ w1 hi_ hiE_ hp_ hk_ hu_ hPh_ hd_
    rcases i_ with _|_|_|_|_|_|_|_|_|_|_|_|_|_|i_
    ·exact tG_ rfl hd_ (gV (pq g) ⟨rfl,rfl⟩)
    ·exact tG_ rfl hd_ (gV (pq g) ⟨rfl,rfl⟩)
    ·exact tG_ rfl hd_ (gV (pq g) ⟨rfl,rfl⟩)
    ·have S58:=St.id hPh_
     exact tG_ rfl hd_ (gL (sl gl 0 LL.length cl) rfl (((S58.blk 0 rfl).cell 0).trans rfl) ⟨rfl,rfl⟩)
    ·exact tG_ rfl hd_ (gV (.slice A3 FF.length c3) ⟨rfl,rfl⟩)
    ·exact tG_ rfl hd_ (gV (nI_ i) ⟨rfl,rfl⟩)
    ·exact tG_ rfl hd_ (gv_ixB (e:=143) (sz:=2) (n:=FF.length) (c:=c3) (i:=((i:Nat):Int)) (k:=.i64) (ad:=ad2) (ad':=(ad2.add (i*2))) (j:=i) rfl kr_ kr_ (by rw [←hAd2];kernel_rfl) kr_ rfl om_ rfl ⟨rfl,rfl⟩)
    ·exact tG_ rfl hd_ (gV (.pointer (some (ad2.add (i*2)))) ⟨rfl,rfl⟩)
    ·have S63:=St.id hPh_
     exact tG_ rfl hd_ (gL (nI_ x.2.1) rfl (put_at (rdv_at (St.vec_rd S63 4 rfl) hAd2 (by rw [length_putsV];omega)) hx) ⟨rfl,rfl⟩)
    ·exact tG_ rfl hd_ (gV (.slice A3 FF.length c3) ⟨rfl,rfl⟩)
    ·exact tG_ rfl hd_ (gV (nI_ i) ⟨rfl,rfl⟩)
    ·exact tG_ rfl hd_ (gv_ixB (e:=143) (sz:=2) (n:=FF.length) (c:=c3) (i:=((i:Nat):Int)) (k:=.i64) (ad:=ad2) (ad':=(ad2.add (i*2))) (j:=i) rfl kr_ kr_ (by rw [←hAd2];kernel_rfl) kr_ rfl om_ rfl ⟨rfl,rfl⟩)
    ·exact tG_ rfl hd_ (gV (.pointer (some ((ad2.add (i*2)).add 1))) ⟨rfl,rfl⟩)
    ·have S68:=St.id hPh_
     exact tG_ rfl hd_ (gL (PEnt.val x.ref) rfl (put_data (rdv_at (St.vec_rd S68 4 rfl) hAd2 (by rw [length_putsV];omega)) hx) ⟨rfl,rfl⟩)
    ·exact absurd hi_ om_
   ·intro k_ c_ vals_ w1 hk_ hPh_ hd_
    exact absurd hk_ (Nat.not_lt_zero _)
   ·intro c_ w1 hPh_
    have S69:=St.id hPh_
    refine (g_ (gv_ixE (e:=31) (sz:=1) (g:=gl) (off:=0) (n:=LL.length) (c:=cl) (i:=((x.2.1:Nat):Int)) (k:=.i64) (j:=x.2.1) (off':=x.2.1) rfl kr_ kr_ kr_ kr_ rfl om_ om_ (g_ (gv_st (k:=x.2.1) (v:=PEnt.val x.ref) S69 1 rfl rfl kr_ kr_ kr_ rfl (ll_blt om_) (L':=(rR2 g gl LL.length cl (.slice A2 PP.length c2) s.left s.life s.rd s.wr s.fl s.rf 0::row gl (((LL1.set x.2.1 x.ref).map PEnt.val++junk).toArray) 31::vec 143 2 (.slice A2 PP.length c2) PP.length (putsV PP)::stars (pool2.map PEnt.row)::vec 143 2 (.slice A3 FF.length c3) FF.length (putsV FF)::L)) (by rw [ll_set om_];rfl) (fun w70 S71=> ?_)))))
    exact wE (inb_n (nR (pv (nI_ i) (gI .i64 (IntKind.i64.wrap (((i:Nat):Int)+1)) ((i+1:Nat):Int) (wr_eq om_ om_ om_) (pv (nI_ (i+1)) (wE (then_n ⟨(i+1,LL1.set x.2.1 x.ref),(jE_ ⟨S71,⟨by omega,(by rw [List.take_add_one,hxs];exact turn_one hI53.2.1),mem_set' hI53.2.2 hxp⟩⟩),(by show FF.length-(i+1)<FF.length-i;omega)⟩)))))))
  ·refine wE (nCF (wp_exit (then_x (then_x (inb_x (nSR (pv (pq g) (pv (pq g) (pv (po g 1) (sS S52 0 rfl 1 (nS_) fun w72 S73=>wER (pv (pq g) (pv (pq g) ?_))))))))))))
   refine pv (po g 2) (sS S73 0 rfl 2 (iv (-1)) fun w74 S75=>wE (nR (pv (pq g) (pv (pq g) (pv (po g 3) (lR (iv s.life) S75 0 3 (pv (iv (inc s.life)) (pv (pq g) (pv (po g 3) (sS S75 0 rfl 3 (iv (inc s.life)) fun w76 S77=>wE (bodyPost_end (v:=.tuple #[]) (results_none rfl _ _ _) rfl ?_)))))))))))
   have S78:St F w0 w76 (rR2 g gl LL.length cl (nS_) (-1) (inc s.life) s.rd s.wr s.fl s.rf 0::row gl ((LL1.map PEnt.val++junk).toArray) 31::stars (pool2.map PEnt.row)::L):=St.pm 5 [0,1,3] S77
   have htk:(crashOuts s ps).take i=crashOuts s ps:=List.take_of_length_le om_
   rw [htk] at hI53
   have hl1:LL.length=LL1.length:=by rw [turn_len (LL:=LL) hI53.2.1];exact hll
   rw [hl1] at S78
   have S9:=St.permT [_,_,_,_] [1,2,0,3] dc_ rfl (St.vec_nil (e:=143) (sz:=2) S78)
   exact ⟨rfl,St.rclose (gl:=gl) (cl:=cl) (c2:=0) (A2:=none) (junk:=junk) (LL:=LL1) (PP:=([]:List RPut)) (pool:=pool2) (s:=s.crashR ps) S9 (hf2.turned (s':=s.crashR ps) hI53.2.1 (fun x hx=>(ho5 x hx).1) hI53.2.2 rfl rfl (show (-1:Int)≤ -1∧(-1:Int)≤9223372036854775807 by decide)) (by rw [←hl1];exact hcl) (by rw [List.length_append,List.length_map,←hl1];rw [List.length_append,List.length_map] at hju;exact hju)⟩
theorem rd_write {at_:Int}{A:Option Addr}{d:List UInt8}{cd:Nat}{F:Nat→Prop}{w0 w:World}{L:List Ast}{g:Nat}{s:Dsk}(S:St F w0 w (RDisk g s::L))(hr:RoT F w0 L A d)(hdm:d.length≤9223372036854775807)(hpn':s.pend.length<4398046511104):Calls Try.prog 34 #[.pointer (some ⟨g,0,none⟩),.int .i64 at_,.slice A d.length cd] w fun e w'=>e=.returned (.int .i64 (s.writeR at_ d).2)∧St F w0 w' (RDisk g (s.writeR at_ d).1::L):=by
 obtain ⟨gl,cl,c2,A2,junk,LL,PP,pool,hf,hcl,hju,S⟩:=St.ropen S
 have hn2:=hf.n2
 have hll:=hf.ll
 have hpp:=hf.pp
 have hpn:=hf.pn
 by_cases hz:s.left=0
 ·have e:s.writeR at_ d=(s,3):=by unfold Dsk.writeR;rw [if_pos hz]
  rw [e]
  change St F w0 w (rR2 g gl LL.length cl (.slice A2 PP.length c2) s.left s.life s.rd s.wr s.fl s.rf 0::row gl ((LL.map PEnt.val++junk).toArray) 31::vec 143 2 (.slice A2 PP.length c2) PP.length (putsV PP)::stars (pool.map PEnt.row)::L) at S
  refine eN (fr [pq g,iv at_,.slice A d.length cd] 65) Try.func34 rfl (sR (pv (iv 0) (wE (nS (sR (pv (pq g) (pv (pq g) (pv (po g 2) (lR (iv s.left) S 0 2 (dE s.left 0 (fun _=>wE (nCT (sR ?_))) fun hd1=>False.elim (absurd hz hd1)))))))))))
  exact pv (iv 3) (wE (then_n (rR (bA (iv 3) ⟨rfl,St.rclose (gl:=gl) (cl:=cl) (c2:=c2) (A2:=A2) (junk:=junk) (LL:=LL) (PP:=PP) (pool:=pool) (s:=s) S (hf.upd rfl rfl hf.lb) hcl hju⟩))))
 by_cases ho:at_<0∨(s.last.length:Int)≤at_
 ·have e:s.writeR at_ d=({s with rf:=inc s.rf},11):=by unfold Dsk.writeR;rw [if_neg hz,if_pos ho]
  rw [e]
  change St F w0 w (rR2 g gl LL.length cl (.slice A2 PP.length c2) s.left s.life s.rd s.wr s.fl s.rf 0::row gl ((LL.map PEnt.val++junk).toArray) 31::vec 143 2 (.slice A2 PP.length c2) PP.length (putsV PP)::stars (pool.map PEnt.row)::L) at S
  refine eN (fr [pq g,iv at_,.slice A d.length cd] 65) Try.func34 rfl (sR (pv (iv 0) (wE (nS (sR (pv (pq g) (pv (pq g) (pv (po g 2) (lR (iv s.left) S 0 2 (dE s.left 0 (fun hd1=>False.elim (absurd hd1 hz)) fun _=>wE (nCF (wp_skip ?_))))))))))))
  refine nS (sR (pv (iv at_) (dC ((at_:Int)<0) (fun hb2=> ?_) fun hb2=> ?_)))
  ·refine pv tv (wN (wN (wN (wN (wN (wN (wN (pv tv (wE (nCT (sR (pv (pq g) (pv (pq g) ?_)))))))))))))
   exact pv (po g 4) (pv (po g 7) (lR (iv s.rf) S 0 7 (pv (iv (inc s.rf)) (pv (pq g) (pv (po g 4) (pv (po g 7) (sS S 0 rfl 7 (iv (inc s.rf)) fun w3 S4=>wER (pv (iv 11) (wE (then_n (rR (bA (iv 11) ⟨rfl,St.rclose (gl:=gl) (cl:=cl) (c2:=c2) (A2:=A2) (junk:=junk) (LL:=LL) (PP:=PP) (pool:=pool) (s:={s with rf:=inc s.rf}) S4 (hf.upd rfl rfl hf.lb) hcl hju⟩))))))))))))
  ·refine pv fv (pW (iv at_) (pW (pq g) (pW (pq g) (pW (pq g) (wl_when kr_ (gv_ldR (v:=sl gl 0 LL.length cl) rfl kr_ kr_ (((S.blk 0 rfl).cell 0).trans rfl) (pW (iv (LL.length:Nat)) (wl_when kr_ (gv_dec (p:=(at_:Int)≥(LL.length:Nat)) kr_ (fun _=>pv tv (wE (nCT (sR (pv (pq g) (pv (pq g) ?_)))))) (fun hd5=>False.elim om_))))))))))
   exact pv (po g 4) (pv (po g 7) (lR (iv s.rf) S 0 7 (pv (iv (inc s.rf)) (pv (pq g) (pv (po g 4) (pv (po g 7) (sS S 0 rfl 7 (iv (inc s.rf)) fun w6 S7=>wER (pv (iv 11) (wE (then_n (rR (bA (iv 11) ⟨rfl,St.rclose (gl:=gl) (cl:=cl) (c2:=c2) (A2:=A2) (junk:=junk) (LL:=LL) (PP:=PP) (pool:=pool) (s:={s with rf:=inc s.rf}) S7 (hf.upd rfl rfl hf.lb) hcl hju⟩))))))))))))
 obtain ⟨k,rfl⟩:∃k:Nat,at_=(k:Int):=⟨at_.toNat,by omega⟩
 have hk:k<s.last.length:=by omega
 by_cases hd5:d.length≠512
 ·have e:s.writeR (k:Int) d=({s with rf:=inc s.rf},2):=by unfold Dsk.writeR;rw [if_neg hz,if_neg ho,if_pos hd5]
  rw [e]
  change St F w0 w (rR2 g gl LL.length cl (.slice A2 PP.length c2) s.left s.life s.rd s.wr s.fl s.rf 0::row gl ((LL.map PEnt.val++junk).toArray) 31::vec 143 2 (.slice A2 PP.length c2) PP.length (putsV PP)::stars (pool.map PEnt.row)::L) at S
  refine eN (fr [pq g,nI_ k,.slice A d.length cd] 65) Try.func34 rfl (sR (pv (iv 0) (wE (nS (sR (pv (pq g) (pv (pq g) (pv (po g 2) (lR (iv s.left) S 0 2 (dE s.left 0 (fun hd1=>False.elim (absurd hd1 hz)) fun _=>wE (nCF (wp_skip ?_))))))))))))
  refine nS (sR (pv (nI_ k) (dC ((((k:Nat):Int):Int)<0) (fun hd2=>False.elim om_) fun _=>pv fv (pW (nI_ k) (pW (pq g) (pW (pq g) (pW (pq g) (wl_when kr_ (gv_ldR (v:=sl gl 0 LL.length cl) rfl kr_ kr_ (((S.blk 0 rfl).cell 0).trans rfl) (pW (iv (LL.length:Nat)) (wl_when kr_ (gv_dec (p:=(((k:Nat):Int):Int)≥(LL.length:Nat)) kr_ (fun hd3=>False.elim om_) (fun _=>pv fv (wE ?_))))))))))))))
  refine nCF (wp_skip (nS (sR (pv (.slice A d.length cd) (pv (iv (d.length:Nat)) (dN (d.length:Nat) 512 (fun _=>wE (nCT (sR (pv (pq g) (pv (pq g) (pv (po g 4) (pv (po g 7) ?_))))))) fun hd4=>False.elim om_))))))
  exact lR (iv s.rf) S 0 7 (pv (iv (inc s.rf)) (pv (pq g) (pv (po g 4) (pv (po g 7) (sS S 0 rfl 7 (iv (inc s.rf)) fun w5 S6=>wER (pv (iv 2) (wE (then_n (rR (bA (iv 2) ⟨rfl,St.rclose (gl:=gl) (cl:=cl) (c2:=c2) (A2:=A2) (junk:=junk) (LL:=LL) (PP:=PP) (pool:=pool) (s:={s with rf:=inc s.rf}) S6 (hf.upd rfl rfl hf.lb) hcl hju⟩))))))))))
 have hd:d.length=512:=by omega
 have e:s.writeR (k:Int) d=({s with pend:=s.pend++[(k,d)],wr:=inc s.wr,left:=spent s.left},0):=by unfold Dsk.writeR;rw [if_neg hz,if_neg ho,if_neg hd5,Int.toNat_natCast]
 rw [e]
 have hlb:=spent_lb hf.lb hz
 change St F w0 w (rR2 g gl LL.length cl (.slice A2 PP.length c2) s.left s.life s.rd s.wr s.fl s.rf 0::row gl ((LL.map PEnt.val++junk).toArray) 31::vec 143 2 (.slice A2 PP.length c2) PP.length (putsV PP)::stars (pool.map PEnt.row)::L) at S
 refine eN (fr [pq g,nI_ k,.slice A d.length cd] 65) Try.func34 rfl (sR (pv (iv 0) (wE (nS (sR (pv (pq g) (pv (pq g) (pv (po g 2) (lR (iv s.left) S 0 2 (dE s.left 0 (fun hd1=>False.elim (absurd hd1 hz)) fun _=>wE (nCF (wp_skip ?_))))))))))))
 refine nS (sR (pv (nI_ k) (dC ((((k:Nat):Int):Int)<0) (fun hd2=>False.elim om_) fun _=>pv fv (pW (nI_ k) (pW (pq g) (pW (pq g) (pW (pq g) (wl_when kr_ (gv_ldR (v:=sl gl 0 LL.length cl) rfl kr_ kr_ (((S.blk 0 rfl).cell 0).trans rfl) (pW (iv (LL.length:Nat)) (wl_when kr_ (gv_dec (p:=(((k:Nat):Int):Int)≥(LL.length:Nat)) kr_ (fun hd3=>False.elim om_) (fun _=>pv fv (wE ?_))))))))))))))
 refine nCF (wp_skip (nS (sR (pv (.slice A d.length cd) (pv (iv (d.length:Nat)) (dN (d.length:Nat) 512 (fun hd4=>False.elim om_) fun _=>wE (nCF (wp_skip (nS ?_)))))))))
 have S5:St F w0 w (vec 143 2 (.slice A2 PP.length c2) PP.length (putsV PP)::rR2 g gl LL.length cl (.slice A2 PP.length c2) s.left s.life s.rd s.wr s.fl s.rf 0::row gl ((LL.map PEnt.val++junk).toArray) 31::stars (pool.map PEnt.row)::L):=St.pm 4 [2,0,1,3] S
 refine wp_region_phu (γ:=Nat×Nat×Value) 14 [7,9,10,13] (fun (c_:Nat×Nat×Value) (i_:Nat)=>(match i_ with|0=>pq g|1=>pq g|2=>pq g|3=>po g 1|4=>.slice A2 PP.length c2|5=>nI_ k|6=>.slice A d.length cd|7=>sl c_.1 0 d.length d.length|8=>.agg #[nI_ k,sl c_.1 0 d.length d.length]|9=>sl c_.2.1 0 1 1|10=>c_.2.2|11=>pq g|12=>po g 1|13=>undef|_=>undef:Value)) (fun (c_:Nat×Nat×Value) (p_:Nat) (w_:World)=>(match p_ with|0=>St F w0 w_ (vec 143 2 (.slice A2 PP.length c2) PP.length (putsV PP)::rR2 g gl LL.length cl (.slice A2 PP.length c2) s.left s.life s.rd s.wr s.fl s.rf 0::row gl ((LL.map PEnt.val++junk).toArray) 31::stars (pool.map PEnt.row)::L)|1=>St F w0 w_ (row c_.1 (bvs d) 5::vec 143 2 (.slice A2 PP.length c2) PP.length (putsV PP)::rR2 g gl LL.length cl (.slice A2 PP.length c2) s.left s.life s.rd s.wr s.fl s.rf 0::row gl ((LL.map PEnt.val++junk).toArray) 31::stars (pool.map PEnt.row)::L)|2=>St F w0 w_ (row c_.2.1 #[nI_ k,sl c_.1 0 d.length d.length] 143::row c_.1 (bvs d) 5::vec 143 2 (.slice A2 PP.length c2) PP.length (putsV PP)::rR2 g gl LL.length cl (.slice A2 PP.length c2) s.left s.life s.rd s.wr s.fl s.rf 0::row gl ((LL.map PEnt.val++junk).toArray) 31::stars (pool.map PEnt.row)::L)|3=>St F w0 w_ (vec 143 2 c_.2.2 (PP.length+1) (putsV PP++[nI_ k,sl c_.1 0 d.length d.length])::row c_.2.1 #[nI_ k,sl c_.1 0 d.length d.length] 143::row c_.1 (bvs d) 5::rR2 g gl LL.length cl (.slice A2 PP.length c2) s.left s.life s.rd s.wr s.fl s.rf 0::row gl ((LL.map PEnt.val++junk).toArray) 31::stars (pool.map PEnt.row)::L)|_=>St F w0 w_ (vec 143 2 c_.2.2 (PP.length+1) (putsV PP++[nI_ k,sl c_.1 0 d.length d.length])::row c_.2.1 #[nI_ k,sl c_.1 0 d.length d.length] 143::row c_.1 (bvs d) 5::rR2 g gl LL.length cl c_.2.2 s.left s.life s.rd s.wr s.fl s.rf 0::row gl ((LL.map PEnt.val++junk).toArray) 31::stars (pool.map PEnt.row)::L):Prop)) (0,0,undef) kr_ kr_ kr_ kr_ (S5.drew) ?_ ?_ ?_
 ·intro i_ c_ p_ vals_ w1 hi_ hiE_ hp_ hk_ hu_ hPh_ hd_
  rcases i_ with _|_|_|_|_|_|_|_|_|_|_|_|_|_|i_
  ·exact tG_ rfl hd_ (gV (pq g) ⟨rfl,rfl⟩)
  ·exact tG_ rfl hd_ (gV (pq g) ⟨rfl,rfl⟩)
  ·exact tG_ rfl hd_ (gV (pq g) ⟨rfl,rfl⟩)
  ·exact tG_ rfl hd_ (gV (po g 1) ⟨rfl,rfl⟩)
  ·rcases p_ with _|_|_|_|_|p_
   ·have S10:=St.id hPh_
    exact tG_ rfl hd_ (gL (.slice A2 PP.length c2) rfl (((S10.blk 1 rfl).cell 1).trans rfl) ⟨rfl,rfl⟩)
   ·have S11:=St.id hPh_
    exact tG_ rfl hd_ (gL (.slice A2 PP.length c2) rfl (((S11.blk 2 rfl).cell 1).trans rfl) ⟨rfl,rfl⟩)
   ·have S12:=St.id hPh_
    exact tG_ rfl hd_ (gL (.slice A2 PP.length c2) rfl (((S12.blk 3 rfl).cell 1).trans rfl) ⟨rfl,rfl⟩)
   ·exact absurd (hu_ 2 dc_ kr_) dc_
   ·exact absurd (hu_ 2 dc_ kr_) dc_
   ·exact absurd hp_ (by simp)
  ·exact tG_ rfl hd_ (gV (nI_ k) ⟨rfl,rfl⟩)
  ·exact tG_ rfl hd_ (gV (.slice A d.length cd) ⟨rfl,rfl⟩)
  ·exact absurd hiE_ dc_
  ·exact tG_ rfl hd_ (gV (.agg #[nI_ k,sl c_.1 0 d.length d.length]) ⟨rfl,rfl⟩)
  ·exact absurd hiE_ dc_
  ·exact absurd hiE_ dc_
  ·exact tG_ rfl hd_ (gV (pq g) ⟨rfl,rfl⟩)
  ·exact tG_ rfl hd_ (gV (po g 1) ⟨rfl,rfl⟩)
  ·exact absurd hiE_ dc_
  ·exact absurd hi_ om_
 ·intro k_ c_ vals_ w1 hk_ hPh_ hd_
  rcases k_ with _|_|_|_|k_
  ·have S18:=St.id hPh_
   refine tG_ rfl hd_ (gv_call (args:=#[.slice A d.length cd]) rfl Try.func78 kr_ rfl rfl kr_ (Calls.mono (rtwinS (l:=d) S18 (RoT.more (RoT.more (RoT.more (RoT.more hr)))) rfl om_) ?_))
   rintro _ w20 ⟨g19,rfl,S21⟩
   refine ⟨_,rfl,⟨(g19,c_.2.1,c_.2.2),rfl, ?_,S21⟩⟩
   intro i_ hi_ hne_ hdp_
   rcases i_ with _|_|_|_|_|_|_|_|_|_|_|_|_|_|i_
   ·rfl
   ·rfl
   ·rfl
   ·rfl
   ·rfl
   ·rfl
   ·rfl
   ·exact absurd rfl hne_
   ·exact dN_ hdp_
   ·exact dN_ hdp_
   ·exact dN_ hdp_
   ·exact dN_ hdp_
   ·exact dN_ hdp_
   ·exact dN_ hdp_
   ·exact absurd hi_ om_
  ·have S22:=St.id hPh_
   refine tG_ rfl hd_ (gv_slit (e:=143) (sz:=2) (z:=.agg #[iv 0,nS_]) (by_:=32) (vs:=#[(0,.agg #[nI_ k,sl c_.1 0 d.length d.length])]) (cells:=#[nI_ k,sl c_.1 0 d.length d.length]) S22 rfl kr_ ⟨by kernel_rfl⟩ kr_ kr_ kr_ kr_ (fun g23 w24 hg25 S26=>⟨(c_.1,g23,c_.2.2),rfl, ?_,S26⟩))
   intro i_ hi_ hne_ hdp_
   rcases i_ with _|_|_|_|_|_|_|_|_|_|_|_|_|_|i_
   ·rfl
   ·rfl
   ·rfl
   ·rfl
   ·rfl
   ·rfl
   ·rfl
   ·rfl
   ·rfl
   ·exact absurd rfl hne_
   ·exact dN_ hdp_
   ·exact dN_ hdp_
   ·exact dN_ hdp_
   ·exact dN_ hdp_
   ·exact absurd hi_ om_
  ·have S27:=St.id hPh_
   have S28:=St.pm 6 [0,2,1,3,4,5] S27
   refine tG_ rfl hd_ (gv_append (e:=143) (sz:=2) (n:=PP.length) (v:=(.slice A2 PP.length c2)) (vals:=(putsV PP)) (z:=.agg #[iv 0,nS_]) (by_:=32) (m:=1) (c':=1) (ad:=⟨c_.2.1,0,none⟩) (news:=[nI_ k,sl c_.1 0 d.length d.length]) (St.swap S28) rfl kr_ ⟨by kernel_rfl⟩ rfl kr_ kr_ dc_ rfl (row_news (S28.blk 0 rfl)) (by intro u hu;simp at hu;rcases hu with rfl|rfl<;>rfl) om_ om_ (fun v30 w29 S31=>⟨(c_.1,c_.2.1,v30),rfl, ?_,S31⟩))
   intro i_ hi_ hne_ hdp_
   rcases i_ with _|_|_|_|_|_|_|_|_|_|_|_|_|_|i_
   ·rfl
   ·rfl
   ·rfl
   ·rfl
   ·rfl
   ·rfl
   ·rfl
   ·rfl
   ·rfl
   ·rfl
   ·exact absurd rfl hne_
   ·exact dN_ hdp_
   ·exact dN_ hdp_
   ·exact dN_ hdp_
   ·exact absurd hi_ om_
  ·have S32:=St.id hPh_
   refine tG_ rfl hd_ (gv_st (k:=1) (v:=c_.2.2) S32 3 rfl rfl kr_ kr_ kr_ (St.vec_one S32 0 rfl) rfl (L':=(vec 143 2 c_.2.2 (PP.length+1) (putsV PP++[nI_ k,sl c_.1 0 d.length d.length])::row c_.2.1 #[nI_ k,sl c_.1 0 d.length d.length] 143::row c_.1 (bvs d) 5::rR2 g gl LL.length cl c_.2.2 s.left s.life s.rd s.wr s.fl s.rf 0::row gl ((LL.map PEnt.val++junk).toArray) 31::stars (pool.map PEnt.row)::L)) rfl (fun w33 S34=>⟨(c_.1,c_.2.1,c_.2.2),rfl, ?_,S34⟩))
   intro i_ hi_ hne_ hdp_
   rcases i_ with _|_|_|_|_|_|_|_|_|_|_|_|_|_|i_
   ·rfl
   ·rfl
   ·rfl
   ·rfl
   ·rfl
   ·rfl
   ·rfl
   ·rfl
   ·rfl
   ·rfl
   ·rfl
   ·rfl
   ·rfl
   ·exact absurd rfl hne_
   ·exact absurd hi_ om_
  ·exact absurd hk_ (by simp)
 ·intro c_ w1 hPh_
  have S35:=St.id hPh_
  refine (wE (nSR (pv (pq g) (pv (pq g) (pv (po g 4) (pv (po g 5) (lR (iv s.wr) S35 3 5 (pv (iv (inc s.wr)) (pv (pq g) (pv (po g 4) (pv (po g 5) (sS S35 3 rfl 5 (iv (inc s.wr)) fun w36 S37=>wER ?_))))))))))))
  refine pv (pq g) (g_ (gv_call (args:=#[pq g]) rfl Try.func84 kr_ rfl rfl kr_ ?_))
  obtain ⟨A3,c3,e3⟩:=St.vec_v S37 0 rfl
  have S38:St F w0 w36 (row c_.1 (bvs d) 5::stars (pool.map PEnt.row)::rR2 g gl LL.length cl c_.2.2 s.left s.life s.rd (inc s.wr) s.fl s.rf 0::row gl ((LL.map PEnt.val++junk).toArray) 31::vec 143 2 c_.2.2 (PP.length+1) (putsV PP++[nI_ k,sl c_.1 0 d.length d.length])::L):=St.pm 6 [2,5,3,4,0] S37
  have S39:St F w0 w36 (stars (((c_.1,d)::pool).map PEnt.row)::rR2 g gl LL.length cl c_.2.2 s.left s.life s.rd (inc s.wr) s.fl s.rf 0::row gl ((LL.map PEnt.val++junk).toArray) 31::vec 143 2 c_.2.2 (PP.length+1) (putsV PP++[nI_ k,sl c_.1 0 d.length d.length])::L):=St.pool_add S38
  have S40:St F w0 w36 (rR2 g gl LL.length cl c_.2.2 s.left s.life s.rd (inc s.wr) s.fl s.rf 0::row gl ((LL.map PEnt.val++junk).toArray) 31::vec 143 2 c_.2.2 (PP.length+1) (putsV PP++[nI_ k,sl c_.1 0 d.length d.length])::stars (((c_.1,d)::pool).map PEnt.row)::L):=St.pm 4 [1,2,3,0] S39
  rw [e3,hd,show PP.length+1=(PP++[((c_.1,k,d):RPut)]).length from by rw [List.length_append];rfl] at S40
  change St F w0 w36 (row g (rcells gl LL.length cl A3 (PP++[((c_.1,k,d):RPut)]).length c3 s.left s.life s.rd (inc s.wr) s.fl s.rf) 138::row gl (LL.map PEnt.val++junk).toArray 31::vec 143 2 (.slice A3 (PP++[((c_.1,k,d):RPut)]).length c3) (PP++[((c_.1,k,d):RPut)]).length (putsV PP++putCells (c_.1,k,d))::stars (((c_.1,d)::pool).map PEnt.row)::L) at S40
  rw [putsV_snoc] at S40
  refine Calls.mono (rspent S40 hz hf.lb.1 hf.lb.2) ?_
  rintro _ w41 ⟨rfl,S42⟩
  exact ⟨_,rfl,(wER (pv (iv 0) (wE (then_n (wp_ret (bA (iv 0) ⟨rfl,St.rclose (gl:=gl) (cl:=cl) (c2:=c3) (A2:=A3) (junk:=junk) (LL:=LL) (PP:=(PP++[((c_.1,k,d):RPut)])) (pool:=((c_.1,d)::pool)) (s:={s with pend:=s.pend++[(k,d)],wr:=inc s.wr,left:=spent s.left}) S42 (hf.put rfl rfl hlb hk hd hpn') hcl hju⟩))))))⟩
theorem rd_flush {F:Nat→Prop}{w0 w:World}{L:List Ast}{g:Nat}{s:Dsk}(S:St F w0 w (RDisk g s::L)):Calls Try.prog 88 #[.pointer (some ⟨g,0,none⟩)] w fun e w'=>e=.returned (.int .i64 s.flushR.2)∧St F w0 w' (RDisk g s.flushR.1::L):=by
 obtain ⟨gl,cl,c2,A2,junk,LL,PP,pool,hf,hcl,hju,S⟩:=St.ropen S
 have hn2:=hf.n2
 have hll:=hf.ll
 have hpp:=hf.pp
 have hpn:=hf.pn
 by_cases hz:s.left=0
 ·have e:s.flushR=(s,3):=by unfold Dsk.flushR;rw [if_pos hz]
  rw [e]
  change St F w0 w (rR2 g gl LL.length cl (.slice A2 PP.length c2) s.left s.life s.rd s.wr s.fl s.rf 0::row gl ((LL.map PEnt.val++junk).toArray) 31::vec 143 2 (.slice A2 PP.length c2) PP.length (putsV PP)::stars (pool.map PEnt.row)::L) at S
  refine eN (fr [pq g] 52) Try.func88 rfl (sR (pv (iv 0) (wE (nS (sR (pv (pq g) (pv (pq g) (pv (po g 2) (lR (iv s.left) S 0 2 (dE s.left 0 (fun _=>wE (nCT (sR ?_))) fun hd1=>False.elim (absurd hz hd1)))))))))))
  exact pv (iv 3) (wE (then_n (rR (bA (iv 3) ⟨rfl,St.rclose (gl:=gl) (cl:=cl) (c2:=c2) (A2:=A2) (junk:=junk) (LL:=LL) (PP:=PP) (pool:=pool) (s:=s) S (hf.upd rfl rfl hf.lb) hcl hju⟩))))
 have e:s.flushR=({s with last:=applyP s.last s.pend,pend:=[],fl:=inc s.fl,left:=spent s.left},0):=by unfold Dsk.flushR;rw [if_neg hz]
 rw [e]
 have hlb:=spent_lb hf.lb hz
 change St F w0 w (rR2 g gl LL.length cl (.slice A2 PP.length c2) s.left s.life s.rd s.wr s.fl s.rf 0::row gl ((LL.map PEnt.val++junk).toArray) 31::vec 143 2 (.slice A2 PP.length c2) PP.length (putsV PP)::stars (pool.map PEnt.row)::L) at S
 refine eN (fr [pq g] 52) Try.func88 rfl (sR (pv (iv 0) (wE (nS (sR (pv (pq g) (pv (pq g) (pv (po g 2) (lR (iv s.left) S 0 2 (dE s.left 0 (fun hd1=>False.elim (absurd hd1 hz)) fun _=>wE (nCF (wp_skip ?_))))))))))))
 refine nS (sR (pv (iv 0) (wE (then_n (wp_block (wp_loop_g (G:=Nat×List (Nat×List UInt8)) (fun (g_:Nat×List (Nat×List UInt8)) (a_:Act) (w_:World)=>∃J:Nat→Value,a_=(fr ([pq g,ud,iv 0,nI_ g_.1,pq g,pq g,po g 2,iv s.left,fv]++jR J 9 30) 14)∧St F w0 w_ (rR2 g gl LL.length cl (.slice A2 PP.length c2) s.left s.life s.rd s.wr s.fl s.rf 0::row gl ((g_.2.map PEnt.val++junk).toArray) 31::vec 143 2 (.slice A2 PP.length c2) PP.length (putsV PP)::stars (pool.map PEnt.row)::L)∧(g_.1≤PP.length∧g_.2.map (·.2)=applyP s.last (s.pend.take g_.1)∧(∀x∈g_.2,x∈pool))) (fun g_=>PP.length-g_.1) (0,LL) (jE_ ⟨S,⟨Nat.zero_le _,(by rw [List.take_zero];exact hf.last),hf.lin⟩⟩) ?_))))))
 rintro ⟨i,LL1⟩ a_ w2 ⟨J,rfl,S3,hI4⟩
 skip
 have S3:St F w0 w2 (rR2 g gl LL.length cl (.slice A2 PP.length c2) s.left s.life s.rd s.wr s.fl s.rf 0::row gl ((LL1.map PEnt.val++junk).toArray) 31::vec 143 2 (.slice A2 PP.length c2) PP.length (putsV PP)::stars (pool.map PEnt.row)::L):=S3
 have hI4:(i≤PP.length∧LL1.map (·.2)=applyP s.last (s.pend.take i)∧(∀x∈LL1,x∈pool)):=hI4
 refine wp_seq (sR (pv (nI_ i) (pv (pq g) (pv (pq g) (pv (po g 1) (lR (.slice A2 PP.length c2) S3 0 1 (pv (iv (PP.length:Nat)) (dC ((((i:Nat):Int):Int)<(PP.length:Nat)) (fun hb5=> ?_) fun hb5=> ?_))))))))
 ·obtain ⟨x,hx,hxp,hxs,hx5,hxk⟩:=hf.pat (i:=i) om_
  have hl1:=turn_len (LL:=LL) hI4.2.1
  obtain ⟨ad2,hAd2,hrd⟩:=(St.vec_rd S3 2 rfl) (by rw [length_putsV];omega)
  refine wE (nCT (wp_skip (nS (wp_block (wp_region_phu (γ:=Unit) 20 [] (fun (c_:Unit) (i_:Nat)=>(match i_ with|0=>pq g|1=>pq g|2=>pq g|3=>sl gl 0 LL.length cl|4=>pq g|5=>pq g|6=>po g 1|7=>.slice A2 PP.length c2|8=>nI_ i|9=>.pointer (some (ad2.add (i*2)))|10=>.pointer (some (ad2.add (i*2)))|11=>nI_ x.2.1|12=>pq g|13=>pq g|14=>po g 1|15=>.slice A2 PP.length c2|16=>nI_ i|17=>.pointer (some (ad2.add (i*2)))|18=>.pointer (some ((ad2.add (i*2)).add 1))|19=>sl x.1 0 512 512|_=>undef:Value)) (fun (c_:Unit) (p_:Nat) (w_:World)=>(match p_ with|_=>St F w0 w_ (rR2 g gl LL.length cl (.slice A2 PP.length c2) s.left s.life s.rd s.wr s.fl s.rf 0::row gl ((LL1.map PEnt.val++junk).toArray) 31::vec 143 2 (.slice A2 PP.length c2) PP.length (putsV PP)::stars (pool.map PEnt.row)::L):Prop)) () kr_ kr_ kr_ kr_ (S3.drew) ?_ ?_ ?_)))))
  ·intro i_ c_ p_ vals_ w1 hi_ hiE_ hp_ hk_ hu_ hPh_ hd_
   rcases i_ with _|_|_|_|_|_|_|_|_|_|_|_|_|_|_|_|_|_|_|_|i_
   ·exact tG_ rfl hd_ (gV (pq g) ⟨rfl,rfl⟩)
   ·exact tG_ rfl hd_ (gV (pq g) ⟨rfl,rfl⟩)
   ·exact tG_ rfl hd_ (gV (pq g) ⟨rfl,rfl⟩)
   ·have S9:=St.id hPh_
    exact tG_ rfl hd_ (gL (sl gl 0 LL.length cl) rfl (((S9.blk 0 rfl).cell 0).trans rfl) ⟨rfl,rfl⟩)
   ·exact tG_ rfl hd_ (gV (pq g) ⟨rfl,rfl⟩)
   ·exact tG_ rfl hd_ (gV (pq g) ⟨rfl,rfl⟩)
   ·exact tG_ rfl hd_ (gV (po g 1) ⟨rfl,rfl⟩)
   ·have S13:=St.id hPh_
    exact tG_ rfl hd_ (gL (.slice A2 PP.length c2) rfl (((S13.blk 0 rfl).cell 1).trans rfl) ⟨rfl,rfl⟩)
   ·exact tG_ rfl hd_ (gV (nI_ i) ⟨rfl,rfl⟩)
   ·exact tG_ rfl hd_ (gv_ixB (e:=143) (sz:=2) (n:=PP.length) (c:=c2) (i:=((i:Nat):Int)) (k:=.i64) (ad:=ad2) (ad':=(ad2.add (i*2))) (j:=i) rfl kr_ kr_ (by rw [←hAd2];kernel_rfl) kr_ rfl om_ rfl ⟨rfl,rfl⟩)
   ·exact tG_ rfl hd_ (gV (.pointer (some (ad2.add (i*2)))) ⟨rfl,rfl⟩)
   ·have S17:=St.id hPh_
    exact tG_ rfl hd_ (gL (nI_ x.2.1) rfl (put_at (rdv_at (St.vec_rd S17 2 rfl) hAd2 (by rw [length_putsV];omega)) hx) ⟨rfl,rfl⟩)
   ·exact tG_ rfl hd_ (gV (pq g) ⟨rfl,rfl⟩)
   ·exact tG_ rfl hd_ (gV (pq g) ⟨rfl,rfl⟩)
   ·exact tG_ rfl hd_ (gV (po g 1) ⟨rfl,rfl⟩)
   ·have S21:=St.id hPh_
    exact tG_ rfl hd_ (gL (.slice A2 PP.length c2) rfl (((S21.blk 0 rfl).cell 1).trans rfl) ⟨rfl,rfl⟩)
   ·exact tG_ rfl hd_ (gV (nI_ i) ⟨rfl,rfl⟩)
   ·exact tG_ rfl hd_ (gv_ixB (e:=143) (sz:=2) (n:=PP.length) (c:=c2) (i:=((i:Nat):Int)) (k:=.i64) (ad:=ad2) (ad':=(ad2.add (i*2))) (j:=i) rfl kr_ kr_ (by rw [←hAd2];kernel_rfl) kr_ rfl om_ rfl ⟨rfl,rfl⟩)
   ·exact tG_ rfl hd_ (gV (.pointer (some ((ad2.add (i*2)).add 1))) ⟨rfl,rfl⟩)
   ·have S25:=St.id hPh_
    exact tG_ rfl hd_ (gL (PEnt.val x.ref) rfl (put_data (rdv_at (St.vec_rd S25 2 rfl) hAd2 (by rw [length_putsV];omega)) hx) ⟨rfl,rfl⟩)
   ·exact absurd hi_ om_
  ·intro k_ c_ vals_ w1 hk_ hPh_ hd_
   exact absurd hk_ (Nat.not_lt_zero _)
  ·intro c_ w1 hPh_
   have S26:=St.id hPh_
   refine (g_ (gv_ixE (e:=31) (sz:=1) (g:=gl) (off:=0) (n:=LL.length) (c:=cl) (i:=((x.2.1:Nat):Int)) (k:=.i64) (j:=x.2.1) (off':=x.2.1) rfl kr_ kr_ kr_ kr_ rfl om_ om_ (g_ (gv_st (k:=x.2.1) (v:=PEnt.val x.ref) S26 1 rfl rfl kr_ kr_ kr_ rfl (ll_blt om_) (L':=(rR2 g gl LL.length cl (.slice A2 PP.length c2) s.left s.life s.rd s.wr s.fl s.rf 0::row gl (((LL1.set x.2.1 x.ref).map PEnt.val++junk).toArray) 31::vec 143 2 (.slice A2 PP.length c2) PP.length (putsV PP)::stars (pool.map PEnt.row)::L)) (by rw [ll_set om_];rfl) (fun w27 S28=>wE ?_)))))
   exact inb_n (nR (pv (nI_ i) (gI .i64 (IntKind.i64.wrap (((i:Nat):Int)+1)) ((i+1:Nat):Int) (wr_eq om_ om_ om_) (pv (nI_ (i+1)) (wE (then_n ⟨(i+1,LL1.set x.2.1 x.ref),(jE_ ⟨S28,⟨by omega,(by rw [List.take_add_one,hxs];exact turn_one hI4.2.1),mem_set' hI4.2.2 hxp⟩⟩),(by show PP.length-(i+1)<PP.length-i;omega)⟩))))))
 ·refine wE (nCF (wp_exit (then_x (then_x (inb_x (nSR (pv (pq g) (pv (pq g) (pv (po g 1) (sS S3 0 rfl 1 (nS_) fun w29 S30=>wER (pv (pq g) (pv (pq g) ?_))))))))))))
  refine pv (po g 4) (pv (po g 6) (lR (iv s.fl) S30 0 6 (pv (iv (inc s.fl)) (pv (pq g) (pv (po g 4) (pv (po g 6) (sS S30 0 rfl 6 (iv (inc s.fl)) fun w31 S32=>wER (pv (pq g) (g_ (gv_call (args:=#[pq g]) rfl Try.func84 kr_ rfl rfl kr_ ?_))))))))))
  have S33:St F w0 w31 (rR2 g gl LL.length cl (nS_) s.left s.life s.rd s.wr (inc s.fl) s.rf 0::row gl ((LL1.map PEnt.val++junk).toArray) 31::stars (pool.map PEnt.row)::L):=St.pm 4 [0,1,3] S32
  have hiP:i=PP.length:=by omega
  have htk:s.pend.take i=s.pend:=List.take_of_length_le om_
  rw [htk] at hI4
  have hl1:LL.length=LL1.length:=by rw [turn_len (LL:=LL) hI4.2.1];exact hll
  rw [hl1] at S33
  refine Calls.mono (rspent (np:=0) (c2:=0) (A2:=none) S33 hz hf.lb.1 hf.lb.2) ?_
  rintro _ w34 ⟨rfl,S35⟩
  refine ⟨_,rfl,(wER (pv (iv 0) (wE (then_n (wp_ret (bA (iv 0) ?_))))))⟩
  have S9:=St.permT [_,_,_,_] [1,2,0,3] dc_ rfl (St.vec_nil (e:=143) (sz:=2) S35)
  exact ⟨rfl,St.rclose (gl:=gl) (cl:=cl) (c2:=0) (A2:=none) (junk:=junk) (LL:=LL1) (PP:=([]:List RPut)) (pool:=pool) (s:={s with last:=applyP s.last s.pend,pend:=[],fl:=inc s.fl,left:=spent s.left}) S9 (hf.turned hI4.2.1 (fun x hx=>(hf.plen x hx).1) hI4.2.2 rfl rfl hlb) (by rw [←hl1];exact hcl) (by rw [List.length_append,List.length_map,←hl1];rw [List.length_append,List.length_map] at hju;exact hju)⟩
section
variable {F:Nat→Prop} {w0 w:World} {L:List Ast}
def Dsk.mk0 (l:List (List UInt8)):Dsk:={last:=l,pend:=[],left:= -1,life:=1,rd:=0,wr:=0,fl:=0,rf:=0}
def zsec:List UInt8:=List.replicate 512 0
theorem zflat (m:Nat):(List.replicate m zsec).flatten=List.replicate (512*m) 0:=by
 unfold zsec;rw [List.flatten_replicate_replicate,Nat.mul_comm]
theorem PFacts.mk0 {l:List (List UInt8)}{left:Int}(h:∀x∈l,x.length=512)(h1:1≤l.length)(h2:l.length≤2048):PFacts (Dsk.mk0 l) 0 [] false left:=
 ⟨fun p hp=>(by cases hp),List.nodup_nil,List.nodup_nil,fun p hp=>(by cases hp),fun x hx=>(by cases hx),fun p hp=>(by cases hp),h,fun x hx=>(by cases hx),h1,h2,rfl,fun h=>absurd (show (0:Int)≤ -1 from h) dc_,show (-1:Int)≤ -1∧(-1:Int)≤9223372036854775807 by decide,Nat.zero_le _⟩
def secs (l:List UInt8):Nat→List (List UInt8)
 |0=>[]
 |n+1=>l.take 512::secs (l.drop 512) n
theorem length_secs:∀(n:Nat) (l:List UInt8),(secs l n).length=n
 |0,_=>rfl
 |n+1,l=>by simp [secs,length_secs n]
theorem secs_len:∀(n:Nat) (l:List UInt8),l.length=512*n→∀x∈secs l n,x.length=512
 |0,_,_,x,hx=>by cases hx
 |n+1,l,h,x,hx=>by
  rcases List.mem_cons.1 hx with rfl|hx
  ·rw [List.length_take];omega
  ·exact secs_len n (l.drop 512) (by rw [List.length_drop];omega) x hx
theorem secs_flat:∀(n:Nat) (l:List UInt8),l.length=512*n→(secs l n).flatten=l
 |0,l,h=>by (have:l=[]:=List.eq_nil_of_length_eq_zero om_);subst this;rfl
 |n+1,l,h=>by rw [secs,List.flatten_cons,secs_flat n (l.drop 512) (by rw [List.length_drop];omega),List.take_append_drop]
theorem pd_new_bad {n:Int}(hn:n<1∨2048<n)(S:St F w0 w L):Calls Try.prog 13 #[.int .i64 n] w fun e w'=>e=.returned (.tuple #[.pointer none,.int .i64 10])∧St F w0 w' L:=by
 refine eN (fr [iv n] 15) Try.func13 rfl (sR (pv pn (pv (iv 0) (wE (nS (sR (pv (iv n) (dC ((n:Int)<1) (fun hb1=> ?_) fun hb1=> ?_))))))))
 ·exact pv tv (wN (wN (pv tv (wE (nCT (sR (pv pn (pv (iv 10) (wE (then_n (rR (bB pn (iv 10) ⟨rfl,S⟩))))))))))))
 ·exact pv fv (pW (iv n) (wl_when kr_ (gv_dec (p:=(n:Int)>2048) kr_ (fun _=>pv tv (wE (nCT (sR (pv pn (pv (iv 10) (wE (then_n (rR (bB pn (iv 10) ⟨rfl,S⟩)))))))))) (fun hd2=>False.elim om_))))
theorem pd_new {m:Nat}(h1:1≤m)(h2:m≤2048)(S:St F w0 w L):Calls Try.prog 13 #[.int .i64 ((m:Nat):Int)] w fun e w'=>∃g,e=.returned (.tuple #[.pointer (some ⟨g,0,none⟩),.int .i64 0])∧St F w0 w' (PDisk g (Dsk.mk0 (List.replicate m zsec))::L):=by
 refine eN (fr [nI_ m] 15) Try.func13 rfl (sR (pv pn (pv (iv 0) (wE (nS (sR (pv (nI_ m) (dC ((((m:Nat):Int):Int)<1) (fun hd1=>False.elim om_) fun _=>pv fv (pW (nI_ m) (wl_when kr_ (gv_dec (p:=(((m:Nat):Int):Int)>2048) kr_ (fun hd2=>False.elim om_) (fun _=>pv fv (wE ?_)))))))))))))
 refine nCF (wp_skip (nSR (pv (nI_ m) (gI .i64 (IntKind.i64.wrap (((m:Nat):Int)*512)) ((512*m:Nat):Int) wq_ (g_ (gv_make (e:=5) (u:=((512*m:Nat):Int)) (v:=((512*m:Nat):Int)) (z:=.int .u8 0) (sz:=1) (by_:=1) (n:=(512*m)) (c:=(512*m)) (cs:=(bvs (List.replicate (512*m) 0))) S rfl kr_ ⟨by kernel_rfl⟩ kr_ kr_ rfl rfl (Nat.le_refl _) om_ om_ (mk_bytes _) (fun g3 w4 hg5 S6=>g_ (gv_map S6 rfl (fun g7 w8 hg9 S10=>pv (.agg #[sl g3 0 (512*m) (512*m),.map (some g7),fv,iv 0,iv 1,iv 0,iv 0,iv 0,iv 0,iv 0]) (nB rfl (.agg #[sl g3 0 (512*m) (512*m),.map (some g7),.bool false,iv 0,iv 1,iv 0,iv 0,iv 0,iv 0,iv 0]) S10 fun g11 w12 hg13 S14=>pv (pq g11) (pv (iv 0) (wE (then_n (wp_ret ?_))))))))))))))
 refine bB (pq g11) (iv 0) ?_
 have S15:St F w0 w12 (dR g11 g3 (512*m) g7 false 0 1 0 0 0 0 0::row g3 (bvs (List.replicate (512*m) 0)) 5::pt g7 (mapO [] 0)::L):=St.pm 3 [0,2,1] S14
 have S9:=St.rot (LA:=[_,_,_]) (St.star_nil S15)
 rw [←zflat] at S9
 have hl:(List.replicate m zsec).length=m:=List.length_replicate
 refine ⟨g11,rfl,St.pclose (gd:=g3) (gm:=g7) (clock:=0) (es:=[]) (fused:=false) (left:=0) (s:=Dsk.mk0 (List.replicate m zsec)) ?_ (PFacts.mk0 (fun x hx=>by rw [List.eq_of_mem_replicate hx];rfl) (by rw [hl];exact h1) (by rw [hl];exact h2))⟩
 unfold pdParts
 show St F w0 _ (row _ (dcells _ (512*(List.replicate m zsec).length) (512*(List.replicate m zsec).length) _ _ _ _ _ _ _ _ _) _::_)
 rw [hl];exact S9
theorem pd_load_odd (S:St F w0 w L){A:Option Addr}{l:List UInt8}{ca:Nat}(hr:RoT F w0 L A l)(hlm:l.length≤140737488355328)(ho:l.length%512≠0):Calls Try.prog 20 #[.slice A l.length ca] w fun e w'=>e=.returned (.tuple #[.pointer none,.int .i64 2])∧St F w0 w' L:=by
 refine eN (fr [.slice A l.length ca] 26) Try.func20 rfl (sR (pv pn (pv (iv 0) (wE (nS (sR (pv (.slice A l.length ca) (pv (iv (l.length:Nat)) (gI .i64 (Int.tmod (l.length:Nat) 512) ((l.length%512:Nat):Int) (by rw [Int.tmod_eq_emod_of_nonneg om_];omega) (dN ((l.length%512:Nat):Int) 0 (fun _=>wE (nCT (sR ?_))) fun hd1=>False.elim om_))))))))))
 exact pv pn (pv (iv 2) (wE (then_n (rR (bB pn (iv 2) ⟨rfl,S⟩)))))
theorem pd_load_bad (S:St F w0 w L){A:Option Addr}{l:List UInt8}{ca:Nat}(hr:RoT F w0 L A l)(hlm:l.length≤140737488355328)(ho:l.length%512=0)(hb:l.length/512<1∨2048<l.length/512):Calls Try.prog 20 #[.slice A l.length ca] w fun e w'=>e=.returned (.tuple #[.pointer none,.int .i64 10])∧St F w0 w' L:=by
 refine eN (fr [.slice A l.length ca] 26) Try.func20 rfl (sR (pv pn (pv (iv 0) (wE (nS (sR (pv (.slice A l.length ca) (pv (iv (l.length:Nat)) (gI .i64 (Int.tmod (l.length:Nat) 512) ((l.length%512:Nat):Int) (by rw [Int.tmod_eq_emod_of_nonneg om_];omega) (dN ((l.length%512:Nat):Int) 0 (fun hd1=>False.elim om_) fun _=>wE (nCF (wp_skip ?_))))))))))))
 refine nSR (pv (.slice A l.length ca) (pv (iv (l.length:Nat)) (gI .i64 (IntKind.i64.wrap (Int.tdiv (l.length:Nat) 512)) ((l.length/512:Nat):Int) (wr_eq (by rw [Int.tdiv_eq_ediv_of_nonneg om_];omega) om_ om_) (sP Try.func13 #[nI_ (l.length/512)] (pd_new_bad om_ S) fun w2 S3=>pv (.tuple #[pn,iv 10]) (pv pn (pv (iv 10) (pv pn (pv (iv 10) (wE (nS (sR (pv (iv 10) ?_))))))))))))
 exact dE 10 0 (fun hd4=>False.elim om_) fun _=>wE (nCF (wp_skip (nSR (pv pn (pv (iv 10) (pv pn (pv (iv 10) (wE (then_n (wp_ret (bB pn (iv 10) ⟨rfl,S3⟩)))))))))))
theorem pd_load {m:Nat}(S:St F w0 w L){A:Option Addr}{l:List UInt8}{ca:Nat}(hr:RoT F w0 L A l)(hlm:l.length≤140737488355328)(ho:l.length=512*m)(h1:1≤m)(h2:m≤2048):Calls Try.prog 20 #[.slice A l.length ca] w fun e w'=>∃g,e=.returned (.tuple #[.pointer (some ⟨g,0,none⟩),.int .i64 0])∧St F w0 w' (PDisk g (Dsk.mk0 (secs l m))::L):=by
 refine eN (fr [.slice A l.length ca] 26) Try.func20 rfl (sR (pv pn (pv (iv 0) (wE (nS (sR (pv (.slice A l.length ca) (pv (iv (l.length:Nat)) (gI .i64 (Int.tmod (l.length:Nat) 512) ((l.length%512:Nat):Int) (by rw [Int.tmod_eq_emod_of_nonneg om_];omega) (dN ((l.length%512:Nat):Int) 0 (fun hd1=>False.elim om_) fun _=>wE (nCF (wp_skip ?_))))))))))))
 refine nSR (pv (.slice A l.length ca) (pv (iv (l.length:Nat)) (gI .i64 (IntKind.i64.wrap (Int.tdiv (l.length:Nat) 512)) ((m:Nat):Int) (wr_eq (by rw [Int.tdiv_eq_ediv_of_nonneg om_];omega) om_ om_) (sP1 Try.func13 #[nI_ m] (pd_new h1 h2 S) fun g w2 S9=> ?_))))
 obtain ⟨gd,gm,clock,es,fused,left,hf,S⟩:=St.popen S9
 have hl:(Dsk.mk0 (List.replicate m zsec)).last.length=m:=List.length_replicate
 have hlf:(Dsk.mk0 (List.replicate m zsec)).last.flatten=List.replicate (512*m) 0:=zflat m
 unfold pdParts at S
 rw [hl,hlf] at S
 change St F w0 w2 (dR g gd (512*m) gm fused left 1 0 0 0 0 0::row gd (bvs (List.replicate (512*m) 0)) 5::pt gm (mapO (es.map PEnt.ent) clock)::stars (es.map PEnt.ast)::L) at S
 refine pv (.tuple #[pq g,iv 0]) (pv (pq g) (pv (iv 0) (pv (pq g) (pv (iv 0) (wE (nS (sR (pv (iv 0) (dE 0 0 (fun _=>wE (nCT (wp_region_lit (pv (pq g) ?_)))) fun hd3=>False.elim om_)))))))))
 refine pv (pq g) (pv (pq g) (lR (sl gd 0 (512*m) (512*m)) S 0 0 (pv (.slice A l.length ca) (g_ (gv_copy (e:=5) (off:=0) (dLen:=(512*m)) (dCap:=(512*m)) (sLen:=l.length) (sCap:=ca) (A:=A) (B:=(List.replicate (512*m) 0)) (l:=l) S 1 rfl rfl kr_ kr_ kr_ kr_ rfl (hr.out _ [dR g gd (512*m) gm fused left 1 0 0 0 0 0,row gd (bvs (List.replicate (512*m) 0)) 5,pt gm (mapO (es.map PEnt.ent) clock),stars (es.map PEnt.ast)] S) (by simp) (L':=(dR g gd (512*m) gm fused left 1 0 0 0 0 0::row gd (bvs l) 5::pt gm (mapO (es.map PEnt.ent) clock)::stars (es.map PEnt.ast)::L)) (by rw [copy_all ho];rfl) (fun w4 m6 S5=>wER (pv (pq g) (pv (iv 0) (pv (pq g) (pv (iv 0) (wE (then_n (wp_ret (bB (pq g) (iv 0) ?_))))))))))))))
 have hsl:=length_secs m l
 have hss:=secs_flat m l ho
 refine ⟨g,rfl,St.pclose (gd:=gd) (gm:=gm) (clock:=clock) (es:=es) (fused:=fused) (left:=left) (s:=Dsk.mk0 (secs l m)) ?_ ?_⟩
 ·unfold pdParts;show St F w0 _ (row _ (dcells _ (512*(secs l m).length) (512*(secs l m).length) _ _ _ _ _ _ _ _ _) _::row _ (bvs (secs l m).flatten) _::_);rw [hsl,hss];exact S5
 ·have he:es=[]:=by
   cases es with
   |nil=>rfl
   |cons p r=>exact absurd (List.map_eq_nil_iff.1 (hf.ws p List.mem_cons_self)) (hf.ne p List.mem_cons_self)
  subst he
  have hm:=PFacts.mk0 (left:=left) (secs_len m l ho) (by rw [hsl];exact h1) (by rw [hsl];exact h2)
  exact ⟨fun p hp=>(by cases hp),List.nodup_nil,List.nodup_nil,fun p hp=>(by cases hp),fun x hx=>(by cases hx),fun p hp=>(by cases hp),hm.len,hm.plen,hm.n1,hm.n2,hf.fuse,hf.left,hf.lb,hm.pn⟩
end
section
variable {F:Nat→Prop} {w0 w:World} {L:List Ast}
theorem flat_take_succ {l:List (List UInt8)}{i:Nat}{x:List UInt8}(h:l[i]?=some x):(l.take (i+1)).flatten=(l.take i).flatten++x:=by
 rw [List.take_add_one,h,List.flatten_append];simp
theorem bv_flat {l:List (List UInt8)}{i:Nat}{x:List UInt8}(h:l[i]?=some x):((l.take i).flatten.map bv)++x.map bv=(l.take (i+1)).flatten.map bv:=by
 rw [flat_take_succ h,List.map_append]
theorem secs_get:∀(n:Nat) (l:List UInt8) (i:Nat),i<n→(secs l n)[i]?=some ((l.drop (512*i)).take 512)
 |0,_,i,h=>absurd h (Nat.not_lt_zero i)
 |n+1,l,0,_=>by simp [secs]
 |n+1,l,i+1,h=>by
  have:=secs_get n (l.drop 512) i om_
  rw [List.drop_drop] at this
  rw [secs,List.getElem?_cons_succ,this,show 512+512*i=512*(i+1) from by omega]
theorem RFacts.mk0 {l:List (List UInt8)}{LL pool:List (Nat×List UInt8)}(h0:LL.map (·.2)=l)(h:∀x∈l,x.length=512)(h1:1≤l.length)(h2:l.length≤2048)(hp:∀x∈LL,x∈pool):RFacts (Dsk.mk0 l) LL [] pool:=
 ⟨h0,rfl,hp,fun x hx=>(by cases hx),h,fun x hx=>(by cases hx),h1,h2,show (-1:Int)≤ -1∧(-1:Int)≤9223372036854775807 by decide,Nat.zero_le _⟩
theorem RdV.bytes {w:World}{A:Option Addr}{l:List UInt8}(h:RdV w A (l.map bv)):RdB w A l:=fun h0=>h (by rw [List.length_map];exact h0)
theorem rd_image {g:Nat}{s:Dsk}(S:St F w0 w (RDisk g s::L)):Calls Try.prog 31 #[.pointer (some ⟨g,0,none⟩)] w fun e w'=>∃v,e=.returned v∧St F w0 w' (vec 5 1 v s.last.flatten.length (s.last.flatten.map bv)::RDisk g s::L):=by
 obtain ⟨gl,cl,c2,A2,junk,LL,PP,pool,hf,hcl,hju,S⟩:=St.ropen S
 have hn2:=hf.n2
 have hll:=hf.ll
 have hpp:=hf.pp
 have hpn:=hf.pn
 change St F w0 w (rR2 g gl LL.length cl (.slice A2 PP.length c2) s.left s.life s.rd s.wr s.fl s.rf 0::row gl ((LL.map PEnt.val++junk).toArray) 31::vec 143 2 (.slice A2 PP.length c2) PP.length (putsV PP)::stars (pool.map PEnt.row)::L) at S
 refine eN (fr [pq g] 30) Try.func31 rfl (sR (pv (nS_) (wER (pv (pq g) (pv (pq g) (pv (pq g) (lR (sl gl 0 LL.length cl) S 0 0 (pv (iv (LL.length:Nat)) (gI .i64 (IntKind.i64.wrap ((LL.length:Nat)*512)) ((512*LL.length:Nat):Int) wq_ (g_ (gv_make (e:=5) (u:=0) (v:=((512*LL.length:Nat):Int)) (z:=.int .u8 0) (sz:=1) (by_:=1) (n:=0) (c:=512*LL.length) (cs:=bvs (List.replicate (512*LL.length) 0)) S rfl kr_ ⟨by kernel_rfl⟩ kr_ kr_ rfl rfl (Nat.zero_le _) om_ om_ (mk_bytes _) (fun g1 w2 hg3 S4=> ?_))))))))))))
 have S5:St F w0 w2 (vec 5 1 (sl g1 0 0 (512*LL.length)) 0 []::rR2 g gl LL.length cl (.slice A2 PP.length c2) s.left s.life s.rd s.wr s.fl s.rf 0::row gl ((LL.map PEnt.val++junk).toArray) 31::vec 143 2 (.slice A2 PP.length c2) PP.length (putsV PP)::stars (pool.map PEnt.row)::L):=St.vec_mk (vals:=[]) (junk:=(List.replicate (512*LL.length) (0:UInt8)).map bv) S4 (Nat.zero_le _) rfl (by simp)
 refine pv (sl g1 0 0 (512*LL.length)) (wE (nS (sR (pv (iv 0) (wE (then_n (wp_block (wp_loop_g (G:=Nat×Value) (fun (g_:Nat×Value) (a_:Act) (w_:World)=>∃J:Nat→Value,a_=(fr ([pq g,ud,nS_,g_.2,nI_ g_.1,pq g,pq g,pq g,sl gl 0 LL.length cl,iv (LL.length:Nat),nI_ (512*LL.length),sl g1 0 0 (512*LL.length)]++jR J 12 18) 1)∧St F w0 w_ (vec 5 1 g_.2 (512*g_.1) ((s.last.take g_.1).flatten.map bv)::rR2 g gl LL.length cl (.slice A2 PP.length c2) s.left s.life s.rd s.wr s.fl s.rf 0::row gl ((LL.map PEnt.val++junk).toArray) 31::vec 143 2 (.slice A2 PP.length c2) PP.length (putsV PP)::stars (pool.map PEnt.row)::L)∧(g_.1≤LL.length)) (fun g_=>LL.length-g_.1) (0,sl g1 0 0 (512*LL.length)) (jE_ ⟨S5,Nat.zero_le _⟩) ?_))))))))
 rintro ⟨i,v⟩ a_ w6 ⟨J,rfl,S7,hI8⟩
 skip
 have S7:St F w0 w6 (vec 5 1 v (512*i) ((s.last.take i).flatten.map bv)::rR2 g gl LL.length cl (.slice A2 PP.length c2) s.left s.life s.rd s.wr s.fl s.rf 0::row gl ((LL.map PEnt.val++junk).toArray) 31::vec 143 2 (.slice A2 PP.length c2) PP.length (putsV PP)::stars (pool.map PEnt.row)::L):=S7
 have hI8:(i≤LL.length):=hI8
 refine wp_seq (sR (pv (nI_ i) (pv (pq g) (pv (pq g) (pv (pq g) (lR (sl gl 0 LL.length cl) S7 1 0 (pv (iv (LL.length:Nat)) (dC ((((i:Nat):Int):Int)<(LL.length:Nat)) (fun hb9=> ?_) fun hb9=> ?_))))))))
 ·obtain ⟨x,hx,hxp,hxl,hx5⟩:=hf.at (k:=i) om_
  have hxs:s.last[i]?=some x.2:=by rw [←hxl];exact mem_getD om_
  refine wE (nCT (wp_skip (nS (wp_block (wp_region_lit (pv v (pv (pq g) (pv (pq g) (pv (pq g) (lR (sl gl 0 LL.length cl) S7 1 0 (pv (nI_ i) (g_ (gv_ixE (e:=31) (sz:=1) (g:=gl) (off:=0) (n:=LL.length) (c:=cl) (i:=((i:Nat):Int)) (k:=.i64) (j:=i) (off':=i) rfl kr_ kr_ kr_ kr_ rfl om_ om_ (lQ (PEnt.val x) (((S7.blk 2 rfl).cell i).trans (ll_at hx)) ?_))))))))))))))
  refine g_ (gv_append (e:=5) (sz:=1) (n:=512*i) (v:=v) (vals:=(s.last.take i).flatten.map bv) (z:=.int .u8 0) (by_:=1) (m:=512) (c':=512) (ad:=⟨x.1,0,none⟩) (news:=x.2.map bv) S7 rfl kr_ ⟨by kernel_rfl⟩ rfl kr_ kr_ dc_ (by rw [List.length_map,hx5]) (row_news (St.pool_rd S7 4 rfl hxp)) (bvs_one x.2) om_ om_ (fun v11 w10 S12=> ?_))
  rw [bv_flat hxs,show 512*i+512=512*(i+1) from by omega] at S12
  exact pv v11 (wE (inb_n (nR (pv (nI_ i) (gI .i64 (IntKind.i64.wrap (((i:Nat):Int)+1)) ((i+1:Nat):Int) wq_ (pv (nI_ (i+1)) (wE (then_n ⟨(i+1,v11),(jE_ ⟨S12,om_⟩),(by show LL.length-(i+1)<LL.length-i;omega)⟩))))))))
 ·refine wE (nCF (wp_exit (then_x (then_x (inb_x (nSR (pv v (pv v (wE (then_n (wp_ret (bA v ?_))))))))))))
  have hiL:i=LL.length:=by omega
  have htk:s.last.take i=s.last:=List.take_of_length_le om_
  have hfl:=flat_len hf.len
  rw [htk,show 512*i=s.last.flatten.length from by rw [hfl];omega] at S7
  exact ⟨_,rfl,St.swap (St.rclose (gl:=gl) (cl:=cl) (c2:=c2) (A2:=A2) (junk:=junk) (LL:=LL) (PP:=PP) (pool:=pool) (s:=s) (St.rot (LA:=rdParts g gl cl c2 A2 junk LL PP pool s) S7) (hf.upd rfl rfl hf.lb) hcl hju)⟩
theorem rd_load_odd (S:St F w0 w L){A:Option Addr}{l:List UInt8}{ca:Nat}(hr:RoT F w0 L A l)(hlm:l.length≤140737488355328)(ho:l.length%512≠0):Calls Try.prog 21 #[.slice A l.length ca] w fun e w'=>e=.returned (.tuple #[.pointer none,.int .i64 2])∧St F w0 w' L:=by
 refine eN (fr [.slice A l.length ca] 44) Try.func21 rfl (sR (pv pn (pv (iv 0) (wE (nS (sR (pv (.slice A l.length ca) (pv (iv (l.length:Nat)) (gI .i64 (Int.tmod (l.length:Nat) 512) ((l.length%512:Nat):Int) (by rw [Int.tmod_eq_emod_of_nonneg om_];omega) (dN ((l.length%512:Nat):Int) 0 (fun _=>wE (nCT (sR ?_))) fun hd1=>False.elim om_))))))))))
 exact pv pn (pv (iv 2) (wE (then_n (rR (bB pn (iv 2) ⟨rfl,S⟩)))))
theorem rd_load_bad (S:St F w0 w L){A:Option Addr}{l:List UInt8}{ca:Nat}(hr:RoT F w0 L A l)(hlm:l.length≤140737488355328)(ho:l.length%512=0)(hb:l.length/512<1∨2048<l.length/512):Calls Try.prog 21 #[.slice A l.length ca] w fun e w'=>e=.returned (.tuple #[.pointer none,.int .i64 10])∧St F w0 w' L:=by
 refine eN (fr [.slice A l.length ca] 44) Try.func21 rfl (sR (pv pn (pv (iv 0) (wE (nS (sR (pv (.slice A l.length ca) (pv (iv (l.length:Nat)) (gI .i64 (Int.tmod (l.length:Nat) 512) ((l.length%512:Nat):Int) (by rw [Int.tmod_eq_emod_of_nonneg om_];omega) (dN ((l.length%512:Nat):Int) 0 (fun hd1=>False.elim om_) fun _=>wE (nCF (wp_skip ?_))))))))))))
 refine nSR (pv (.slice A l.length ca) (pv (iv (l.length:Nat)) (gI .i64 (IntKind.i64.wrap (Int.tdiv (l.length:Nat) 512)) ((l.length/512:Nat):Int) (wr_eq (by rw [Int.tdiv_eq_ediv_of_nonneg om_];omega) om_ om_) (pv (nI_ (l.length/512)) (wE (nS (sR (pv (nI_ (l.length/512)) (dC ((((l.length/512:Nat):Int):Int)<1) (fun hb2=> ?_) fun hb2=> ?_)))))))))
 ·exact pv tv (wN (wN (pv tv (wE (nCT (sR (pv pn (pv (iv 10) (wE (then_n (rR (bB pn (iv 10) ⟨rfl,S⟩))))))))))))
 ·exact pv fv (pW (nI_ (l.length/512)) (wl_when kr_ (gv_dec (p:=(((l.length/512:Nat):Int):Int)>2048) kr_ (fun _=>pv tv (wE (nCT (sR (pv pn (pv (iv 10) (wE (then_n (rR (bB pn (iv 10) ⟨rfl,S⟩)))))))))) (fun hd3=>False.elim om_))))
theorem rd_load {m:Nat}(S:St F w0 w L){A:Option Addr}{l:List UInt8}{ca:Nat}(hr:RoT F w0 L A l)(hlm:l.length≤140737488355328)(hca:l.length≤ca)(ho:l.length=512*m)(h1:1≤m)(h2:m≤2048):Calls Try.prog 21 #[.slice A l.length ca] w fun e w'=>∃g,e=.returned (.tuple #[.pointer (some ⟨g,0,none⟩),.int .i64 0])∧St F w0 w' (RDisk g (Dsk.mk0 (secs l m))::L):=by
 obtain ⟨ada,rfl⟩:=(hr.now S).at (k:=0) om_
 refine eN (fr [.slice (some ada) l.length ca] 44) Try.func21 rfl (sR (pv pn (pv (iv 0) (wE (nS (sR (pv (.slice (some ada) l.length ca) (pv (iv (l.length:Nat)) (gI .i64 (Int.tmod (l.length:Nat) 512) ((l.length%512:Nat):Int) (by rw [Int.tmod_eq_emod_of_nonneg om_];omega) (dN ((l.length%512:Nat):Int) 0 (fun hd1=>False.elim om_) fun _=>wE (nCF (wp_skip ?_))))))))))))
 refine nSR (pv (.slice (some ada) l.length ca) (pv (iv (l.length:Nat)) (gI .i64 (IntKind.i64.wrap (Int.tdiv (l.length:Nat) 512)) ((m:Nat):Int) (wr_eq (by rw [Int.tdiv_eq_ediv_of_nonneg om_];omega) om_ om_) (pv (nI_ m) (wE (nS (sR (pv (nI_ m) (dC ((((m:Nat):Int):Int)<1) (fun hd2=>False.elim om_) fun _=>pv fv (pW (nI_ m) (wl_when kr_ (gv_dec (p:=(((m:Nat):Int):Int)>2048) kr_ (fun hd3=>False.elim om_) (fun _=>pv fv ?_)))))))))))))
 refine wE (nCF (wp_skip (nSR (pv (.agg #[nS_,nS_,iv (-1),iv 1,iv 0,iv 0,iv 0,iv 0,iv 0]) (nB rfl (.agg #[nS_,nS_,iv (-1),iv 1,iv 0,iv 0,iv 0,iv 0,iv 0]) S fun g4 w5 hg6 S7=> ?_)))))
 have S8:St F w0 w5 (stars (([]:List (Nat×List UInt8)).map PEnt.row)::row g4 #[nS_,nS_,iv (-1),iv 1,iv 0,iv 0,iv 0,iv 0,iv 0] 138::L):=St.star_nil S7
 have S9:St F w0 w5 (vec 31 1 (nS_) 0 []::stars (([]:List (Nat×List UInt8)).map PEnt.row)::row g4 #[nS_,nS_,iv (-1),iv 1,iv 0,iv 0,iv 0,iv 0,iv 0] 138::L):=St.vec_nil S8
 have S10:St F w0 w5 (vec 31 1 (nS_) 0 []::row g4 #[nS_,nS_,iv (-1),iv 1,iv 0,iv 0,iv 0,iv 0,iv 0] 138::stars (([]:List (Nat×List UInt8)).map PEnt.row)::L):=St.pm 3 [0,2,1] S9
 refine pv (pq g4) (wE (nS (sR (pv (iv 0) (wE (then_n (wp_block (wp_loop_g (G:=Nat×Value×List (Nat×List UInt8)) (fun (g_:Nat×Value×List (Nat×List UInt8)) (a_:Act) (w_:World)=>∃J:Nat→Value,a_=(fr ([.slice (some ada) l.length ca,ud,pn,iv 0,nI_ m,pq g4,nI_ g_.1,.slice (some ada) l.length ca,iv (l.length:Nat),nI_ (l.length%512),fv,.slice (some ada) l.length ca,iv (l.length:Nat),nI_ m,nI_ m,fv,fv,nI_ m,fv,fv,.agg #[nS_,nS_,iv (-1),iv 1,iv 0,iv 0,iv 0,iv 0,iv 0],pq g4]++jR J 22 22) 1)∧St F w0 w_ (vec 31 1 g_.2.1 g_.2.2.length (g_.2.2.map PEnt.val)::row g4 #[g_.2.1,nS_,iv (-1),iv 1,iv 0,iv 0,iv 0,iv 0,iv 0] 138::stars (g_.2.2.map PEnt.row)::L)∧(g_.1≤m∧g_.2.2.map (·.2)=(secs l m).take g_.1)) (fun g_=>m-g_.1) (0,nS_,[]) (jE_ ⟨S10,⟨Nat.zero_le _,rfl⟩⟩) ?_))))))))
 rintro ⟨i,v,LL1⟩ a_ w11 ⟨J,rfl,S12,hI13⟩
 skip
 have S12:St F w0 w11 (vec 31 1 v LL1.length (LL1.map PEnt.val)::row g4 #[v,nS_,iv (-1),iv 1,iv 0,iv 0,iv 0,iv 0,iv 0] 138::stars (LL1.map PEnt.row)::L):=S12
 have hI13:(i≤m∧LL1.map (·.2)=(secs l m).take i):=hI13
 refine wp_seq (sR (pv (nI_ i) (pv (nI_ m) (dC ((((i:Nat):Int):Int)<((m:Nat):Int)) (fun hb14=> ?_) fun hb14=> ?_))))
 ·have hl1:LL1.length=i:=by have:=congrArg List.length hI13.2;rw [List.length_map,List.length_take,length_secs] at this;omega
  have hx5:((l.drop (512*i)).take 512).length=512:=by rw [List.length_take,List.length_drop];omega
  refine wE (nCT (wp_skip (nS (wp_block (wp_region_phu (γ:=Nat×Nat×Value) 18 [12,13,14,17] (fun (c_:Nat×Nat×Value) (i_:Nat)=>(match i_ with|0=>pq g4|1=>pq g4|2=>pq g4|3=>pq g4|4=>v|5=>.slice (some ada) l.length ca|6=>nI_ i|7=>nI_ (512*i)|8=>nI_ i|9=>nI_ (512*i)|10=>nI_ (512*i+512)|11=>.slice (some (ada.add (512*i))) 512 (ca-512*i)|12=>sl c_.1 0 512 512|13=>sl c_.2.1 0 1 1|14=>c_.2.2|15=>pq g4|16=>pq g4|17=>undef|_=>undef:Value)) (fun (c_:Nat×Nat×Value) (p_:Nat) (w_:World)=>(match p_ with|0=>St F w0 w_ (vec 31 1 v LL1.length (LL1.map PEnt.val)::row g4 #[v,nS_,iv (-1),iv 1,iv 0,iv 0,iv 0,iv 0,iv 0] 138::stars (LL1.map PEnt.row)::L)|1=>St F w0 w_ (row c_.1 (bvs ((l.drop (512*i)).take 512)) 5::vec 31 1 v LL1.length (LL1.map PEnt.val)::row g4 #[v,nS_,iv (-1),iv 1,iv 0,iv 0,iv 0,iv 0,iv 0] 138::stars (LL1.map PEnt.row)::L)|2=>St F w0 w_ (row c_.2.1 #[sl c_.1 0 512 512] 31::row c_.1 (bvs ((l.drop (512*i)).take 512)) 5::vec 31 1 v LL1.length (LL1.map PEnt.val)::row g4 #[v,nS_,iv (-1),iv 1,iv 0,iv 0,iv 0,iv 0,iv 0] 138::stars (LL1.map PEnt.row)::L)|3=>St F w0 w_ (vec 31 1 c_.2.2 (LL1.length+1) (LL1.map PEnt.val++[sl c_.1 0 512 512])::row c_.2.1 #[sl c_.1 0 512 512] 31::row c_.1 (bvs ((l.drop (512*i)).take 512)) 5::row g4 #[v,nS_,iv (-1),iv 1,iv 0,iv 0,iv 0,iv 0,iv 0] 138::stars (LL1.map PEnt.row)::L)|_=>St F w0 w_ (vec 31 1 c_.2.2 (LL1.length+1) (LL1.map PEnt.val++[sl c_.1 0 512 512])::row c_.2.1 #[sl c_.1 0 512 512] 31::row c_.1 (bvs ((l.drop (512*i)).take 512)) 5::row g4 #[c_.2.2,nS_,iv (-1),iv 1,iv 0,iv 0,iv 0,iv 0,iv 0] 138::stars (LL1.map PEnt.row)::L):Prop)) (0,0,undef) kr_ kr_ kr_ kr_ (S12.drew) ?_ ?_ ?_)))))
  ·intro i_ c_ p_ vals_ w1 hi_ hiE_ hp_ hk_ hu_ hPh_ hd_
   rcases i_ with _|_|_|_|_|_|_|_|_|_|_|_|_|_|_|_|_|_|i_
   ·exact tG_ rfl hd_ (gV (pq g4) ⟨rfl,rfl⟩)
   ·exact tG_ rfl hd_ (gV (pq g4) ⟨rfl,rfl⟩)
   ·exact tG_ rfl hd_ (gV (pq g4) ⟨rfl,rfl⟩)
   ·exact tG_ rfl hd_ (gV (pq g4) ⟨rfl,rfl⟩)
   ·rcases p_ with _|_|_|_|_|p_
    ·have S19:=St.id hPh_
     exact tG_ rfl hd_ (gL v rfl (((S19.blk 1 rfl).cell 0).trans rfl) ⟨rfl,rfl⟩)
    ·have S20:=St.id hPh_
     exact tG_ rfl hd_ (gL v rfl (((S20.blk 2 rfl).cell 0).trans rfl) ⟨rfl,rfl⟩)
    ·have S21:=St.id hPh_
     exact tG_ rfl hd_ (gL v rfl (((S21.blk 3 rfl).cell 0).trans rfl) ⟨rfl,rfl⟩)
    ·exact absurd (hu_ 2 dc_ kr_) dc_
    ·exact absurd (hu_ 2 dc_ kr_) dc_
    ·exact absurd hp_ (by simp)
   ·exact tG_ rfl hd_ (gV (.slice (some ada) l.length ca) ⟨rfl,rfl⟩)
   ·exact tG_ rfl hd_ (gV (nI_ i) ⟨rfl,rfl⟩)
   ·exact tG_ rfl hd_ (gv_int (k:=.i64) (z:=IntKind.i64.wrap (((i:Nat):Int)*512)) (z':=((512*i:Nat):Int)) kr_ wq_ ⟨rfl,rfl⟩)
   ·exact tG_ rfl hd_ (gV (nI_ i) ⟨rfl,rfl⟩)
   ·exact tG_ rfl hd_ (gv_int (k:=.i64) (z:=IntKind.i64.wrap (((i:Nat):Int)*512)) (z':=((512*i:Nat):Int)) kr_ wq_ ⟨rfl,rfl⟩)
   ·exact tG_ rfl hd_ (gv_int (k:=.i64) (z:=IntKind.i64.wrap (((512*i:Nat):Int)+512)) (z':=((512*i+512:Nat):Int)) kr_ wq_ ⟨rfl,rfl⟩)
   ·exact tG_ rfl hd_ (gv_cutA (e:=5) (sz:=1) (ad:=ada) (n:=l.length) (c:=ca) (kl:=.i64) (kh:=.i64) (u:=((512*i:Nat):Int)) (v:=((512*i+512:Nat):Int)) (lo:=(512*i)) (hi:=(512*i+512)) (ad':=(ada.add (512*i))) (n':=512) (c':=(ca-512*i)) rfl kr_ kr_ kr_ kr_ kr_ rfl rfl om_ om_ om_ (by rw [Nat.mul_one]) om_ om_ ⟨rfl,rfl⟩)
   ·exact absurd hiE_ dc_
   ·exact absurd hiE_ dc_
   ·exact absurd hiE_ dc_
   ·exact tG_ rfl hd_ (gV (pq g4) ⟨rfl,rfl⟩)
   ·exact tG_ rfl hd_ (gV (pq g4) ⟨rfl,rfl⟩)
   ·exact absurd hiE_ dc_
   ·exact absurd hi_ om_
  ·intro k_ c_ vals_ w1 hk_ hPh_ hd_
   rcases k_ with _|_|_|_|k_
   ·have S31:=St.id hPh_
    refine tG_ rfl hd_ (gv_call (args:=#[.slice (some (ada.add (512*i))) 512 (ca-512*i)]) rfl Try.func78 kr_ rfl rfl kr_ (Calls.mono (rtwinS (l:=(l.drop (512*i)).take 512) S31 (RoT.more (RoT.more (RoT.more (hr.sub (512*i) 512)))) hx5 om_) ?_))
    rintro _ w33 ⟨g32,rfl,S34⟩
    refine ⟨_,rfl,⟨(g32,c_.2.1,c_.2.2),rfl, ?_,S34⟩⟩
    intro i_ hi_ hne_ hdp_
    rcases i_ with _|_|_|_|_|_|_|_|_|_|_|_|_|_|_|_|_|_|i_
    ·rfl
    ·rfl
    ·rfl
    ·rfl
    ·rfl
    ·rfl
    ·rfl
    ·rfl
    ·rfl
    ·rfl
    ·rfl
    ·rfl
    ·exact absurd rfl hne_
    ·exact dN_ hdp_
    ·exact dN_ hdp_
    ·exact dN_ hdp_
    ·exact dN_ hdp_
    ·exact dN_ hdp_
    ·exact absurd hi_ om_
   ·have S35:=St.id hPh_
    refine tG_ rfl hd_ (gv_slit (e:=31) (sz:=1) (z:=nS_) (by_:=24) (vs:=#[(0,sl c_.1 0 512 512)]) (cells:=#[sl c_.1 0 512 512]) S35 rfl kr_ ⟨by kernel_rfl⟩ kr_ kr_ kr_ kr_ (fun g36 w37 hg38 S39=>⟨(c_.1,g36,c_.2.2),rfl, ?_,S39⟩))
    intro i_ hi_ hne_ hdp_
    rcases i_ with _|_|_|_|_|_|_|_|_|_|_|_|_|_|_|_|_|_|i_
    ·rfl
    ·rfl
    ·rfl
    ·rfl
    ·rfl
    ·rfl
    ·rfl
    ·rfl
    ·rfl
    ·rfl
    ·rfl
    ·rfl
    ·rfl
    ·exact absurd rfl hne_
    ·exact dN_ hdp_
    ·exact dN_ hdp_
    ·exact dN_ hdp_
    ·exact dN_ hdp_
    ·exact absurd hi_ om_
   ·have S40:=St.id hPh_
    have S41:=St.pm 5 [0,2,1,3,4] S40
    refine tG_ rfl hd_ (gv_append (e:=31) (sz:=1) (n:=LL1.length) (v:=v) (vals:=(LL1.map PEnt.val)) (z:=nS_) (by_:=24) (m:=1) (c':=1) (ad:=⟨c_.2.1,0,none⟩) (news:=[sl c_.1 0 512 512]) (St.swap S41) rfl kr_ ⟨by kernel_rfl⟩ rfl kr_ kr_ dc_ rfl (row_news (S41.blk 0 rfl)) (by intro u hu;simp at hu;subst hu;rfl) om_ om_ (fun v43 w42 S44=>⟨(c_.1,c_.2.1,v43),rfl, ?_,S44⟩))
    intro i_ hi_ hne_ hdp_
    rcases i_ with _|_|_|_|_|_|_|_|_|_|_|_|_|_|_|_|_|_|i_
    ·rfl
    ·rfl
    ·rfl
    ·rfl
    ·rfl
    ·rfl
    ·rfl
    ·rfl
    ·rfl
    ·rfl
    ·rfl
    ·rfl
    ·rfl
    ·rfl
    ·exact absurd rfl hne_
    ·exact dN_ hdp_
    ·exact dN_ hdp_
    ·exact dN_ hdp_
    ·exact absurd hi_ om_
   ·have S45:=St.id hPh_
    refine tG_ rfl hd_ (gv_st (k:=0) (v:=c_.2.2) S45 3 rfl rfl kr_ kr_ kr_ (St.vec_one S45 0 rfl) rfl (L':=(vec 31 1 c_.2.2 (LL1.length+1) (LL1.map PEnt.val++[sl c_.1 0 512 512])::row c_.2.1 #[sl c_.1 0 512 512] 31::row c_.1 (bvs ((l.drop (512*i)).take 512)) 5::row g4 #[c_.2.2,nS_,iv (-1),iv 1,iv 0,iv 0,iv 0,iv 0,iv 0] 138::stars (LL1.map PEnt.row)::L)) rfl (fun w46 S47=>⟨(c_.1,c_.2.1,c_.2.2),rfl, ?_,S47⟩))
    intro i_ hi_ hne_ hdp_
    rcases i_ with _|_|_|_|_|_|_|_|_|_|_|_|_|_|_|_|_|_|i_
    ·rfl
    ·rfl
    ·rfl
    ·rfl
    ·rfl
    ·rfl
    ·rfl
    ·rfl
    ·rfl
    ·rfl
    ·rfl
    ·rfl
    ·rfl
    ·rfl
    ·rfl
    ·rfl
    ·rfl
    ·exact absurd rfl hne_
    ·exact absurd hi_ om_
   ·exact absurd hk_ (by simp)
  ·intro c_ w1 hPh_
   have S48:=St.id hPh_
   refine (wE ?_)
   refine inb_n (nR (pv (nI_ i) (gI .i64 (IntKind.i64.wrap (((i:Nat):Int)+1)) ((i+1:Nat):Int) wq_ (pv (nI_ (i+1)) (wE (then_n ?_))))))
   have S49:St F w0 w1 (stars (LL1.map PEnt.row)::row c_.1 (bvs ((l.drop (512*i)).take 512)) 5::vec 31 1 c_.2.2 (LL1.length+1) (LL1.map PEnt.val++[sl c_.1 0 512 512])::row g4 #[c_.2.2,nS_,iv (-1),iv 1,iv 0,iv 0,iv 0,iv 0,iv 0] 138::L):=St.pm 5 [4,2,0,3] S48
   have S8:=(St.star_join (LB:=[_]) (St.swap (St.one_star (St.swap S49))))
   have hm9:LL1.map PEnt.row++[row c_.1 (bvs ((l.drop (512*i)).take 512)) 5]=(LL1++[((c_.1,(l.drop (512*i)).take 512):Nat×List UInt8)]).map PEnt.row:=by rw [List.map_append];rfl
   have hv9:LL1.map PEnt.val++[.slice (some ⟨c_.1,0,none⟩) 512 512]=(LL1++[((c_.1,(l.drop (512*i)).take 512):Nat×List UInt8)]).map PEnt.val:=by rw [List.map_append];rfl
   have hn9:LL1.length+1=(LL1++[((c_.1,(l.drop (512*i)).take 512):Nat×List UInt8)]).length:=by rw [List.length_append];rfl
   rw [hm9,hv9,hn9] at S8
   have S50:=St.pm 3 [1,2,0] S8
   exact ⟨(i+1,c_.2.2,LL1++[(c_.1,(l.drop (512*i)).take 512)]),(jE_ ⟨S50,⟨by omega,by rw [List.map_append,hI13.2,show (secs l m).take ((i+1:Nat))=(secs l m).take i++[(l.drop (512*i)).take 512] from by rw [List.take_add_one (l:=secs l m) (i:=i),secs_get _ _ _ (show i<m by omega)];rfl];rfl⟩⟩),(by show m-(i+1)<m-i;omega)⟩
 ·refine wE (nCF (wp_exit (then_x (then_x (inb_x (nSR (pv (pq g4) (pv (pq g4) (pv (iv 0) (wE (then_n (wp_ret (bB (pq g4) (iv 0) ?_)))))))))))))
  obtain rfl:i=m:=by omega
  have hsl:=length_secs i l
  have hms:LL1.map (·.2)=secs l i:=hI13.2.trans (List.take_of_length_le (by rw [hsl];exact Nat.le_refl _))
  have hl1:LL1.length=i:=by have:=congrArg List.length hms;rw [List.length_map,hsl] at this;exact this
  obtain ⟨gl,cl,junk,rfl,hcl,hle,hju,S8⟩:=St.vec_open S12 om_
  have S9:=St.permT [_,_,_,_] [2,1,0,3] dc_ rfl (St.vec_nil (e:=143) (sz:=2) S8)
  exact ⟨g4,rfl,St.rclose (gl:=gl) (cl:=cl) (c2:=0) (A2:=none) (junk:=junk) (LL:=LL1) (PP:=[]) (pool:=LL1) S9 (RFacts.mk0 hms (secs_len i l ho) (by rw [hsl];exact h1) (by rw [hsl];exact h2) (fun x hx=>hx)) hcl hju⟩
end
theorem tmod_nat {a b:Int}{m n:Nat}(ha:a=(m:Int))(hb:b=(n:Int)):Int.tmod a b=((m%n:Nat):Int):=by subst ha hb;rfl
theorem max_nat (n:Int):(if (0:Int)>n then 0 else n)=((n.toNat:Nat):Int):=by split<;>omega
def CandA (gd k m:Nat)(ws:List (Nat×List UInt8))(i:Nat)(A:Option Addr)(c:Nat):Prop:=(i=0∧A=some ⟨gd,512*k,none⟩∧c=512*m-512*k)∨∃x,i≠0∧ws[i-1]?=some x∧A=some ⟨x.1,0,none⟩∧c=512
theorem cand_ro {w:World}{g gd gm m g7 g3 g4:Nat}{fused:Bool}{left life r wr fl rf pn:Int}{p:PEnt}{t7 t3 t4:TypeId}{n:Int}{A:Option Addr}{ca:Nat}(HB:Blk w g (dcells gd (512*m) (512*m) gm fused left life r wr fl rf pn) 135)(H7:Blk w g7 #[p.v] t7)(H3:Blk w g3 #[.pointer (some ⟨g,0,none⟩)] t3)(H4:Blk w g4 #[.int .i64 ((p.at_:Nat):Int)] t4)(hm:m≤2048)(hk:p.at_<m)(hq:p.ws.length≤4611686018427387904)
  (hv:∃(gb cb:Nat) (cells:Array Value),p.v=.slice (some ⟨gb,0,none⟩) p.ws.length cb∧Blk w gb cells 31∧(∀(m:Nat) (x:Nat×List UInt8),p.ws[m]?=some x→cells[m]?=some (PEnt.val x))) (hA:CandA gd p.at_ m p.ws (n.toNat%(p.ws.length+1)) A ca):
  Calls Try.prog 143 #[iv n,pq g7,pq g3,pq g4] w fun e w'=>e=.returned (.slice A 512 ca)∧w=w':=by
 obtain ⟨gb,cb,cells,hv,HV,hcell⟩:=hv
 rw [hv] at H7
 rcases hA with ⟨h0,rfl,rfl⟩|⟨x,h0,hx,rfl,rfl⟩
 ·refine eN (fr [iv n,pq g7,pq g3,pq g4] 18) Try.func143 rfl (sR (pv (nS_) (wE (nS (sR (pv (iv n) (gI .i64 (if 0>n then 0 else n) ((n.toNat:Nat):Int) (max_nat n) (lQ (sl gb 0 p.ws.length cb) ((H7.cell 0).trans rfl) (pv (iv (p.ws.length:Nat)) (gI .i64 (IntKind.i64.wrap ((p.ws.length:Nat)+1)) ((p.ws.length+1:Nat):Int) wq_ (gI .i64 (Int.tmod ((n.toNat:Nat):Int) ((p.ws.length+1:Nat):Int)) ((n.toNat%(p.ws.length+1):Nat):Int) (tmod_nat rfl rfl) (pv (nI_ (n.toNat%(p.ws.length+1))) (wER ?_)))))))))))))
  exact pv (nI_ (n.toNat%(p.ws.length+1))) (dC ((((n.toNat%(p.ws.length+1):Nat):Int):Int)>0) (fun hd1=>False.elim om_) fun _=>wE (nCF (wp_skip (nSR (lQ (pq g) ((H3.cell 0).trans rfl) (lQ (nI_ p.at_) ((H4.cell 0).trans rfl) (sO Try.func114 #[pq g,nI_ p.at_] (home_ro HB rfl rfl hm hk) (pv (sl gd (512*p.at_) 512 (512*m-512*p.at_)) (wE (then_n (wp_ret (bA (.slice (some ⟨gd,512*p.at_,none⟩) 512 (512*m-512*p.at_)) ⟨rfl,rfl⟩))))))))))))
 ·have hlt:=(List.getElem?_eq_some_iff.1 hx).1
  refine eN (fr [iv n,pq g7,pq g3,pq g4] 18) Try.func143 rfl (sR (pv (nS_) (wE (nS (sR (pv (iv n) (gI .i64 (if 0>n then 0 else n) ((n.toNat:Nat):Int) (max_nat n) (lQ (sl gb 0 p.ws.length cb) ((H7.cell 0).trans rfl) (pv (iv (p.ws.length:Nat)) (gI .i64 (IntKind.i64.wrap ((p.ws.length:Nat)+1)) ((p.ws.length+1:Nat):Int) wq_ (gI .i64 (Int.tmod ((n.toNat:Nat):Int) ((p.ws.length+1:Nat):Int)) ((n.toNat%(p.ws.length+1):Nat):Int) (tmod_nat rfl rfl) (pv (nI_ (n.toNat%(p.ws.length+1))) (wER ?_)))))))))))))
  refine pv (nI_ (n.toNat%(p.ws.length+1))) (dC ((((n.toNat%(p.ws.length+1):Nat):Int):Int)>0) (fun _=>wE (nCT (sR (lQ (sl gb 0 p.ws.length cb) ((H7.cell 0).trans rfl) (pv (nI_ (n.toNat%(p.ws.length+1))) (gI .i64 (IntKind.i64.wrap (((n.toNat%(p.ws.length+1):Nat):Int)-1)) ((n.toNat%(p.ws.length+1)-1:Nat):Int) wq_ (g_ (gv_ixE (e:=31) (sz:=1) (g:=gb) (off:=0) (n:=p.ws.length) (c:=cb) (i:=((n.toNat%(p.ws.length+1)-1:Nat):Int)) (k:=.i64) (j:=(n.toNat%(p.ws.length+1)-1)) (off':=(n.toNat%(p.ws.length+1)-1)) rfl kr_ kr_ kr_ kr_ rfl om_ om_ (lQ (sl x.1 0 512 512) ((HV.cell _).trans (hcell _ x hx)) (pv (sl x.1 0 512 512) (wE (then_n (rR ?_))))))))))))) fun hd1=>False.elim om_)
  exact bA (sl x.1 0 512 512) ⟨rfl,rfl⟩
theorem cand_pick {F:Nat→Prop}{w0 w:World}{L:List Ast}{g gd gm m clock:Nat}{fused:Bool}{left life r wr fl rf pn:Int}{D x:List UInt8}{es:List PEnt}{j:Nat}{p:PEnt}(S:St F w0 w ([row g (dcells gd (512*m) (512*m) gm fused left life r wr fl rf pn) 135,row gd (bvs D) 5,pt gm (mapO (es.map PEnt.ent) clock),stars (es.map PEnt.ast)]++L))(hj:es[j]?=some p)(hne:p.ws≠[])(hx:x=(D.drop (512*p.at_)).take 512)(h5:∀x∈p.ws,x.2.length=512)(i:Nat)(hi:i<p.ws.length+1):
  ∃A ca,CandA gd p.at_ m p.ws i A ca∧RoT F w0 ([row g (dcells gd (512*m) (512*m) gm fused left life r wr fl rf pn) 135,row gd (bvs D) 5,pt gm (mapO (es.map PEnt.ent) clock),stars (es.map PEnt.ast)]++L) A ((x::p.ws.map (·.2)).getD i []):=by
 rcases Nat.eq_zero_or_pos i with rfl|h0
 ·exact ⟨_,_,.inl ⟨rfl,rfl,rfl⟩,RoT.item 1 rfl _ 512 _ hx⟩
 ·have hl:i-1<p.ws.length:=by omega
  refine ⟨_,_,.inr ⟨p.ws[i-1],by omega,List.getElem?_eq_getElem hl,rfl,rfl⟩,⟨fun w' L' S'=> ?_⟩⟩
  have h1:(L'++([row g (dcells gd (512*m) (512*m) gm fused left life r wr fl rf pn) 135,row gd (bvs D) 5,pt gm (mapO (es.map PEnt.ent) clock),stars (es.map PEnt.ast)]++L))[L'.length+3]?=some (stars (es.map PEnt.ast)):=by rw [List.getElem?_append_right om_];simp
  obtain ⟨_,_,_,_,_,_,hdat⟩:=pend_facts S' _ h1 hj hne
  have hm:p.ws[i-1]∈p.ws:=List.getElem_mem hl
  refine RdB.row (hdat _ hm) 0 512 _ ?_
  rw [List.drop_zero,List.take_of_length_le (by rw [h5 _ hm];exact Nat.le_refl _)]
  obtain ⟨q,rfl⟩:∃q,i=q+1:=⟨i-1,by omega⟩
  simp at hl
  simp [hl]
theorem outcome_own {F:Nat→Prop}{w0 w:World}{L:List Ast}{g gd gm m clock:Nat}{fused:Bool}{left life r wr fl rf pn:Int}{D x:List UInt8}{es:List PEnt}{j:Nat}{p:PEnt}{pa pb pc:Int}(S:St F w0 w ([row g (dcells gd (512*m) (512*m) gm fused left life r wr fl rf pn) 135,row gd (bvs D) 5,pt gm (mapO (es.map PEnt.ent) clock),stars (es.map PEnt.ast)]++L))(hj:es[j]?=some p)(hje:(es.map PEnt.ent)[j]?=some p.ent)(hke:p.ent.k=((p.at_:Nat):Int))(hfe:∀(m:Nat) (e:Ent),m<j→(es.map PEnt.ent)[m]?=some e→e.k≠((p.at_:Nat):Int))(hne:p.ws≠[])(hx:x=(D.drop (512*p.at_)).take 512)(hx5:x.length=512)(h5:∀x∈p.ws,x.2.length=512)(hm:m≤2048)(hk:p.at_<m)(hq:p.ws.length≤4611686018427387904):
  Calls Try.prog 115 #[pq g,nI_ p.at_,.agg #[iv pa,iv pb,iv pc]] w fun e w'=>∃go,e=.returned (.slice (some ⟨go,0,none⟩) 512 512)∧St F w0 w' (row go (bvs (tornS (x::p.ws.map (·.2)) (pa,pb,pc))) 5::([row g (dcells gd (512*m) (512*m) gm fused left life r wr fl rf pn) 135,row gd (bvs D) 5,pt gm (mapO (es.map PEnt.ent) clock),stars (es.map PEnt.ast)]++L)):=by
 obtain ⟨Aa,caa,hAa,hRa⟩:=cand_pick S hj hne hx h5 (pa.toNat%(p.ws.length+1)) (Nat.mod_lt _ (Nat.succ_pos _))
 obtain ⟨Ab,cab,hAb,hRb⟩:=cand_pick S hj hne hx h5 (pb.toNat%(p.ws.length+1)) (Nat.mod_lt _ (Nat.succ_pos _))
 have hone:p.v.oneCell'=true:=by
  obtain ⟨_,_,_,hv,_⟩:=pend_facts S 3 rfl hj hne
  rw [hv];rfl
 have hcl:∀y∈(x::p.ws.map (·.2)),y.length=512:=fun y hy=>by
  rcases List.mem_cons.1 hy with rfl|hy
  ·exact hx5
  ·obtain ⟨z,hz,rfl⟩:=List.mem_map.1 hy;exact h5 z hz
 have hlen:(x::p.ws.map (·.2)).length=p.ws.length+1:=by simp
 have hcl2:∀i,i<p.ws.length+1→((x::p.ws.map (·.2)).getD i []).length=512:=fun i hi=>by
  rw [List.getD_eq_getElem?_getD,List.getElem?_eq_getElem (by rw [hlen];exact hi)];exact hcl _ (List.getElem_mem _)
 have hla:=hcl2 _ (Nat.mod_lt pa.toNat (Nat.succ_pos p.ws.length))
 have hlb:=hcl2 _ (Nat.mod_lt pb.toNat (Nat.succ_pos p.ws.length))
 have hcm:pc.toNat%513<513:=Nat.mod_lt _ dc_
 change St F w0 w (dR g gd (512*m) gm fused left life r wr fl rf pn::row gd (bvs D) 5::pt gm (mapO (es.map PEnt.ent) clock)::stars (es.map PEnt.ast)::L) at S
 refine eN (fr [pq g,nI_ p.at_,.agg #[iv pa,iv pb,iv pc]] 35) Try.func115 rfl (sR (nB rfl (pq g) S fun g1 w2 hg3 S4=>nB rfl (nI_ p.at_) S4 fun g5 w6 hg7 S8=>nB rfl (.agg #[iv pa,iv pb,iv pc]) S8 fun g9 w10 hg11 S12=>pv (nS_) (wE (nS (wp_region_phu (γ:=Nat) 7 [6] (fun (c_:Nat) (i_:Nat)=>(match i_ with|0=>pq g|1=>pq g|2=>po g 1|3=>.map (some gm)|4=>nI_ p.at_|5=>p.v|6=>pq c_|_=>undef:Value)) (fun (c_:Nat) (p_:Nat) (w_:World)=>(match p_ with|0=>St F w0 w_ (row g9 #[iv pa,iv pb,iv pc] 145::row g5 #[nI_ p.at_] 3::row g1 #[pq g] 22::dR g gd (512*m) gm fused left life r wr fl rf pn::row gd (bvs D) 5::pt gm (mapO (es.map PEnt.ent) clock)::stars (es.map PEnt.ast)::L)|_=>St F w0 w_ (row c_ #[nS_] 42::row g9 #[iv pa,iv pb,iv pc] 145::row g5 #[nI_ p.at_] 3::row g1 #[pq g] 22::dR g gd (512*m) gm fused left life r wr fl rf pn::row gd (bvs D) 5::pt gm (mapO (es.map PEnt.ent) clock)::stars (es.map PEnt.ast)::L):Prop)) (0) kr_ kr_ kr_ kr_ (S12.drew) ?_ ?_ ?_)))))
 ·intro i_ c_ p_ vals_ w1 hi_ hiE_ hp_ hk_ hu_ hPh_ hd_
  rcases i_ with _|_|_|_|_|_|_|i_
  ·rcases p_ with _|_|p_
   ·have S13:=St.id hPh_
    exact tG_ rfl hd_ (gL (pq g) rfl (((S13.blk 2 rfl).cell 0).trans rfl) ⟨rfl,rfl⟩)
   ·have S14:=St.id hPh_
    exact tG_ rfl hd_ (gL (pq g) rfl (((S14.blk 3 rfl).cell 0).trans rfl) ⟨rfl,rfl⟩)
   ·exact absurd hp_ (by simp)
  ·exact tG_ rfl hd_ (gV (pq g) ⟨rfl,rfl⟩)
  ·exact tG_ rfl hd_ (gV (po g 1) ⟨rfl,rfl⟩)
  ·rcases p_ with _|_|p_
   ·have S17:=St.id hPh_
    exact tG_ rfl hd_ (gL (.map (some gm)) rfl (((S17.blk 3 rfl).cell 1).trans rfl) ⟨rfl,rfl⟩)
   ·have S18:=St.id hPh_
    exact tG_ rfl hd_ (gL (.map (some gm)) rfl (((S18.blk 4 rfl).cell 1).trans rfl) ⟨rfl,rfl⟩)
   ·exact absurd hp_ (by simp)
  ·rcases p_ with _|_|p_
   ·have S19:=St.id hPh_
    exact tG_ rfl hd_ (gL (nI_ p.at_) rfl (((S19.blk 1 rfl).cell 0).trans rfl) ⟨rfl,rfl⟩)
   ·have S20:=St.id hPh_
    exact tG_ rfl hd_ (gL (nI_ p.at_) rfl (((S20.blk 2 rfl).cell 0).trans rfl) ⟨rfl,rfl⟩)
   ·exact absurd hp_ (by simp)
  ·rcases p_ with _|_|p_
   ·have S21:=St.id hPh_
    exact tG_ rfl hd_ (gv_look_some (kT:=3) (eT:=42) (k:=((p.at_:Nat):Int)) (S21.get 5 rfl) rfl kr_ kr_ kr_ kr_ hje hke hfe ⟨rfl,rfl⟩)
   ·have S22:=St.id hPh_
    exact tG_ rfl hd_ (gv_look_some (kT:=3) (eT:=42) (k:=((p.at_:Nat):Int)) (S22.get 6 rfl) rfl kr_ kr_ kr_ kr_ hje hke hfe ⟨rfl,rfl⟩)
   ·exact absurd hp_ (by simp)
  ·exact absurd hiE_ dc_
  ·exact absurd hi_ om_
 ·intro k_ c_ vals_ w1 hk_ hPh_ hd_
  rcases k_ with _|k_
  ·have S23:=St.id hPh_
   refine tG_ rfl hd_ (gv_new (z:=nS_) S23 rfl kr_ (fun g24 w25 hg26 S27=>⟨(g24),rfl, ?_,S27⟩))
   intro i_ hi_ hne_ hdp_
   rcases i_ with _|_|_|_|_|_|_|i_
   ·rfl
   ·rfl
   ·rfl
   ·rfl
   ·rfl
   ·rfl
   ·exact absurd rfl hne_
   ·exact absurd hi_ om_
  ·exact absurd hk_ (by simp)
 ·intro c_ w1 hPh_
  have S28:=St.id hPh_
  refine (g_ (gv_st (k:=0) (v:=p.v) S28 0 rfl rfl kr_ kr_ kr_ hone rfl (L':=(row c_ #[p.v] 42::row g9 #[iv pa,iv pb,iv pc] 145::row g5 #[nI_ p.at_] 3::row g1 #[pq g] 22::dR g gd (512*m) gm fused left life r wr fl rf pn::row gd (bvs D) 5::pt gm (mapO (es.map PEnt.ent) clock)::stars (es.map PEnt.ast)::L)) rfl (fun w29 S30=>wE (nSR (pv (.func (.func 143) #[] #[pq c_,pq g1,pq g5]) (pv (.func (.func 143) #[] #[pq c_,pq g1,pq g5]) (wER (pv (po g9 2) (lR (iv pc) S30 1 2 (gI .i64 (if 0>pc then 0 else pc) ((pc.toNat:Nat):Int) (max_nat pc) (gI .i64 (Int.tmod ((pc.toNat:Nat):Int) 513) ((pc.toNat%513:Nat):Int) (tmod_nat rfl rfl) (pv (nI_ (pc.toNat%513)) (wER (g_ (gv_make (e:=5) (u:=512) (v:=512) (z:=.int .u8 0) (sz:=1) (by_:=1) (n:=512) (c:=512) (cs:=(bvs (List.replicate 512 0))) S30 rfl kr_ ⟨by kernel_rfl⟩ kr_ kr_ rfl rfl (Nat.le_refl _) dc_ dc_ (mk_bytes _) (fun g31 w32 hg33 S34=> ?_))))))))))))))))
  refine pv (sl g31 0 512 512) (wER (pv (sl g31 0 512 512) (pv (.func (.func 143) #[] #[pq c_,pq g1,pq g5]) (pv (po g9 1) (lR (iv pb) S34 2 1 (g_ (gv_callC (f:=143) (args:=#[iv pb,pq c_,pq g1,pq g5]) (caps:=#[pq c_,pq g1,pq g5]) rfl Try.func143 kr_ rfl kr_ kr_ (Calls.mono (cand_ro (p:=p) (S34.blk 5 rfl) (S34.blk 1 rfl) (S34.blk 4 rfl) (S34.blk 3 rfl) hm hk hq ((pend_facts S34 8 rfl hj hne).elim fun a h=>h.elim fun b h=>h.elim fun c h=>⟨a,b,c,h.1,h.2.1,h.2.2.1⟩) hAb) ?_))))))))
  rintro _ _ ⟨rfl,rfl⟩
  refine ⟨_,rfl,(g_ (gv_copy (e:=5) (off:=0) (dLen:=512) (dCap:=512) (sLen:=512) (sCap:=cab) (A:=Ab) (B:=(List.replicate 512 0)) (l:=((x::p.ws.map (·.2)).getD (pb.toNat%(p.ws.length+1)) [])) S34 0 rfl rfl kr_ kr_ kr_ kr_ hlb.symm (hRb.out _ [row g31 (bvs (List.replicate 512 0)) 5,row c_ #[p.v] 42,row g9 #[iv pa,iv pb,iv pc] 145,row g5 #[nI_ p.at_] 3,row g1 #[pq g] 22] S34) (by rw [List.length_replicate];omega) (L':=(row g31 (bvs ((x::p.ws.map (·.2)).getD (pb.toNat%(p.ws.length+1)) [])) 5::row c_ #[p.v] 42::row g9 #[iv pa,iv pb,iv pc] 145::row g5 #[nI_ p.at_] 3::row g1 #[pq g] 22::dR g gd (512*m) gm fused left life r wr fl rf pn::row gd (bvs D) 5::pt gm (mapO (es.map PEnt.ent) clock)::stars (es.map PEnt.ast)::L)) (by rw [copy512 hlb];rfl) (fun w35 m37 S36=>wE (nS (wp_region_phu (γ:=Int) 8 [7] (fun (c2_:Int) (i_:Nat)=>(match i_ with|0=>sl g31 0 512 512|1=>nI_ (pc.toNat%513)|2=>sl g31 0 (pc.toNat%513) 512|3=>.func (.func 143) #[] #[pq c_,pq g1,pq g5]|4=>pq g9|5=>iv pa|6=>.slice Aa 512 caa|7=>goInt c2_|_=>undef:Value)) (fun (c2_:Int) (p_:Nat) (w_:World)=>(match p_ with|0=>St F w0 w_ (row g31 (bvs ((x::p.ws.map (·.2)).getD (pb.toNat%(p.ws.length+1)) [])) 5::row c_ #[p.v] 42::row g9 #[iv pa,iv pb,iv pc] 145::row g5 #[nI_ p.at_] 3::row g1 #[pq g] 22::dR g gd (512*m) gm fused left life r wr fl rf pn::row gd (bvs D) 5::pt gm (mapO (es.map PEnt.ent) clock)::stars (es.map PEnt.ast)::L)|_=>St F w0 w_ (row g31 (bvs (tornS (x::p.ws.map (·.2)) (pa,pb,pc))) 5::row c_ #[p.v] 42::row g9 #[iv pa,iv pb,iv pc] 145::row g5 #[nI_ p.at_] 3::row g1 #[pq g] 22::dR g gd (512*m) gm fused left life r wr fl rf pn::row gd (bvs D) 5::pt gm (mapO (es.map PEnt.ent) clock)::stars (es.map PEnt.ast)::L):Prop)) (0) kr_ kr_ kr_ kr_ (S36.drew) ?_ ?_ ?_)))))⟩
  ·intro i_ c2_ p_ vals_ w1 hi_ hiE_ hp_ hk_ hu_ hPh_ hd_
   rcases i_ with _|_|_|_|_|_|_|_|i_
   ·exact tG_ rfl hd_ (gV (sl g31 0 512 512) ⟨rfl,rfl⟩)
   ·exact tG_ rfl hd_ (gV (nI_ (pc.toNat%513)) ⟨rfl,rfl⟩)
   ·exact tG_ rfl hd_ (gv_cutTo (e:=5) (sz:=1) (A:=(some ⟨g31,0,none⟩)) (n:=512) (c:=512) (kh:=.i64) (v:=((pc.toNat%513:Nat):Int)) (hi:=(pc.toNat%513)) rfl kr_ kr_ kr_ kr_ rfl om_ ⟨rfl,rfl⟩)
   ·exact tG_ rfl hd_ (gV (.func (.func 143) #[] #[pq c_,pq g1,pq g5]) ⟨rfl,rfl⟩)
   ·exact tG_ rfl hd_ (gV (pq g9) ⟨rfl,rfl⟩)
   ·rcases p_ with _|_|p_
    ·have S43:=St.id hPh_
     exact tG_ rfl hd_ (gL (iv pa) rfl (((S43.blk 2 rfl).cell 0).trans rfl) ⟨rfl,rfl⟩)
    ·exact absurd (hu_ 0 dc_ kr_) dc_
    ·exact absurd hp_ (by simp)
   ·rcases p_ with _|_|p_
    ·have S44:=St.id hPh_
     refine tG_ rfl hd_ (gv_callC (f:=143) (args:=#[iv pa,pq c_,pq g1,pq g5]) (caps:=#[pq c_,pq g1,pq g5]) rfl Try.func143 kr_ rfl kr_ kr_ (Calls.mono (cand_ro (p:=p) (S44.blk 5 rfl) (S44.blk 1 rfl) (S44.blk 4 rfl) (S44.blk 3 rfl) hm hk hq ((pend_facts S44 8 rfl hj hne).elim fun a h=>h.elim fun b h=>h.elim fun c h=>⟨a,b,c,h.1,h.2.1,h.2.2.1⟩) hAa) ?_))
     rintro _ _ ⟨rfl,rfl⟩
     exact ⟨_,rfl,⟨rfl,rfl⟩⟩
    ·exact absurd (hu_ 0 dc_ kr_) dc_
    ·exact absurd hp_ (by simp)
   ·exact absurd hiE_ dc_
   ·exact absurd hi_ om_
  ·intro k_ c2_ vals_ w1 hk_ hPh_ hd_
   rcases k_ with _|k_
   ·have S45:=St.id hPh_
    refine tG_ rfl hd_ (gv_copy (e:=5) (off:=0) (dLen:=(pc.toNat%513)) (dCap:=512) (sLen:=512) (sCap:=caa) (A:=Aa) (B:=((x::p.ws.map (·.2)).getD (pb.toNat%(p.ws.length+1)) [])) (l:=((x::p.ws.map (·.2)).getD (pa.toNat%(p.ws.length+1)) [])) S45 0 rfl rfl kr_ kr_ kr_ kr_ hla.symm (hRa.out _ [row g31 (bvs ((x::p.ws.map (·.2)).getD (pb.toNat%(p.ws.length+1)) [])) 5,row c_ #[p.v] 42,row g9 #[iv pa,iv pb,iv pc] 145,row g5 #[nI_ p.at_] 3,row g1 #[pq g] 22] S45) (by rw [hlb];omega) (L':=(row g31 (bvs (tornS (x::p.ws.map (·.2)) (pa,pb,pc))) 5::row c_ #[p.v] 42::row g9 #[iv pa,iv pb,iv pc] 145::row g5 #[nI_ p.at_] 3::row g1 #[pq g] 22::dR g gd (512*m) gm fused left life r wr fl rf pn::row gd (bvs D) 5::pt gm (mapO (es.map PEnt.ent) clock)::stars (es.map PEnt.ast)::L)) (by rw [show splice ((x::p.ws.map (·.2)).getD (pb.toNat%(p.ws.length+1)) []) 0 (List.take (pc.toNat%513) ((x::p.ws.map (·.2)).getD (pa.toNat%(p.ws.length+1)) []))=(tornS (x::p.ws.map (·.2)) (pa,pb,pc)) from by unfold tornS splice;rw [hlen,List.take_zero,List.nil_append,Nat.zero_add,List.length_take,hla,Nat.min_eq_left om_]];rfl) (fun w46 m48 S47=> ?_))
    refine ⟨(m48),rfl, ?_,S47⟩
    intro i_ hi_ hne_ hdp_
    rcases i_ with _|_|_|_|_|_|_|_|i_
    ·rfl
    ·rfl
    ·rfl
    ·rfl
    ·rfl
    ·rfl
    ·rfl
    ·exact absurd rfl hne_
    ·exact absurd hi_ om_
   ·exact absurd hk_ (by simp)
  ·intro c2_ w1 hPh_
   have S49:=St.id hPh_
   refine (wE ?_)
   refine nSR (pv (sl g31 0 512 512) (pv (sl g31 0 512 512) (wE (then_n (wp_ret (bA (sl g31 0 512 512) ?_))))))
   have S50:=St.pm 9 [0,5,6,7,8] S49
   exact ⟨_,rfl,S50⟩
theorem nodup_sub {α:Type}[BEq α][LawfulBEq α]:∀(l m:List α),l.Nodup→(∀x∈l,x∈m)→l.length≤m.length
 |[],_,_,_=>Nat.zero_le _
 |x::r,m,hn,h=>by
  have hx:=h x List.mem_cons_self
  have h1:=nodup_sub r (m.erase x) (List.nodup_cons.1 hn).2 fun y hy=>(List.mem_erase_of_ne (fun e=>(List.nodup_cons.1 hn).1 (by subst e;exact hy))).2 (h y (List.mem_cons_of_mem _ hy))
  rw [List.length_erase_of_mem hx] at h1
  have:=List.length_pos_of_mem hx
  rw [List.length_cons];omega
theorem PFacts.few {s:Dsk}{clock:Nat}{es:List PEnt}{fused:Bool}{left:Int}(h:PFacts s clock es fused left){ps:List PEnt}(hps:∀p∈ps,p∈es)(hnd:(ps.map (·.b)).Nodup):ps.length≤2048:=by
 have h1:=nodup_sub (ps.map (·.b)) (es.map (·.b)) hnd fun x hx=>by
  obtain ⟨p,hp,rfl⟩:=List.mem_map.1 hx
  exact List.mem_map.2 ⟨p,hps p hp,rfl⟩
 have h2:=nodup_sub (es.map (·.at_)) (List.range s.last.length) h.keyN fun x hx=>by
  obtain ⟨p,hp,rfl⟩:=List.mem_map.1 hx
  obtain ⟨j,_,_,_,_,hk,_⟩:=h.find_mem hp
  exact List.mem_range.2 hk
 have:=h.n2
 simp only [List.length_map,List.length_range] at h1 h2;omega
theorem St.vec_rdv {F:Nat→Prop}{w0 w:World}{L:List Ast}{e:TypeId}{A:Option Addr}{n c:Nat}{vals:List Value}(S:St F w0 w L)(i:Nat)(hi:L[i]?=some (vec e 1 (.slice A n c) n vals)):RdV w A vals:=by
 have S1:=S.mem i hi
 rcases S1.vec_cases with ⟨h,rfl,rfl,_⟩|⟨g,c',junk,h,_,h3,_,S2⟩
 ·exact fun h=>absurd h (Nat.lt_irrefl 0)
 ·simp at h
  obtain ⟨rfl,_⟩:=h
  exact fun _=>⟨_,rfl,fun j u hu=>by
   rw [Addr.add_lit,Nat.zero_add,(S2.blk 0 rfl).cell,List.getElem?_toArray,List.getElem?_append_left (List.getElem?_eq_some_iff.1 hu).1];exact hu⟩
theorem pd_crash {F:Nat→Prop}{w0 w:World}{L:List Ast}{g:Nat}{s:Dsk}{A:Option Addr}{ps:List Pick}{n c:Nat}(S:St F w0 w (PDisk g s::L))(hr:RoV F w0 L A (picksV ps))(hn:n=ps.length)(hpm:ps.length≤9223372036854775807):
  Calls Try.prog 64 #[pq g,.slice A n c] w fun e w'=>e=.returned (.tuple #[])∧St F w0 w' (PDisk g (s.crashR ps)::L):=by
 obtain ⟨gd,gm,clock,es,fused,left,hf,S⟩:=St.popen S
 have hn2:=hf.n2
 have hol:=hf.out_len ps
 have hkl:=keysTo_len s s.last.length
 change (crashKeys s).length≤_ at hkl
 have hA:∀i,(applyP s.last ((crashOuts s ps).take i)).length=s.last.length∧∀l∈applyP s.last ((crashOuts s ps).take i),l.length=512:=fun i=>⟨length_applyP _ _,applyP_all _ _ hf.len (fun x hx=>hol x (List.mem_of_mem_take hx))⟩
 have hD:∀i,(applyP s.last ((crashOuts s ps).take i)).flatten.length=512*s.last.length:=fun i=>(flat_len (hA i).2).trans (by rw [(hA i).1])
 change St F w0 w (dR g gd (512*s.last.length) gm fused left s.life s.rd s.wr s.fl s.rf (s.pend.length:Int)::row gd (bvs s.last.flatten) 5::pt gm (mapO (es.map PEnt.ent) clock)::stars (es.map PEnt.ast)::L) at S
 refine eN (fr [pq g,.slice A n c] 60) Try.func64 rfl (sR (pv (nS_) (wE (nS (sR (pv (pq g) (pv (pq g) (pv (po g 1) (lR (.map (some gm)) S 0 1 ?_)))))))))
 have S1:St F w0 w (vec 3 1 (nS_) 0 []::dR g gd (512*s.last.length) gm fused left s.life s.rd s.wr s.fl s.rf (s.pend.length:Int)::row gd (bvs s.last.flatten) 5::pt gm (mapO (es.map PEnt.ent) clock)::stars (es.map PEnt.ast)::L):=St.vec_nil S
 refine g_ (gv_range (kT:=3) (eT:=42) (g:=gm) (clock:=clock) (es:=es.map PEnt.ent) S1 3 rfl rfl kr_ kr_ (fun gi2 w3 hg4 S5=> ?_))
 have S6:St F w0 w3 (vec 3 1 (nS_) 0 []::pt gi2 (iterO gm clock [])::dR g gd (512*s.last.length) gm fused left s.life s.rd s.wr s.fl s.rf (s.pend.length:Int)::row gd (bvs s.last.flatten) 5::pt gm (mapO (es.map PEnt.ent) clock)::stars (es.map PEnt.ast)::L):=St.pm 6 [1,0,2,3,4,5] S5
 refine wE (then_n (wp_block (wp_loop_g (G:=List PEnt×Value) (fun (g_:List PEnt×Value) (a_:Act) (w_:World)=>∃J:Nat→Value,a_=(fr ([pq g,.slice A n c,ud,ud,g_.2,J 5,ud,ud,ud,pq g,pq g,po g 1,.map (some gm),pq gi2]++jR J 14 8) 40)∧St F w0 w_ (vec 3 1 g_.2 g_.1.length ((g_.1.map fun p=>((p.at_:Nat):Int)).map (Value.int .i64))::pt gi2 (iterO gm clock (g_.1.map (·.b)))::dR g gd (512*s.last.length) gm fused left s.life s.rd s.wr s.fl s.rf (s.pend.length:Int)::row gd (bvs s.last.flatten) 5::pt gm (mapO (es.map PEnt.ent) clock)::stars (es.map PEnt.ast)::L)∧((∀p∈g_.1,p∈es)∧(g_.1.map (·.b)).Nodup)) (fun g_=>(leftE (es.map PEnt.ent) (g_.1.map (·.b))).length) ([],nS_) (jE_ ⟨S6,⟨(fun p hp=>by cases hp),List.nodup_nil⟩⟩) ?_)))
 rintro ⟨es1,v⟩ a_ w7 ⟨J,rfl,S8,hI9⟩
 skip
 have S8:St F w0 w7 (vec 3 1 v es1.length ((es1.map fun p=>((p.at_:Nat):Int)).map (Value.int .i64))::pt gi2 (iterO gm clock (es1.map (·.b)))::dR g gd (512*s.last.length) gm fused left s.life s.rd s.wr s.fl s.rf (s.pend.length:Int)::row gd (bvs s.last.flatten) 5::pt gm (mapO (es.map PEnt.ent) clock)::stars (es.map PEnt.ast)::L):=S8
 have hI9:((∀p∈es1,p∈es)∧(es1.map (·.b)).Nodup):=hI9
 refine sR ?_
 have hfw:=hf.few hI9.1 hI9.2
 refine g_ (gv_next (g:=gm) (clock:=clock) (es:=es.map PEnt.ent) (gi:=gi2) (seen:=es1.map (·.b)) S8 1 4 rfl rfl (fun e he=>by obtain ⟨p,hp,rfl⟩:=List.mem_map.1 he;exact hf.born p hp) rfl kr_ (fun hl=> ?_) (fun e w10 hel S11=> ?_))
 ·refine pv fv (wE (nS (cF (wp_exit (then_x (then_x (inb_x (nSR (pv v (sP Try.func113 #[v] (sort_own S8 om_) fun w12 S13=> ?_))))))))))
  have hso:=hf.sorted hI9.1 hI9.2 hl
  have hkn:es1.length=(crashKeys s).length:=by have:=congrArg List.length hso;rw [List.length_mergeSort,List.length_map,List.length_map] at this;exact this
  rw [hso,hkn] at S13
  obtain ⟨A1,c1,rfl⟩:=S13.vec_val
  have S14:St F w0 w12 (vec 3 1 (.slice A1 (crashKeys s).length c1) (crashKeys s).length (((crashKeys s).map fun a=>((a:Nat):Int)).map (Value.int .i64))::dR g gd (512*s.last.length) gm fused left s.life s.rd s.wr s.fl s.rf (s.pend.length:Int)::row gd (bvs s.last.flatten) 5::pt gm (mapO (es.map PEnt.ent) clock)::stars (es.map PEnt.ast)::L):=St.pm 6 [0,2,3,4,5] S13
  have e0:s.last.flatten=(applyP s.last ((crashOuts s ps).take 0)).flatten:=by rw [List.take_zero];rfl
  rw [e0] at S14
  refine wE (nS (sR (pv (.slice A1 ((crashKeys s).length) c1) (pv (iv ((crashKeys s).length:Nat)) (pv (iv 0) (wE (then_n (wp_block (wp_loop_g (G:=Nat) (fun (g_:Nat) (a_:Act) (w_:World)=>∃J:Nat→Value,a_=(fr ([pq g,.slice A n c,ud,ud,.slice A1 ((crashKeys s).length) c1]++jR J 5 4++[pq g,pq g,po g 1,.map (some gm),pq gi2,.tuple #[fv],fv]++jR J 16 6++[.slice A1 ((crashKeys s).length) c1,.tuple #[],.slice A1 ((crashKeys s).length) c1,iv ((crashKeys s).length:Nat),nI_ g_]++jR J 27 23) 12)∧St F w0 w_ (vec 3 1 (.slice A1 (crashKeys s).length c1) (crashKeys s).length (((crashKeys s).map fun a=>((a:Nat):Int)).map (Value.int .i64))::dR g gd (512*s.last.length) gm fused left s.life s.rd s.wr s.fl s.rf (s.pend.length:Int)::row gd (bvs (applyP s.last ((crashOuts s ps).take g_)).flatten) 5::pt gm (mapO (es.map PEnt.ent) clock)::stars (es.map PEnt.ast)::L)∧(g_≤(crashKeys s).length)) (fun g_=>(crashKeys s).length-g_) 0 (jE_ ⟨S14,(Nat.zero_le _)⟩) ?_)))))))))
  rintro k a_ w15 ⟨J,rfl,S16,hI17⟩
  skip
  have S16:St F w0 w15 (vec 3 1 (.slice A1 (crashKeys s).length c1) (crashKeys s).length (((crashKeys s).map fun a=>((a:Nat):Int)).map (Value.int .i64))::dR g gd (512*s.last.length) gm fused left s.life s.rd s.wr s.fl s.rf (s.pend.length:Int)::row gd (bvs (applyP s.last ((crashOuts s ps).take k)).flatten) 5::pt gm (mapO (es.map PEnt.ent) clock)::stars (es.map PEnt.ast)::L):=S16
  have hI17:(k≤(crashKeys s).length):=hI17
  refine sR (dC ((((k:Nat):Int):Int)<((crashKeys s).length:Nat)) (fun hb18=> ?_) fun hb18=> ?_)
  ·have hkk:k<(crashKeys s).length:=by omega
   obtain ⟨p,hpe,hat⟩:=hf.key_mem.1 (List.getElem_mem hkk)
   have hK:(crashKeys s)[k]?=some p.at_:=by rw [List.getElem?_eq_getElem hkk,hat]
   obtain ⟨j,hj,hje,hke,hfe,hk,hne,hx512,hle⟩:=hf.find_mem hpe
   have hq:p.ws.length≤4611686018427387904:=by have:=hf.pn;omega
   have hgd:(applyP s.last ((crashOuts s ps).take k))[p.at_]?=some (s.last.getD p.at_ []):=by rw [←applyP_getD _ _ _ (out_fst hK)];exact mem_getD (by rw [(hA k).1];exact hk)
   have hx:=(flat_sec (hA k).2 p.at_ _ hgd).symm
   have hx5:=(hA k).2 _ (List.mem_of_getElem? hgd)
   have hcs:s.last.getD p.at_ []::p.ws.map (·.2)=candS s p.at_:=by rw [hf.ws p hpe];rfl
   have htl:(tornS (candS s p.at_) (pickAt ps k)).length=512:=tornS_len (hf.cand_len hk) (by simp [candS])
   have hDk:=hD k
   obtain ⟨ad1,hAd1,hrd⟩:=(St.vec_rdv S16 0 rfl) (by simp;omega)
   refine wE (nS (cT (wp_skip (nS (wp_block (sR (pv (nI_ k) (g_ (gv_ixB (e:=3) (sz:=1) (n:=((crashKeys s).length)) (c:=c1) (i:=((k:Nat):Int)) (k:=.i64) (ad:=ad1) (ad':=(ad1.add k)) (j:=k) rfl kr_ kr_ (by rw [←hAd1];kernel_rfl) kr_ rfl om_ (by rw [Nat.mul_one]) (lQ (nI_ p.at_) (hrd k _ (by rw [List.getElem?_map,List.getElem?_map,hK];rfl)) ?_))))))))))
   refine pv (nI_ k) (pv (nI_ p.at_) (wER (nW rfl (.agg #[iv 0,iv 0,iv 0]) S16 fun g19 w20 hg21 S22=>wE (nS (sR (pv (.slice A n c) (pv (iv (n:Nat)) (dC (((n:Nat):Int)>0) (fun hb23=> ?_) fun hb23=> ?_))))))))
   ·have hp0:0<ps.length:=by omega
    have hn1:n=n-1+1:=by omega
    obtain ⟨ad,hAd,hrp⟩:=hr.out _ [row g19 #[.int .i64 0,.int .i64 0,.int .i64 0] 145,vec 3 1 (.slice A1 (crashKeys s).length c1) (crashKeys s).length (((crashKeys s).map fun a=>((a:Nat):Int)).map (Value.int .i64)),row g #[.slice (some ⟨gd,0,none⟩) (512*s.last.length) (512*s.last.length),.map (some gm),.bool fused,.int .i64 left,.int .i64 s.life,.int .i64 s.rd,.int .i64 s.wr,.int .i64 s.fl,.int .i64 s.rf,.int .i64 (s.pend.length:Int)] 135,row gd (bvs (applyP s.last ((crashOuts s ps).take k)).flatten) 5,pt gm (mapO (es.map PEnt.ent) clock),stars (es.map PEnt.ast)] S22 (by rw [length_picksV];omega)
    have hrq:RdV w20 (some ad) (picksV ps):=fun _=>⟨ad,rfl,hrp⟩
    have hkm:k%ps.length<ps.length:=Nat.mod_lt _ hp0
    have hpk:ps[k%ps.length]?=some (pickAt ps k):=by unfold pickAt;rw [if_neg om_,List.getD_eq_getElem?_getD,List.getElem?_eq_getElem hkm];rfl
    refine wE (nCT (wp_region_lit (pv (.slice A n c) (pv (nI_ k) (pv (.slice A n c) (pv (iv (n:Nat)) (g_ (gv_int (k:=.i64) (z:=Int.tmod ((k:Nat):Int) (n:Nat)) (z':=((k%ps.length:Nat):Int)) (by rw [hn1];kernel_rfl) (tmod_nat rfl om_) (g_ (gv_ixB (e:=145) (sz:=3) (n:=n) (c:=c) (i:=((k%ps.length:Nat):Int)) (k:=.i64) (ad:=ad) (ad':=(ad.add ((k%ps.length)*3))) (j:=(k%ps.length)) rfl kr_ kr_ (by rw [←hAd];kernel_rfl) kr_ rfl om_ rfl (g_ (gv_ldRA (ad:=ad.add (k%ps.length*3)) (vs:=[iv ((pickAt ps k).1),iv ((pickAt ps k).2.1),iv ((pickAt ps k).2.2)]) (n:=3) rfl kr_ kr_ rfl (RoV.cells hrq (k%ps.length*3) (fun j u hu=>picksV_at ps _ _ hpk j u hu) (Nat.succ_pos _)) (g_ (gv_stA (k:=0) (vs:=[iv ((pickAt ps k).1),iv ((pickAt ps k).2.1),iv ((pickAt ps k).2.2)]) S22 0 rfl rfl kr_ kr_ kr_ rfl (by simp [Value.oneCell']) (Nat.le_of_ble_eq_true kr_) (L':=(row g19 #[iv ((pickAt ps k).1),iv ((pickAt ps k).2.1),iv ((pickAt ps k).2.2)] 145::vec 3 1 (.slice A1 (crashKeys s).length c1) (crashKeys s).length (((crashKeys s).map fun a=>((a:Nat):Int)).map (Value.int .i64))::dR g gd (512*s.last.length) gm fused left s.life s.rd s.wr s.fl s.rf (s.pend.length:Int)::row gd (bvs (applyP s.last ((crashOuts s ps).take k)).flatten) 5::pt gm (mapO (es.map PEnt.ent) clock)::stars (es.map PEnt.ast)::L)) rfl (fun w24 S25=> ?_)))))))))))))))
    refine wE (then_n ?_)
    have S26:St F w0 w24 (dR g gd (512*s.last.length) gm fused left s.life s.rd s.wr s.fl s.rf (s.pend.length:Int)::row gd (bvs (applyP s.last ((crashOuts s ps).take k)).flatten) 5::pt gm (mapO (es.map PEnt.ent) clock)::stars (es.map PEnt.ast)::row g19 #[iv ((pickAt ps k).1),iv ((pickAt ps k).2.1),iv ((pickAt ps k).2.2)] 145::vec 3 1 (.slice A1 (crashKeys s).length c1) (crashKeys s).length (((crashKeys s).map fun a=>((a:Nat):Int)).map (Value.int .i64))::L):=St.pm 6 [2,3,4,5,0,1] S25
    refine wp_region_phu (γ:=Nat×Int) 8 [6,7] (fun (c_:Nat×Int) (i_:Nat)=>(match i_ with|0=>pq g|1=>nI_ p.at_|2=>.slice (some ⟨gd,512*p.at_,none⟩) 512 (512*s.last.length-512*p.at_)|3=>pq g|4=>nI_ p.at_|5=>.agg #[iv ((pickAt ps k).1),iv ((pickAt ps k).2.1),iv ((pickAt ps k).2.2)]|6=>sl c_.1 0 512 512|7=>goInt c_.2|_=>undef:Value)) (fun (c_:Nat×Int) (p_:Nat) (w_:World)=>(match p_ with|0=>St F w0 w_ (dR g gd (512*s.last.length) gm fused left s.life s.rd s.wr s.fl s.rf (s.pend.length:Int)::row gd (bvs (applyP s.last ((crashOuts s ps).take k)).flatten) 5::pt gm (mapO (es.map PEnt.ent) clock)::stars (es.map PEnt.ast)::row g19 #[iv ((pickAt ps k).1),iv ((pickAt ps k).2.1),iv ((pickAt ps k).2.2)] 145::vec 3 1 (.slice A1 (crashKeys s).length c1) (crashKeys s).length (((crashKeys s).map fun a=>((a:Nat):Int)).map (Value.int .i64))::L)|1=>St F w0 w_ (row c_.1 (bvs (tornS (candS s p.at_) (pickAt ps k))) 5::dR g gd (512*s.last.length) gm fused left s.life s.rd s.wr s.fl s.rf (s.pend.length:Int)::row gd (bvs (applyP s.last ((crashOuts s ps).take k)).flatten) 5::pt gm (mapO (es.map PEnt.ent) clock)::stars (es.map PEnt.ast)::row g19 #[iv ((pickAt ps k).1),iv ((pickAt ps k).2.1),iv ((pickAt ps k).2.2)] 145::vec 3 1 (.slice A1 (crashKeys s).length c1) (crashKeys s).length (((crashKeys s).map fun a=>((a:Nat):Int)).map (Value.int .i64))::L)|_=>St F w0 w_ (row c_.1 (bvs (tornS (candS s p.at_) (pickAt ps k))) 5::dR g gd (512*s.last.length) gm fused left s.life s.rd s.wr s.fl s.rf (s.pend.length:Int)::row gd (bvs ((applyP s.last ((crashOuts s ps).take (k+1))).flatten)) 5::pt gm (mapO (es.map PEnt.ent) clock)::stars (es.map PEnt.ast)::row g19 #[iv ((pickAt ps k).1),iv ((pickAt ps k).2.1),iv ((pickAt ps k).2.2)] 145::vec 3 1 (.slice A1 (crashKeys s).length c1) (crashKeys s).length (((crashKeys s).map fun a=>((a:Nat):Int)).map (Value.int .i64))::L):Prop)) (0,0) kr_ kr_ kr_ kr_ (S26.drew) ?_ ?_ ?_
    ·intro i_ c_ p_ vals_ w1 hi_ hiE_ hp_ hk_ hu_ hPh_ hd_
     rcases i_ with _|_|_|_|_|_|_|_|i_
     ·exact tG_ rfl hd_ (gV (pq g) ⟨rfl,rfl⟩)
     ·exact tG_ rfl hd_ (gV (nI_ p.at_) ⟨rfl,rfl⟩)
     ·rcases p_ with _|_|_|p_
      ·have S29:=St.id hPh_
       refine tG_ rfl hd_ (gv_call (args:=#[pq g,nI_ p.at_]) rfl Try.func114 kr_ rfl rfl kr_ (Calls.mono (home_ro (S29.blk 0 rfl) rfl rfl hn2 hk) ?_))
       rintro _ _ ⟨rfl,rfl⟩
       exact ⟨_,rfl,⟨rfl,rfl⟩⟩
      ·exact absurd (hu_ 0 dc_ kr_) dc_
      ·exact absurd (hu_ 0 dc_ kr_) dc_
      ·exact absurd hp_ (by simp)
     ·exact tG_ rfl hd_ (gV (pq g) ⟨rfl,rfl⟩)
     ·exact tG_ rfl hd_ (gV (nI_ p.at_) ⟨rfl,rfl⟩)
     ·rcases p_ with _|_|_|p_
      ·have S32:=St.id hPh_
       exact tG_ rfl hd_ (gv_ldA (k:=0) (n:=3) (vs:=[iv ((pickAt ps k).1),iv ((pickAt ps k).2.1),iv ((pickAt ps k).2.2)]) S32 4 rfl rfl kr_ kr_ rfl rfl ⟨rfl,rfl⟩)
      ·exact absurd (hu_ 0 dc_ kr_) dc_
      ·exact absurd (hu_ 0 dc_ kr_) dc_
      ·exact absurd hp_ (by simp)
     ·exact absurd hiE_ dc_
     ·exact absurd hiE_ dc_
     ·exact absurd hi_ om_
    ·intro k_ c_ vals_ w1 hk_ hPh_ hd_
     rcases k_ with _|_|k_
     ·have S33:=St.id hPh_
      refine tG_ rfl hd_ (gv_call (args:=#[pq g,nI_ p.at_,.agg #[iv ((pickAt ps k).1),iv ((pickAt ps k).2.1),iv ((pickAt ps k).2.2)]]) rfl Try.func115 kr_ rfl rfl kr_ (Calls.mono (outcome_own S33 hj hje hke hfe hne hx hx5 hx512 hn2 hk hq) ?_))
      rintro _ w35 ⟨g34,rfl,S36⟩
      rw [hcs] at S36
      refine ⟨_,rfl,⟨(g34,c_.2),rfl, ?_,S36⟩⟩
      intro i_ hi_ hne_ hdp_
      rcases i_ with _|_|_|_|_|_|_|_|i_
      ·rfl
      ·rfl
      ·rfl
      ·rfl
      ·rfl
      ·rfl
      ·exact absurd rfl hne_
      ·exact dN_ hdp_
      ·exact absurd hi_ om_
     ·have S37:=St.id hPh_
      refine tG_ rfl hd_ (gv_copy (e:=5) (off:=512*p.at_) (dLen:=512) (dCap:=(512*s.last.length-512*p.at_)) (sLen:=512) (sCap:=512) (A:=(some ⟨c_.1,0,none⟩)) (B:=((applyP s.last ((crashOuts s ps).take k)).flatten)) (l:=(tornS (candS s p.at_) (pickAt ps k))) S37 2 rfl rfl kr_ kr_ kr_ kr_ htl.symm (RdB.row (S37.blk 0 rfl) 0 512 _ (by rw [List.drop_zero,List.take_of_length_le om_])) (by rw [hDk];omega) (L':=(row c_.1 (bvs (tornS (candS s p.at_) (pickAt ps k))) 5::dR g gd (512*s.last.length) gm fused left s.life s.rd s.wr s.fl s.rf (s.pend.length:Int)::row gd (bvs ((applyP s.last ((crashOuts s ps).take (k+1))).flatten)) 5::pt gm (mapO (es.map PEnt.ent) clock)::stars (es.map PEnt.ast)::row g19 #[iv ((pickAt ps k).1),iv ((pickAt ps k).2.1),iv ((pickAt ps k).2.2)] 145::vec 3 1 (.slice A1 (crashKeys s).length c1) (crashKeys s).length (((crashKeys s).map fun a=>((a:Nat):Int)).map (Value.int .i64))::L)) (by rw [List.take_of_length_le (l:=tornS (candS s p.at_) (pickAt ps k)) (Nat.le_of_eq htl),flat_set (hA k).2 _ _ (by rw [(hA k).1];exact hk) htl,out_take hK,applyP_snoc];rfl) (fun w38 m40 S39=> ?_))
      refine ⟨(c_.1,m40),rfl, ?_,S39⟩
      intro i_ hi_ hne_ hdp_
      rcases i_ with _|_|_|_|_|_|_|_|i_
      ·rfl
      ·rfl
      ·rfl
      ·rfl
      ·rfl
      ·rfl
      ·rfl
      ·exact absurd rfl hne_
      ·exact absurd hi_ om_
     ·exact absurd hk_ (by simp)
    ·intro c_ w1 hPh_
     have S41:=St.id hPh_
     refine (wE ?_)
     refine inb_n (nR (gI .i64 (IntKind.i64.wrap (((k:Nat):Int)+1)) (((k:Nat):Int)+1) (wr_ok om_ om_) (pv (iv (((k:Nat):Int)+1)) ?_)))
     have S42:=St.pm 7 [6,1,2,3,4] S41
     exact wE (then_n ⟨k+1,(jE_ ⟨S42,om_⟩),(by show (crashKeys s).length-(k+1)<(crashKeys s).length-k;omega)⟩)
   ·have hpk:pickAt ps k=(0,0,0):=if_pos om_
    have S43:St F w0 w20 (row g19 #[iv ((pickAt ps k).1),iv ((pickAt ps k).2.1),iv ((pickAt ps k).2.2)] 145::vec 3 1 (.slice A1 (crashKeys s).length c1) (crashKeys s).length (((crashKeys s).map fun a=>((a:Nat):Int)).map (Value.int .i64))::dR g gd (512*s.last.length) gm fused left s.life s.rd s.wr s.fl s.rf (s.pend.length:Int)::row gd (bvs (applyP s.last ((crashOuts s ps).take k)).flatten) 5::pt gm (mapO (es.map PEnt.ent) clock)::stars (es.map PEnt.ast)::L):=(by rw [hpk];exact S22)
    refine wE (nCF (kN ?_))
    have S44:St F w0 w20 (dR g gd (512*s.last.length) gm fused left s.life s.rd s.wr s.fl s.rf (s.pend.length:Int)::row gd (bvs (applyP s.last ((crashOuts s ps).take k)).flatten) 5::pt gm (mapO (es.map PEnt.ent) clock)::stars (es.map PEnt.ast)::row g19 #[iv ((pickAt ps k).1),iv ((pickAt ps k).2.1),iv ((pickAt ps k).2.2)] 145::vec 3 1 (.slice A1 (crashKeys s).length c1) (crashKeys s).length (((crashKeys s).map fun a=>((a:Nat):Int)).map (Value.int .i64))::L):=St.pm 6 [2,3,4,5,0,1] S43
    refine wp_region_phu (γ:=Nat×Int) 8 [6,7] (fun (c2_:Nat×Int) (i_:Nat)=>(match i_ with|0=>pq g|1=>nI_ p.at_|2=>.slice (some ⟨gd,512*p.at_,none⟩) 512 (512*s.last.length-512*p.at_)|3=>pq g|4=>nI_ p.at_|5=>.agg #[iv ((pickAt ps k).1),iv ((pickAt ps k).2.1),iv ((pickAt ps k).2.2)]|6=>sl c2_.1 0 512 512|7=>goInt c2_.2|_=>undef:Value)) (fun (c2_:Nat×Int) (p_:Nat) (w_:World)=>(match p_ with|0=>St F w0 w_ (dR g gd (512*s.last.length) gm fused left s.life s.rd s.wr s.fl s.rf (s.pend.length:Int)::row gd (bvs (applyP s.last ((crashOuts s ps).take k)).flatten) 5::pt gm (mapO (es.map PEnt.ent) clock)::stars (es.map PEnt.ast)::row g19 #[iv ((pickAt ps k).1),iv ((pickAt ps k).2.1),iv ((pickAt ps k).2.2)] 145::vec 3 1 (.slice A1 (crashKeys s).length c1) (crashKeys s).length (((crashKeys s).map fun a=>((a:Nat):Int)).map (Value.int .i64))::L)|1=>St F w0 w_ (row c2_.1 (bvs (tornS (candS s p.at_) (pickAt ps k))) 5::dR g gd (512*s.last.length) gm fused left s.life s.rd s.wr s.fl s.rf (s.pend.length:Int)::row gd (bvs (applyP s.last ((crashOuts s ps).take k)).flatten) 5::pt gm (mapO (es.map PEnt.ent) clock)::stars (es.map PEnt.ast)::row g19 #[iv ((pickAt ps k).1),iv ((pickAt ps k).2.1),iv ((pickAt ps k).2.2)] 145::vec 3 1 (.slice A1 (crashKeys s).length c1) (crashKeys s).length (((crashKeys s).map fun a=>((a:Nat):Int)).map (Value.int .i64))::L)|_=>St F w0 w_ (row c2_.1 (bvs (tornS (candS s p.at_) (pickAt ps k))) 5::dR g gd (512*s.last.length) gm fused left s.life s.rd s.wr s.fl s.rf (s.pend.length:Int)::row gd (bvs ((applyP s.last ((crashOuts s ps).take (k+1))).flatten)) 5::pt gm (mapO (es.map PEnt.ent) clock)::stars (es.map PEnt.ast)::row g19 #[iv ((pickAt ps k).1),iv ((pickAt ps k).2.1),iv ((pickAt ps k).2.2)] 145::vec 3 1 (.slice A1 (crashKeys s).length c1) (crashKeys s).length (((crashKeys s).map fun a=>((a:Nat):Int)).map (Value.int .i64))::L):Prop)) (0,0) kr_ kr_ kr_ kr_ (S44.drew) ?_ ?_ ?_
    ·intro i_ c2_ p_ vals_ w1 hi_ hiE_ hp_ hk_ hu_ hPh_ hd_
     rcases i_ with _|_|_|_|_|_|_|_|i_
     ·exact tG_ rfl hd_ (gV (pq g) ⟨rfl,rfl⟩)
     ·exact tG_ rfl hd_ (gV (nI_ p.at_) ⟨rfl,rfl⟩)
     ·rcases p_ with _|_|_|p_
      ·have S47:=St.id hPh_
       refine tG_ rfl hd_ (gv_call (args:=#[pq g,nI_ p.at_]) rfl Try.func114 kr_ rfl rfl kr_ (Calls.mono (home_ro (S47.blk 0 rfl) rfl rfl hn2 hk) ?_))
       rintro _ _ ⟨rfl,rfl⟩
       exact ⟨_,rfl,⟨rfl,rfl⟩⟩
      ·exact absurd (hu_ 0 dc_ kr_) dc_
      ·exact absurd (hu_ 0 dc_ kr_) dc_
      ·exact absurd hp_ (by simp)
     ·exact tG_ rfl hd_ (gV (pq g) ⟨rfl,rfl⟩)
     ·exact tG_ rfl hd_ (gV (nI_ p.at_) ⟨rfl,rfl⟩)
     ·rcases p_ with _|_|_|p_
      ·have S50:=St.id hPh_
       exact tG_ rfl hd_ (gv_ldA (k:=0) (n:=3) (vs:=[iv ((pickAt ps k).1),iv ((pickAt ps k).2.1),iv ((pickAt ps k).2.2)]) S50 4 rfl rfl kr_ kr_ rfl rfl ⟨rfl,rfl⟩)
      ·exact absurd (hu_ 0 dc_ kr_) dc_
      ·exact absurd (hu_ 0 dc_ kr_) dc_
      ·exact absurd hp_ (by simp)
     ·exact absurd hiE_ dc_
     ·exact absurd hiE_ dc_
     ·exact absurd hi_ om_
    ·intro k_ c2_ vals_ w1 hk_ hPh_ hd_
     rcases k_ with _|_|k_
     ·have S51:=St.id hPh_
      refine tG_ rfl hd_ (gv_call (args:=#[pq g,nI_ p.at_,.agg #[iv ((pickAt ps k).1),iv ((pickAt ps k).2.1),iv ((pickAt ps k).2.2)]]) rfl Try.func115 kr_ rfl rfl kr_ (Calls.mono (outcome_own S51 hj hje hke hfe hne hx hx5 hx512 hn2 hk hq) ?_))
      rintro _ w53 ⟨g52,rfl,S54⟩
      rw [hcs] at S54
      refine ⟨_,rfl,⟨(g52,c2_.2),rfl, ?_,S54⟩⟩
      intro i_ hi_ hne_ hdp_
      rcases i_ with _|_|_|_|_|_|_|_|i_
      ·rfl
      ·rfl
      ·rfl
      ·rfl
      ·rfl
      ·rfl
      ·exact absurd rfl hne_
      ·exact dN_ hdp_
      ·exact absurd hi_ om_
     ·have S55:=St.id hPh_
      refine tG_ rfl hd_ (gv_copy (e:=5) (off:=512*p.at_) (dLen:=512) (dCap:=(512*s.last.length-512*p.at_)) (sLen:=512) (sCap:=512) (A:=(some ⟨c2_.1,0,none⟩)) (B:=((applyP s.last ((crashOuts s ps).take k)).flatten)) (l:=(tornS (candS s p.at_) (pickAt ps k))) S55 2 rfl rfl kr_ kr_ kr_ kr_ htl.symm (RdB.row (S55.blk 0 rfl) 0 512 _ (by rw [List.drop_zero,List.take_of_length_le om_])) (by rw [hDk];omega) (L':=(row c2_.1 (bvs (tornS (candS s p.at_) (pickAt ps k))) 5::dR g gd (512*s.last.length) gm fused left s.life s.rd s.wr s.fl s.rf (s.pend.length:Int)::row gd (bvs ((applyP s.last ((crashOuts s ps).take (k+1))).flatten)) 5::pt gm (mapO (es.map PEnt.ent) clock)::stars (es.map PEnt.ast)::row g19 #[iv ((pickAt ps k).1),iv ((pickAt ps k).2.1),iv ((pickAt ps k).2.2)] 145::vec 3 1 (.slice A1 (crashKeys s).length c1) (crashKeys s).length (((crashKeys s).map fun a=>((a:Nat):Int)).map (Value.int .i64))::L)) (by rw [List.take_of_length_le (l:=tornS (candS s p.at_) (pickAt ps k)) (Nat.le_of_eq htl),flat_set (hA k).2 _ _ (by rw [(hA k).1];exact hk) htl,out_take hK,applyP_snoc];rfl) (fun w56 m58 S57=> ?_))
      refine ⟨(c2_.1,m58),rfl, ?_,S57⟩
      intro i_ hi_ hne_ hdp_
      rcases i_ with _|_|_|_|_|_|_|_|i_
      ·rfl
      ·rfl
      ·rfl
      ·rfl
      ·rfl
      ·rfl
      ·rfl
      ·exact absurd rfl hne_
      ·exact absurd hi_ om_
     ·exact absurd hk_ (by simp)
    ·intro c2_ w1 hPh_
     have S59:=St.id hPh_
     refine (wE (inb_n (nR (gI .i64 (IntKind.i64.wrap (((k:Nat):Int)+1)) (((k:Nat):Int)+1) (wr_ok om_ om_) ?_))))
     refine pv (iv (((k:Nat):Int)+1)) ?_
     have S60:=St.pm 7 [6,1,2,3,4] S59
     exact wE (then_n ⟨k+1,(jE_ ⟨S60,om_⟩),(by show (crashKeys s).length-(k+1)<(crashKeys s).length-k;omega)⟩)
  ·refine wE (nS (cF (wp_exit (then_x (then_x (inb_x (nSR (pv (pq g) (g_ (gv_call (args:=#[pq g]) rfl Try.func116 kr_ rfl rfl kr_ ?_))))))))))
   have hkL:k=(crashKeys s).length:=by omega
   have hfin:(crashOuts s ps).take k=crashOuts s ps:=List.take_of_length_le (by rw [hkL];unfold crashOuts;rw [List.length_mapIdx];exact Nat.le_refl _)
   rw [hfin] at S16
   have S61:St F w0 w15 (dR g gd (512*s.last.length) gm fused left s.life s.rd s.wr s.fl s.rf (s.pend.length:Int)::row gd (bvs (applyP s.last (crashOuts s ps)).flatten) 5::pt gm (mapO (es.map PEnt.ent) clock)::L):=St.pm 5 [1,2,3] S16
   refine Calls.mono (settle_own S61) ?_
   rintro _ w62 ⟨rfl,S63⟩
   refine ⟨_,rfl,(wER (pv (pq g) (pv (pq g) (pv (po g 2) (sS S63 0 rfl 2 (.bool false) fun w64 S65=>wE (nR (pv (pq g) (pv (pq g) (pv (po g 4) (lR (iv s.life) S65 0 4 (pv (iv (inc s.life)) (pv (pq g) ?_))))))))))))⟩
   refine pv (po g 4) (sS S65 0 rfl 4 (iv (inc s.life)) fun w66 S67=>wE (bodyPost_end (v:=.tuple #[]) (results_none rfl _ _ _) rfl ?_))
   have hlf:(applyP s.last (crashOuts s ps)).length=s.last.length:=length_applyP _ _
   rw [←hlf] at S67
   have S9:=St.rot (LA:=[_,_,_]) (St.star_nil S67)
   exact ⟨rfl,St.pclose (gd:=gd) (gm:=gm) (clock:=clock) (es:=[]) (fused:=false) (left:=left) (s:=s.crashR ps) S9 (PFacts.settled (s':=s.crashR ps) hf hlf (applyP_all _ _ hf.len hol) rfl rfl (fun h=>absurd (show (0:Int)≤ -1 from h) dc_) (show (-1:Int)≤ -1∧(-1:Int)≤9223372036854775807 by decide))⟩
 ·obtain ⟨p,hpe,rfl,hpn⟩:=mem_left hel
  refine pv tv (wE (nS (cT (kN (wp_block (sR (g_ (gv_entry (g:=gm) (clock:=clock) (es:=es.map PEnt.ent) (gi:=gi2) (seen:=es1.map (·.b)) (e:=p.ent) S11 1 4 rfl rfl rfl kr_ (List.mem_map.2 ⟨p,hpe,rfl⟩) (fun y hy hb=>by obtain ⟨q,hq,rfl⟩:=List.mem_map.1 hy;rw [hf.injB hq hpe hb]) (pv (nI_ p.at_) (pv (nI_ p.at_) (wE (nR (pv v (pv (nI_ p.at_) ?_))))))))))))))
  refine g_ (gv_slit (e:=3) (sz:=1) (z:=iv 0) (by_:=8) (vs:=#[(0,nI_ p.at_)]) (cells:=#[nI_ p.at_]) S11 rfl kr_ ⟨by kernel_rfl⟩ kr_ kr_ kr_ kr_ (fun g68 w69 hg70 S71=>g_ (gv_append (e:=3) (sz:=1) (n:=es1.length) (v:=v) (vals:=((es1.map fun p=>((p.at_:Nat):Int)).map (Value.int .i64))) (z:=iv 0) (by_:=8) (m:=1) (c':=1) (ad:=⟨g68,0,none⟩) (news:=[nI_ p.at_]) (St.swap S71) rfl kr_ ⟨by kernel_rfl⟩ rfl kr_ kr_ dc_ rfl (row_news (S71.blk 0 rfl)) (by intro u hu;simp at hu;subst hu;rfl) om_ om_ (fun v73 w72 S74=>pv v73 (wE (iN ?_))))))
  have S75:St F w0 w72 (vec 3 1 v73 (es1.length+1) ((es1.map fun p=>((p.at_:Nat):Int)).map (Value.int .i64)++[nI_ p.at_])::pt gi2 (iterO gm clock (es1.map (·.b)++[p.b]))::dR g gd (512*s.last.length) gm fused left s.life s.rd s.wr s.fl s.rf (s.pend.length:Int)::row gd (bvs s.last.flatten) 5::pt gm (mapO (es.map PEnt.ent) clock)::stars (es.map PEnt.ast)::L):=St.pm 7 [0,2,3,4,5,6] S74
  rw [show es1.map (·.b)++[p.b]=(es1++[p]).map (·.b) from by rw [List.map_append];rfl,show (es1.map fun p=>((p.at_:Nat):Int)).map (Value.int .i64)++[nI_ p.at_]=((es1++[p]).map fun p=>((p.at_:Nat):Int)).map (Value.int .i64) from by rw [List.map_append,List.map_append];rfl,show es1.length+1=(es1++[p]).length from by rw [List.length_append];rfl] at S75
  exact ⟨(es1++[p],v73),(jE_ ⟨S75,⟨fun q hq=>(List.mem_append.1 hq).elim (hI9.1 q) (fun h=>(List.mem_singleton.1 h)▸hpe),(by rw [List.map_append];exact List.nodup_append.2 ⟨hI9.2,List.nodup_cons.2 ⟨List.not_mem_nil,List.nodup_nil⟩,fun a ha b hb=>by rw [List.map_singleton,List.mem_singleton] at hb;subst hb;exact fun e=>hpn (e▸ha)⟩)⟩⟩),(by show (leftE _ ((es1++[p]).map (·.b))).length<_;rw [List.map_append];exact left_less hel)⟩
section
variable {F:Nat→Prop} {w0 w:World} {L:List Ast}
theorem pd_burnt {g:Nat}{s:Dsk}(S:St F w0 w L)(i:Nat)(hi:L[i]?=some (PDisk g s)):Calls Try.prog 15 #[.pointer (some ⟨g,0,none⟩)] w fun e w'=>e=.returned (.bool (decide (s.left=0)))∧w=w':=by
 obtain ⟨gd,gm,clock,es,fused,left,hf,S1⟩:=St.popen (L:=[]) (S.mem i hi)
 exact burnt_b (S1.blk 0 rfl) hf.burnt
theorem pd_life {g:Nat}{s:Dsk}(S:St F w0 w L)(i:Nat)(hi:L[i]?=some (PDisk g s)):Calls Try.prog 16 #[.pointer (some ⟨g,0,none⟩)] w fun e w'=>e=.returned (.int .i64 s.life)∧w=w':=by
 obtain ⟨gd,gm,clock,es,fused,left,hf,S1⟩:=St.popen (L:=[]) (S.mem i hi)
 exact life_ro (S1.blk 0 rfl)
theorem pd_sectors {g:Nat}{s:Dsk}(S:St F w0 w L)(i:Nat)(hi:L[i]?=some (PDisk g s)):Calls Try.prog 14 #[.pointer (some ⟨g,0,none⟩)] w fun e w'=>e=.returned (.int .i64 (s.last.length:Int))∧w=w':=by
 obtain ⟨gd,gm,clock,es,fused,left,hf,S1⟩:=St.popen (L:=[]) (S.mem i hi)
 exact sectors_ro (S1.blk 0 rfl) rfl hf.n2
theorem pd_take {g:Nat}{s:Dsk}(S:St F w0 w (PDisk g s::L)):Calls Try.prog 63 #[.pointer (some ⟨g,0,none⟩)] w fun e w'=>e=.returned (.int .i64 (inc s.life))∧St F w0 w' (PDisk g {s with life:=inc s.life}::L):=by
 obtain ⟨gd,gm,clock,es,fused,left,hf,S⟩:=St.popen S
 refine (take_own S).mono fun e w' h=>⟨h.1,St.pclose (gd:=gd) (gm:=gm) (clock:=clock) (es:=es) (fused:=fused) (left:=left) (s:={s with life:=inc s.life}) h.2 (hf.congr rfl rfl rfl)⟩
theorem pd_counts {g:Nat}{s:Dsk}(S:St F w0 w (PDisk g s::L)):Calls Try.prog 17 #[.pointer (some ⟨g,0,none⟩)] w fun e w'=>e=.returned (.agg #[.int .i64 s.rd,.int .i64 s.wr,.int .i64 s.fl,.int .i64 s.rf,.int .i64 (s.pend.length:Int)])∧St F w0 w' (PDisk g s::L):=by
 obtain ⟨gd,gm,clock,es,fused,left,hf,S⟩:=St.popen S
 change St F w0 w (dR g gd (512*s.last.length) gm fused left s.life s.rd s.wr s.fl s.rf (s.pend.length:Int)::row gd (bvs s.last.flatten) 5::pt gm (mapO (es.map PEnt.ent) clock)::stars (es.map PEnt.ast)::L) at S
 exact eN (fr [pq g] 6) Try.func17 rfl (sR (nW rfl (.agg #[iv 0,iv 0,iv 0,iv 0,iv 0]) S fun g1 w2 hg3 S4=>wER (pv (pq g) (pv (pq g) (pv (po g 5) (g_ (gv_ldA (k:=5) (n:=5) (vs:=[iv s.rd,iv s.wr,iv s.fl,iv s.rf,iv (s.pend.length:Int)]) S4 1 rfl rfl kr_ kr_ rfl rfl (g_ (gv_stA (k:=0) (vs:=[iv s.rd,iv s.wr,iv s.fl,iv s.rf,iv (s.pend.length:Int)]) S4 0 rfl rfl kr_ kr_ kr_ rfl (by simp [Value.oneCell']) (Nat.le_of_ble_eq_true kr_) (L':=(row g1 #[iv s.rd,iv s.wr,iv s.fl,iv s.rf,iv (s.pend.length:Int)] 29::dR g gd (512*s.last.length) gm fused left s.life s.rd s.wr s.fl s.rf (s.pend.length:Int)::row gd (bvs s.last.flatten) 5::pt gm (mapO (es.map PEnt.ent) clock)::stars (es.map PEnt.ast)::L)) rfl (fun w5 S6=>wE (then_n (wp_ret (bodyPost_ret (v:=.agg #[iv s.rd,iv s.wr,iv s.fl,iv s.rf,iv (s.pend.length:Int)]) (results_cell1 rfl _ (S6.get 0 rfl) kr_ kr_) rfl ⟨rfl,St.pclose (gd:=gd) (gm:=gm) (clock:=clock) (es:=es) (fused:=fused) (left:=left) (s:=s) (St.tail S6) (hf.congr rfl rfl rfl)⟩)))))))))))))
theorem pd_image {g:Nat}{s:Dsk}(S:St F w0 w (PDisk g s::L)):Calls Try.prog 18 #[.pointer (some ⟨g,0,none⟩)] w fun e w'=>∃v,e=.returned v∧St F w0 w' (bytesA v s.last.flatten::PDisk g s::L):=by
 obtain ⟨gd,gm,clock,es,fused,left,hf,S⟩:=St.popen S
 have hn2:=hf.n2
 change St F w0 w (dR g gd (512*s.last.length) gm fused left s.life s.rd s.wr s.fl s.rf (s.pend.length:Int)::row gd (bvs s.last.flatten) 5::pt gm (mapO (es.map PEnt.ent) clock)::stars (es.map PEnt.ast)::L) at S
 refine eN (fr [pq g] 16) Try.func18 rfl (sR (pv (nS_) (wER (pv (pq g) (pv (pq g) (pv (pq g) (lR (sl gd 0 (512*s.last.length) (512*s.last.length)) S 0 0 (pv (iv (512*s.last.length:Nat)) (g_ (gv_make (e:=5) (u:=(512*s.last.length:Nat)) (v:=(512*s.last.length:Nat)) (z:=.int .u8 0) (sz:=1) (by_:=1) (n:=(512*s.last.length)) (c:=(512*s.last.length)) (cs:=(bvs (List.replicate (512*s.last.length) 0))) S rfl kr_ ⟨by kernel_rfl⟩ kr_ kr_ rfl rfl (Nat.le_refl _) om_ om_ (mk_bytes _) (fun g1 w2 hg3 S4=>pv (sl g1 0 (512*s.last.length) (512*s.last.length)) (wER (pv (sl g1 0 (512*s.last.length) (512*s.last.length)) (pv (pq g) ?_))))))))))))))
 exact pv (pq g) (pv (pq g) (lR (sl gd 0 (512*s.last.length) (512*s.last.length)) S4 1 0 (g_ (gv_copy (e:=5) (off:=0) (dLen:=(512*s.last.length)) (dCap:=(512*s.last.length)) (sLen:=(512*s.last.length)) (sCap:=(512*s.last.length)) (A:=(some ⟨gd,0,none⟩)) (B:=(List.replicate (512*s.last.length) 0)) (l:=s.last.flatten) S4 0 rfl rfl kr_ kr_ kr_ kr_ (flat_len hf.len).symm (RdB.row (S4.blk 2 rfl) 0 _ _ (by rw [List.drop_zero,List.take_of_length_le (Nat.le_of_eq (flat_len hf.len))])) (by rw [List.length_replicate];omega) (L':=(row g1 (bvs s.last.flatten) 5::dR g gd (512*s.last.length) gm fused left s.life s.rd s.wr s.fl s.rf (s.pend.length:Int)::row gd (bvs s.last.flatten) 5::pt gm (mapO (es.map PEnt.ent) clock)::stars (es.map PEnt.ast)::L)) (by rw [copy_all (flat_len hf.len)];rfl) (fun w5 m7 S6=>wER (pv (sl g1 0 (512*s.last.length) (512*s.last.length)) (pv (sl g1 0 (512*s.last.length) (512*s.last.length)) (wE (then_n (wp_ret (bA (sl g1 0 (512*s.last.length) (512*s.last.length)) ⟨_,rfl,St.bytes_row (St.swap (St.pclose (gd:=gd) (gm:=gm) (clock:=clock) (es:=es) (fused:=fused) (left:=left) (s:=s) (St.rot (LA:=pdParts g gd gm clock es fused left s) S6) (hf.congr rfl rfl rfl))) (flat_len hf.len).symm (flat_len hf.len).symm⟩)))))))))))
theorem pd_read {at_:Int}{g:Nat}{s:Dsk}(S:St F w0 w (PDisk g s::L)):Calls Try.prog 26 #[.pointer (some ⟨g,0,none⟩),.int .i64 at_] w fun e w'=>∃v,e=.returned (.tuple #[v,.int .i64 (s.readR at_).2.2])∧St F w0 w' (bytesA v (s.readR at_).2.1::PDisk g (s.readR at_).1::L):=by
 obtain ⟨gd,gm,clock,es,fused,left,hf,S⟩:=St.popen S
 have hn2:=hf.n2
 have hbu:=hf.burnt
 by_cases hz:s.left=0
 ·have e:s.readR at_=(s,[],3):=by unfold Dsk.readR;rw [if_pos hz]
  rw [e]
  have hb:(fused&&decide (left=0))=true:=by rw [hbu];exact decide_eq_true hz
  change St F w0 w (dR g gd (512*s.last.length) gm fused left s.life s.rd s.wr s.fl s.rf (s.pend.length:Int)::row gd (bvs s.last.flatten) 5::pt gm (mapO (es.map PEnt.ent) clock)::stars (es.map PEnt.ast)::L) at S
  refine eN (fr [pq g,iv at_] 28) Try.func26 rfl (sR (pv (nS_) (pv (iv 0) (wE (nS (sR (pv (pq g) (pv (iv at_) (sP Try.func79 #[pq g,iv at_] (there_dead hb S) fun w1 S2=>pv (iv 3) (wER (pv (iv 3) (dN 3 0 (fun _=> ?_) fun hd3=>False.elim om_))))))))))))
  exact wE (nCT (sR (pv (iv 3) (pv (nS_) (pv (iv 3) (wE (then_n (rR (bB (nS_) (iv 3) ⟨_,rfl,St.bytes_nil (St.pclose (gd:=gd) (gm:=gm) (clock:=clock) (es:=es) (fused:=fused) (left:=left) (s:=s) S2 (hf.congr rfl rfl rfl))⟩)))))))))
 have hb:(fused&&decide (left=0))=false:=by rw [hbu];exact decide_eq_false hz
 by_cases ho:at_<0∨(s.last.length:Int)≤at_
 ·have e:s.readR at_=({s with rf:=inc s.rf},[],11):=by unfold Dsk.readR;rw [if_neg hz,if_pos ho]
  rw [e]
  change St F w0 w (dR g gd (512*s.last.length) gm fused left s.life s.rd s.wr s.fl s.rf (s.pend.length:Int)::row gd (bvs s.last.flatten) 5::pt gm (mapO (es.map PEnt.ent) clock)::stars (es.map PEnt.ast)::L) at S
  refine eN (fr [pq g,iv at_] 28) Try.func26 rfl (sR (pv (nS_) (pv (iv 0) (wE (nS (sR (pv (pq g) (pv (iv at_) (sP Try.func79 #[pq g,iv at_] (there_out hb rfl hn2 ho S) fun w1 S2=>pv (iv 11) (wER (pv (iv 11) (dN 11 0 (fun _=> ?_) fun hd3=>False.elim om_))))))))))))
  exact wE (nCT (sR (pv (iv 11) (pv (nS_) (pv (iv 11) (wE (then_n (rR (bB (nS_) (iv 11) ⟨_,rfl,St.bytes_nil (St.pclose (gd:=gd) (gm:=gm) (clock:=clock) (es:=es) (fused:=fused) (left:=left) (s:={s with rf:=inc s.rf}) S2 (hf.congr rfl rfl rfl))⟩)))))))))
 obtain ⟨k,rfl⟩:∃k:Nat,at_=(k:Int):=⟨at_.toNat,by omega⟩
 have hk:k<s.last.length:=by omega
 have hsk:=mem_getD hk
 have hl5:=hf.len _ (List.mem_of_getElem? hsk)
 have hfl:=flat_sec hf.len k _ hsk
 have e:s.readR (k:Int)=({s with rd:=inc s.rd},s.now k,0):=by unfold Dsk.readR;rw [if_neg hz,if_neg ho,Int.toNat_natCast]
 rw [e]
 rcases hf.find k with ⟨hp,hno⟩|⟨j,p,hj,hat,hp,hne,hje,hke,hfe⟩
 ·rw [Dsk.now_none hp]
  change St F w0 w (dR g gd (512*s.last.length) gm fused left s.life s.rd s.wr s.fl s.rf (s.pend.length:Int)::row gd (bvs s.last.flatten) 5::pt gm (mapO (es.map PEnt.ent) clock)::stars (es.map PEnt.ast)::L) at S
  refine eN (fr [pq g,nI_ k] 28) Try.func26 rfl (sR (pv (nS_) (pv (iv 0) (wE (nS (sR (pv (pq g) (pv (nI_ k) (sP Try.func79 #[pq g,nI_ k] (there_in hb rfl hn2 hk S) fun w1 S2=>pv (iv 0) (wER (pv (iv 0) (dN 0 0 (fun hd3=>False.elim om_) fun _=> ?_))))))))))))
  refine wE (nCF (wp_skip (nSR (pv (pq g) (pv (pq g) (pv (po g 5) (pv (po g 5) (lR (iv s.rd) S2 0 5 (pv (iv (inc s.rd)) (pv (pq g) (pv (po g 5) (pv (po g 5) (sS S2 0 rfl 5 (iv (inc s.rd)) fun w4 S5=> ?_)))))))))))))
  refine wER (g_ (gv_make (e:=5) (u:=512) (v:=512) (z:=.int .u8 0) (sz:=1) (by_:=1) (n:=512) (c:=512) (cs:=(bvs (List.replicate 512 0))) S5 rfl kr_ ⟨by kernel_rfl⟩ kr_ kr_ rfl rfl (Nat.le_refl _) dc_ dc_ (mk_bytes _) (fun g6 w7 hg8 S9=>pv (sl g6 0 512 512) (wER (pv (sl g6 0 512 512) (pv (pq g) (pv (nI_ k) (sO Try.func80 #[pq g,nI_ k] (now_home (S9.blk 1 rfl) rfl rfl hn2 hk (S9.get 3 rfl) hno) (g_ (gv_copy (e:=5) (off:=0) (dLen:=512) (dCap:=512) (sLen:=512) (sCap:=(512*s.last.length-512*k)) (A:=(some ⟨gd,512*k,none⟩)) (B:=(List.replicate 512 0)) (l:=(s.last.getD k [])) S9 0 rfl rfl kr_ kr_ kr_ kr_ hl5.symm (RdB.row (S9.blk 2 rfl) _ 512 _ hfl.symm) (by simp) (L':=(row g6 (bvs (s.last.getD k [])) 5::dR g gd (512*s.last.length) gm fused left s.life (inc s.rd) s.wr s.fl s.rf (s.pend.length:Int)::row gd (bvs s.last.flatten) 5::pt gm (mapO (es.map PEnt.ent) clock)::stars (es.map PEnt.ast)::L)) (by rw [copy512 hl5];rfl) (fun w10 m12 S11=>wER (pv (sl g6 0 512 512) (pv (sl g6 0 512 512) (pv (iv 0) (wE ?_)))))))))))))))
  exact then_n (wp_ret (bB (sl g6 0 512 512) (iv 0) ⟨_,rfl,St.bytes_row (St.swap (St.pclose (gd:=gd) (gm:=gm) (clock:=clock) (es:=es) (fused:=fused) (left:=left) (s:={s with rd:=inc s.rd}) (St.rot (LA:=pdParts g gd gm clock es fused left ({s with rd:=inc s.rd})) S11) (hf.congr rfl rfl rfl))) hl5.symm hl5.symm⟩))
 ·obtain ⟨x,hx,hxl,hxm⟩:=last_some (f:=Prod.snd) hne
  rw [Dsk.now_some hp hxl]
  have hx5:x.2.length=512:=by
   have h1:x.2∈pendOf s k:=by rw [hp];exact List.mem_map.2 ⟨x,hxm,rfl⟩
   obtain ⟨y,hy,e1⟩:=List.mem_map.1 h1
   rw [←e1];exact (hf.plen y (List.mem_filter.1 hy).1).1
  have hq0:=List.length_pos_iff.2 hne
  have hqm:p.ws.length≤9223372036854775807:=by
   have h1:=hf.pn
   have h2:p.ws.length=(pendOf s k).length:=by rw [hp,List.length_map]
   have h3:(pendOf s k).length≤s.pend.length:=by unfold pendOf;rw [List.length_map];exact List.length_filter_le _ _
   omega
  change St F w0 w (dR g gd (512*s.last.length) gm fused left s.life s.rd s.wr s.fl s.rf (s.pend.length:Int)::row gd (bvs s.last.flatten) 5::pt gm (mapO (es.map PEnt.ent) clock)::stars (es.map PEnt.ast)::L) at S
  refine eN (fr [pq g,nI_ k] 28) Try.func26 rfl (sR (pv (nS_) (pv (iv 0) (wE (nS (sR (pv (pq g) (pv (nI_ k) (sP Try.func79 #[pq g,nI_ k] (there_in hb rfl hn2 hk S) fun w1 S2=>pv (iv 0) (wER (pv (iv 0) (dN 0 0 (fun hd3=>False.elim om_) fun _=> ?_))))))))))))
  refine wE (nCF (wp_skip (nSR (pv (pq g) (pv (pq g) (pv (po g 5) (pv (po g 5) (lR (iv s.rd) S2 0 5 (pv (iv (inc s.rd)) (pv (pq g) (pv (po g 5) (pv (po g 5) (sS S2 0 rfl 5 (iv (inc s.rd)) fun w4 S5=> ?_)))))))))))))
  refine wER (g_ (gv_make (e:=5) (u:=512) (v:=512) (z:=.int .u8 0) (sz:=1) (by_:=1) (n:=512) (c:=512) (cs:=(bvs (List.replicate 512 0))) S5 rfl kr_ ⟨by kernel_rfl⟩ kr_ kr_ rfl rfl (Nat.le_refl _) dc_ dc_ (mk_bytes _) (fun g6 w7 hg8 S9=>pv (sl g6 0 512 512) (wER (pv (sl g6 0 512 512) (pv (pq g) (pv (nI_ k) (g_ (gv_call (args:=#[pq g,nI_ k]) rfl Try.func80 kr_ rfl rfl kr_ ?_)))))))))
  obtain ⟨gb,cb,cells,hv,HV,hcell,hdat⟩:=pend_facts S9 4 rfl hj hne
  refine Calls.mono (now_pend (S9.blk 1 rfl) (S9.get 3 rfl) hje hke hfe hv hq0 hqm HV (hcell _ _ hx)) ?_
  rintro _ _ ⟨rfl,rfl⟩
  exact ⟨_,rfl,(g_ (gv_copy (e:=5) (off:=0) (dLen:=512) (dCap:=512) (sLen:=512) (sCap:=512) (A:=(some ⟨x.1,0,none⟩)) (B:=(List.replicate 512 0)) (l:=x.2) S9 0 rfl rfl kr_ kr_ kr_ kr_ hx5.symm (RdB.row (hdat x hxm) 0 512 _ (by rw [List.drop_zero,List.take_of_length_le om_])) (by simp) (L':=(row g6 (bvs x.2) 5::dR g gd (512*s.last.length) gm fused left s.life (inc s.rd) s.wr s.fl s.rf (s.pend.length:Int)::row gd (bvs s.last.flatten) 5::pt gm (mapO (es.map PEnt.ent) clock)::stars (es.map PEnt.ast)::L)) (by rw [copy512 hx5];rfl) (fun w10 m12 S11=>wER (pv (sl g6 0 512 512) (pv (sl g6 0 512 512) (pv (iv 0) (wE (then_n (wp_ret (bB (sl g6 0 512 512) (iv 0) ⟨_,rfl,St.bytes_row (St.swap (St.pclose (gd:=gd) (gm:=gm) (clock:=clock) (es:=es) (fused:=fused) (left:=left) (s:={s with rd:=inc s.rd}) (St.rot (LA:=pdParts g gd gm clock es fused left ({s with rd:=inc s.rd})) S11) (hf.congr rfl rfl rfl))) hx5.symm hx5.symm⟩))))))))))⟩
end
theorem pd_write {F:Nat→Prop}{w0 w:World}{L:List Ast}{g:Nat}{s:Dsk}{at_:Int}{A:Option Addr}{d:List UInt8}{cd:Nat}(S:St F w0 w (PDisk g s::L))(hr:RoT F w0 L A d)(hdm:d.length≤9223372036854775807)(hpn:s.pend.length<4398046511104):
  Calls Try.prog 33 #[pq g,iv at_,.slice A d.length cd] w fun e w'=>e=.returned (iv (s.writeR at_ d).2)∧St F w0 w' (PDisk g (s.writeR at_ d).1::L):=by
 obtain ⟨gd,gm,clock,es,fused,left,hf,S⟩:=St.popen S
 have hn2:=hf.n2
 have hbu:=hf.burnt
 by_cases hz:s.left=0
 ·have e:s.writeR at_ d=(s,3):=by unfold Dsk.writeR;rw [if_pos hz]
  rw [e]
  have hb:(fused&&decide (left=0))=true:=by rw [hbu];exact decide_eq_true hz
  change St F w0 w (dR g gd (512*s.last.length) gm fused left s.life s.rd s.wr s.fl s.rf (s.pend.length:Int)::row gd (bvs s.last.flatten) 5::pt gm (mapO (es.map PEnt.ent) clock)::stars (es.map PEnt.ast)::L) at S
  refine eN (fr [pq g,iv at_,.slice A d.length cd] 62) Try.func33 rfl (sR (pv (iv 0) (wE (nS (sR (pv (pq g) (pv (iv at_) (sP Try.func79 #[pq g,iv at_] (there_dead hb S) fun w1 S2=>pv (iv 3) (wER (pv (iv 3) (dN 3 0 (fun _=>wE ?_) fun hd3=>False.elim om_)))))))))))
  exact nCT (sR (pv (iv 3) (pv (iv 3) (wE (then_n (rR (bA (iv 3) ⟨rfl,St.pclose (gd:=gd) (gm:=gm) (clock:=clock) (es:=es) (fused:=fused) (left:=left) (s:=s) S2 (hf.congr rfl rfl rfl)⟩)))))))
 have hb:(fused&&decide (left=0))=false:=by rw [hbu];exact decide_eq_false hz
 by_cases ho:at_<0∨(s.last.length:Int)≤at_
 ·have e:s.writeR at_ d=({s with rf:=inc s.rf},11):=by unfold Dsk.writeR;rw [if_neg hz,if_pos ho]
  rw [e]
  change St F w0 w (dR g gd (512*s.last.length) gm fused left s.life s.rd s.wr s.fl s.rf (s.pend.length:Int)::row gd (bvs s.last.flatten) 5::pt gm (mapO (es.map PEnt.ent) clock)::stars (es.map PEnt.ast)::L) at S
  refine eN (fr [pq g,iv at_,.slice A d.length cd] 62) Try.func33 rfl (sR (pv (iv 0) (wE (nS (sR (pv (pq g) (pv (iv at_) (sP Try.func79 #[pq g,iv at_] (there_out hb rfl hn2 ho S) fun w1 S2=>pv (iv 11) (wER (pv (iv 11) (dN 11 0 (fun _=>wE ?_) fun hd3=>False.elim om_)))))))))))
  exact nCT (sR (pv (iv 11) (pv (iv 11) (wE (then_n (rR (bA (iv 11) ⟨rfl,St.pclose (gd:=gd) (gm:=gm) (clock:=clock) (es:=es) (fused:=fused) (left:=left) (s:={s with rf:=inc s.rf}) S2 (hf.congr rfl rfl rfl)⟩)))))))
 obtain ⟨k,rfl⟩:∃k:Nat,at_=(k:Int):=⟨at_.toNat,by omega⟩
 have hk:k<s.last.length:=by omega
 by_cases hd5:d.length≠512
 ·have e:s.writeR (k:Int) d=({s with rf:=inc s.rf},2):=by unfold Dsk.writeR;rw [if_neg hz,if_neg ho,if_pos hd5]
  rw [e]
  change St F w0 w (dR g gd (512*s.last.length) gm fused left s.life s.rd s.wr s.fl s.rf (s.pend.length:Int)::row gd (bvs s.last.flatten) 5::pt gm (mapO (es.map PEnt.ent) clock)::stars (es.map PEnt.ast)::L) at S
  refine eN (fr [pq g,nI_ k,.slice A d.length cd] 62) Try.func33 rfl (sR (pv (iv 0) (wE (nS (sR (pv (pq g) (pv (nI_ k) (sP Try.func79 #[pq g,nI_ k] (there_in hb rfl hn2 hk S) fun w1 S2=>pv (iv 0) (wER (pv (iv 0) (dN 0 0 (fun hd3=>False.elim om_) fun _=>wE ?_)))))))))))
  refine nCF (wp_skip (nS (sR (pv (.slice A d.length cd) (pv (iv (d.length:Nat)) (dN (d.length:Nat) 512 (fun _=>wE (nCT (sR (pv (pq g) (pv (pq g) (pv (po g 5) (pv (po g 8) ?_))))))) fun hd4=>False.elim om_))))))
  exact lR (iv s.rf) S2 0 8 (pv (iv (inc s.rf)) (pv (pq g) (pv (po g 5) (pv (po g 8) (sS S2 0 rfl 8 (iv (inc s.rf)) fun w5 S6=>wER (pv (iv 2) (wE (then_n (rR (bA (iv 2) ⟨rfl,St.pclose (gd:=gd) (gm:=gm) (clock:=clock) (es:=es) (fused:=fused) (left:=left) (s:={s with rf:=inc s.rf}) S6 (hf.congr rfl rfl rfl)⟩))))))))))
 have hd:d.length=512:=by omega
 have e:s.writeR (k:Int) d=({s with pend:=s.pend++[(k,d)],wr:=inc s.wr,left:=spent s.left},0):=by unfold Dsk.writeR;rw [if_neg hz,if_neg ho,if_neg hd5,Int.toNat_natCast]
 rw [e]
 have hsp:=hf.spend hz
 have hlb:=spent_lb hf.lb hz
 rcases hf.find k with ⟨hp,hno⟩|⟨j,p,hj,hat,hp,hne,hje,hke,hfe⟩
 ·rcases hsp with ⟨rfl,hdc,hde⟩|⟨rfl,hdc,hde⟩
  ·change St F w0 w (dR g gd (512*s.last.length) gm true left s.life s.rd s.wr s.fl s.rf (s.pend.length:Int)::row gd (bvs s.last.flatten) 5::pt gm (mapO (es.map PEnt.ent) clock)::stars (es.map PEnt.ast)::L) at S
   refine eN (fr [pq g,nI_ k,.slice A d.length cd] 62) Try.func33 rfl (sR (pv (iv 0) (wE (nS (sR (pv (pq g) (pv (nI_ k) (sP Try.func79 #[pq g,nI_ k] (there_in hb rfl hn2 hk S) fun w1 S2=>pv (iv 0) (wER (pv (iv 0) (dN 0 0 (fun hd3=>False.elim om_) fun _=>wE ?_)))))))))))
   refine nCF (wp_skip (nS (sR (pv (.slice A d.length cd) (pv (iv (d.length:Nat)) (dN (d.length:Nat) 512 (fun hd4=>False.elim om_) fun _=>wE (nCF (wp_skip (nSR (g_ (gv_make (e:=5) (u:=512) (v:=512) (z:=.int .u8 0) (sz:=1) (by_:=1) (n:=512) (c:=512) (cs:=(bvs (List.replicate 512 0))) S2 rfl kr_ ⟨by kernel_rfl⟩ kr_ kr_ rfl rfl (Nat.le_refl _) dc_ dc_ (mk_bytes _) (fun g5 w6 hg7 S8=>pv (sl g5 0 512 512) (wER ?_)))))))))))))
   refine pv (sl g5 0 512 512) (pv (.slice A d.length cd) (g_ (gv_copy (e:=5) (off:=0) (dLen:=512) (dCap:=512) (sLen:=d.length) (sCap:=cd) (A:=A) (B:=(List.replicate 512 0)) (l:=d) S8 0 rfl rfl kr_ kr_ kr_ kr_ rfl (hr.out _ [row g5 (bvs (List.replicate 512 0)) 5,dR g gd (512*s.last.length) gm true left s.life s.rd s.wr s.fl s.rf (s.pend.length:Int),row gd (bvs s.last.flatten) 5,pt gm (mapO (es.map PEnt.ent) clock),stars (es.map PEnt.ast)] S8) (by simp) (L':=(row g5 (bvs d) 5::dR g gd (512*s.last.length) gm true left s.life s.rd s.wr s.fl s.rf (s.pend.length:Int)::row gd (bvs s.last.flatten) 5::pt gm (mapO (es.map PEnt.ent) clock)::stars (es.map PEnt.ast)::L)) (by rw [copy512 hd];rfl) (fun w9 m11 S10=>wE (nS ?_)))))
   have S12:St F w0 w9 (vec 31 1 (nS_) 0 []::row g5 (bvs d) 5::dR g gd (512*s.last.length) gm true left s.life s.rd s.wr s.fl s.rf (s.pend.length:Int)::row gd (bvs s.last.flatten) 5::pt gm (mapO (es.map PEnt.ent) clock)::stars (es.map PEnt.ast)::L):=St.vec_nil S10
   refine wp_region_phu (γ:=Nat×Value) 14 [12,13] (fun (c_:Nat×Value) (i_:Nat)=>(match i_ with|0=>pq g|1=>pq g|2=>po g 1|3=>.map (some gm)|4=>nI_ k|5=>pq g|6=>pq g|7=>po g 1|8=>.map (some gm)|9=>nI_ k|10=>nS_|11=>sl g5 0 512 512|12=>sl c_.1 0 1 1|13=>c_.2|_=>undef:Value)) (fun (c_:Nat×Value) (p_:Nat) (w_:World)=>(match p_ with|0=>St F w0 w_ (vec 31 1 (nS_) 0 []::row g5 (bvs d) 5::dR g gd (512*s.last.length) gm true left s.life s.rd s.wr s.fl s.rf (s.pend.length:Int)::row gd (bvs s.last.flatten) 5::pt gm (mapO (es.map PEnt.ent) clock)::stars (es.map PEnt.ast)::L)|1=>St F w0 w_ (row c_.1 #[sl g5 0 512 512] 31::vec 31 1 (nS_) 0 []::row g5 (bvs d) 5::dR g gd (512*s.last.length) gm true left s.life s.rd s.wr s.fl s.rf (s.pend.length:Int)::row gd (bvs s.last.flatten) 5::pt gm (mapO (es.map PEnt.ent) clock)::stars (es.map PEnt.ast)::L)|_=>St F w0 w_ (vec 31 1 c_.2 1 [sl g5 0 512 512]::row c_.1 #[sl g5 0 512 512] 31::row g5 (bvs d) 5::dR g gd (512*s.last.length) gm true left s.life s.rd s.wr s.fl s.rf (s.pend.length:Int)::row gd (bvs s.last.flatten) 5::pt gm (mapO (es.map PEnt.ent) clock)::stars (es.map PEnt.ast)::L):Prop)) (0,undef) kr_ kr_ kr_ kr_ (S12.drew) ?_ ?_ ?_
   ·intro i_ c_ p_ vals_ w1 hi_ hiE_ hp_ hk_ hu_ hPh_ hd_
    rcases i_ with _|_|_|_|_|_|_|_|_|_|_|_|_|_|i_
    ·exact tG_ rfl hd_ (gV (pq g) ⟨rfl,rfl⟩)
    ·exact tG_ rfl hd_ (gV (pq g) ⟨rfl,rfl⟩)
    ·exact tG_ rfl hd_ (gV (po g 1) ⟨rfl,rfl⟩)
    ·rcases p_ with _|_|_|p_
     ·have S16:=St.id hPh_
      exact tG_ rfl hd_ (gL (.map (some gm)) rfl (((S16.blk 2 rfl).cell 1).trans rfl) ⟨rfl,rfl⟩)
     ·have S17:=St.id hPh_
      exact tG_ rfl hd_ (gL (.map (some gm)) rfl (((S17.blk 3 rfl).cell 1).trans rfl) ⟨rfl,rfl⟩)
     ·have S18:=St.id hPh_
      exact tG_ rfl hd_ (gL (.map (some gm)) rfl (((S18.blk 3 rfl).cell 1).trans rfl) ⟨rfl,rfl⟩)
     ·exact absurd hp_ (by simp)
    ·exact tG_ rfl hd_ (gV (nI_ k) ⟨rfl,rfl⟩)
    ·exact tG_ rfl hd_ (gV (pq g) ⟨rfl,rfl⟩)
    ·exact tG_ rfl hd_ (gV (pq g) ⟨rfl,rfl⟩)
    ·exact tG_ rfl hd_ (gV (po g 1) ⟨rfl,rfl⟩)
    ·rcases p_ with _|_|_|p_
     ·have S23:=St.id hPh_
      exact tG_ rfl hd_ (gL (.map (some gm)) rfl (((S23.blk 2 rfl).cell 1).trans rfl) ⟨rfl,rfl⟩)
     ·have S24:=St.id hPh_
      exact tG_ rfl hd_ (gL (.map (some gm)) rfl (((S24.blk 3 rfl).cell 1).trans rfl) ⟨rfl,rfl⟩)
     ·exact absurd (hu_ 1 dc_ kr_) dc_
     ·exact absurd hp_ (by simp)
    ·exact tG_ rfl hd_ (gV (nI_ k) ⟨rfl,rfl⟩)
    ·rcases p_ with _|_|_|p_
     ·have S26:=St.id hPh_
      exact tG_ rfl hd_ (gv_look_none (kT:=3) (eT:=42) (k:=((k:Nat):Int)) (z:=nS_) (S26.get 4 rfl) rfl kr_ kr_ kr_ kr_ kr_ hno ⟨rfl,rfl⟩)
     ·have S27:=St.id hPh_
      exact tG_ rfl hd_ (gv_look_none (kT:=3) (eT:=42) (k:=((k:Nat):Int)) (z:=nS_) (S27.get 5 rfl) rfl kr_ kr_ kr_ kr_ kr_ hno ⟨rfl,rfl⟩)
     ·exact absurd (hu_ 1 dc_ kr_) dc_
     ·exact absurd hp_ (by simp)
    ·exact tG_ rfl hd_ (gV (sl g5 0 512 512) ⟨rfl,rfl⟩)
    ·exact absurd hiE_ dc_
    ·exact absurd hiE_ dc_
    ·exact absurd hi_ om_
   ·intro k_ c_ vals_ w1 hk_ hPh_ hd_
    rcases k_ with _|_|k_
    ·have S29:=St.id hPh_
     refine tG_ rfl hd_ (gv_slit (e:=31) (sz:=1) (z:=nS_) (by_:=24) (vs:=#[(0,sl g5 0 512 512)]) (cells:=#[sl g5 0 512 512]) S29 rfl kr_ ⟨by kernel_rfl⟩ kr_ kr_ kr_ kr_ (fun g30 w31 hg32 S33=>⟨(g30,c_.2),rfl, ?_,S33⟩))
     intro i_ hi_ hne_ hdp_
     rcases i_ with _|_|_|_|_|_|_|_|_|_|_|_|_|_|i_
     ·rfl
     ·rfl
     ·rfl
     ·rfl
     ·rfl
     ·rfl
     ·rfl
     ·rfl
     ·rfl
     ·rfl
     ·rfl
     ·rfl
     ·exact absurd rfl hne_
     ·exact dN_ hdp_
     ·exact absurd hi_ om_
    ·have S34:=St.id hPh_
     refine tG_ rfl hd_ (gv_append (e:=31) (sz:=1) (n:=0) (v:=(nS_)) (vals:=[]) (z:=nS_) (by_:=24) (m:=1) (c':=1) (ad:=⟨c_.1,0,none⟩) (news:=[sl g5 0 512 512]) (St.swap S34) rfl kr_ ⟨by kernel_rfl⟩ rfl kr_ kr_ dc_ rfl (row_news (S34.blk 0 rfl)) (by intro u hu;simp at hu;subst hu;rfl) om_ om_ (fun v36 w35 S37=>⟨(c_.1,v36),rfl, ?_,S37⟩))
     intro i_ hi_ hne_ hdp_
     rcases i_ with _|_|_|_|_|_|_|_|_|_|_|_|_|_|i_
     ·rfl
     ·rfl
     ·rfl
     ·rfl
     ·rfl
     ·rfl
     ·rfl
     ·rfl
     ·rfl
     ·rfl
     ·rfl
     ·rfl
     ·rfl
     ·exact absurd rfl hne_
     ·exact absurd hi_ om_
    ·exact absurd hk_ (by simp)
   ·intro c_ w1 hPh_
    have S38:=St.id hPh_
    refine (g_ (gv_put_new (kT:=3) (eT:=42) (g:=gm) (clock:=clock) (es:=es.map PEnt.ent) (k:=((k:Nat):Int)) (v:=c_.2) S38 5 rfl rfl kr_ kr_ kr_ kr_ kr_ hno (L':=(vec 31 1 c_.2 1 [sl g5 0 512 512]::row c_.1 #[sl g5 0 512 512] 31::row g5 (bvs d) 5::dR g gd (512*s.last.length) gm true left s.life s.rd s.wr s.fl s.rf (s.pend.length:Int)::row gd (bvs s.last.flatten) 5::pt gm (mapO (es.map PEnt.ent++[⟨((k:Nat):Int),c_.2,clock⟩]) (clock+1))::stars (es.map PEnt.ast)::L)) rfl (fun w39 S40=>wE ?_)))
    refine nSR (pv (pq g) (pv (pq g) (pv (po g 5) (pv (po g 6) (lR (iv s.wr) S40 3 6 (pv (iv (inc s.wr)) (pv (pq g) (pv (po g 5) (pv (po g 6) (sS S40 3 rfl 6 (iv (inc s.wr)) fun w41 S42=>wER (pv (pq g) (pv (pq g) ?_))))))))))))
    refine pv (po g 5) (pv (po g 9) (lR (iv (s.pend.length:Int)) S42 3 9 (gI .i64 (IntKind.i64.wrap ((s.pend.length:Int)+1)) ((s.pend.length+1:Nat):Int) wq_ (pv (pq g) (pv (po g 5) (pv (po g 9) (sS S42 3 rfl 9 (nI_ (s.pend.length+1)) fun w43 S44=>wER (pv (pq g) (g_ (gv_call (args:=#[pq g]) rfl Try.func83 kr_ rfl rfl kr_ ?_))))))))))
    have S45:St F w0 w43 (vec 31 1 c_.2 1 [sl g5 0 512 512]::row g5 (bvs d) 5::dR g gd (512*s.last.length) gm true left s.life s.rd (inc s.wr) s.fl s.rf ((s.pend.length+1:Nat):Int)::row gd (bvs s.last.flatten) 5::pt gm (mapO (es.map PEnt.ent++[⟨((k:Nat):Int),c_.2,clock⟩]) (clock+1))::stars (es.map PEnt.ast)::L):=St.pm 7 [0,2,3,4,5,6] S44
    have em:es.map PEnt.ent++[⟨((k:Nat):Int),c_.2,clock⟩]=(es++[(⟨k,c_.2,clock,[(g5,d)]⟩:PEnt)]).map PEnt.ent:=by rw [List.map_append];rfl
    have S46:St F w0 w43 (dR g gd (512*s.last.length) gm true left s.life s.rd (inc s.wr) s.fl s.rf ((s.pend.length+1:Nat):Int)::row gd (bvs s.last.flatten) 5::pt gm (mapO (es.map PEnt.ent++[⟨((k:Nat):Int),c_.2,clock⟩]) (clock+1))::stars ((es++[(⟨k,c_.2,clock,[(g5,d)]⟩:PEnt)]).map PEnt.ast)::L):=entry_new S45
    rw [em] at S46
    refine Calls.mono (spend_true S46) ?_
    rintro _ w47 ⟨rfl,S48⟩
    refine ⟨_,rfl,(wER (pv (iv 0) (wE (then_n (wp_ret (bA (iv 0) ?_))))))⟩
    have hl1:((s.pend.length+1:Nat):Int)=((s.pend++[(k,d)]).length:Nat):=by rw [List.length_append];rfl
    rw [hl1] at S48
    exact ⟨rfl,St.pclose (gd:=gd) (gm:=gm) (clock:=clock+1) (es:=es++[(⟨k,c_.2,clock,[(g5,d)]⟩:PEnt)]) (fused:=true) (left:=dec left) (s:={s with pend:=s.pend++[(k,d)],wr:=inc s.wr,left:=spent s.left}) S48 (PFacts.refuse (s':={s with pend:=s.pend++[(k,d)],wr:=inc s.wr,left:=spent s.left}) (hf.write_new (s':={s with pend:=s.pend++[(k,d)]}) (go:=g5) (d:=d) (v':=c_.2) hp hno hk hd hpn rfl rfl rfl) rfl rfl hdc.symm (fun _=>hde) hlb)⟩
  ·change St F w0 w (dR g gd (512*s.last.length) gm false left s.life s.rd s.wr s.fl s.rf (s.pend.length:Int)::row gd (bvs s.last.flatten) 5::pt gm (mapO (es.map PEnt.ent) clock)::stars (es.map PEnt.ast)::L) at S
   refine eN (fr [pq g,nI_ k,.slice A d.length cd] 62) Try.func33 rfl (sR (pv (iv 0) (wE (nS (sR (pv (pq g) (pv (nI_ k) (sP Try.func79 #[pq g,nI_ k] (there_in hb rfl hn2 hk S) fun w1 S2=>pv (iv 0) (wER (pv (iv 0) (dN 0 0 (fun hd3=>False.elim om_) fun _=>wE ?_)))))))))))
   refine nCF (wp_skip (nS (sR (pv (.slice A d.length cd) (pv (iv (d.length:Nat)) (dN (d.length:Nat) 512 (fun hd4=>False.elim om_) fun _=>wE (nCF (wp_skip (nSR (g_ (gv_make (e:=5) (u:=512) (v:=512) (z:=.int .u8 0) (sz:=1) (by_:=1) (n:=512) (c:=512) (cs:=(bvs (List.replicate 512 0))) S2 rfl kr_ ⟨by kernel_rfl⟩ kr_ kr_ rfl rfl (Nat.le_refl _) dc_ dc_ (mk_bytes _) (fun g5 w6 hg7 S8=>pv (sl g5 0 512 512) (wER ?_)))))))))))))
   refine pv (sl g5 0 512 512) (pv (.slice A d.length cd) (g_ (gv_copy (e:=5) (off:=0) (dLen:=512) (dCap:=512) (sLen:=d.length) (sCap:=cd) (A:=A) (B:=(List.replicate 512 0)) (l:=d) S8 0 rfl rfl kr_ kr_ kr_ kr_ rfl (hr.out _ [row g5 (bvs (List.replicate 512 0)) 5,dR g gd (512*s.last.length) gm false left s.life s.rd s.wr s.fl s.rf (s.pend.length:Int),row gd (bvs s.last.flatten) 5,pt gm (mapO (es.map PEnt.ent) clock),stars (es.map PEnt.ast)] S8) (by simp) (L':=(row g5 (bvs d) 5::dR g gd (512*s.last.length) gm false left s.life s.rd s.wr s.fl s.rf (s.pend.length:Int)::row gd (bvs s.last.flatten) 5::pt gm (mapO (es.map PEnt.ent) clock)::stars (es.map PEnt.ast)::L)) (by rw [copy512 hd];rfl) (fun w9 m11 S10=>wE (nS ?_)))))
   have S12:St F w0 w9 (vec 31 1 (nS_) 0 []::row g5 (bvs d) 5::dR g gd (512*s.last.length) gm false left s.life s.rd s.wr s.fl s.rf (s.pend.length:Int)::row gd (bvs s.last.flatten) 5::pt gm (mapO (es.map PEnt.ent) clock)::stars (es.map PEnt.ast)::L):=St.vec_nil S10
   refine wp_region_phu (γ:=Nat×Value) 14 [12,13] (fun (c_:Nat×Value) (i_:Nat)=>(match i_ with|0=>pq g|1=>pq g|2=>po g 1|3=>.map (some gm)|4=>nI_ k|5=>pq g|6=>pq g|7=>po g 1|8=>.map (some gm)|9=>nI_ k|10=>nS_|11=>sl g5 0 512 512|12=>sl c_.1 0 1 1|13=>c_.2|_=>undef:Value)) (fun (c_:Nat×Value) (p_:Nat) (w_:World)=>(match p_ with|0=>St F w0 w_ (vec 31 1 (nS_) 0 []::row g5 (bvs d) 5::dR g gd (512*s.last.length) gm false left s.life s.rd s.wr s.fl s.rf (s.pend.length:Int)::row gd (bvs s.last.flatten) 5::pt gm (mapO (es.map PEnt.ent) clock)::stars (es.map PEnt.ast)::L)|1=>St F w0 w_ (row c_.1 #[sl g5 0 512 512] 31::vec 31 1 (nS_) 0 []::row g5 (bvs d) 5::dR g gd (512*s.last.length) gm false left s.life s.rd s.wr s.fl s.rf (s.pend.length:Int)::row gd (bvs s.last.flatten) 5::pt gm (mapO (es.map PEnt.ent) clock)::stars (es.map PEnt.ast)::L)|_=>St F w0 w_ (vec 31 1 c_.2 1 [sl g5 0 512 512]::row c_.1 #[sl g5 0 512 512] 31::row g5 (bvs d) 5::dR g gd (512*s.last.length) gm false left s.life s.rd s.wr s.fl s.rf (s.pend.length:Int)::row gd (bvs s.last.flatten) 5::pt gm (mapO (es.map PEnt.ent) clock)::stars (es.map PEnt.ast)::L):Prop)) (0,undef) kr_ kr_ kr_ kr_ (S12.drew) ?_ ?_ ?_
   ·intro i_ c_ p_ vals_ w1 hi_ hiE_ hp_ hk_ hu_ hPh_ hd_
    rcases i_ with _|_|_|_|_|_|_|_|_|_|_|_|_|_|i_
    ·exact tG_ rfl hd_ (gV (pq g) ⟨rfl,rfl⟩)
    ·exact tG_ rfl hd_ (gV (pq g) ⟨rfl,rfl⟩)
    ·exact tG_ rfl hd_ (gV (po g 1) ⟨rfl,rfl⟩)
    ·rcases p_ with _|_|_|p_
     ·have S16:=St.id hPh_
      exact tG_ rfl hd_ (gL (.map (some gm)) rfl (((S16.blk 2 rfl).cell 1).trans rfl) ⟨rfl,rfl⟩)
     ·have S17:=St.id hPh_
      exact tG_ rfl hd_ (gL (.map (some gm)) rfl (((S17.blk 3 rfl).cell 1).trans rfl) ⟨rfl,rfl⟩)
     ·have S18:=St.id hPh_
      exact tG_ rfl hd_ (gL (.map (some gm)) rfl (((S18.blk 3 rfl).cell 1).trans rfl) ⟨rfl,rfl⟩)
     ·exact absurd hp_ (by simp)
    ·exact tG_ rfl hd_ (gV (nI_ k) ⟨rfl,rfl⟩)
    ·exact tG_ rfl hd_ (gV (pq g) ⟨rfl,rfl⟩)
    ·exact tG_ rfl hd_ (gV (pq g) ⟨rfl,rfl⟩)
    ·exact tG_ rfl hd_ (gV (po g 1) ⟨rfl,rfl⟩)
    ·rcases p_ with _|_|_|p_
     ·have S23:=St.id hPh_
      exact tG_ rfl hd_ (gL (.map (some gm)) rfl (((S23.blk 2 rfl).cell 1).trans rfl) ⟨rfl,rfl⟩)
     ·have S24:=St.id hPh_
      exact tG_ rfl hd_ (gL (.map (some gm)) rfl (((S24.blk 3 rfl).cell 1).trans rfl) ⟨rfl,rfl⟩)
     ·exact absurd (hu_ 1 dc_ kr_) dc_
     ·exact absurd hp_ (by simp)
    ·exact tG_ rfl hd_ (gV (nI_ k) ⟨rfl,rfl⟩)
    ·rcases p_ with _|_|_|p_
     ·have S26:=St.id hPh_
      exact tG_ rfl hd_ (gv_look_none (kT:=3) (eT:=42) (k:=((k:Nat):Int)) (z:=nS_) (S26.get 4 rfl) rfl kr_ kr_ kr_ kr_ kr_ hno ⟨rfl,rfl⟩)
     ·have S27:=St.id hPh_
      exact tG_ rfl hd_ (gv_look_none (kT:=3) (eT:=42) (k:=((k:Nat):Int)) (z:=nS_) (S27.get 5 rfl) rfl kr_ kr_ kr_ kr_ kr_ hno ⟨rfl,rfl⟩)
     ·exact absurd (hu_ 1 dc_ kr_) dc_
     ·exact absurd hp_ (by simp)
    ·exact tG_ rfl hd_ (gV (sl g5 0 512 512) ⟨rfl,rfl⟩)
    ·exact absurd hiE_ dc_
    ·exact absurd hiE_ dc_
    ·exact absurd hi_ om_
   ·intro k_ c_ vals_ w1 hk_ hPh_ hd_
    rcases k_ with _|_|k_
    ·have S29:=St.id hPh_
     refine tG_ rfl hd_ (gv_slit (e:=31) (sz:=1) (z:=nS_) (by_:=24) (vs:=#[(0,sl g5 0 512 512)]) (cells:=#[sl g5 0 512 512]) S29 rfl kr_ ⟨by kernel_rfl⟩ kr_ kr_ kr_ kr_ (fun g30 w31 hg32 S33=>⟨(g30,c_.2),rfl, ?_,S33⟩))
     intro i_ hi_ hne_ hdp_
     rcases i_ with _|_|_|_|_|_|_|_|_|_|_|_|_|_|i_
     ·rfl
     ·rfl
     ·rfl
     ·rfl
     ·rfl
     ·rfl
     ·rfl
     ·rfl
     ·rfl
     ·rfl
     ·rfl
     ·rfl
     ·exact absurd rfl hne_
     ·exact dN_ hdp_
     ·exact absurd hi_ om_
    ·have S34:=St.id hPh_
     refine tG_ rfl hd_ (gv_append (e:=31) (sz:=1) (n:=0) (v:=(nS_)) (vals:=[]) (z:=nS_) (by_:=24) (m:=1) (c':=1) (ad:=⟨c_.1,0,none⟩) (news:=[sl g5 0 512 512]) (St.swap S34) rfl kr_ ⟨by kernel_rfl⟩ rfl kr_ kr_ dc_ rfl (row_news (S34.blk 0 rfl)) (by intro u hu;simp at hu;subst hu;rfl) om_ om_ (fun v36 w35 S37=>⟨(c_.1,v36),rfl, ?_,S37⟩))
     intro i_ hi_ hne_ hdp_
     rcases i_ with _|_|_|_|_|_|_|_|_|_|_|_|_|_|i_
     ·rfl
     ·rfl
     ·rfl
     ·rfl
     ·rfl
     ·rfl
     ·rfl
     ·rfl
     ·rfl
     ·rfl
     ·rfl
     ·rfl
     ·rfl
     ·exact absurd rfl hne_
     ·exact absurd hi_ om_
    ·exact absurd hk_ (by simp)
   ·intro c_ w1 hPh_
    have S38:=St.id hPh_
    refine (g_ (gv_put_new (kT:=3) (eT:=42) (g:=gm) (clock:=clock) (es:=es.map PEnt.ent) (k:=((k:Nat):Int)) (v:=c_.2) S38 5 rfl rfl kr_ kr_ kr_ kr_ kr_ hno (L':=(vec 31 1 c_.2 1 [sl g5 0 512 512]::row c_.1 #[sl g5 0 512 512] 31::row g5 (bvs d) 5::dR g gd (512*s.last.length) gm false left s.life s.rd s.wr s.fl s.rf (s.pend.length:Int)::row gd (bvs s.last.flatten) 5::pt gm (mapO (es.map PEnt.ent++[⟨((k:Nat):Int),c_.2,clock⟩]) (clock+1))::stars (es.map PEnt.ast)::L)) rfl (fun w39 S40=>wE ?_)))
    refine nSR (pv (pq g) (pv (pq g) (pv (po g 5) (pv (po g 6) (lR (iv s.wr) S40 3 6 (pv (iv (inc s.wr)) (pv (pq g) (pv (po g 5) (pv (po g 6) (sS S40 3 rfl 6 (iv (inc s.wr)) fun w41 S42=>wER (pv (pq g) (pv (pq g) ?_))))))))))))
    refine pv (po g 5) (pv (po g 9) (lR (iv (s.pend.length:Int)) S42 3 9 (gI .i64 (IntKind.i64.wrap ((s.pend.length:Int)+1)) ((s.pend.length+1:Nat):Int) wq_ (pv (pq g) (pv (po g 5) (pv (po g 9) (sS S42 3 rfl 9 (nI_ (s.pend.length+1)) fun w43 S44=>wER (pv (pq g) (g_ (gv_call (args:=#[pq g]) rfl Try.func83 kr_ rfl rfl kr_ ?_))))))))))
    have S45:St F w0 w43 (vec 31 1 c_.2 1 [sl g5 0 512 512]::row g5 (bvs d) 5::dR g gd (512*s.last.length) gm false left s.life s.rd (inc s.wr) s.fl s.rf ((s.pend.length+1:Nat):Int)::row gd (bvs s.last.flatten) 5::pt gm (mapO (es.map PEnt.ent++[⟨((k:Nat):Int),c_.2,clock⟩]) (clock+1))::stars (es.map PEnt.ast)::L):=St.pm 7 [0,2,3,4,5,6] S44
    have em:es.map PEnt.ent++[⟨((k:Nat):Int),c_.2,clock⟩]=(es++[(⟨k,c_.2,clock,[(g5,d)]⟩:PEnt)]).map PEnt.ent:=by rw [List.map_append];rfl
    have S46:St F w0 w43 (dR g gd (512*s.last.length) gm false left s.life s.rd (inc s.wr) s.fl s.rf ((s.pend.length+1:Nat):Int)::row gd (bvs s.last.flatten) 5::pt gm (mapO (es.map PEnt.ent++[⟨((k:Nat):Int),c_.2,clock⟩]) (clock+1))::stars ((es++[(⟨k,c_.2,clock,[(g5,d)]⟩:PEnt)]).map PEnt.ast)::L):=entry_new S45
    rw [em] at S46
    refine Calls.mono (spend_false S46) ?_
    rintro _ w47 ⟨rfl,S48⟩
    refine ⟨_,rfl,(wER (pv (iv 0) (wE (then_n (wp_ret (bA (iv 0) ?_))))))⟩
    have hl1:((s.pend.length+1:Nat):Int)=((s.pend++[(k,d)]).length:Nat):=by rw [List.length_append];rfl
    rw [hl1] at S48
    exact ⟨rfl,St.pclose (gd:=gd) (gm:=gm) (clock:=clock+1) (es:=es++[(⟨k,c_.2,clock,[(g5,d)]⟩:PEnt)]) (fused:=false) (left:=left) (s:={s with pend:=s.pend++[(k,d)],wr:=inc s.wr,left:=spent s.left}) S48 (PFacts.refuse (s':={s with pend:=s.pend++[(k,d)],wr:=inc s.wr,left:=spent s.left}) (hf.write_new (s':={s with pend:=s.pend++[(k,d)]}) (go:=g5) (d:=d) (v':=c_.2) hp hno hk hd hpn rfl rfl rfl) rfl rfl hdc.symm (fun h=>absurd h (of_decide_eq_false hdc)) hlb)⟩
 ·have hqm:p.ws.length≤s.pend.length:=by
   have h2:p.ws.length=(pendOf s k).length:=by rw [hp,List.length_map]
   have h3:(pendOf s k).length≤s.pend.length:=by unfold pendOf;rw [List.length_map];exact List.length_filter_le _ _
   omega
  subst hat
  rcases hsp with ⟨rfl,hdc,hde⟩|⟨rfl,hdc,hde⟩
  ·change St F w0 w (dR g gd (512*s.last.length) gm true left s.life s.rd s.wr s.fl s.rf (s.pend.length:Int)::row gd (bvs s.last.flatten) 5::pt gm (mapO (es.map PEnt.ent) clock)::stars (es.map PEnt.ast)::L) at S
   refine eN (fr [pq g,nI_ p.at_,.slice A d.length cd] 62) Try.func33 rfl (sR (pv (iv 0) (wE (nS (sR (pv (pq g) (pv (nI_ p.at_) (sP Try.func79 #[pq g,nI_ p.at_] (there_in hb rfl hn2 hk S) fun w1 S2=>pv (iv 0) (wER (pv (iv 0) (dN 0 0 (fun hd3=>False.elim om_) fun _=>wE ?_)))))))))))
   refine nCF (wp_skip (nS (sR (pv (.slice A d.length cd) (pv (iv (d.length:Nat)) (dN (d.length:Nat) 512 (fun hd4=>False.elim om_) fun _=>wE (nCF (wp_skip (nSR (g_ (gv_make (e:=5) (u:=512) (v:=512) (z:=.int .u8 0) (sz:=1) (by_:=1) (n:=512) (c:=512) (cs:=(bvs (List.replicate 512 0))) S2 rfl kr_ ⟨by kernel_rfl⟩ kr_ kr_ rfl rfl (Nat.le_refl _) dc_ dc_ (mk_bytes _) (fun g5 w6 hg7 S8=>pv (sl g5 0 512 512) (wER ?_)))))))))))))
   refine pv (sl g5 0 512 512) (pv (.slice A d.length cd) (g_ (gv_copy (e:=5) (off:=0) (dLen:=512) (dCap:=512) (sLen:=d.length) (sCap:=cd) (A:=A) (B:=(List.replicate 512 0)) (l:=d) S8 0 rfl rfl kr_ kr_ kr_ kr_ rfl (hr.out _ [row g5 (bvs (List.replicate 512 0)) 5,dR g gd (512*s.last.length) gm true left s.life s.rd s.wr s.fl s.rf (s.pend.length:Int),row gd (bvs s.last.flatten) 5,pt gm (mapO (es.map PEnt.ent) clock),stars (es.map PEnt.ast)] S8) (by simp) (L':=(row g5 (bvs d) 5::dR g gd (512*s.last.length) gm true left s.life s.rd s.wr s.fl s.rf (s.pend.length:Int)::row gd (bvs s.last.flatten) 5::pt gm (mapO (es.map PEnt.ent) clock)::stars (es.map PEnt.ast)::L)) (by rw [copy512 hd];rfl) (fun w9 m11 S10=>wE (nS ?_)))))
   have S12:St F w0 w9 (vec 31 1 p.v p.ws.length (p.ws.map PEnt.val)::stars (p.ws.map PEnt.row)::stars ((es.take j).map PEnt.ast)::stars ((es.drop (j+1)).map PEnt.ast)::row g5 (bvs d) 5::dR g gd (512*s.last.length) gm true left s.life s.rd s.wr s.fl s.rf (s.pend.length:Int)::row gd (bvs s.last.flatten) 5::pt gm (mapO (es.map PEnt.ent) clock)::L):=entry_out [row g5 (bvs d) 5,dR g gd (512*s.last.length) gm true left s.life s.rd s.wr s.fl s.rf (s.pend.length:Int),row gd (bvs s.last.flatten) 5,pt gm (mapO (es.map PEnt.ent) clock)] S10 hj
   refine wp_region_phu (γ:=Nat×Value) 14 [12,13] (fun (c_:Nat×Value) (i_:Nat)=>(match i_ with|0=>pq g|1=>pq g|2=>po g 1|3=>.map (some gm)|4=>nI_ p.at_|5=>pq g|6=>pq g|7=>po g 1|8=>.map (some gm)|9=>nI_ p.at_|10=>p.v|11=>sl g5 0 512 512|12=>sl c_.1 0 1 1|13=>c_.2|_=>undef:Value)) (fun (c_:Nat×Value) (p_:Nat) (w_:World)=>(match p_ with|0=>St F w0 w_ (vec 31 1 p.v p.ws.length (p.ws.map PEnt.val)::stars (p.ws.map PEnt.row)::stars ((es.take j).map PEnt.ast)::stars ((es.drop (j+1)).map PEnt.ast)::row g5 (bvs d) 5::dR g gd (512*s.last.length) gm true left s.life s.rd s.wr s.fl s.rf (s.pend.length:Int)::row gd (bvs s.last.flatten) 5::pt gm (mapO (es.map PEnt.ent) clock)::L)|1=>St F w0 w_ (row c_.1 #[sl g5 0 512 512] 31::vec 31 1 p.v p.ws.length (p.ws.map PEnt.val)::stars (p.ws.map PEnt.row)::stars ((es.take j).map PEnt.ast)::stars ((es.drop (j+1)).map PEnt.ast)::row g5 (bvs d) 5::dR g gd (512*s.last.length) gm true left s.life s.rd s.wr s.fl s.rf (s.pend.length:Int)::row gd (bvs s.last.flatten) 5::pt gm (mapO (es.map PEnt.ent) clock)::L)|_=>St F w0 w_ (vec 31 1 c_.2 (p.ws.length+1) (p.ws.map PEnt.val++[sl g5 0 512 512])::row c_.1 #[sl g5 0 512 512] 31::stars (p.ws.map PEnt.row)::stars ((es.take j).map PEnt.ast)::stars ((es.drop (j+1)).map PEnt.ast)::row g5 (bvs d) 5::dR g gd (512*s.last.length) gm true left s.life s.rd s.wr s.fl s.rf (s.pend.length:Int)::row gd (bvs s.last.flatten) 5::pt gm (mapO (es.map PEnt.ent) clock)::L):Prop)) (0,undef) kr_ kr_ kr_ kr_ (S12.drew) ?_ ?_ ?_
   ·intro i_ c_ p_ vals_ w1 hi_ hiE_ hp_ hk_ hu_ hPh_ hd_
    rcases i_ with _|_|_|_|_|_|_|_|_|_|_|_|_|_|i_
    ·exact tG_ rfl hd_ (gV (pq g) ⟨rfl,rfl⟩)
    ·exact tG_ rfl hd_ (gV (pq g) ⟨rfl,rfl⟩)
    ·exact tG_ rfl hd_ (gV (po g 1) ⟨rfl,rfl⟩)
    ·rcases p_ with _|_|_|p_
     ·have S16:=St.id hPh_
      exact tG_ rfl hd_ (gL (.map (some gm)) rfl (((S16.blk 5 rfl).cell 1).trans rfl) ⟨rfl,rfl⟩)
     ·have S17:=St.id hPh_
      exact tG_ rfl hd_ (gL (.map (some gm)) rfl (((S17.blk 6 rfl).cell 1).trans rfl) ⟨rfl,rfl⟩)
     ·have S18:=St.id hPh_
      exact tG_ rfl hd_ (gL (.map (some gm)) rfl (((S18.blk 6 rfl).cell 1).trans rfl) ⟨rfl,rfl⟩)
     ·exact absurd hp_ (by simp)
    ·exact tG_ rfl hd_ (gV (nI_ p.at_) ⟨rfl,rfl⟩)
    ·exact tG_ rfl hd_ (gV (pq g) ⟨rfl,rfl⟩)
    ·exact tG_ rfl hd_ (gV (pq g) ⟨rfl,rfl⟩)
    ·exact tG_ rfl hd_ (gV (po g 1) ⟨rfl,rfl⟩)
    ·rcases p_ with _|_|_|p_
     ·have S23:=St.id hPh_
      exact tG_ rfl hd_ (gL (.map (some gm)) rfl (((S23.blk 5 rfl).cell 1).trans rfl) ⟨rfl,rfl⟩)
     ·have S24:=St.id hPh_
      exact tG_ rfl hd_ (gL (.map (some gm)) rfl (((S24.blk 6 rfl).cell 1).trans rfl) ⟨rfl,rfl⟩)
     ·exact absurd (hu_ 1 dc_ kr_) dc_
     ·exact absurd hp_ (by simp)
    ·exact tG_ rfl hd_ (gV (nI_ p.at_) ⟨rfl,rfl⟩)
    ·rcases p_ with _|_|_|p_
     ·have S26:=St.id hPh_
      exact tG_ rfl hd_ (gv_look_some (kT:=3) (eT:=42) (k:=((p.at_:Nat):Int)) (S26.get 7 rfl) rfl kr_ kr_ kr_ kr_ hje hke hfe ⟨rfl,rfl⟩)
     ·have S27:=St.id hPh_
      exact tG_ rfl hd_ (gv_look_some (kT:=3) (eT:=42) (k:=((p.at_:Nat):Int)) (S27.get 8 rfl) rfl kr_ kr_ kr_ kr_ hje hke hfe ⟨rfl,rfl⟩)
     ·exact absurd (hu_ 1 dc_ kr_) dc_
     ·exact absurd hp_ (by simp)
    ·exact tG_ rfl hd_ (gV (sl g5 0 512 512) ⟨rfl,rfl⟩)
    ·exact absurd hiE_ dc_
    ·exact absurd hiE_ dc_
    ·exact absurd hi_ om_
   ·intro k_ c_ vals_ w1 hk_ hPh_ hd_
    rcases k_ with _|_|k_
    ·have S29:=St.id hPh_
     refine tG_ rfl hd_ (gv_slit (e:=31) (sz:=1) (z:=nS_) (by_:=24) (vs:=#[(0,sl g5 0 512 512)]) (cells:=#[sl g5 0 512 512]) S29 rfl kr_ ⟨by kernel_rfl⟩ kr_ kr_ kr_ kr_ (fun g30 w31 hg32 S33=>⟨(g30,c_.2),rfl, ?_,S33⟩))
     intro i_ hi_ hne_ hdp_
     rcases i_ with _|_|_|_|_|_|_|_|_|_|_|_|_|_|i_
     ·rfl
     ·rfl
     ·rfl
     ·rfl
     ·rfl
     ·rfl
     ·rfl
     ·rfl
     ·rfl
     ·rfl
     ·rfl
     ·rfl
     ·exact absurd rfl hne_
     ·exact dN_ hdp_
     ·exact absurd hi_ om_
    ·have S34:=St.id hPh_
     refine tG_ rfl hd_ (gv_append (e:=31) (sz:=1) (n:=p.ws.length) (v:=p.v) (vals:=(p.ws.map PEnt.val)) (z:=nS_) (by_:=24) (m:=1) (c':=1) (ad:=⟨c_.1,0,none⟩) (news:=[sl g5 0 512 512]) (St.swap S34) rfl kr_ ⟨by kernel_rfl⟩ rfl kr_ kr_ dc_ rfl (row_news (S34.blk 0 rfl)) (by intro u hu;simp at hu;subst hu;rfl) om_ om_ (fun v36 w35 S37=>⟨(c_.1,v36),rfl, ?_,S37⟩))
     intro i_ hi_ hne_ hdp_
     rcases i_ with _|_|_|_|_|_|_|_|_|_|_|_|_|_|i_
     ·rfl
     ·rfl
     ·rfl
     ·rfl
     ·rfl
     ·rfl
     ·rfl
     ·rfl
     ·rfl
     ·rfl
     ·rfl
     ·rfl
     ·rfl
     ·exact absurd rfl hne_
     ·exact absurd hi_ om_
    ·exact absurd hk_ (by simp)
   ·intro c_ w1 hPh_
    have S38:=St.id hPh_
    refine (g_ (gv_put_old (kT:=3) (eT:=42) (g:=gm) (clock:=clock) (es:=es.map PEnt.ent) (k:=((p.at_:Nat):Int)) (v:=c_.2) S38 8 rfl rfl kr_ kr_ kr_ kr_ kr_ hje hke hfe (L':=(vec 31 1 c_.2 (p.ws.length+1) (p.ws.map PEnt.val++[sl g5 0 512 512])::row c_.1 #[sl g5 0 512 512] 31::stars (p.ws.map PEnt.row)::stars ((es.take j).map PEnt.ast)::stars ((es.drop (j+1)).map PEnt.ast)::row g5 (bvs d) 5::dR g gd (512*s.last.length) gm true left s.life s.rd s.wr s.fl s.rf (s.pend.length:Int)::row gd (bvs s.last.flatten) 5::pt gm (mapO ((es.map PEnt.ent).set j ⟨((p.at_:Nat):Int),c_.2,p.b⟩) clock)::L)) rfl (fun w39 S40=>wE ?_)))
    refine nSR (pv (pq g) (pv (pq g) (pv (po g 5) (pv (po g 6) (lR (iv s.wr) S40 6 6 (pv (iv (inc s.wr)) (pv (pq g) (pv (po g 5) (pv (po g 6) (sS S40 6 rfl 6 (iv (inc s.wr)) fun w41 S42=>wER (pv (pq g) (pv (pq g) ?_))))))))))))
    refine pv (po g 5) (pv (po g 9) (lR (iv (s.pend.length:Int)) S42 6 9 (gI .i64 (IntKind.i64.wrap ((s.pend.length:Int)+1)) ((s.pend.length+1:Nat):Int) wq_ (pv (pq g) (pv (po g 5) (pv (po g 9) (sS S42 6 rfl 9 (nI_ (s.pend.length+1)) fun w43 S44=>wER (pv (pq g) (g_ (gv_call (args:=#[pq g]) rfl Try.func83 kr_ rfl rfl kr_ ?_))))))))))
    have S45:St F w0 w43 (vec 31 1 c_.2 (p.ws.length+1) (p.ws.map PEnt.val++[sl g5 0 512 512])::stars (p.ws.map PEnt.row)::stars ((es.take j).map PEnt.ast)::stars ((es.drop (j+1)).map PEnt.ast)::row g5 (bvs d) 5::dR g gd (512*s.last.length) gm true left s.life s.rd (inc s.wr) s.fl s.rf ((s.pend.length+1:Nat):Int)::row gd (bvs s.last.flatten) 5::pt gm (mapO ((es.map PEnt.ent).set j ⟨((p.at_:Nat):Int),c_.2,p.b⟩) clock)::L):=St.pm 9 [0,2,3,4,5,6,7,8] S44
    have em:(es.map PEnt.ent).set j ⟨((p.at_:Nat):Int),c_.2,p.b⟩=(es.set j ⟨p.at_,c_.2,p.b,p.ws++[(g5,d)]⟩).map PEnt.ent:=by rw [map_set];rfl
    have S46:St F w0 w43 (dR g gd (512*s.last.length) gm true left s.life s.rd (inc s.wr) s.fl s.rf ((s.pend.length+1:Nat):Int)::row gd (bvs s.last.flatten) 5::pt gm (mapO ((es.map PEnt.ent).set j ⟨((p.at_:Nat):Int),c_.2,p.b⟩) clock)::stars ((es.set j ⟨p.at_,c_.2,p.b,p.ws++[(g5,d)]⟩).map PEnt.ast)::L):=entry_in hj S45
    rw [em] at S46
    refine Calls.mono (spend_true S46) ?_
    rintro _ w47 ⟨rfl,S48⟩
    refine ⟨_,rfl,(wER (pv (iv 0) (wE (then_n (wp_ret (bA (iv 0) ?_))))))⟩
    have hl1:((s.pend.length+1:Nat):Int)=((s.pend++[(p.at_,d)]).length:Nat):=by rw [List.length_append];rfl
    rw [hl1] at S48
    exact ⟨rfl,St.pclose (gd:=gd) (gm:=gm) (clock:=clock) (es:=es.set j ⟨p.at_,c_.2,p.b,p.ws++[(g5,d)]⟩) (fused:=true) (left:=dec left) (s:={s with pend:=s.pend++[(p.at_,d)],wr:=inc s.wr,left:=spent s.left}) S48 (PFacts.refuse (s':={s with pend:=s.pend++[(p.at_,d)],wr:=inc s.wr,left:=spent s.left}) (hf.write_old (s':={s with pend:=s.pend++[(p.at_,d)]}) (go:=g5) (d:=d) (v':=c_.2) hj rfl hk hd hpn rfl rfl rfl) rfl rfl hdc.symm (fun _=>hde) hlb)⟩
  ·change St F w0 w (dR g gd (512*s.last.length) gm false left s.life s.rd s.wr s.fl s.rf (s.pend.length:Int)::row gd (bvs s.last.flatten) 5::pt gm (mapO (es.map PEnt.ent) clock)::stars (es.map PEnt.ast)::L) at S
   refine eN (fr [pq g,nI_ p.at_,.slice A d.length cd] 62) Try.func33 rfl (sR (pv (iv 0) (wE (nS (sR (pv (pq g) (pv (nI_ p.at_) (sP Try.func79 #[pq g,nI_ p.at_] (there_in hb rfl hn2 hk S) fun w1 S2=>pv (iv 0) (wER (pv (iv 0) (dN 0 0 (fun hd3=>False.elim om_) fun _=>wE ?_)))))))))))
   refine nCF (wp_skip (nS (sR (pv (.slice A d.length cd) (pv (iv (d.length:Nat)) (dN (d.length:Nat) 512 (fun hd4=>False.elim om_) fun _=>wE (nCF (wp_skip (nSR (g_ (gv_make (e:=5) (u:=512) (v:=512) (z:=.int .u8 0) (sz:=1) (by_:=1) (n:=512) (c:=512) (cs:=(bvs (List.replicate 512 0))) S2 rfl kr_ ⟨by kernel_rfl⟩ kr_ kr_ rfl rfl (Nat.le_refl _) dc_ dc_ (mk_bytes _) (fun g5 w6 hg7 S8=>pv (sl g5 0 512 512) (wER ?_)))))))))))))
   refine pv (sl g5 0 512 512) (pv (.slice A d.length cd) (g_ (gv_copy (e:=5) (off:=0) (dLen:=512) (dCap:=512) (sLen:=d.length) (sCap:=cd) (A:=A) (B:=(List.replicate 512 0)) (l:=d) S8 0 rfl rfl kr_ kr_ kr_ kr_ rfl (hr.out _ [row g5 (bvs (List.replicate 512 0)) 5,dR g gd (512*s.last.length) gm false left s.life s.rd s.wr s.fl s.rf (s.pend.length:Int),row gd (bvs s.last.flatten) 5,pt gm (mapO (es.map PEnt.ent) clock),stars (es.map PEnt.ast)] S8) (by simp) (L':=(row g5 (bvs d) 5::dR g gd (512*s.last.length) gm false left s.life s.rd s.wr s.fl s.rf (s.pend.length:Int)::row gd (bvs s.last.flatten) 5::pt gm (mapO (es.map PEnt.ent) clock)::stars (es.map PEnt.ast)::L)) (by rw [copy512 hd];rfl) (fun w9 m11 S10=>wE (nS ?_)))))
   have S12:St F w0 w9 (vec 31 1 p.v p.ws.length (p.ws.map PEnt.val)::stars (p.ws.map PEnt.row)::stars ((es.take j).map PEnt.ast)::stars ((es.drop (j+1)).map PEnt.ast)::row g5 (bvs d) 5::dR g gd (512*s.last.length) gm false left s.life s.rd s.wr s.fl s.rf (s.pend.length:Int)::row gd (bvs s.last.flatten) 5::pt gm (mapO (es.map PEnt.ent) clock)::L):=entry_out [row g5 (bvs d) 5,dR g gd (512*s.last.length) gm false left s.life s.rd s.wr s.fl s.rf (s.pend.length:Int),row gd (bvs s.last.flatten) 5,pt gm (mapO (es.map PEnt.ent) clock)] S10 hj
   refine wp_region_phu (γ:=Nat×Value) 14 [12,13] (fun (c_:Nat×Value) (i_:Nat)=>(match i_ with|0=>pq g|1=>pq g|2=>po g 1|3=>.map (some gm)|4=>nI_ p.at_|5=>pq g|6=>pq g|7=>po g 1|8=>.map (some gm)|9=>nI_ p.at_|10=>p.v|11=>sl g5 0 512 512|12=>sl c_.1 0 1 1|13=>c_.2|_=>undef:Value)) (fun (c_:Nat×Value) (p_:Nat) (w_:World)=>(match p_ with|0=>St F w0 w_ (vec 31 1 p.v p.ws.length (p.ws.map PEnt.val)::stars (p.ws.map PEnt.row)::stars ((es.take j).map PEnt.ast)::stars ((es.drop (j+1)).map PEnt.ast)::row g5 (bvs d) 5::dR g gd (512*s.last.length) gm false left s.life s.rd s.wr s.fl s.rf (s.pend.length:Int)::row gd (bvs s.last.flatten) 5::pt gm (mapO (es.map PEnt.ent) clock)::L)|1=>St F w0 w_ (row c_.1 #[sl g5 0 512 512] 31::vec 31 1 p.v p.ws.length (p.ws.map PEnt.val)::stars (p.ws.map PEnt.row)::stars ((es.take j).map PEnt.ast)::stars ((es.drop (j+1)).map PEnt.ast)::row g5 (bvs d) 5::dR g gd (512*s.last.length) gm false left s.life s.rd s.wr s.fl s.rf (s.pend.length:Int)::row gd (bvs s.last.flatten) 5::pt gm (mapO (es.map PEnt.ent) clock)::L)|_=>St F w0 w_ (vec 31 1 c_.2 (p.ws.length+1) (p.ws.map PEnt.val++[sl g5 0 512 512])::row c_.1 #[sl g5 0 512 512] 31::stars (p.ws.map PEnt.row)::stars ((es.take j).map PEnt.ast)::stars ((es.drop (j+1)).map PEnt.ast)::row g5 (bvs d) 5::dR g gd (512*s.last.length) gm false left s.life s.rd s.wr s.fl s.rf (s.pend.length:Int)::row gd (bvs s.last.flatten) 5::pt gm (mapO (es.map PEnt.ent) clock)::L):Prop)) (0,undef) kr_ kr_ kr_ kr_ (S12.drew) ?_ ?_ ?_
   ·intro i_ c_ p_ vals_ w1 hi_ hiE_ hp_ hk_ hu_ hPh_ hd_
    rcases i_ with _|_|_|_|_|_|_|_|_|_|_|_|_|_|i_
    ·exact tG_ rfl hd_ (gV (pq g) ⟨rfl,rfl⟩)
    ·exact tG_ rfl hd_ (gV (pq g) ⟨rfl,rfl⟩)
    ·exact tG_ rfl hd_ (gV (po g 1) ⟨rfl,rfl⟩)
    ·rcases p_ with _|_|_|p_
     ·have S16:=St.id hPh_
      exact tG_ rfl hd_ (gL (.map (some gm)) rfl (((S16.blk 5 rfl).cell 1).trans rfl) ⟨rfl,rfl⟩)
     ·have S17:=St.id hPh_
      exact tG_ rfl hd_ (gL (.map (some gm)) rfl (((S17.blk 6 rfl).cell 1).trans rfl) ⟨rfl,rfl⟩)
     ·have S18:=St.id hPh_
      exact tG_ rfl hd_ (gL (.map (some gm)) rfl (((S18.blk 6 rfl).cell 1).trans rfl) ⟨rfl,rfl⟩)
     ·exact absurd hp_ (by simp)
    ·exact tG_ rfl hd_ (gV (nI_ p.at_) ⟨rfl,rfl⟩)
    ·exact tG_ rfl hd_ (gV (pq g) ⟨rfl,rfl⟩)
    ·exact tG_ rfl hd_ (gV (pq g) ⟨rfl,rfl⟩)
    ·exact tG_ rfl hd_ (gV (po g 1) ⟨rfl,rfl⟩)
    ·rcases p_ with _|_|_|p_
     ·have S23:=St.id hPh_
      exact tG_ rfl hd_ (gL (.map (some gm)) rfl (((S23.blk 5 rfl).cell 1).trans rfl) ⟨rfl,rfl⟩)
     ·have S24:=St.id hPh_
      exact tG_ rfl hd_ (gL (.map (some gm)) rfl (((S24.blk 6 rfl).cell 1).trans rfl) ⟨rfl,rfl⟩)
     ·exact absurd (hu_ 1 dc_ kr_) dc_
     ·exact absurd hp_ (by simp)
    ·exact tG_ rfl hd_ (gV (nI_ p.at_) ⟨rfl,rfl⟩)
    ·rcases p_ with _|_|_|p_
     ·have S26:=St.id hPh_
      exact tG_ rfl hd_ (gv_look_some (kT:=3) (eT:=42) (k:=((p.at_:Nat):Int)) (S26.get 7 rfl) rfl kr_ kr_ kr_ kr_ hje hke hfe ⟨rfl,rfl⟩)
     ·have S27:=St.id hPh_
      exact tG_ rfl hd_ (gv_look_some (kT:=3) (eT:=42) (k:=((p.at_:Nat):Int)) (S27.get 8 rfl) rfl kr_ kr_ kr_ kr_ hje hke hfe ⟨rfl,rfl⟩)
     ·exact absurd (hu_ 1 dc_ kr_) dc_
     ·exact absurd hp_ (by simp)
    ·exact tG_ rfl hd_ (gV (sl g5 0 512 512) ⟨rfl,rfl⟩)
    ·exact absurd hiE_ dc_
    ·exact absurd hiE_ dc_
    ·exact absurd hi_ om_
   ·intro k_ c_ vals_ w1 hk_ hPh_ hd_
    rcases k_ with _|_|k_
    ·have S29:=St.id hPh_
     refine tG_ rfl hd_ (gv_slit (e:=31) (sz:=1) (z:=nS_) (by_:=24) (vs:=#[(0,sl g5 0 512 512)]) (cells:=#[sl g5 0 512 512]) S29 rfl kr_ ⟨by kernel_rfl⟩ kr_ kr_ kr_ kr_ (fun g30 w31 hg32 S33=>⟨(g30,c_.2),rfl, ?_,S33⟩))
     intro i_ hi_ hne_ hdp_
     rcases i_ with _|_|_|_|_|_|_|_|_|_|_|_|_|_|i_
     ·rfl
     ·rfl
     ·rfl
     ·rfl
     ·rfl
     ·rfl
     ·rfl
     ·rfl
     ·rfl
     ·rfl
     ·rfl
     ·rfl
     ·exact absurd rfl hne_
     ·exact dN_ hdp_
     ·exact absurd hi_ om_
    ·have S34:=St.id hPh_
     refine tG_ rfl hd_ (gv_append (e:=31) (sz:=1) (n:=p.ws.length) (v:=p.v) (vals:=(p.ws.map PEnt.val)) (z:=nS_) (by_:=24) (m:=1) (c':=1) (ad:=⟨c_.1,0,none⟩) (news:=[sl g5 0 512 512]) (St.swap S34) rfl kr_ ⟨by kernel_rfl⟩ rfl kr_ kr_ dc_ rfl (row_news (S34.blk 0 rfl)) (by intro u hu;simp at hu;subst hu;rfl) om_ om_ (fun v36 w35 S37=>⟨(c_.1,v36),rfl, ?_,S37⟩))
     intro i_ hi_ hne_ hdp_
     rcases i_ with _|_|_|_|_|_|_|_|_|_|_|_|_|_|i_
     ·rfl
     ·rfl
     ·rfl
     ·rfl
     ·rfl
     ·rfl
     ·rfl
     ·rfl
     ·rfl
     ·rfl
     ·rfl
     ·rfl
     ·rfl
     ·exact absurd rfl hne_
     ·exact absurd hi_ om_
    ·exact absurd hk_ (by simp)
   ·intro c_ w1 hPh_
    have S38:=St.id hPh_
    refine (g_ (gv_put_old (kT:=3) (eT:=42) (g:=gm) (clock:=clock) (es:=es.map PEnt.ent) (k:=((p.at_:Nat):Int)) (v:=c_.2) S38 8 rfl rfl kr_ kr_ kr_ kr_ kr_ hje hke hfe (L':=(vec 31 1 c_.2 (p.ws.length+1) (p.ws.map PEnt.val++[sl g5 0 512 512])::row c_.1 #[sl g5 0 512 512] 31::stars (p.ws.map PEnt.row)::stars ((es.take j).map PEnt.ast)::stars ((es.drop (j+1)).map PEnt.ast)::row g5 (bvs d) 5::dR g gd (512*s.last.length) gm false left s.life s.rd s.wr s.fl s.rf (s.pend.length:Int)::row gd (bvs s.last.flatten) 5::pt gm (mapO ((es.map PEnt.ent).set j ⟨((p.at_:Nat):Int),c_.2,p.b⟩) clock)::L)) rfl (fun w39 S40=>wE ?_)))
    refine nSR (pv (pq g) (pv (pq g) (pv (po g 5) (pv (po g 6) (lR (iv s.wr) S40 6 6 (pv (iv (inc s.wr)) (pv (pq g) (pv (po g 5) (pv (po g 6) (sS S40 6 rfl 6 (iv (inc s.wr)) fun w41 S42=>wER (pv (pq g) (pv (pq g) ?_))))))))))))
    refine pv (po g 5) (pv (po g 9) (lR (iv (s.pend.length:Int)) S42 6 9 (gI .i64 (IntKind.i64.wrap ((s.pend.length:Int)+1)) ((s.pend.length+1:Nat):Int) wq_ (pv (pq g) (pv (po g 5) (pv (po g 9) (sS S42 6 rfl 9 (nI_ (s.pend.length+1)) fun w43 S44=>wER (pv (pq g) (g_ (gv_call (args:=#[pq g]) rfl Try.func83 kr_ rfl rfl kr_ ?_))))))))))
    have S45:St F w0 w43 (vec 31 1 c_.2 (p.ws.length+1) (p.ws.map PEnt.val++[sl g5 0 512 512])::stars (p.ws.map PEnt.row)::stars ((es.take j).map PEnt.ast)::stars ((es.drop (j+1)).map PEnt.ast)::row g5 (bvs d) 5::dR g gd (512*s.last.length) gm false left s.life s.rd (inc s.wr) s.fl s.rf ((s.pend.length+1:Nat):Int)::row gd (bvs s.last.flatten) 5::pt gm (mapO ((es.map PEnt.ent).set j ⟨((p.at_:Nat):Int),c_.2,p.b⟩) clock)::L):=St.pm 9 [0,2,3,4,5,6,7,8] S44
    have em:(es.map PEnt.ent).set j ⟨((p.at_:Nat):Int),c_.2,p.b⟩=(es.set j ⟨p.at_,c_.2,p.b,p.ws++[(g5,d)]⟩).map PEnt.ent:=by rw [map_set];rfl
    have S46:St F w0 w43 (dR g gd (512*s.last.length) gm false left s.life s.rd (inc s.wr) s.fl s.rf ((s.pend.length+1:Nat):Int)::row gd (bvs s.last.flatten) 5::pt gm (mapO ((es.map PEnt.ent).set j ⟨((p.at_:Nat):Int),c_.2,p.b⟩) clock)::stars ((es.set j ⟨p.at_,c_.2,p.b,p.ws++[(g5,d)]⟩).map PEnt.ast)::L):=entry_in hj S45
    rw [em] at S46
    refine Calls.mono (spend_false S46) ?_
    rintro _ w47 ⟨rfl,S48⟩
    refine ⟨_,rfl,(wER (pv (iv 0) (wE (then_n (wp_ret (bA (iv 0) ?_))))))⟩
    have hl1:((s.pend.length+1:Nat):Int)=((s.pend++[(p.at_,d)]).length:Nat):=by rw [List.length_append];rfl
    rw [hl1] at S48
    exact ⟨rfl,St.pclose (gd:=gd) (gm:=gm) (clock:=clock) (es:=es.set j ⟨p.at_,c_.2,p.b,p.ws++[(g5,d)]⟩) (fused:=false) (left:=left) (s:={s with pend:=s.pend++[(p.at_,d)],wr:=inc s.wr,left:=spent s.left}) S48 (PFacts.refuse (s':={s with pend:=s.pend++[(p.at_,d)],wr:=inc s.wr,left:=spent s.left}) (hf.write_old (s':={s with pend:=s.pend++[(p.at_,d)]}) (go:=g5) (d:=d) (v':=c_.2) hj rfl hk hd hpn rfl rfl rfl) rfl rfl hdc.symm (fun h=>absurd h (of_decide_eq_false hdc)) hlb)⟩
end Go.Proofs
end
section
open Go Go.RowKit Go.Proofs.YtgeioealgidkiaaW.PrintWords
namespace Go.Proofs
open Go.Vel
set_option linter.unusedVariables false
section
def Dsk.rdd (s:Dsk)(r:Int):Dsk:={s with rd:=r}
def PW (g:Nat)(s:Dsk):Ast:=fun h=>∃r:Int,PDisk g (s.rdd r) h
def Dsk.take (s:Dsk):Dsk:={s with life:=inc s.life}
structure DOk (s:Dsk):Prop where
 len:∀l∈s.last,l.length=512
 plen:∀x∈s.pend,x.2.length=512∧x.1<s.last.length
 n1:1≤s.last.length
 n2:s.last.length≤2048
 lb: -1≤s.left∧s.left≤9223372036854775807
section
variable {F:Nat→Prop}{w0 w:World}{L:List Ast}{g:Nat}{s:Dsk}
end
end
theorem now_congr {s s':Dsk}(h1:s'.last=s.last)(h2:s'.pend=s.pend)(k:Nat):s'.now k=s.now k:=by
 unfold Dsk.now pendOf;rw [h1,h2]
theorem now_nil {s:Dsk}(h:s.pend=[])(k:Nat):s.now k=s.last.getD k []:=Dsk.now_none (by unfold pendOf;rw [h];rfl)
theorem writeR_ok {s:Dsk}{a:Int}{d:List UInt8}(h:(s.writeR a d).2=0):0≤a∧a<s.last.length∧d.length=512∧s.left≠0∧(s.writeR a d).1={s with pend:=s.pend++[(a.toNat,d)],wr:=inc s.wr,left:=spent s.left}:=by
 unfold Dsk.writeR at h ⊢
 by_cases h1:s.left=0
 ·rw [if_pos h1] at h;exact absurd (show (_:Int)=0 from h) om_
 ·rw [if_neg h1] at h ⊢
  by_cases h2:a<0∨(s.last.length:Int)≤a
  ·rw [if_pos h2] at h;exact absurd (show (_:Int)=0 from h) om_
  ·rw [if_neg h2] at h ⊢
   by_cases h3:d.length≠512
   ·rw [if_pos h3] at h;exact absurd (show (_:Int)=0 from h) om_
   ·rw [if_neg h3] at h ⊢
    exact ⟨by omega,by omega,by omega,h1,rfl⟩
theorem writeR_no {s:Dsk}{a:Int}{d:List UInt8}(h:(s.writeR a d).2≠0):(s.writeR a d).1.last=s.last∧(s.writeR a d).1.pend=s.pend∧(s.writeR a d).1.left=s.left∧(0≤a→a<s.last.length→d.length=512→(s.writeR a d).2=3∧s.left=0)∧(s.left=0→(s.writeR a d).2=3):=by
 unfold Dsk.writeR at h ⊢
 by_cases h1:s.left=0
 ·rw [if_pos h1];exact ⟨rfl,rfl,rfl,fun _ _ _=>⟨rfl,h1⟩,fun _=>rfl⟩
 ·rw [if_neg h1] at h ⊢
  by_cases h2:a<0∨(s.last.length:Int)≤a
  ·rw [if_pos h2];exact ⟨rfl,rfl,rfl,fun q1 q2 _=>by omega,fun q=>absurd q h1⟩
  ·rw [if_neg h2] at h ⊢
   by_cases h3:d.length≠512
   ·rw [if_pos h3];exact ⟨rfl,rfl,rfl,fun _ _ q3=>absurd q3 h3,fun q=>absurd q h1⟩
   ·rw [if_neg h3] at h;exact absurd rfl h
theorem now_write {s s':Dsk}{k:Nat}{d:List UInt8}(h1:s'.last=s.last)(h2:s'.pend=s.pend++[(k,d)])(j:Nat):s'.now j=if k=j then d else s.now j:=by
 have hp:=pendOf_snoc s k j d s' h2
 unfold Dsk.now
 rw [hp,h1]
 by_cases hk:k=j
 ·rw [if_pos hk,if_pos hk,List.getLast?_append];rfl
 ·rw [if_neg hk,if_neg hk,List.append_nil]
theorem fuseR_same (s:Dsk)(n:Int):(s.fuseR n).last=s.last∧(s.fuseR n).pend=s.pend:=by unfold Dsk.fuseR;split<;>exact ⟨rfl,rfl⟩
end Go.Proofs
end
section
open Go Go.RowKit Go.Proofs.YtgeioealgidkiaaW.PrintWords
namespace Go.Vel
set_option linter.unusedVariables false
section
def bytesX (v:Value)(l:List UInt8):Ast:=fun h=>∃A c,v=.slice A l.length c∧l.length≤c∧∀w:World,(∀k o,h k=some o→w.heap[k]?=some o)→RdB w A l
section
variable {F:Nat→Prop}{w0 w w':World}{L:List Ast}
theorem RoT.bytesX {v:Value}{l:List UInt8}{A:Option Addr}{n c:Nat}(j:Nat)(hj:L[j]?=some (bytesX v l))(hv:v=.slice A n c):RoT F w0 L A l:=⟨fun w' L' S=>by
 have h1:(L'++L)[L'.length+j]?=some (Go.Vel.bytesX v l):=by rw [List.getElem?_append_right om_];simpa using hj
 obtain ⟨_,hs,a1,a2,a3⟩:=S
 obtain ⟨A',c',e,_,hR⟩:=a1 _ _ h1
 rw [hv] at e
 simp at e
 rw [e.1]
 exact hR w' fun k o hk=>(a3 _ (List.getElem?_eq_some_iff.1 h1).1 k o hk).1⟩
end
end
end Go.Vel
end
section
namespace Go
end Go
def Go.Vel.m1 (r:BitVec 32):BitVec 32:=(r>>>1)^^^(if r.getLsbD 0=true then BitVec.ofNat 32 2197175160 else (BitVec.ofNat 32 0))
namespace Go.Vel
def mk:Nat→BitVec 32→BitVec 32
 |0,r=>r
 |k+1,r=>mk k (m1 r)
theorem mk_add (j:Nat):∀(k:Nat) (r:BitVec 32),mk (k+j) r=mk j (mk k r):=by
 intro k
 induction k with
 |zero=>intro r;simp [mk]
 |succ k ih=>intro r;rw [Nat.add_right_comm];simp [mk,ih]
theorem mk_succ' (k:Nat)(r:BitVec 32):mk (k+1) r=m1 (mk k r):=mk_add 1 k r
def ex (b:UInt8):BitVec 32:=BitVec.ofNat 32 b.toNat
def upd (r:BitVec 32)(b:UInt8):BitVec 32:=mk 8 (r^^^ex b)
def raw (r:BitVec 32)(l:List UInt8):BitVec 32:=l.foldl upd r
def crc (l:List UInt8):BitVec 32:= ~~~ raw (BitVec.ofNat 32 4294967295) l
theorem raw_append (r:BitVec 32)(a b:List UInt8):raw r (a++b)=raw (raw r a) b:=List.foldl_append ..
end Go.Vel
namespace Go.Vel
def le4 (r:BitVec 32):List UInt8:=[UInt8.ofNat (r.toNat%256),UInt8.ofNat (r.toNat/256%256),UInt8.ofNat (r.toNat/65536%256),UInt8.ofNat (r.toNat/16777216%256)]
end Go.Vel
end
section
open Go Go.RowKit Go.Proofs.YtgeioealgidkiaaW.PrintWords
namespace Go.Proofs
open Go.Vel
theorem ex_toNat (x:UInt8):((ex x).toNat:Int)=(x.toNat:Int):=by
 unfold ex
 have:=x.toNat_lt
 rw [BitVec.toNat_ofNat,Nat.mod_eq_of_lt om_]
end Go.Proofs
end
section
namespace Go.Vel
def text (body:List UInt8):List UInt8:=UInt8.ofNat (body.length%256)::UInt8.ofNat (body.length/256)::(body++List.replicate (504-body.length) 0)
def form (t:UInt8)(body:List UInt8):List UInt8:=t::((text body).take 2++(le4 (crc (text body))++((text body).drop 2++[t])))
def turnOf (a b:UInt8):UInt8:=if (0:UInt8)≠a∧(0:UInt8)≠b then 0 else if (1:UInt8)≠a∧(1:UInt8)≠b then 1 else 2
def sealF (old body:List UInt8):List UInt8×Nat:=
 if old.length≠512 then ([],2) else if 504<body.length then ([],7) else (form (turnOf (old.getD 0 0) (old.getD 511 0)) body,0)
def openF (s:List UInt8):List UInt8×Nat:=
 if s.length≠512 then ([],2) else
 if 2<(s.getD 0 0).toNat∨504<(s.getD 1 0).toNat+256*(s.getD 2 0).toNat then ([],30) else
 if s=form (s.getD 0 0) ((s.drop 7).take ((s.getD 1 0).toNat+256*(s.getD 2 0).toNat)) then ((s.drop 7).take ((s.getD 1 0).toNat+256*(s.getD 2 0).toNat),0) else ([],30)
theorem length_text {body:List UInt8}(h:body.length≤504):(text body).length=506:=by simp [text];omega
theorem length_le4 (r:BitVec 32):(le4 r).length=4:=rfl
theorem length_form {body:List UInt8}(t:UInt8)(h:body.length≤504):(form t body).length=512:=by
 have:=length_text h
 simp only [form,List.length_cons,List.length_append,List.length_take,List.length_drop,length_le4,List.length_nil]
 omega
theorem form_eq (t:UInt8)(body:List UInt8)(s0 s1 s2 s3:UInt8)(hs:le4 (crc (text body))=[s0,s1,s2,s3]):
  form t body=t::UInt8.ofNat (body.length%256)::UInt8.ofNat (body.length/256)::s0::s1::s2::s3::(body++(List.replicate (504-body.length) 0++[t])):=by
 unfold form
 rw [hs]
 simp [text]
end Go.Vel
end
section
open Go Go.RowKit Go.Proofs.YtgeioealgidkiaaW.PrintWords
namespace Go.Proofs
open Go.Vel
section
theorem openF_at {s:List UInt8}{x0:UInt8}{n:Nat}(hl:s.length=512)(h0:x0=s.getD 0 0)(hn:n=(s.getD 1 0).toNat+256*(s.getD 2 0).toNat):
  openF s=if 2<x0.toNat∨504<n then ([],30) else if s=form x0 ((s.drop 7).take n) then ((s.drop 7).take n,0) else ([],30):=by
 subst h0 hn
 unfold openF
 rw [if_neg (fun h=>h hl)]
section
variable {P:Program}{T:TypeId}{w:World}
end
end
def leN:List UInt8→Nat
 |[]=>0
 |x::l=>x.toNat+256*leN l
def readF (s:List UInt8):Nat×List UInt8:=
 if (openF s).2≠0∨(openF s).1.length<8 then (0,[]) else
 if leN ((openF s).1.take 8)=0∨9223372036854775807<leN ((openF s).1.take 8) then (0,[]) else (leN ((openF s).1.take 8),(openF s).1.drop 8)
theorem addr_add_add (a:Addr)(i j:Nat):(a.add i).add j=a.add (i+j):=by
 unfold Addr.add
 by_cases h0:i=0
 ·subst h0;simp
 ·by_cases h1:j=0
  ·subst h1;simp
  ·have h2:¬(i+j=0):=by omega
   simp only [h0,h1,h2,if_false,Nat.add_assoc]
def newestF (l r:List UInt8):Nat×Nat×List UInt8×Nat:=
 if l.length=512∧r.length=512 then
  if (readF l).1=0∧(readF r).1=0 then (0,0,[],30) else if (readF l).1<(readF r).1 then (1,(readF r).1,(readF r).2,0) else (0,(readF l).1,(readF l).2,0)
 else (0,0,[],2)
end Go.Proofs
end
section
open Go Go.RowKit Go.Proofs.YtgeioealgidkiaaW.PrintWords
namespace Go.Proofs
open Go.Vel
set_option linter.unusedVariables false
structure Pc where
 epoch:Nat
 pos:Nat
 idx:Nat
 cnt:Nat
 data:List UInt8
def numN (b:List UInt8)(at_ n:Nat):Nat:=leN ((b.drop at_).take n)
def pcOf (b:List UInt8):Pc:=⟨numN b 0 4,numN b 4 4,numN b 8 2,numN b 10 2,b.drop 12⟩
def pcNo:Pc:=⟨0,0,0,0,[]⟩
def pcF (sec:List UInt8):Pc:=if (openF sec).2=0∧12≤(openF sec).1.length then pcOf (openF sec).1 else pcNo
structure Pc.Part (q:Pc)(epoch p i c:Nat):Prop where
 data:q.data≠[]
 epoch:q.epoch=epoch
 pos:q.pos=p
 idx:q.idx=i
 cnt:q.cnt=c
 full:i+1=c∨q.data.length=492
def catF (pc:Nat→Pc)(p c:Nat):List UInt8:=((List.range c).map fun j=>(pc (p+j)).data).flatten
theorem catF_succ (pc:Nat→Pc)(p c:Nat):catF pc p (c+1)=catF pc p c++(pc (p+c)).data:=by
 unfold catF
 rw [List.range_succ,List.map_append,List.flatten_append];simp
structure IsRec (pc:Nat→Pc)(epoch p c:Nat):Prop where
 c1:1≤c
 c17:c≤17
 cnt:(pc p).cnt=c
 part:∀j,j<c→(pc (p+j)).Part epoch (p+j) j c
inductive Recs (pc:Nat→Pc)(epoch a:Nat):List (List UInt8)→Nat→Prop where
 |nil:Recs pc epoch a [] a
 |step {R:List (List UInt8)} {h c:Nat}:Recs pc epoch a R h→IsRec pc epoch h c→Recs pc epoch a (R++[catF pc h c]) (h+c)
def NoRec (pc:Nat→Pc)(epoch h:Nat):Prop:=∀c,¬IsRec pc epoch h c
theorem Recs.le {pc:Nat→Pc}{epoch a:Nat}{R:List (List UInt8)}{h:Nat}(r:Recs pc epoch a R h):a≤h:=by
 induction r with
 |nil=>exact Nat.le_refl _
 |step _ _ ih=>omega
theorem Recs.at {pc:Nat→Pc}{epoch a:Nat}{R:List (List UInt8)}{h:Nat}(r:Recs pc epoch a R h):∀p,a≤p→p<h→(pc p).pos=p∧(pc p).epoch=epoch:=by
 induction r with
 |nil=>intro p h1 h2;omega
 |@step R h c r hr ih=>
  intro p h1 h2
  by_cases hp:p<h
  ·exact ih p h1 hp
  ·have h3:=hr.part (p-h) om_
   rw [show h+(p-h)=p from by omega] at h3
   exact ⟨h3.pos,h3.epoch⟩
theorem Recs.room {pc:Nat→Pc}{epoch a n:Nat}{R:List (List UInt8)}{h:Nat}(r:Recs pc epoch a R h)(hn:∀p,pc (p+n)=pc p)(h0:0<n):h≤a+n:=by
 refine Nat.not_lt.1 fun hlt=> ?_
 have h1:=(r.at a (Nat.le_refl _) om_).1
 have h2:=(r.at (a+n) om_ hlt).1
 rw [hn] at h2
 omega
theorem IsRec.det {pc:Nat→Pc}{epoch p c c':Nat}(h:IsRec pc epoch p c)(h':IsRec pc epoch p c'):c=c':=h.cnt.symm.trans h'.cnt
theorem Recs.cons {pc:Nat→Pc}{epoch a c:Nat}(hr:IsRec pc epoch a c):∀{R:List (List UInt8)} {h:Nat},Recs pc epoch (a+c) R h→Recs pc epoch a (catF pc a c::R) h:=by
 intro R h r
 induction r with
 |nil=>exact Recs.step (R:=[]) Recs.nil hr
 |step _ hr2 ih=>exact Recs.step ih hr2
theorem Recs.uncons {pc:Nat→Pc}{epoch a c:Nat}(hr:IsRec pc epoch a c){R:List (List UInt8)}{h:Nat}(r:Recs pc epoch a R h):(R=[]∧h=a)∨∃R',R=catF pc a c::R'∧Recs pc epoch (a+c) R' h:=by
 induction r with
 |nil=>exact .inl ⟨rfl,rfl⟩
 |@step R h c' r hr2 ih=>
  rcases ih with ⟨rfl,rfl⟩|⟨R',rfl,r'⟩
  ·have:=hr.det hr2
   subst this
   exact .inr ⟨[],rfl,Recs.nil⟩
  ·exact .inr ⟨R'++[catF pc h c'],rfl,Recs.step r' hr2⟩
structure Lg where
 first:Nat
 n:Nat
 life:Int
 epoch:Nat
 top:Nat
 tail:Nat
 head:Nat
 begun:Bool
def pcAt (s:Dsk)(first n p:Nat):Pc:=pcF (s.now (first+2+p%n))
def aliveR (s:Dsk)(l:Lg):Bool:=decide (s.left≠0)&&decide (s.life=l.life)
def readyR (s:Dsk)(l:Lg):Int:=if aliveR s l=false then 3 else if l.begun=false then 4 else 0
def leB (v n:Nat):List UInt8:=(List.range n).map fun i=>UInt8.ofNat (v/256^i%256)
def bodyR (epoch p i c:Nat)(part:List UInt8):List UInt8:=leB epoch 4++leB p 4++leB i 2++leB c 2++part
def partR (data:List UInt8)(i:Nat):List UInt8:=(data.drop (i*492)).take 492
def layR (s:Dsk)(l:Lg)(data:List UInt8)(i c:Nat):Dsk×Int:=
 let at_:=l.first+2+(l.head+i)%l.n
 s.writeR (at_:Int) (sealF (s.now at_) (bodyR l.epoch (l.head+i) i c (partR data i))).1
def laysR (l:Lg)(data:List UInt8)(c:Nat):Dsk→Nat→Nat→Dsk×Int
 |s,_,0=>(s,0)
 |s,i,k+1=>if (layR s l data i c).2≠0 then layR s l data i c else laysR l data c (layR s l data i c).1 (i+1) k
def countR (m:Nat):Nat:=(m+491)/492
def appendR (s:Dsk)(l:Lg)(data:List UInt8):Dsk×Lg×Int:=
 if readyR s l≠0 then (s,l,readyR s l) else if data.length=0 then (s,l,2) else if 8364<data.length then (s,l,7)
 else if 1073741824<l.head+countR data.length then (s,l,41) else if l.n<l.head-l.tail+countR data.length then (s,l,40) else
 let r:=laysR l data (countR data.length) s 0 (countR data.length)
 if r.2≠0 then (r.1,l,r.2) else (r.1,{l with head:=l.head+countR data.length},0)
end Go.Proofs
end
section
open Go Go.RowKit Go.Proofs.YtgeioealgidkiaaW.PrintWords
namespace Go.Proofs
open Go.Vel
set_option linter.unusedVariables false
set_option maxRecDepth 100000
set_option maxHeartbeats 4000000
attribute [local irreducible] gives wpList Code.wp
def lgc (gd:Nat)(l:Lg):Array Value:=#[.pointer (some ⟨gd,0,none⟩),.int .i64 (l.first:Nat),.int .i64 (l.n:Nat),.int .i64 l.life,.int .i64 (l.epoch:Nat),.int .i64 (l.top:Nat),.int .i64 (l.tail:Nat),.int .i64 (l.head:Nat),.bool l.begun]
def PLog (g gd:Nat)(l:Lg):Ast:=row g (lgc gd l) 161
structure LOk (l:Lg):Prop where
 first:l.first≤2048
 n0:18≤l.n
 n:l.n≤256
 epoch:l.epoch≤1073741824
 top:l.top<1073741824
 tail:l.tail≤1073741824
structure LHd (l:Lg):Prop where
 th:l.tail≤l.head
 ht:l.head≤l.tail+l.n
theorem alive_burnt {s:Dsk}{l:Lg}(h:s.left=0):aliveR s l=false:=by simp [aliveR,h]
end Go.Proofs
end
section
open Go Go.RowKit Go.Proofs.YtgeioealgidkiaaW.PrintWords
namespace Go.Vel
set_option linter.unusedVariables false
section
section
variable {P:Program}{ops:Array Oper}{rest:List Oper}{o:Oper}{a:Act}{w w0:World}{F:Nat→Prop}{L:List Ast}{ρ:Operand→Value}{K:Value→World→Prop}{e:TypeId}{sz n:Nat}{v:Value}{vals:List Value}
theorem gv_appendB {s x:Operand}{t:TypeId}{g n c m c':Nat}{A:Option Addr}{X l:List UInt8}(S:St F w0 w L)(i:Nat)(hi:L[i]?=some (row g (bvs X) e))(ho:o.op=.call {callee:=.builtin .append,args:=#[s,x],argTypes:=#[t,t]})(ht:P.underlying t=some (.slice e))(hinfo:(P.info? e).map (·.size)=some 1)
  (hs:ρ s=.slice (some ⟨g,0,none⟩) n c) (hx:ρ x=.slice A m c') (hm:m=l.length) (hr:RdB w A l) (hroom:n+l.length≤c) (hL:X.length=c) {n':Nat} (hn':n'=n+l.length)
  {L':List Ast} (hL':L.set i (row g (bvs (splice X n l)) e)=L') (h:∀w',St F w0 w' L'→K (.slice (some ⟨g,0,none⟩) n' c) w'):gives P K ((execOp ρ o).run P w):=by
 subst hm hn'
 obtain ⟨ie,hie,hz⟩:=Option.map_eq_some_iff.1 hinfo
 have hB:=S.blk i hi
 by_cases h0:l.length=0
 ·have hl0:l=[]:=List.eq_nil_of_length_eq_zero h0
  subst hl0
  have hsp:splice X n []=X:=by simp [splice]
  rw [hsp] at hL'
  have hset:L.set i (row g (bvs X) e)=L:=by
   apply List.ext_getElem?
   intro k
   rw [List.getElem?_set]
   split
   ·rename_i hk
    subst hk
    rw [hi,if_pos (List.getElem?_eq_some_iff.1 hi).1]
   ·rfl
  rw [hset] at hL'
  subst hL'
  refine gv_val (w':=w) (v:=.slice (some ⟨g,0,none⟩) n c) ?_ (by simpa using h w S)
  have hroom':n≤c:=by simpa using hroom
  cases A with
  |none=>simp [execOp,ho,resolve,invoke,builtin,hs,hx,Builtin.append_,run_underlying ht,sizeOf,typeInfo,hie,Builtin.lenOf,hroom',Builtin.firstCells,storeCells]
  |some ad=>
   have hrun:=run_append_room_cells (P:=P) w t o.type e ie ht hie g 0 n c ad 0 c' [] (by simp) (by simp) (by simp) om_ (by simp) (by simp)
   simp [execOp,ho,resolve,invoke,builtin,hs,hx,hrun,World.setCells]
 ·obtain ⟨ad,rfl,hcs⟩:=hr om_
  have hrun:=run_append_room_cells (P:=P) w t o.type e ie ht hie g 0 n c ad l.length c' (l.map bv) (by simp [hz]) hcs (map_bv_one l) hroom
   (fun j hj=>by
    rw [hz,Nat.mul_one,Nat.zero_add,hB.cell,Array.getElem?_eq_getElem (by rw [size_bvs];simp at hj;omega)];rfl)
   (fun j hj=>hB.frozen _)
  rw [hz,Nat.mul_one,Nat.zero_add] at hrun
  obtain ⟨cur',h3,h4,h5⟩:=setCells_row (l.map bv) n w (bvs X) hB.out (by rw [size_bvs];simp;omega)
  have hcur:cur'=bvs (splice X n l):=by
   apply Array.ext'
   rw [h5]
   simp [bvs,splice,List.map_take,List.map_drop]
  rw [hcur] at h3
  obtain ⟨q1,q2,q3,q4⟩:=setCells_same g (l.map bv) n w
  subst hL'
  refine gv_val (w':=w.setCells g n (l.map bv)) (v:=.slice (some ⟨g,0,none⟩) (n+l.length) c) ?_ (h _ (S.upd i hi ⟨q1,q2,q3,q4,fun k hk=>setCells_far _ _ k hk⟩ h3))
  simp [execOp,ho,resolve,invoke,builtin,hs,hx,hrun]
theorem gv_shr {x y:Operand}{T U:TypeId}{k yk:IntKind}{z i:Int}{j:Nat}{z':Int}(ho:o.op=.binOp .shr T x y U)(hx:ρ x=.int k z)(hy:ρ y=.int yk i)(hi:i=(j:Int))(hj:j≤k.bits)(hz:z'=z/2^j)(h:K (.int k z') w):gives P K ((execOp ρ o).run P w):=by
 subst hi hz
 refine gv_val (w':=w) ?_ h
 have hf:z.fdiv (2^j)=z/2^j:=Int.fdiv_eq_ediv_of_nonneg _ (Int.pow_nonneg dc_)
 have hn:¬((j:Int)<0):=by omega
 have hm:min j k.bits=j:=Nat.min_eq_left hj
 simp only [execOp,ho,hx,hy]
 simp [binOp,eqGuard,Op.shift,hn,hm,hf]
theorem RoT.ofVec {t:TypeId}{A:Option Addr}{l:List UInt8}{n c:Nat}(i:Nat)(hi:L[i]?=some (vec t 1 (.slice A n c) n (l.map bv))):RoT F w0 L A l:=⟨fun w' L' S=>by
 have h1:(L'++L)[L'.length+i]?=some (vec t 1 (.slice A n c) n (l.map bv)):=by rw [List.getElem?_append_right om_];simpa using hi
 have S1:=S.mem _ h1
 intro h0
 have hl:=S1.vec_len
 rw [List.length_map] at hl
 obtain ⟨g,c2,junk,hv,_,h3,_,S2⟩:=S1.vec_open om_
 have hB:=S2.blk 0 rfl
 simp at hv
 refine ⟨⟨g,0,none⟩,hv.1,fun j u hu=> ?_⟩
 rw [Addr.add_lit,Nat.zero_add,hB.cell,List.getElem?_toArray,List.getElem?_append_left (List.getElem?_eq_some_iff.1 hu).1];exact hu⟩
theorem St.vecV {t:TypeId}{sz n:Nat}{v:Value}{vals:List Value}(S:St F w0 w L)(i:Nat)(hi:L[i]?=some (vec t sz v n vals)):∃A c,v=.slice A n c:=(S.mem i hi).vec_val
end
def pre (l:List UInt8)(i:Nat):List UInt8:=(List.range i).map fun j=>l.getD j 0
theorem pre_succ (l:List UInt8)(i:Nat):(pre l i).map bv++[Value.int .u8 ((l.getD i 0).toNat:Int)]=(pre l (i+1)).map bv:=by
 unfold pre
 rw [List.range_succ,List.map_append,List.map_append];rfl
theorem pre_take {l:List UInt8}{i:Nat}(h:i≤l.length):pre l i=l.take i:=by
 apply List.ext_getElem?
 intro k
 unfold pre
 rw [List.getElem?_map,List.getElem?_take]
 by_cases hk:k<i
 ·rw [List.getElem?_range hk,if_pos hk,List.getElem?_eq_getElem om_,Option.map_some,List.getD_eq_getElem?_getD,List.getElem?_eq_getElem om_];rfl
 ·rw [List.getElem?_eq_none (by simpa using hk),if_neg hk];rfl
theorem pre_all (l:List UInt8):pre l l.length=l:=by rw [pre_take (Nat.le_refl _),List.take_length]
theorem bv_snoc (l:List UInt8)(b:UInt8):l.map bv++[Value.int .u8 (b.toNat:Int)]=(l++[b]).map bv:=by rw [List.map_append];rfl
theorem wr_u8 (b:UInt8):IntKind.i64.wrap (b.toNat:Int)=(b.toNat:Int):=by
 have:=b.toNat_lt
 rw [IntKind.wrap_i64];omega
theorem wrap_u8 (z:Int):IntKind.u8.wrap z=((UInt8.ofNat (z%256).toNat).toNat:Int):=by
 rw [UInt8.toNat_ofNat',IntKind.wrap_u8]
 have h1:=Int.emod_nonneg z (show (256:Int)≠0 by decide)
 have h2:=Int.emod_lt_of_pos z (show (0:Int)<256 by decide)
 omega
end
end Go.Vel
end
section
open Go Go.RowKit Go.Proofs.YtgeioealgidkiaaW.PrintWords
namespace Go.Proofs
open Go.Vel
set_option linter.unusedVariables false
set_option maxRecDepth 100000
set_option maxHeartbeats 4000000
attribute [local irreducible] gives wpList Code.wp
section
variable {F:Nat→Prop} {w0 w:World} {L:List Ast}
theorem byte_eq3 {a b:List UInt8}{k:Nat}(h:¬((a.getD k 0).toNat:Int)=((b.getD k 0).toNat:Int)):a≠b:=fun e=>h (by rw [e])
theorem bytes_ext3 {a b:List UInt8}(hl:a.length=b.length)(h:∀m,m<a.length→((a.getD m 0).toNat:Int)=((b.getD m 0).toNat:Int)):a=b:=by
 apply List.ext_getElem hl
 intro m h1 h2
 have:=h m h1
 rw [List.getD_eq_getElem?_getD,List.getD_eq_getElem?_getD,List.getElem?_eq_getElem h1,List.getElem?_eq_getElem h2] at this
 simp only [Option.getD_some] at this
 exact UInt8.toNat_inj.1 om_
theorem rsame_ {A B:Option Addr}{a b:List UInt8}{ca cb:Nat}(S:St F w0 w L)(hx:RoT F w0 L A a)(hy:RoT F w0 L B b)(hm:a.length≤9223372036854775807)(hm2:b.length≤9223372036854775807):
  Calls Try.prog 145 #[.slice A a.length ca,.slice B b.length cb] w fun e w'=>e=.returned (.bool (decide (a=b)))∧St F w0 w' L:=by
 refine eN (fr [.slice A a.length ca,.slice B b.length cb] 24) Try.func145 rfl (sR (pv fv (wE (nS (sR (pv (.slice A a.length ca) (pv (iv (a.length:Nat)) (pv (.slice B b.length cb) (pv (iv (b.length:Nat)) (dN (a.length:Nat) (b.length:Nat) (fun hb1=> ?_) fun hb1=> ?_))))))))))
 ·have hlen:¬a.length=b.length:=fun e=>hb1 (by rw [e])
  exact wE (nCT (sR (pv fv (wE (then_n (rR (bA (.bool false) ⟨by rw [decide_eq_false (fun e=>hlen (by rw [e]))],S⟩)))))))
 ·have hlen:a.length=b.length:=Int.ofNat.inj hb1
  refine wE (nCF (wp_skip (nS (sR (pv (iv 0) (wE (then_n (wp_block (wp_loop_g (G:=Nat) (fun (g_:Nat) (a_:Act) (w_:World)=>∃J:Nat→Value,a_=(fr ([.slice A a.length ca,.slice B b.length cb,ud,ud,J 4,nI_ g_,.slice A a.length ca,iv (a.length:Nat),.slice B b.length cb,iv (b.length:Nat),fv]++jR J 11 15) 0)∧St F w0 w_ (L)∧(g_≤a.length∧∀m,m<g_→((a.getD m 0).toNat:Int)=((b.getD m 0).toNat:Int))) (fun g_=>a.length-g_) 0 (jE_ ⟨S,⟨Nat.zero_le _,fun m h=>absurd h (Nat.not_lt_zero _)⟩⟩) ?_)))))))))
  rintro k a_ w2 ⟨J,rfl,S3,hI4⟩
  skip
  have S3:St F w0 w2 (L):=S3
  have hI4:(k≤a.length∧∀m,m<k→((a.getD m 0).toNat:Int)=((b.getD m 0).toNat:Int)):=hI4
  refine wp_seq (sR (pv (nI_ k) (pv (.slice A a.length ca) (pv (iv (a.length:Nat)) (dC ((((k:Nat):Int):Int)<(a.length:Nat)) (fun hb5=> ?_) fun hb5=> ?_)))))
  ·have hk:k<a.length:=by omega
   obtain ⟨ada,rfl⟩:=(hx.now S3).at hk
   obtain ⟨adb,rfl⟩:=(hy.now S3).at (hlen▸hk)
   refine wE (nCT (wp_skip (nS (wp_block (wp_seq (wp_region_phu (γ:=Unit) 9 [] (fun (c_:Unit) (i_:Nat)=>(match i_ with|0=>.slice (some ada) a.length ca|1=>nI_ k|2=>.pointer (some (ada.add k))|3=>.int .u8 ((a.getD k 0).toNat:Int)|4=>.slice (some adb) b.length cb|5=>nI_ k|6=>.pointer (some (adb.add k))|7=>.int .u8 ((b.getD k 0).toNat:Int)|8=>.bool (((a.getD k 0).toNat:Int) !=((b.getD k 0).toNat:Int))|_=>undef:Value)) (fun (c_:Unit) (p_:Nat) (w_:World)=>(match p_ with|_=>St F w0 w_ (L):Prop)) () kr_ kr_ kr_ kr_ (S3.drew) ?_ ?_ ?_))))))
   ·intro i_ c_ p_ vals_ w1 hi_ hiE_ hp_ hk_ hu_ hPh_ hd_
    rcases i_ with _|_|_|_|_|_|_|_|_|i_
    ·exact tG_ rfl hd_ (gV (.slice (some ada) a.length ca) ⟨rfl,rfl⟩)
    ·exact tG_ rfl hd_ (gV (nI_ k) ⟨rfl,rfl⟩)
    ·exact tG_ rfl hd_ (gv_ixB (e:=5) (sz:=1) (n:=a.length) (c:=ca) (i:=((k:Nat):Int)) (k:=.i64) (ad:=ada) (ad':=(ada.add k)) (j:=k) rfl kr_ kr_ kr_ kr_ rfl hk (by rw [Nat.mul_one]) ⟨rfl,rfl⟩)
    ·have S9:=St.id hPh_
     exact tG_ rfl hd_ (gL (.int .u8 ((a.getD k 0).toNat:Int)) rfl ((hx.now S9).cell hk) ⟨rfl,rfl⟩)
    ·exact tG_ rfl hd_ (gV (.slice (some adb) b.length cb) ⟨rfl,rfl⟩)
    ·exact tG_ rfl hd_ (gV (nI_ k) ⟨rfl,rfl⟩)
    ·exact tG_ rfl hd_ (gv_ixB (e:=5) (sz:=1) (n:=b.length) (c:=cb) (i:=((k:Nat):Int)) (k:=.i64) (ad:=adb) (ad':=(adb.add k)) (j:=k) rfl kr_ kr_ kr_ kr_ rfl (hlen▸hk) (by rw [Nat.mul_one]) ⟨rfl,rfl⟩)
    ·have S13:=St.id hPh_
     exact tG_ rfl hd_ (gL (.int .u8 ((b.getD k 0).toNat:Int)) rfl ((hy.now S13).cell (hlen▸hk)) ⟨rfl,rfl⟩)
    ·exact tG_ rfl hd_ (gV (.bool (((a.getD k 0).toNat:Int) !=((b.getD k 0).toNat:Int))) ⟨rfl,rfl⟩)
    ·exact absurd hi_ om_
   ·intro k_ c_ vals_ w1 hk_ hPh_ hd_
    exact absurd hk_ (Nat.not_lt_zero _)
   ·intro c_ w1 hPh_
    have S15:=St.id hPh_
    refine (wE (then_n (wp_cond_split (t:=((a.getD k 0).toNat:Int) !=((b.getD k 0).toNat:Int)) kr_ (fun hc16=> ?_) (fun hc16=> ?_))))
    ·exact sR (pv fv (wE (then_n (wp_ret (inb_r (then_r (then_r (inb_r (then_r (bA (.bool false) ⟨by rw [decide_eq_false (byte_eq3 (by simpa using hc16))],S15⟩))))))))))
    ·have heqk:((a.getD k 0).toNat:Int)=((b.getD k 0).toNat:Int):=by simpa using hc16
     exact wp_skip (inb_n (nR (pv (nI_ k) (gI .i64 (IntKind.i64.wrap (((k:Nat):Int)+1)) ((k+1:Nat):Int) wq_ (pv (nI_ (k+1)) (wE (then_n ⟨k+1,(jE_ ⟨S15,⟨by omega,fun m hm=>(Nat.lt_succ_iff_lt_or_eq.1 hm).elim (hI4.2 m) (fun e=>e▸heqk)⟩⟩),(by show a.length-(k+1)<a.length-k;omega)⟩)))))))
  ·have hke:k=a.length:=by omega
   exact wE (nCF (wp_exit (then_x (then_x (inb_x (nSR (pv tv (wE (then_n (wp_ret (bA (.bool true) ⟨by rw [decide_eq_true (bytes_ext3 hlen (fun m hm=>hI4.2 m om_))],S3⟩)))))))))))
theorem rsame {A B:Option Addr}{a b:List UInt8}{ca cb:Nat}{t:Bool}(ht:decide (a=b)=t)(S:St F w0 w L)(hx:RoT F w0 L A a)(hy:RoT F w0 L B b)(hm:a.length≤9223372036854775807)(hm2:b.length≤9223372036854775807):
  Calls Try.prog 145 #[.slice A a.length ca,.slice B b.length cb] w fun e w'=>e=.returned (.bool t)∧St F w0 w' L:=ht▸rsame_ S hx hy hm hm2
theorem bits_xor64' (a b:BitVec 32):bits .xor .i64 (a.toNat:Int) (b.toNat:Int)=((a^^^b).toNat:Int):=by
 have ha:=a.isLt
 have hb:=b.isLt
 have hc:=(a^^^b).isLt
 show IntKind.i64.wrap ((BitVec.ofInt 64 (a.toNat:Int)^^^BitVec.ofInt 64 (b.toNat:Int)).toNat:Int)=_
 rw [BitVec.toNat_xor]
 have f1:(BitVec.ofInt 64 (a.toNat:Int)).toNat=a.toNat:=by simp;omega
 have f2:(BitVec.ofInt 64 (b.toNat:Int)).toNat=b.toNat:=by simp;omega
 rw [f1,f2,←BitVec.toNat_xor,IntKind.wrap_i64]
 omega
theorem bits_and1' (r:BitVec 32):bits .and .i64 (r.toNat:Int) 1=((r.toNat%2:Nat):Int):=by
 have hr:=r.isLt
 show IntKind.i64.wrap ((BitVec.ofInt 64 (r.toNat:Int)&&&BitVec.ofInt 64 1).toNat:Int)=_
 rw [BitVec.toNat_and]
 have f1:(BitVec.ofInt 64 (r.toNat:Int)).toNat=r.toNat:=by simp;omega
 have f2:(BitVec.ofInt 64 (1:Int)).toNat=1:=rfl
 rw [f1,f2,Nat.and_one_is_mod,IntKind.wrap_i64]
 omega
theorem lsb_mod' (r:BitVec 32):r.getLsbD 0=true↔r.toNat%2=1:=by
 rw [BitVec.getLsbD,Nat.testBit_zero];simp
theorem m1_num' (r:BitVec 32):(r.toNat%2=1→bits .xor .i64 ((r.toNat:Int)/2) 2197175160=((m1 r).toNat:Int))∧(r.toNat%2≠1→(r.toNat:Int)/2=((m1 r).toNat:Int)):=by
 have e1:((r.toNat:Int)/2:Int)=((r>>>1).toNat:Int):=by
  rw [BitVec.toNat_ushiftRight,Nat.shiftRight_eq_div_pow];omega
 have e2:(2197175160:Int)=((BitVec.ofNat 32 2197175160).toNat:Int):=by decide
 constructor
 ·intro h
  rw [e1,e2,bits_xor64']
  unfold m1
  rw [if_pos ((lsb_mod' r).2 h)]
 ·intro h
  rw [e1]
  unfold m1
  rw [if_neg (fun h2=>h ((lsb_mod' r).1 h2))]
  simp
theorem raw_pre (l:List UInt8)(i:Nat):raw (BitVec.ofNat 32 4294967295) (pre l (i+1))=upd (raw (BitVec.ofNat 32 4294967295) (pre l i)) (l.getD i 0):=by
 unfold pre
 rw [List.range_succ,List.map_append,raw_append];rfl
theorem crc_end (r:BitVec 32):bits .xor .i64 (r.toNat:Int) 4294967295=((~~~ r).toNat:Int):=by
 have e:(4294967295:Int)=((BitVec.ofNat 32 4294967295).toNat:Int):=by decide
 rw [e,bits_xor64',show BitVec.ofNat 32 4294967295=BitVec.allOnes 32 from by decide,BitVec.xor_allOnes]
theorem rsum (S:St F w0 w L){A:Option Addr}{l:List UInt8}{ca:Nat}(hr:RoT F w0 L A l)(hlm:l.length≤140737488355328):Calls Try.prog 162 #[.slice A l.length ca] w fun e w'=>e=.returned (.int .i64 ((crc l).toNat:Int))∧St F w0 w' L:=by
 refine eN (fr [.slice A l.length ca] 33) Try.func162 rfl (sR (pv (iv 0) (wER (pv (iv 4294967295) (wE (nS (sR (pv (iv 0) (wE (then_n (wp_block (wp_loop_g (G:=Nat×BitVec 32) (fun (g_:Nat×BitVec 32) (a_:Act) (w_:World)=>∃J:Nat→Value,a_=(fr ([.slice A l.length ca,ud,iv 0,iv (g_.2.toNat:Int),nI_ g_.1]++jR J 5 27) 2)∧St F w0 w_ (L)∧(g_.1≤l.length∧g_.2=raw (BitVec.ofNat 32 4294967295) (pre l g_.1))) (fun g_=>l.length-g_.1) (0,BitVec.ofNat 32 4294967295) (jE_ ⟨S,⟨Nat.zero_le _,rfl⟩⟩) ?_))))))))))))
 rintro ⟨i,r⟩ a_ w1 ⟨J,rfl,S2,hI3⟩
 skip
 have S2:St F w0 w1 (L):=S2
 have hI3:(i≤l.length∧r=raw (BitVec.ofNat 32 4294967295) (pre l i)):=hI3
 refine wp_seq (sR (pv (nI_ i) (pv (.slice A l.length ca) (pv (iv (l.length:Nat)) (dC ((((i:Nat):Int):Int)<(l.length:Nat)) (fun hb4=> ?_) fun hb4=> ?_)))))
 ·have hi:i<l.length:=by omega
  obtain ⟨ad,had⟩:=(hr.now S2).at hi
  refine wE (nCT (wp_skip (nS (wp_block (sR (pv (iv (r.toNat:Int)) (pv (.slice A l.length ca) (pv (nI_ i) (g_ (gv_ixB (e:=5) (sz:=1) (n:=l.length) (c:=ca) (i:=((i:Nat):Int)) (k:=.i64) (ad:=ad) (ad':=(ad.add i)) (j:=i) rfl kr_ kr_ (by rw [←had];kernel_rfl) kr_ rfl hi (by rw [Nat.mul_one]) (lQ (.int .u8 ((l.getD i 0).toNat:Int)) ((had▸hr.now S2:RdB _ (some ad) l).cell hi) (gI .i64 (IntKind.i64.wrap ((l.getD i 0).toNat:Int)) ((l.getD i 0).toNat:Int) (wr_u8 _) (gI .i64 (bits .xor .i64 (r.toNat:Int) ((l.getD i 0).toNat:Int)) ((r^^^ex (l.getD i 0)).toNat:Int) (by rw [←ex_toNat,bits_xor64']) (pv (iv ((r^^^ex (l.getD i 0)).toNat:Int)) ?_))))))))))))))
  refine wER (pv (iv 0) (wE (then_n (wp_block (wp_loop_g (G:=Nat×BitVec 32) (fun (g_:Nat×BitVec 32) (a_:Act) (w_:World)=>∃J:Nat→Value,a_=(fr ([.slice A l.length ca,ud,iv 0,iv (g_.2.toNat:Int),nI_ i,nI_ g_.1,J 6,nI_ i,.slice A l.length ca,iv (l.length:Nat),tv,J 11,J 12,iv (r.toNat:Int),.slice A l.length ca,nI_ i,.pointer (some (ad.add i)),.int .u8 ((l.getD i 0).toNat:Int),iv ((l.getD i 0).toNat:Int),iv ((r^^^ex (l.getD i 0)).toNat:Int)]++jR J 20 12) 2)∧St F w0 w_ (L)∧(g_.1≤8∧g_.2=mk g_.1 (r^^^ex (l.getD i 0)))) (fun g_=>8-g_.1) (0,r^^^ex (l.getD i 0)) (jE_ ⟨S2,⟨Nat.zero_le _,rfl⟩⟩) ?_)))))
  rintro ⟨k,q⟩ a_ w5 ⟨J,rfl,S6,hI7⟩
  skip
  have S6:St F w0 w5 (L):=S6
  have hI7:(k≤8∧q=mk k (r^^^ex (l.getD i 0))):=hI7
  refine wp_seq (sR (pv (nI_ k) (dC ((((k:Nat):Int):Int)<8) (fun hb8=> ?_) fun hb8=> ?_)))
  ·refine wE (nCT (wp_skip (nS (wp_block (sR ?_)))))
   by_cases hpar:q.toNat%2=1
   ·refine pv (iv (q.toNat:Int)) (gI .i64 (bits .and .i64 (q.toNat:Int) 1) ((q.toNat%2:Nat):Int) (bits_and1' q) (pv (nI_ (q.toNat%2)) (wER (pv (iv (q.toNat:Int)) (g_ (gv_shr (k:=.i64) (yk:=.u64) (z:=(q.toNat:Int)) (i:=1) (j:=1) (z':=((q.toNat:Int)/2)) rfl kr_ kr_ rfl dc_ (by simp) (pv (iv ((q.toNat:Int)/2)) (wER (pv (nI_ (q.toNat%2)) (dE ((q.toNat%2:Nat):Int) 1 (fun _=>wE (nCT (wp_region_lit (pv (iv ((q.toNat:Int)/2)) ?_)))) fun hd9=>False.elim om_))))))))))
    exact gI .i64 (bits .xor .i64 ((q.toNat:Int)/2) 2197175160) ((m1 q).toNat:Int) ((m1_num' q).1 hpar) (pv (iv ((m1 q).toNat:Int)) (wE (inb_n (nR (pv (nI_ k) (gI .i64 (IntKind.i64.wrap (((k:Nat):Int)+1)) ((k+1:Nat):Int) (wr_eq om_ om_ om_) (pv (nI_ (k+1)) (wE (then_n ⟨(k+1,m1 q),(jE_ ⟨S6,⟨by omega,by rw [mk_succ',←hI7.2]⟩⟩),(by show 8-(k+1)<8-k;omega)⟩)))))))))
   ·refine pv (iv (q.toNat:Int)) (gI .i64 (bits .and .i64 (q.toNat:Int) 1) ((q.toNat%2:Nat):Int) (bits_and1' q) (pv (nI_ (q.toNat%2)) (wER (pv (iv (q.toNat:Int)) (g_ (gv_shr (k:=.i64) (yk:=.u64) (z:=(q.toNat:Int)) (i:=1) (j:=1) (z':=((m1 q).toNat:Int)) rfl kr_ kr_ rfl dc_ (by rw [←(m1_num' q).2 hpar];simp) (pv (iv ((m1 q).toNat:Int)) (wER (pv (nI_ (q.toNat%2)) (dE ((q.toNat%2:Nat):Int) 1 (fun hd10=>False.elim om_) fun _=>wE (nCF (wp_skip (inb_n ?_)))))))))))))
    exact nR (pv (nI_ k) (gI .i64 (IntKind.i64.wrap (((k:Nat):Int)+1)) ((k+1:Nat):Int) (wr_eq om_ om_ om_) (pv (nI_ (k+1)) (wE (then_n ⟨(k+1,m1 q),(jE_ ⟨S6,⟨by omega,by rw [mk_succ',←hI7.2]⟩⟩),(by show 8-(k+1)<8-k;omega)⟩)))))
  ·have hk8:k=8:=by omega
   have hq8:=hI7.2
   exact wE (nCF (wp_exit (then_x (then_x (inb_x (inb_n (nR (pv (nI_ i) (gI .i64 (IntKind.i64.wrap (((i:Nat):Int)+1)) ((i+1:Nat):Int) (wr_eq om_ om_ om_) (pv (nI_ (i+1)) (wE (then_n ⟨(i+1,q),(jE_ ⟨S6,⟨by omega,by rw [raw_pre,←hI3.2,hq8,hk8];rfl⟩⟩),(by show l.length-(i+1)<l.length-i;omega)⟩))))))))))))
 ·have hie:i=l.length:=by omega
  have hre:crc l= ~~~ r:=by unfold crc;rw [hI3.2,hie,pre_all]
  exact wE (nCF (wp_exit (then_x (then_x (inb_x (nSR (pv (iv (r.toNat:Int)) (gI .i64 (bits .xor .i64 (r.toNat:Int) 4294967295) ((~~~ r).toNat:Int) (crc_end r) (pv (iv ((~~~ r).toNat:Int)) (wE (then_n (wp_ret (bA (iv ((~~~ r).toNat:Int)) ⟨by rw [hre],S2⟩)))))))))))))
end
theorem pre_app (X l:List UInt8)(i:Nat):(X++pre l i).map bv++[Value.int .u8 ((l.getD i 0).toNat:Int)]=(X++pre l (i+1)).map bv:=by rw [List.map_append,List.append_assoc,pre_succ,List.map_append]
theorem rep_app (X:List UInt8)(j:Nat):(X++List.replicate j 0).map bv++[Value.int .u8 0]=(X++List.replicate (j+1) 0).map bv:=by
 rw [List.replicate_succ',←List.append_assoc,List.map_append (l₂:=[0])];rfl
theorem take_app (X l:List UInt8)(k:Nat)(h:k<l.length):(X++l.take k).map bv++[Value.int .u8 ((l.getD k 0).toNat:Int)]=(X++l.take (k+1)).map bv:=by
 rw [List.take_succ_eq_append_getElem h,List.getD_eq_getElem?_getD,List.getElem?_eq_getElem h,←List.append_assoc,List.map_append (l₂:=[_])];rfl
theorem getD_drop (l:List UInt8)(a i:Nat):(l.drop a).getD i 0=l.getD (a+i) 0:=by
 rw [List.getD_eq_getElem?_getD,List.getElem?_drop,List.getD_eq_getElem?_getD]
theorem pre_drop {l:List UInt8}{a i:Nat}(h:a+i≤l.length):pre (l.drop a) i=(l.drop a).take i:=pre_take (by rw [List.length_drop];omega)
theorem byte_of (n:Nat):IntKind.u8.wrap ((n%256:Nat):Int)=((UInt8.ofNat (n%256)).toNat:Int):=by
 rw [wrap_u8];congr 2;congr 1;omega
theorem byte_of' {z:Int}{n:Nat}(h:z=(n:Int))(hn:n<256):IntKind.u8.wrap z=((UInt8.ofNat n).toNat:Int):=by
 subst h;rw [show (n:Int)=((n%256:Nat):Int) from by omega,byte_of,Nat.mod_eq_of_lt hn]
theorem byte_self (t:UInt8):IntKind.u8.wrap (t.toNat:Int)=(t.toNat:Int):=by
 have:=t.toNat_lt
 rw [IntKind.wrap_u8];omega
theorem le4_get (r:BitVec 32){k:Nat}(hk:k<4):(le4 r).getD k 0=UInt8.ofNat (r.toNat/256^k%256):=by
 rcases k with _|_|_|_|k
 ·simp [le4]
 ·simp [le4]
 ·simp [le4]
 ·simp [le4]
 ·omega
theorem rform {F:Nat→Prop}{w0 w:World}{L:List Ast}(S:St F w0 w L){z:Int}{t:UInt8}(hz:z=(t.toNat:Int)){A:Option Addr}{b:List UInt8}{cb:Nat}(hr:RoT F w0 L A b)(hb:b.length≤504):Calls Try.prog 144 #[.int .i64 z,.slice A b.length cb] w fun e w'=>∃A c,e=.returned (.slice A 512 c)∧St F w0 w' (vec 5 1 (.slice A 512 c) 512 ((form t b).map bv)::L):=by
 subst hz
 have hlt:=length_text hb
 have S1:St F w0 w (vec 5 1 (nS_) 0 ([].map bv)::L):=St.vec_nil S
 refine eN (fr [iv (t.toNat:Int),.slice A b.length cb] 92) Try.func144 rfl (sR (pv (.slice none 0 0) (wER (pv (.slice none 0 0) (wER (pv (.slice none 0 0) (pv (.slice A b.length cb) (pv (iv (b.length:Nat)) (gI .i64 (Int.tmod (b.length:Nat) 256) ((b.length%256:Nat):Int) (by rw [Int.tmod_eq_emod_of_nonneg om_];omega) (gI .u8 (IntKind.u8.wrap ((b.length%256:Nat):Int)) ((UInt8.ofNat (b.length%256)).toNat:Int) (byte_of b.length) (g_ (gv_slit (e:=5) (sz:=1) (z:=.int .u8 0) (by_:=1) (vs:=#[(0,.int .u8 ((UInt8.ofNat (b.length%256)).toNat:Int))]) (cells:=#[.int .u8 ((UInt8.ofNat (b.length%256)).toNat:Int)]) S1 rfl kr_ ⟨by kernel_rfl⟩ kr_ kr_ kr_ kr_ (fun g2 w3 hg4 S5=> ?_)))))))))))))
 have S6:St F w0 w3 (row g2 #[.int .u8 ((UInt8.ofNat (b.length%256)).toNat:Int)] 5::vec 5 1 (nS_) 0 ([].map bv)::L):=St.pm 2 [0,1] S5
 refine g_ (gv_append (e:=5) (sz:=1) (n:=0) (v:=(nS_)) (vals:=([].map bv)) (z:=.int .u8 0) (by_:=1) (m:=1) (c':=1) (ad:=⟨g2,0,none⟩) (news:=[.int .u8 ((UInt8.ofNat (b.length%256)).toNat:Int)]) (St.swap S6) rfl kr_ ⟨by kernel_rfl⟩ rfl kr_ kr_ dc_ rfl (row_news (S6.blk 0 rfl)) (by intro u hu;simp at hu;subst hu;rfl) om_ om_ (fun v8 w7 S9=> ?_))
 have S10:St F w0 w7 (vec 5 1 v8 1 ([].map bv++[.int .u8 ((UInt8.ofNat (b.length%256)).toNat:Int)])::L):=St.pm 2 [0] S9
 obtain ⟨A11,c12,rfl⟩:=St.vecV S10 0 rfl
 change St F w0 w7 (vec 5 1 (.slice A11 1 c12) 1 ([UInt8.ofNat (b.length%256)].map bv)::L) at S10
 refine pv (.slice A11 1 c12) (wER (pv (.slice A11 1 c12) (pv (.slice A b.length cb) (pv (iv (b.length:Nat)) (gI .i64 (IntKind.i64.wrap (Int.tdiv (b.length:Nat) 256)) ((b.length/256:Nat):Int) (wr_eq (by rw [Int.tdiv_eq_ediv_of_nonneg om_];omega) om_ om_) (gI .u8 (IntKind.u8.wrap ((b.length/256:Nat):Int)) ((UInt8.ofNat (b.length/256)).toNat:Int) (byte_of' rfl om_) (g_ (gv_slit (e:=5) (sz:=1) (z:=.int .u8 0) (by_:=1) (vs:=#[(0,.int .u8 ((UInt8.ofNat (b.length/256)).toNat:Int))]) (cells:=#[.int .u8 ((UInt8.ofNat (b.length/256)).toNat:Int)]) S10 rfl kr_ ⟨by kernel_rfl⟩ kr_ kr_ kr_ kr_ (fun g13 w14 hg15 S16=> ?_)))))))))
 have S17:St F w0 w14 (row g13 #[.int .u8 ((UInt8.ofNat (b.length/256)).toNat:Int)] 5::vec 5 1 (.slice A11 1 c12) 1 ([UInt8.ofNat (b.length%256)].map bv)::L):=St.pm 2 [0,1] S16
 refine g_ (gv_append (e:=5) (sz:=1) (n:=1) (v:=(.slice A11 1 c12)) (vals:=([UInt8.ofNat (b.length%256)].map bv)) (z:=.int .u8 0) (by_:=1) (m:=1) (c':=1) (ad:=⟨g13,0,none⟩) (news:=[.int .u8 ((UInt8.ofNat (b.length/256)).toNat:Int)]) (St.swap S17) rfl kr_ ⟨by kernel_rfl⟩ rfl kr_ kr_ dc_ rfl (row_news (S17.blk 0 rfl)) (by intro u hu;simp at hu;subst hu;rfl) om_ om_ (fun v19 w18 S20=> ?_))
 have S21:St F w0 w18 (vec 5 1 v19 2 ([UInt8.ofNat (b.length%256)].map bv++[.int .u8 ((UInt8.ofNat (b.length/256)).toNat:Int)])::L):=St.pm 2 [0] S20
 obtain ⟨A22,c23,rfl⟩:=St.vecV S21 0 rfl
 change St F w0 w18 (vec 5 1 (.slice A22 2 c23) 2 ([UInt8.ofNat (b.length%256),UInt8.ofNat (b.length/256)].map bv)::L) at S21
 refine pv (.slice A22 2 c23) (wE (nS (sR (pv (iv 0) (wE (then_n (wp_block ?_)))))))
 have S24:St F w0 w18 (vec 5 1 (.slice A22 (2+0) c23) (2+0) (([UInt8.ofNat (b.length%256),UInt8.ofNat (b.length/256)]++pre b 0).map bv)::L):=S21
 refine wp_loop_g (G:=Nat×Option Addr×Nat) (fun (g_:Nat×Option Addr×Nat) (a_:Act) (w_:World)=>∃J:Nat→Value,a_=(fr [iv (t.toNat:Int),.slice A b.length cb,ud,ud,nS_,.slice g_.2.1 (2+g_.1) g_.2.2,nI_ g_.1,ud,ud,ud,ud,nS_,.slice A b.length cb,iv (b.length:Nat),nI_ (b.length%256),.int .u8 ((UInt8.ofNat (b.length%256)).toNat:Int),sl g2 0 1 1,.slice A11 1 c12,.slice A11 1 c12,.slice A b.length cb,iv (b.length:Nat),nI_ (b.length/256),.int .u8 ((UInt8.ofNat (b.length/256)).toNat:Int),sl g13 0 1 1,.slice A22 2 c23,J 25,J 26,J 27,J 28,J 29,J 30,J 31,J 32,J 33,J 34,J 35,J 36,J 37] 56)∧St F w0 w_ (vec 5 1 (.slice g_.2.1 (2+g_.1) g_.2.2) (2+g_.1) (([UInt8.ofNat (b.length%256),UInt8.ofNat (b.length/256)]++pre b g_.1).map bv)::L)∧(g_.1≤b.length)) (fun g_=>b.length-g_.1) (0,A22,c23) (jE_ ⟨S24,Nat.zero_le _⟩) ?_
 rintro ⟨i,A5,c5⟩ a_ w25 ⟨J,rfl,S26,hI27⟩
 skip
 have S26:St F w0 w25 (vec 5 1 (.slice A5 (2+i) c5) (2+i) (([UInt8.ofNat (b.length%256),UInt8.ofNat (b.length/256)]++pre b i).map bv)::L):=S26
 have hI27:(i≤b.length):=hI27
 refine wp_seq (sR (pv (nI_ i) (pv (.slice A b.length cb) (pv (iv (b.length:Nat)) (dC ((((i:Nat):Int):Int)<(b.length:Nat)) (fun hb28=> ?_) fun hb28=> ?_)))))
 ·have hi:i<b.length:=by omega
  obtain ⟨ad,had⟩:=(hr.out _ [vec 5 1 (.slice A5 (2+i) c5) (2+i) (([UInt8.ofNat (b.length%256),UInt8.ofNat (b.length/256)]++pre b i).map bv)] S26).at hi
  refine wE (nCT (wp_skip (nS (wp_block (wp_region_lit (pv (.slice A5 (2+i) c5) (pv (.slice A b.length cb) (pv (nI_ i) (g_ (gv_ixB (e:=5) (sz:=1) (n:=b.length) (c:=cb) (i:=((i:Nat):Int)) (k:=.i64) (ad:=ad) (ad':=(ad.add i)) (j:=i) rfl kr_ kr_ (by rw [←had];kernel_rfl) kr_ rfl hi (by rw [Nat.mul_one]) (lQ (.int .u8 ((b.getD i 0).toNat:Int)) ((had▸hr.out _ [vec 5 1 (.slice A5 (2+i) c5) (2+i) (([UInt8.ofNat (b.length%256),UInt8.ofNat (b.length/256)]++pre b i).map bv)] S26:RdB _ (some ad) b).cell hi) (g_ (gv_slit (e:=5) (sz:=1) (z:=.int .u8 0) (by_:=1) (vs:=#[(0,.int .u8 ((b.getD i 0).toNat:Int))]) (cells:=#[.int .u8 ((b.getD i 0).toNat:Int)]) S26 rfl kr_ ⟨by kernel_rfl⟩ kr_ kr_ kr_ kr_ (fun g29 w30 hg31 S32=> ?_))))))))))))))
  have S33:St F w0 w30 (row g29 #[.int .u8 ((b.getD i 0).toNat:Int)] 5::vec 5 1 (.slice A5 (2+i) c5) (2+i) (([UInt8.ofNat (b.length%256),UInt8.ofNat (b.length/256)]++pre b i).map bv)::L):=St.pm 2 [0,1] S32
  refine g_ (gv_append (e:=5) (sz:=1) (n:=(2+i)) (v:=(.slice A5 (2+i) c5)) (vals:=(([UInt8.ofNat (b.length%256),UInt8.ofNat (b.length/256)]++pre b i).map bv)) (z:=.int .u8 0) (by_:=1) (m:=1) (c':=1) (ad:=⟨g29,0,none⟩) (news:=[.int .u8 ((b.getD i 0).toNat:Int)]) (St.swap S33) rfl kr_ ⟨by kernel_rfl⟩ rfl kr_ kr_ dc_ rfl (row_news (S33.blk 0 rfl)) (by intro u hu;simp at hu;subst hu;rfl) om_ om_ (fun v35 w34 S36=> ?_))
  have S37:St F w0 w34 (vec 5 1 v35 (2+i+1) (([UInt8.ofNat (b.length%256),UInt8.ofNat (b.length/256)]++pre b i).map bv++[.int .u8 ((b.getD i 0).toNat:Int)])::L):=St.pm 2 [0] S36
  rw [pre_app] at S37
  obtain ⟨A38,c39,rfl⟩:=St.vecV S37 0 rfl
  change St F w0 w34 (vec 5 1 (.slice A38 (2+i+1) c39) (2+i+1) (([UInt8.ofNat (b.length%256),UInt8.ofNat (b.length/256)]++pre b (i+1)).map bv)::L) at S37
  exact pv (.slice A38 (2+i+1) c39) (wE (inb_n (nR (pv (nI_ i) (gI .i64 (IntKind.i64.wrap (((i:Nat):Int)+1)) ((i+1:Nat):Int) wq_ (pv (nI_ (i+1)) (wE (then_n ⟨(i+1,A38,c39),(jE_ ⟨S37,om_⟩),(by show b.length-(i+1)<b.length-i;omega)⟩))))))))
 ·have hib:i=b.length:=by omega
  rw [hib,pre_all] at S26
  skip
  refine wE (nCF (wp_exit (then_x (then_x (inb_x (nS (wp_block ?_)))))))
  have S40:St F w0 w25 (vec 5 1 (.slice A5 (2+b.length+0) c5) (2+b.length+0) (([UInt8.ofNat (b.length%256),UInt8.ofNat (b.length/256)]++b++List.replicate 0 0).map bv)::L):=(by rw [List.replicate_zero,List.append_nil];exact S26)
  have hfr:2+i=2+b.length+0:=by omega
  rw [hfr]
  refine wp_loop_g (G:=Nat×Option Addr×Nat) (fun (g_:Nat×Option Addr×Nat) (a_:Act) (w_:World)=>∃J:Nat→Value,a_=(fr [iv (t.toNat:Int),.slice A b.length cb,ud,ud,nS_,.slice g_.2.1 (2+b.length+g_.1) g_.2.2,nI_ i,ud,ud,ud,ud,nS_,.slice A b.length cb,iv (b.length:Nat),nI_ (b.length%256),.int .u8 ((UInt8.ofNat (b.length%256)).toNat:Int),sl g2 0 1 1,.slice A11 1 c12,.slice A11 1 c12,.slice A b.length cb,iv (b.length:Nat),nI_ (b.length/256),.int .u8 ((UInt8.ofNat (b.length/256)).toNat:Int),sl g13 0 1 1,.slice A22 2 c23,nI_ i,.slice A b.length cb,iv (b.length:Nat),fv,J 29,J 30,J 31,J 32,J 33,J 34,J 35,J 36,J 37,J 38,J 39,J 40,J 41,J 42,J 43] 50)∧St F w0 w_ (vec 5 1 (.slice g_.2.1 (2+b.length+g_.1) g_.2.2) (2+b.length+g_.1) (([UInt8.ofNat (b.length%256),UInt8.ofNat (b.length/256)]++b++List.replicate g_.1 0).map bv)::L)∧(b.length+g_.1≤504)) (fun g_=>504-g_.1) (0,A5,c5) (jE_ ⟨S40,(by show b.length+0≤504;omega)⟩) ?_
  rintro ⟨j,A6,c6⟩ a_ w41 ⟨J,rfl,S42,hI43⟩
  skip
  have S42:St F w0 w41 (vec 5 1 (.slice A6 (2+b.length+j) c6) (2+b.length+j) (([UInt8.ofNat (b.length%256),UInt8.ofNat (b.length/256)]++b++List.replicate j 0).map bv)::L):=S42
  have hI43:(b.length+j≤504):=hI43
  refine wp_seq (sR (pv (.slice A6 (2+b.length+j) c6) (pv (iv (2+b.length+j:Nat)) (dC (((2+b.length+j:Nat):Int)<506) (fun hb44=> ?_) fun hb44=> ?_))))
  ·refine wE (nCT (kN (wp_block (wp_region_lit (pv (.slice A6 (2+b.length+j) c6) (g_ (gv_slit (e:=5) (sz:=1) (z:=.int .u8 0) (by_:=1) (vs:=#[(0,.int .u8 0)]) (cells:=#[.int .u8 0]) S42 rfl kr_ ⟨by kernel_rfl⟩ kr_ kr_ kr_ kr_ (fun g45 w46 hg47 S48=> ?_))))))))
   have S49:St F w0 w46 (row g45 #[.int .u8 0] 5::vec 5 1 (.slice A6 (2+b.length+j) c6) (2+b.length+j) (([UInt8.ofNat (b.length%256),UInt8.ofNat (b.length/256)]++b++List.replicate j 0).map bv)::L):=St.pm 2 [0,1] S48
   refine g_ (gv_append (e:=5) (sz:=1) (n:=(2+b.length+j)) (v:=(.slice A6 (2+b.length+j) c6)) (vals:=(([UInt8.ofNat (b.length%256),UInt8.ofNat (b.length/256)]++b++List.replicate j 0).map bv)) (z:=.int .u8 0) (by_:=1) (m:=1) (c':=1) (ad:=⟨g45,0,none⟩) (news:=[.int .u8 0]) (St.swap S49) rfl kr_ ⟨by kernel_rfl⟩ rfl kr_ kr_ dc_ rfl (row_news (S49.blk 0 rfl)) (by intro u hu;simp at hu;subst hu;rfl) om_ om_ (fun v51 w50 S52=> ?_))
   have S53:St F w0 w50 (vec 5 1 v51 (2+b.length+j+1) (([UInt8.ofNat (b.length%256),UInt8.ofNat (b.length/256)]++b++List.replicate j 0).map bv++[.int .u8 0])::L):=St.pm 2 [0] S52
   rw [rep_app] at S53
   obtain ⟨A54,c55,rfl⟩:=St.vecV S53 0 rfl
   change St F w0 w50 (vec 5 1 (.slice A54 (2+b.length+j+1) c55) (2+b.length+j+1) (([UInt8.ofNat (b.length%256),UInt8.ofNat (b.length/256)]++b++List.replicate (j+1) 0).map bv)::L) at S53
   exact pv (.slice A54 (2+b.length+j+1) c55) (wE (iN ⟨(j+1,A54,c55),(jE_ ⟨S53,om_⟩),(by show 504-(j+1)<504-j;omega)⟩))
  ·have hj:b.length+j=504:=by omega
   have htx:[UInt8.ofNat (b.length%256),UInt8.ofNat (b.length/256)]++b++List.replicate j 0=text b:=by unfold text;rw [show j=504-b.length from by omega];rfl
   have hn5:2+b.length+j=(text b).length:=by omega
   rw [htx,hn5] at S42
   rw [hn5]
   refine wE (nCF (wp_exit (then_x (then_x (inb_x (nSR (pv (.slice A6 ((text b).length) c6) (sP Try.func162 #[.slice A6 ((text b).length) c6] (rsum (l:=text b) S42 (RoT.ofVec 0 rfl) om_) fun w56 S57=>pv (iv ((crc (text b)).toNat:Int)) (wER (pv (nS_) ?_))))))))))
   have S58:St F w0 w56 (vec 5 1 (nS_) 0 ([].map bv)::vec 5 1 (.slice A6 ((text b).length) c6) ((text b).length) ((text b).map bv)::L):=St.vec_nil S57
   refine wER (pv (nS_) (pv (iv (t.toNat:Int)) (gI .u8 (IntKind.u8.wrap (t.toNat:Int)) (t.toNat:Int) (byte_self t) (g_ (gv_slit (e:=5) (sz:=1) (z:=.int .u8 0) (by_:=1) (vs:=#[(0,.int .u8 (t.toNat:Int))]) (cells:=#[.int .u8 (t.toNat:Int)]) S58 rfl kr_ ⟨by kernel_rfl⟩ kr_ kr_ kr_ kr_ (fun g59 w60 hg61 S62=> ?_))))))
   have S63:St F w0 w60 (row g59 #[.int .u8 (t.toNat:Int)] 5::vec 5 1 (nS_) 0 ([].map bv)::vec 5 1 (.slice A6 ((text b).length) c6) ((text b).length) ((text b).map bv)::L):=St.pm 3 [0,1,2] S62
   refine g_ (gv_append (e:=5) (sz:=1) (n:=0) (v:=(nS_)) (vals:=([].map bv)) (z:=.int .u8 0) (by_:=1) (m:=1) (c':=1) (ad:=⟨g59,0,none⟩) (news:=[.int .u8 (t.toNat:Int)]) (St.swap S63) rfl kr_ ⟨by kernel_rfl⟩ rfl kr_ kr_ dc_ rfl (row_news (S63.blk 0 rfl)) (by intro u hu;simp at hu;subst hu;rfl) om_ om_ (fun v65 w64 S66=> ?_))
   have S67:St F w0 w64 (vec 5 1 v65 1 ([].map bv++[.int .u8 (t.toNat:Int)])::vec 5 1 (.slice A6 ((text b).length) c6) ((text b).length) ((text b).map bv)::L):=St.pm 3 [0,2] S66
   obtain ⟨A68,c69,rfl⟩:=St.vecV S67 0 rfl
   change St F w0 w64 (vec 5 1 (.slice A68 1 c69) 1 ([t].map bv)::vec 5 1 (.slice A6 ((text b).length) c6) ((text b).length) ((text b).map bv)::L) at S67
   refine pv (.slice A68 1 c69) (wER (pv (.slice A68 1 c69) (pv (.slice A6 ((text b).length) c6) ?_)))
   obtain ⟨ad13,had13⟩:=((RoT.ofVec 1 rfl:RoT F w0 (vec 5 1 (.slice A68 1 c69) 1 ([t].map bv)::vec 5 1 (.slice A6 ((text b).length) c6) ((text b).length) ((text b).map bv)::L) A6 (text b)).now S67).at (k:=0) om_
   refine g_ (gv_ixB (e:=5) (sz:=1) (n:=((text b).length)) (c:=c6) (i:=0) (k:=.i64) (ad:=ad13) (ad':=(ad13.add 0)) (j:=0) rfl kr_ kr_ (by rw [←had13];kernel_rfl) kr_ rfl om_ (by rw [Nat.mul_one]) (lQ (.int .u8 (((text b).getD 0 0).toNat:Int)) ((had13▸(RoT.ofVec 1 rfl:RoT F w0 (vec 5 1 (.slice A68 1 c69) 1 ([t].map bv)::vec 5 1 (.slice A6 ((text b).length) c6) ((text b).length) ((text b).map bv)::L) A6 (text b)).now S67:RdB _ (some ad13) (text b)).cell om_) (g_ (gv_slit (e:=5) (sz:=1) (z:=.int .u8 0) (by_:=1) (vs:=#[(0,.int .u8 (((text b).getD 0 0).toNat:Int))]) (cells:=#[.int .u8 (((text b).getD 0 0).toNat:Int)]) S67 rfl kr_ ⟨by kernel_rfl⟩ kr_ kr_ kr_ kr_ (fun g70 w71 hg72 S73=> ?_)))))
   have S74:St F w0 w71 (row g70 #[.int .u8 (((text b).getD 0 0).toNat:Int)] 5::vec 5 1 (.slice A68 1 c69) 1 ([t].map bv)::vec 5 1 (.slice A6 ((text b).length) c6) ((text b).length) ((text b).map bv)::L):=St.pm 3 [0,1,2] S73
   refine g_ (gv_append (e:=5) (sz:=1) (n:=1) (v:=(.slice A68 1 c69)) (vals:=([t].map bv)) (z:=.int .u8 0) (by_:=1) (m:=1) (c':=1) (ad:=⟨g70,0,none⟩) (news:=[.int .u8 (((text b).getD 0 0).toNat:Int)]) (St.swap S74) rfl kr_ ⟨by kernel_rfl⟩ rfl kr_ kr_ dc_ rfl (row_news (S74.blk 0 rfl)) (by intro u hu;simp at hu;subst hu;rfl) om_ om_ (fun v76 w75 S77=> ?_))
   have S78:St F w0 w75 (vec 5 1 v76 2 ([t].map bv++[.int .u8 (((text b).getD 0 0).toNat:Int)])::vec 5 1 (.slice A6 ((text b).length) c6) ((text b).length) ((text b).map bv)::L):=St.pm 3 [0,2] S77
   obtain ⟨A79,c80,rfl⟩:=St.vecV S78 0 rfl
   change St F w0 w75 (vec 5 1 (.slice A79 2 c80) 2 ([t,(text b).getD 0 0].map bv)::vec 5 1 (.slice A6 ((text b).length) c6) ((text b).length) ((text b).map bv)::L) at S78
   refine pv (.slice A79 2 c80) (wE (nSR (pv (.slice A79 2 c80) (pv (.slice A6 ((text b).length) c6) ?_))))
   obtain ⟨ad14,had14⟩:=((RoT.ofVec 1 rfl:RoT F w0 (vec 5 1 (.slice A79 2 c80) 2 ([t,(text b).getD 0 0].map bv)::vec 5 1 (.slice A6 ((text b).length) c6) ((text b).length) ((text b).map bv)::L) A6 (text b)).now S78).at (k:=0) om_
   refine g_ (gv_ixB (e:=5) (sz:=1) (n:=((text b).length)) (c:=c6) (i:=1) (k:=.i64) (ad:=ad14) (ad':=(ad14.add 1)) (j:=1) rfl kr_ kr_ (by rw [←had14];kernel_rfl) kr_ rfl om_ (by rw [Nat.mul_one]) (lQ (.int .u8 (((text b).getD 1 0).toNat:Int)) ((had14▸(RoT.ofVec 1 rfl:RoT F w0 (vec 5 1 (.slice A79 2 c80) 2 ([t,(text b).getD 0 0].map bv)::vec 5 1 (.slice A6 ((text b).length) c6) ((text b).length) ((text b).map bv)::L) A6 (text b)).now S78:RdB _ (some ad14) (text b)).cell om_) (g_ (gv_slit (e:=5) (sz:=1) (z:=.int .u8 0) (by_:=1) (vs:=#[(0,.int .u8 (((text b).getD 1 0).toNat:Int))]) (cells:=#[.int .u8 (((text b).getD 1 0).toNat:Int)]) S78 rfl kr_ ⟨by kernel_rfl⟩ kr_ kr_ kr_ kr_ (fun g81 w82 hg83 S84=> ?_)))))
   have S85:St F w0 w82 (row g81 #[.int .u8 (((text b).getD 1 0).toNat:Int)] 5::vec 5 1 (.slice A79 2 c80) 2 ([t,(text b).getD 0 0].map bv)::vec 5 1 (.slice A6 ((text b).length) c6) ((text b).length) ((text b).map bv)::L):=St.pm 3 [0,1,2] S84
   refine g_ (gv_append (e:=5) (sz:=1) (n:=2) (v:=(.slice A79 2 c80)) (vals:=([t,(text b).getD 0 0].map bv)) (z:=.int .u8 0) (by_:=1) (m:=1) (c':=1) (ad:=⟨g81,0,none⟩) (news:=[.int .u8 (((text b).getD 1 0).toNat:Int)]) (St.swap S85) rfl kr_ ⟨by kernel_rfl⟩ rfl kr_ kr_ dc_ rfl (row_news (S85.blk 0 rfl)) (by intro u hu;simp at hu;subst hu;rfl) om_ om_ (fun v87 w86 S88=> ?_))
   have S89:St F w0 w86 (vec 5 1 v87 3 ([t,(text b).getD 0 0].map bv++[.int .u8 (((text b).getD 1 0).toNat:Int)])::vec 5 1 (.slice A6 ((text b).length) c6) ((text b).length) ((text b).map bv)::L):=St.pm 3 [0,2] S88
   obtain ⟨A90,c91,rfl⟩:=St.vecV S89 0 rfl
   change St F w0 w86 (vec 5 1 (.slice A90 3 c91) 3 ([t,(text b).getD 0 0,(text b).getD 1 0].map bv)::vec 5 1 (.slice A6 ((text b).length) c6) ((text b).length) ((text b).map bv)::L) at S89
   refine pv (.slice A90 3 c91) (wE (nS (sR (pv (iv 0) (wE (then_n (wp_block ?_)))))))
   have S92:St F w0 w86 (vec 5 1 (.slice A90 (3+0) c91) (3+0) (([t,(text b).getD 0 0,(text b).getD 1 0]++(le4 (crc (text b))).take 0).map bv)::vec 5 1 (.slice A6 ((text b).length) c6) ((text b).length) ((text b).map bv)::L):=S89
   refine wp_loop_g (G:=Nat×Nat×Option Addr×Nat) (fun (g_:Nat×Nat×Option Addr×Nat) (a_:Act) (w_:World)=>∃J:Nat→Value,a_=(fr [iv (t.toNat:Int),.slice A b.length cb,ud,ud,nS_,.slice A6 ((text b).length) c6,nI_ i,nI_ g_.2.1,.slice g_.2.2.1 (3+g_.1) g_.2.2.2,nI_ g_.1,ud,nS_,.slice A b.length cb,iv (b.length:Nat),nI_ (b.length%256),.int .u8 ((UInt8.ofNat (b.length%256)).toNat:Int),sl g2 0 1 1,.slice A11 1 c12,.slice A11 1 c12,.slice A b.length cb,iv (b.length:Nat),nI_ (b.length/256),.int .u8 ((UInt8.ofNat (b.length/256)).toNat:Int),sl g13 0 1 1,.slice A22 2 c23,nI_ i,.slice A b.length cb,iv (b.length:Nat),fv,J 29,J 30,J 31,J 32,J 33,J 34,J 35,J 36,J 37,.slice A6 ((text b).length) c6,iv ((text b).length:Nat),fv,J 41,J 42,J 43,.slice A6 ((text b).length) c6,iv ((crc (text b)).toNat:Int),nS_,iv (t.toNat:Int),.int .u8 (t.toNat:Int),sl g59 0 1 1,.slice A68 1 c69,.slice A68 1 c69,.slice A6 ((text b).length) c6,.pointer (some (ad13.add 0)),.int .u8 (((text b).getD 0 0).toNat:Int),sl g70 0 1 1,.slice A79 2 c80,.slice A79 2 c80,.slice A6 ((text b).length) c6,.pointer (some (ad14.add 1)),.int .u8 (((text b).getD 1 0).toNat:Int),sl g81 0 1 1,.slice A90 3 c91,J 63,J 64,J 65,J 66,J 67,J 68,J 69,J 70,J 71,J 72,J 73,J 74] 19)∧St F w0 w_ (vec 5 1 (.slice g_.2.2.1 (3+g_.1) g_.2.2.2) (3+g_.1) (([t,(text b).getD 0 0,(text b).getD 1 0]++(le4 (crc (text b))).take g_.1).map bv)::vec 5 1 (.slice A6 ((text b).length) c6) ((text b).length) ((text b).map bv)::L)∧(g_.1≤4∧g_.2.1=(crc (text b)).toNat/256^g_.1)) (fun g_=>4-g_.1) (0,(crc (text b)).toNat,A90,c91) (jE_ ⟨S92,⟨Nat.zero_le _,(Nat.div_one _).symm⟩⟩) ?_
   rintro ⟨k,c,A7,c7⟩ a_ w93 ⟨J,rfl,S94,hI95⟩
   skip
   have S94:St F w0 w93 (vec 5 1 (.slice A7 (3+k) c7) (3+k) (([t,(text b).getD 0 0,(text b).getD 1 0]++(le4 (crc (text b))).take k).map bv)::vec 5 1 (.slice A6 ((text b).length) c6) ((text b).length) ((text b).map bv)::L):=S94
   have hI95:(k≤4∧c=(crc (text b)).toNat/256^k):=hI95
   refine wp_seq (sR (pv (nI_ k) (dC ((((k:Nat):Int):Int)<4) (fun hb96=> ?_) fun hb96=> ?_)))
   ·have hk4:k<4:=by omega
    have hcl:c<4294967296:=by rw [hI95.2];exact Nat.lt_of_le_of_lt (Nat.div_le_self _ _) (crc (text b)).isLt
    have hbk:UInt8.ofNat (c%256)=(le4 (crc (text b))).getD k 0:=by rw [le4_get _ hk4,←hI95.2]
    refine wE (nCT (wp_skip (nS (wp_block (sR (pv (.slice A7 (3+k) c7) (pv (nI_ c) (gI .i64 (Int.tmod ((c:Nat):Int) 256) ((c%256:Nat):Int) (by rw [Int.tmod_eq_emod_of_nonneg om_];omega) (gI .u8 (IntKind.u8.wrap ((c%256:Nat):Int)) (((le4 (crc (text b))).getD k 0).toNat:Int) (by rw [byte_of,hbk]) (g_ (gv_slit (e:=5) (sz:=1) (z:=.int .u8 0) (by_:=1) (vs:=#[(0,.int .u8 (((le4 (crc (text b))).getD k 0).toNat:Int))]) (cells:=#[.int .u8 (((le4 (crc (text b))).getD k 0).toNat:Int)]) S94 rfl kr_ ⟨by kernel_rfl⟩ kr_ kr_ kr_ kr_ (fun g97 w98 hg99 S100=> ?_))))))))))))
    have S101:St F w0 w98 (row g97 #[.int .u8 (((le4 (crc (text b))).getD k 0).toNat:Int)] 5::vec 5 1 (.slice A7 (3+k) c7) (3+k) (([t,(text b).getD 0 0,(text b).getD 1 0]++(le4 (crc (text b))).take k).map bv)::vec 5 1 (.slice A6 ((text b).length) c6) ((text b).length) ((text b).map bv)::L):=St.pm 3 [0,1,2] S100
    refine g_ (gv_append (e:=5) (sz:=1) (n:=(3+k)) (v:=(.slice A7 (3+k) c7)) (vals:=(([t,(text b).getD 0 0,(text b).getD 1 0]++(le4 (crc (text b))).take k).map bv)) (z:=.int .u8 0) (by_:=1) (m:=1) (c':=1) (ad:=⟨g97,0,none⟩) (news:=[.int .u8 (((le4 (crc (text b))).getD k 0).toNat:Int)]) (St.swap S101) rfl kr_ ⟨by kernel_rfl⟩ rfl kr_ kr_ dc_ rfl (row_news (S101.blk 0 rfl)) (by intro u hu;simp at hu;subst hu;rfl) om_ om_ (fun v103 w102 S104=> ?_))
    have S105:St F w0 w102 (vec 5 1 v103 (3+k+1) (([t,(text b).getD 0 0,(text b).getD 1 0]++(le4 (crc (text b))).take k).map bv++[.int .u8 (((le4 (crc (text b))).getD k 0).toNat:Int)])::vec 5 1 (.slice A6 ((text b).length) c6) ((text b).length) ((text b).map bv)::L):=St.pm 3 [0,2] S104
    rw [take_app _ _ _ hk4] at S105
    obtain ⟨A106,c107,rfl⟩:=St.vecV S105 0 rfl
    change St F w0 w102 (vec 5 1 (.slice A106 (3+k+1) c107) (3+k+1) (([t,(text b).getD 0 0,(text b).getD 1 0]++(le4 (crc (text b))).take (k+1)).map bv)::vec 5 1 (.slice A6 ((text b).length) c6) ((text b).length) ((text b).map bv)::L) at S105
    exact pv (.slice A106 (3+k+1) c107) (wE (nR (pv (nI_ c) (gI .i64 (IntKind.i64.wrap (Int.tdiv ((c:Nat):Int) 256)) ((c/256:Nat):Int) (wr_eq (by rw [Int.tdiv_eq_ediv_of_nonneg om_];omega) om_ om_) (pv (nI_ (c/256)) (wE (inb_n (nR (pv (nI_ k) (gI .i64 (IntKind.i64.wrap (((k:Nat):Int)+1)) ((k+1:Nat):Int) (wr_eq om_ om_ om_) (pv (nI_ (k+1)) (wE (then_n ⟨(k+1,c/256,A106,c107),(jE_ ⟨S105,⟨by omega,by rw [hI95.2,Nat.div_div_eq_div_mul,←Nat.pow_succ]⟩⟩),(by show 4-(k+1)<4-k;omega)⟩)))))))))))))
   ·have hk4:k=4:=by omega
    have hl4:(le4 (crc (text b))).take 4=le4 (crc (text b)):=rfl
    rw [hk4,hl4] at S94
    refine wE (nCF (wp_exit (then_x (then_x (inb_x (nS (sR (pv (iv 2) (wE (then_n (wp_block ?_)))))))))))
    rw [show 3+k=7+0 from by omega]
    have S108:St F w0 w93 (vec 5 1 (.slice A7 (7+0) c7) (7+0) (([t,(text b).getD 0 0,(text b).getD 1 0]++le4 (crc (text b))++pre ((text b).drop 2) 0).map bv)::vec 5 1 (.slice A6 ((text b).length) c6) ((text b).length) ((text b).map bv)::L):=(by rw [show pre ((text b).drop 2) 0=[] from rfl,List.append_nil];exact S94)
    refine wp_loop_g (G:=Nat×Option Addr×Nat) (fun (g_:Nat×Option Addr×Nat) (a_:Act) (w_:World)=>∃J:Nat→Value,a_=(fr [iv (t.toNat:Int),.slice A b.length cb,ud,ud,nS_,.slice A6 ((text b).length) c6,nI_ i,nI_ c,.slice g_.2.1 (7+g_.1) g_.2.2,nI_ k,nI_ (2+g_.1),nS_,.slice A b.length cb,iv (b.length:Nat),nI_ (b.length%256),.int .u8 ((UInt8.ofNat (b.length%256)).toNat:Int),sl g2 0 1 1,.slice A11 1 c12,.slice A11 1 c12,.slice A b.length cb,iv (b.length:Nat),nI_ (b.length/256),.int .u8 ((UInt8.ofNat (b.length/256)).toNat:Int),sl g13 0 1 1,.slice A22 2 c23,nI_ i,.slice A b.length cb,iv (b.length:Nat),fv,J 29,J 30,J 31,J 32,J 33,J 34,J 35,J 36,J 37,.slice A6 ((text b).length) c6,iv ((text b).length:Nat),fv,J 41,J 42,J 43,.slice A6 ((text b).length) c6,iv ((crc (text b)).toNat:Int),nS_,iv (t.toNat:Int),.int .u8 (t.toNat:Int),sl g59 0 1 1,.slice A68 1 c69,.slice A68 1 c69,.slice A6 ((text b).length) c6,.pointer (some (ad13.add 0)),.int .u8 (((text b).getD 0 0).toNat:Int),sl g70 0 1 1,.slice A79 2 c80,.slice A79 2 c80,.slice A6 ((text b).length) c6,.pointer (some (ad14.add 1)),.int .u8 (((text b).getD 1 0).toNat:Int),sl g81 0 1 1,.slice A90 3 c91,nI_ k,fv,J 65,J 66,J 67,J 68,J 69,J 70,J 71,J 72,J 73,J 74,J 75,J 76,J 77,J 78,J 79,J 80,J 81,J 82,J 83,J 84,J 85,J 86,J 87] 6)∧St F w0 w_ (vec 5 1 (.slice g_.2.1 (7+g_.1) g_.2.2) (7+g_.1) (([t,(text b).getD 0 0,(text b).getD 1 0]++le4 (crc (text b))++pre ((text b).drop 2) g_.1).map bv)::vec 5 1 (.slice A6 ((text b).length) c6) ((text b).length) ((text b).map bv)::L)∧(g_.1≤504)) (fun g_=>504-g_.1) (0,A7,c7) (jE_ ⟨S108,Nat.zero_le _⟩) ?_
    rintro ⟨i7,A8,c8⟩ a_ w109 ⟨J,rfl,S110,hI111⟩
    skip
    have S110:St F w0 w109 (vec 5 1 (.slice A8 (7+i7) c8) (7+i7) (([t,(text b).getD 0 0,(text b).getD 1 0]++le4 (crc (text b))++pre ((text b).drop 2) i7).map bv)::vec 5 1 (.slice A6 ((text b).length) c6) ((text b).length) ((text b).map bv)::L):=S110
    have hI111:(i7≤504):=hI111
    refine wp_seq (sR (pv (nI_ (2+i7)) (pv (.slice A6 ((text b).length) c6) (pv (iv ((text b).length:Nat)) (dC ((((2+i7:Nat):Int):Int)<((text b).length:Nat)) (fun hb112=> ?_) fun hb112=> ?_)))))
    ·have hi7:i7<504:=by omega
     refine wE (nCT (wp_skip (nS (wp_block (wp_region_lit (pv (.slice A8 (7+i7) c8) (pv (.slice A6 ((text b).length) c6) (pv (nI_ (2+i7)) ?_))))))))
     obtain ⟨ad23,had23⟩:=((RoT.ofVec 1 rfl:RoT F w0 (vec 5 1 (.slice A8 (7+i7) c8) (7+i7) (([t,(text b).getD 0 0,(text b).getD 1 0]++le4 (crc (text b))++pre ((text b).drop 2) i7).map bv)::vec 5 1 (.slice A6 ((text b).length) c6) ((text b).length) ((text b).map bv)::L) A6 (text b)).now S110).at (k:=0) om_
     refine g_ (gv_ixB (e:=5) (sz:=1) (n:=((text b).length)) (c:=c6) (i:=((2+i7:Nat):Int)) (k:=.i64) (ad:=ad23) (ad':=(ad23.add (2+i7))) (j:=(2+i7)) rfl kr_ kr_ (by rw [←had23];kernel_rfl) kr_ rfl om_ (by rw [Nat.mul_one]) (lQ (.int .u8 ((((text b).drop 2).getD i7 0).toNat:Int)) (by rw [getD_drop];exact ((had23▸(RoT.ofVec 1 rfl:RoT F w0 (vec 5 1 (.slice A8 (7+i7) c8) (7+i7) (([t,(text b).getD 0 0,(text b).getD 1 0]++le4 (crc (text b))++pre ((text b).drop 2) i7).map bv)::vec 5 1 (.slice A6 ((text b).length) c6) ((text b).length) ((text b).map bv)::L) A6 (text b)).now S110:RdB _ (some ad23) (text b)).cell om_)) (g_ (gv_slit (e:=5) (sz:=1) (z:=.int .u8 0) (by_:=1) (vs:=#[(0,.int .u8 ((((text b).drop 2).getD i7 0).toNat:Int))]) (cells:=#[.int .u8 ((((text b).drop 2).getD i7 0).toNat:Int)]) S110 rfl kr_ ⟨by kernel_rfl⟩ kr_ kr_ kr_ kr_ (fun g113 w114 hg115 S116=> ?_)))))
     have S117:St F w0 w114 (row g113 #[.int .u8 ((((text b).drop 2).getD i7 0).toNat:Int)] 5::vec 5 1 (.slice A8 (7+i7) c8) (7+i7) (([t,(text b).getD 0 0,(text b).getD 1 0]++le4 (crc (text b))++pre ((text b).drop 2) i7).map bv)::vec 5 1 (.slice A6 ((text b).length) c6) ((text b).length) ((text b).map bv)::L):=St.pm 3 [0,1,2] S116
     refine g_ (gv_append (e:=5) (sz:=1) (n:=(7+i7)) (v:=(.slice A8 (7+i7) c8)) (vals:=(([t,(text b).getD 0 0,(text b).getD 1 0]++le4 (crc (text b))++pre ((text b).drop 2) i7).map bv)) (z:=.int .u8 0) (by_:=1) (m:=1) (c':=1) (ad:=⟨g113,0,none⟩) (news:=[.int .u8 ((((text b).drop 2).getD i7 0).toNat:Int)]) (St.swap S117) rfl kr_ ⟨by kernel_rfl⟩ rfl kr_ kr_ dc_ rfl (row_news (S117.blk 0 rfl)) (by intro u hu;simp at hu;subst hu;rfl) om_ om_ (fun v119 w118 S120=> ?_))
     have S121:St F w0 w118 (vec 5 1 v119 (7+i7+1) (([t,(text b).getD 0 0,(text b).getD 1 0]++le4 (crc (text b))++pre ((text b).drop 2) i7).map bv++[.int .u8 ((((text b).drop 2).getD i7 0).toNat:Int)])::vec 5 1 (.slice A6 ((text b).length) c6) ((text b).length) ((text b).map bv)::L):=St.pm 3 [0,2] S120
     rw [pre_app] at S121
     obtain ⟨A122,c123,rfl⟩:=St.vecV S121 0 rfl
     change St F w0 w118 (vec 5 1 (.slice A122 (7+i7+1) c123) (7+i7+1) (([t,(text b).getD 0 0,(text b).getD 1 0]++le4 (crc (text b))++pre ((text b).drop 2) (i7+1)).map bv)::vec 5 1 (.slice A6 ((text b).length) c6) ((text b).length) ((text b).map bv)::L) at S121
     exact pv (.slice A122 (7+i7+1) c123) (wE (inb_n (nR (pv (nI_ (2+i7)) (gI .i64 (IntKind.i64.wrap (((2+i7:Nat):Int)+1)) ((2+(i7+1):Nat):Int) wq_ (pv (nI_ (2+(i7+1))) (wE (then_n ⟨(i7+1,A122,c123),(jE_ ⟨S121,om_⟩),(by show 504-(i7+1)<504-i7;omega)⟩))))))))
    ·have hi7:i7=504:=by omega
     have hp7:pre ((text b).drop 2) 504=(text b).drop 2:=by rw [pre_drop om_,List.take_of_length_le (by rw [List.length_drop];omega)]
     rw [hi7,hp7] at S110
     rw [show 7+i7=511 from by omega]
     have S124:St F w0 w109 (vec 5 1 (.slice A8 511 c8) 511 (([t,(text b).getD 0 0,(text b).getD 1 0]++le4 (crc (text b))++(text b).drop 2).map bv)::vec 5 1 (.slice A6 ((text b).length) c6) ((text b).length) ((text b).map bv)::L):=S110
     refine wE (nCF (wp_exit (then_x (then_x (inb_x (nSR (pv (.slice A8 511 c8) (pv (iv (t.toNat:Int)) (gI .u8 (IntKind.u8.wrap (t.toNat:Int)) (t.toNat:Int) (byte_self t) (g_ (gv_slit (e:=5) (sz:=1) (z:=.int .u8 0) (by_:=1) (vs:=#[(0,.int .u8 (t.toNat:Int))]) (cells:=#[.int .u8 (t.toNat:Int)]) S124 rfl kr_ ⟨by kernel_rfl⟩ kr_ kr_ kr_ kr_ (fun g125 w126 hg127 S128=> ?_))))))))))))
     have S129:St F w0 w126 (row g125 #[.int .u8 (t.toNat:Int)] 5::vec 5 1 (.slice A8 511 c8) 511 (([t,(text b).getD 0 0,(text b).getD 1 0]++le4 (crc (text b))++(text b).drop 2).map bv)::vec 5 1 (.slice A6 ((text b).length) c6) ((text b).length) ((text b).map bv)::L):=St.pm 3 [0,1,2] S128
     refine g_ (gv_append (e:=5) (sz:=1) (n:=511) (v:=(.slice A8 511 c8)) (vals:=(([t,(text b).getD 0 0,(text b).getD 1 0]++le4 (crc (text b))++(text b).drop 2).map bv)) (z:=.int .u8 0) (by_:=1) (m:=1) (c':=1) (ad:=⟨g125,0,none⟩) (news:=[.int .u8 (t.toNat:Int)]) (St.swap S129) rfl kr_ ⟨by kernel_rfl⟩ rfl kr_ kr_ dc_ rfl (row_news (S129.blk 0 rfl)) (by intro u hu;simp at hu;subst hu;rfl) om_ om_ (fun v131 w130 S132=> ?_))
     have S133:St F w0 w130 (vec 5 1 v131 512 (([t,(text b).getD 0 0,(text b).getD 1 0]++le4 (crc (text b))++(text b).drop 2).map bv++[.int .u8 (t.toNat:Int)])::vec 5 1 (.slice A6 ((text b).length) c6) ((text b).length) ((text b).map bv)::L):=St.pm 3 [0,2] S132
     rw [bv_snoc] at S133
     obtain ⟨A134,c135,rfl⟩:=St.vecV S133 0 rfl
     change St F w0 w130 (vec 5 1 (.slice A134 512 c135) 512 (([t,(text b).getD 0 0,(text b).getD 1 0]++le4 (crc (text b))++(text b).drop 2++[t]).map bv)::vec 5 1 (.slice A6 ((text b).length) c6) ((text b).length) ((text b).map bv)::L) at S133
     refine pv (.slice A134 512 c135) (wER (pv (.slice A134 512 c135) (pv (.slice A134 512 c135) (wE (then_n (wp_ret (bA (.slice A134 512 c135) ?_)))))))
     have hff:[t,(text b).getD 0 0,(text b).getD 1 0]++le4 (crc (text b))++(text b).drop 2++[t]=form t b:=by
      obtain ⟨x0,x1,r,hx⟩:∃x0 x1 r,text b=x0::x1::r:=⟨_,_,_,rfl⟩
      unfold form;rw [hx];simp
     rw [hff] at S133
     have S136:=St.pm 2 [0] S133
     exact ⟨_,_,rfl,S136⟩
section
variable {F:Nat→Prop} {w0 w:World} {L:List Ast}
theorem rform' (S:St F w0 w L){z:Int}{t:UInt8}(hz:z=(t.toNat:Int)){A:Option Addr}{b:List UInt8}{m cb:Nat}(hm:m=b.length)(hr:RoT F w0 L A b)(hb:b.length≤504):Calls Try.prog 144 #[.int .i64 z,.slice A m cb] w fun e w'=>∃A c,e=.returned (.slice A 512 c)∧St F w0 w' (vec 5 1 (.slice A 512 c) 512 ((form t b).map bv)::L):=by
 subst hm;exact rform S hz hr hb
theorem rsame' {A B:Option Addr}{a b:List UInt8}{m n ca cb:Nat}{t:Bool}(hm0:m=a.length)(hn0:n=b.length)(ht:decide (a=b)=t)(S:St F w0 w L)(hx:RoT F w0 L A a)(hy:RoT F w0 L B b)(hm:a.length≤9223372036854775807)(hm2:b.length≤9223372036854775807):
  Calls Try.prog 145 #[.slice A m ca,.slice B n cb] w fun e w'=>e=.returned (.bool t)∧St F w0 w' L:=by
 subst hm0 hn0;exact rsame ht S hx hy hm hm2
theorem ropen (S:St F w0 w L){A:Option Addr}{s:List UInt8}{ca:Nat}(hr:RoT F w0 L A s)(hm:s.length≤9223372036854775807):Calls Try.prog 118 #[.slice A s.length ca] w fun e w'=>∃A c,e=.returned (.tuple #[.slice A ((openF s).1).length c,.int .i64 ((openF s).2:Int)])∧St F w0 w' (vec 5 1 (.slice A ((openF s).1).length c) ((openF s).1).length (((openF s).1).map bv)::L):=by
 by_cases h5:s.length≠512
 ·have e:openF s=([],2):=by unfold openF;rw [if_pos h5]
  rw [e]
  refine eN (fr [.slice A s.length ca] 52) Try.func118 rfl (sR (pv (nS_) (pv (iv 0) (wE (nS (sR (pv (.slice A s.length ca) (pv (iv (s.length:Nat)) (dN (s.length:Nat) 512 (fun _=>wE (nCT (sR (pv (nS_) ?_)))) fun hd1=>False.elim om_)))))))))
  exact pv (iv 2) (wE (then_n (rR (bB (nS_) (iv 2) ⟨none,0,rfl,St.vec_nil S⟩))))
 have hl5:s.length=512:=by omega
 obtain ⟨n,hn⟩:∃n,n=(s.getD 1 0).toNat+256*(s.getD 2 0).toNat:=⟨_,rfl⟩
 have e0:=openF_at (x0:=s.getD 0 0) hl5 rfl hn
 have hx1:=(s.getD 1 0).toNat_lt
 have hx2:=(s.getD 2 0).toNat_lt
 obtain ⟨ad,had⟩:=(hr.now S).at (k:=0) om_
 by_cases h4:504<n
 ·have e:openF s=([],30):=e0.trans (if_pos (.inr h4))
  rw [e]
  refine eN (fr [.slice A s.length ca] 52) Try.func118 rfl (sR (pv (nS_) (pv (iv 0) (wE (nS (sR (pv (.slice A s.length ca) (pv (iv (s.length:Nat)) (dN (s.length:Nat) 512 (fun hd1=>False.elim om_) fun _=>wE (nCF (wp_skip (nS (wp_region_phu (γ:=Unit) 10 [] (fun (c_:Unit) (i_:Nat)=>(match i_ with|0=>.slice A s.length ca|1=>.pointer (some (ad.add 1))|2=>.int .u8 ((s.getD 1 0).toNat:Int)|3=>iv ((s.getD 1 0).toNat:Int)|4=>.slice A s.length ca|5=>.pointer (some (ad.add 2))|6=>.int .u8 ((s.getD 2 0).toNat:Int)|7=>iv ((s.getD 2 0).toNat:Int)|8=>iv (256*((s.getD 2 0).toNat:Int))|9=>nI_ n|_=>undef:Value)) (fun (c_:Unit) (p_:Nat) (w_:World)=>(match p_ with|_=>St F w0 w_ (L):Prop)) () kr_ kr_ kr_ kr_ (S.drew) ?_ ?_ ?_)))))))))))))
  ·intro i_ c_ p_ vals_ w1 hi_ hiE_ hp_ hk_ hu_ hPh_ hd_
   rcases i_ with _|_|_|_|_|_|_|_|_|_|i_
   ·exact tG_ rfl hd_ (gV (.slice A s.length ca) ⟨rfl,rfl⟩)
   ·exact tG_ rfl hd_ (gv_ixB (e:=5) (sz:=1) (n:=s.length) (c:=ca) (i:=1) (k:=.i64) (ad:=ad) (ad':=(ad.add 1)) (j:=1) rfl kr_ kr_ (by rw [←had];kernel_rfl) kr_ rfl om_ (by rw [Nat.mul_one]) ⟨rfl,rfl⟩)
   ·have S4:=St.id hPh_
    exact tG_ rfl hd_ (gL (.int .u8 ((s.getD 1 0).toNat:Int)) rfl ((had▸hr.now S4:RdB _ (some ad) s).cell om_) ⟨rfl,rfl⟩)
   ·exact tG_ rfl hd_ (gv_int (k:=.i64) (z:=IntKind.i64.wrap ((s.getD 1 0).toNat:Int)) (z':=((s.getD 1 0).toNat:Int)) kr_ (wr_u8 _) ⟨rfl,rfl⟩)
   ·exact tG_ rfl hd_ (gV (.slice A s.length ca) ⟨rfl,rfl⟩)
   ·exact tG_ rfl hd_ (gv_ixB (e:=5) (sz:=1) (n:=s.length) (c:=ca) (i:=2) (k:=.i64) (ad:=ad) (ad':=(ad.add 2)) (j:=2) rfl kr_ kr_ (by rw [←had];kernel_rfl) kr_ rfl om_ (by rw [Nat.mul_one]) ⟨rfl,rfl⟩)
   ·have S8:=St.id hPh_
    exact tG_ rfl hd_ (gL (.int .u8 ((s.getD 2 0).toNat:Int)) rfl ((had▸hr.now S8:RdB _ (some ad) s).cell om_) ⟨rfl,rfl⟩)
   ·exact tG_ rfl hd_ (gv_int (k:=.i64) (z:=IntKind.i64.wrap ((s.getD 2 0).toNat:Int)) (z':=((s.getD 2 0).toNat:Int)) kr_ (wr_u8 _) ⟨rfl,rfl⟩)
   ·exact tG_ rfl hd_ (gv_int (k:=.i64) (z:=IntKind.i64.wrap (256*((s.getD 2 0).toNat:Int))) (z':=256*((s.getD 2 0).toNat:Int)) kr_ (wr_ok om_ om_) ⟨rfl,rfl⟩)
   ·exact tG_ rfl hd_ (gv_int (k:=.i64) (z:=IntKind.i64.wrap (((s.getD 1 0).toNat:Int)+(256*((s.getD 2 0).toNat:Int)))) (z':=((n:Nat):Int)) kr_ wq_ ⟨rfl,rfl⟩)
   ·exact absurd hi_ om_
  ·intro k_ c_ vals_ w1 hk_ hPh_ hd_
   exact absurd hk_ (Nat.not_lt_zero _)
  ·intro c_ w1 hPh_
   have S12:=St.id hPh_
   refine (pv (nI_ n) (wE (nS (sR (pv (nI_ n) (dC ((((n:Nat):Int):Int)>504) (fun _=>pv tv (wN (wN (wN (wN (pv tv (wE ?_))))))) fun hd13=>False.elim om_))))))
   exact nCT (sR (pv (nS_) (pv (iv 30) (wE (then_n (rR (bB (nS_) (iv 30) ⟨none,0,rfl,St.vec_nil S12⟩)))))))
 by_cases h2:2<(s.getD 0 0).toNat
 ·have e:openF s=([],30):=e0.trans (if_pos (.inl h2))
  rw [e]
  refine eN (fr [.slice A s.length ca] 52) Try.func118 rfl (sR (pv (nS_) (pv (iv 0) (wE (nS (sR (pv (.slice A s.length ca) (pv (iv (s.length:Nat)) (dN (s.length:Nat) 512 (fun hd1=>False.elim om_) fun _=>wE (nCF (wp_skip (nS (wp_region_phu (γ:=Unit) 10 [] (fun (c_:Unit) (i_:Nat)=>(match i_ with|0=>.slice A s.length ca|1=>.pointer (some (ad.add 1))|2=>.int .u8 ((s.getD 1 0).toNat:Int)|3=>iv ((s.getD 1 0).toNat:Int)|4=>.slice A s.length ca|5=>.pointer (some (ad.add 2))|6=>.int .u8 ((s.getD 2 0).toNat:Int)|7=>iv ((s.getD 2 0).toNat:Int)|8=>iv (256*((s.getD 2 0).toNat:Int))|9=>nI_ n|_=>undef:Value)) (fun (c_:Unit) (p_:Nat) (w_:World)=>(match p_ with|_=>St F w0 w_ (L):Prop)) () kr_ kr_ kr_ kr_ (S.drew) ?_ ?_ ?_)))))))))))))
  ·intro i_ c_ p_ vals_ w1 hi_ hiE_ hp_ hk_ hu_ hPh_ hd_
   rcases i_ with _|_|_|_|_|_|_|_|_|_|i_
   ·exact tG_ rfl hd_ (gV (.slice A s.length ca) ⟨rfl,rfl⟩)
   ·exact tG_ rfl hd_ (gv_ixB (e:=5) (sz:=1) (n:=s.length) (c:=ca) (i:=1) (k:=.i64) (ad:=ad) (ad':=(ad.add 1)) (j:=1) rfl kr_ kr_ (by rw [←had];kernel_rfl) kr_ rfl om_ (by rw [Nat.mul_one]) ⟨rfl,rfl⟩)
   ·have S4:=St.id hPh_
    exact tG_ rfl hd_ (gL (.int .u8 ((s.getD 1 0).toNat:Int)) rfl ((had▸hr.now S4:RdB _ (some ad) s).cell om_) ⟨rfl,rfl⟩)
   ·exact tG_ rfl hd_ (gv_int (k:=.i64) (z:=IntKind.i64.wrap ((s.getD 1 0).toNat:Int)) (z':=((s.getD 1 0).toNat:Int)) kr_ (wr_u8 _) ⟨rfl,rfl⟩)
   ·exact tG_ rfl hd_ (gV (.slice A s.length ca) ⟨rfl,rfl⟩)
   ·exact tG_ rfl hd_ (gv_ixB (e:=5) (sz:=1) (n:=s.length) (c:=ca) (i:=2) (k:=.i64) (ad:=ad) (ad':=(ad.add 2)) (j:=2) rfl kr_ kr_ (by rw [←had];kernel_rfl) kr_ rfl om_ (by rw [Nat.mul_one]) ⟨rfl,rfl⟩)
   ·have S8:=St.id hPh_
    exact tG_ rfl hd_ (gL (.int .u8 ((s.getD 2 0).toNat:Int)) rfl ((had▸hr.now S8:RdB _ (some ad) s).cell om_) ⟨rfl,rfl⟩)
   ·exact tG_ rfl hd_ (gv_int (k:=.i64) (z:=IntKind.i64.wrap ((s.getD 2 0).toNat:Int)) (z':=((s.getD 2 0).toNat:Int)) kr_ (wr_u8 _) ⟨rfl,rfl⟩)
   ·exact tG_ rfl hd_ (gv_int (k:=.i64) (z:=IntKind.i64.wrap (256*((s.getD 2 0).toNat:Int))) (z':=256*((s.getD 2 0).toNat:Int)) kr_ (wr_ok om_ om_) ⟨rfl,rfl⟩)
   ·exact tG_ rfl hd_ (gv_int (k:=.i64) (z:=IntKind.i64.wrap (((s.getD 1 0).toNat:Int)+(256*((s.getD 2 0).toNat:Int)))) (z':=((n:Nat):Int)) kr_ wq_ ⟨rfl,rfl⟩)
   ·exact absurd hi_ om_
  ·intro k_ c_ vals_ w1 hk_ hPh_ hd_
   exact absurd hk_ (Nat.not_lt_zero _)
  ·intro c_ w1 hPh_
   have S12:=St.id hPh_
   refine (pv (nI_ n) (wE (nS (sR (pv (nI_ n) (dC ((((n:Nat):Int):Int)>504) (fun hd13=>False.elim om_) fun _=>pv fv (pW (.slice A s.length ca) (wl_when kr_ (gv_ixB (e:=5) (sz:=1) (n:=s.length) (c:=ca) (i:=0) (k:=.i64) (ad:=ad) (ad':=(ad.add 0)) (j:=0) rfl kr_ kr_ (by rw [←had];kernel_rfl) kr_ rfl om_ (by rw [Nat.mul_one]) (wl_when kr_ (gv_ldR (v:=.int .u8 ((s.getD 0 0).toNat:Int)) rfl kr_ kr_ ((had▸hr.now S12:RdB _ (some ad) s).cell om_) (wl_when kr_ (gv_dec (p:=(((s.getD 0 0).toNat:Int):Int)>2) kr_ (fun _=> ?_) (fun hd14=>False.elim om_))))))))))))))
   exact pv tv (wE (nCT (sR (pv (nS_) (pv (iv 30) (wE (then_n (rR (bB (nS_) (iv 30) ⟨none,0,rfl,St.vec_nil S12⟩)))))))))
 rw [if_neg om_] at e0
 have hbl:((s.drop 7).take n).length=n:=by rw [List.length_take,List.length_drop];omega
 have hfl:=length_form (s.getD 0 0) (body:=(s.drop 7).take n) om_
 refine eN (fr [.slice A s.length ca] 52) Try.func118 rfl (sR (pv (nS_) (pv (iv 0) (wE (nS (sR (pv (.slice A s.length ca) (pv (iv (s.length:Nat)) (dN (s.length:Nat) 512 (fun hd1=>False.elim om_) fun _=>wE (nCF (wp_skip (nS (wp_region_phu (γ:=Unit) 10 [] (fun (c_:Unit) (i_:Nat)=>(match i_ with|0=>.slice A s.length ca|1=>.pointer (some (ad.add 1))|2=>.int .u8 ((s.getD 1 0).toNat:Int)|3=>iv ((s.getD 1 0).toNat:Int)|4=>.slice A s.length ca|5=>.pointer (some (ad.add 2))|6=>.int .u8 ((s.getD 2 0).toNat:Int)|7=>iv ((s.getD 2 0).toNat:Int)|8=>iv (256*((s.getD 2 0).toNat:Int))|9=>nI_ n|_=>undef:Value)) (fun (c_:Unit) (p_:Nat) (w_:World)=>(match p_ with|_=>St F w0 w_ (L):Prop)) () kr_ kr_ kr_ kr_ (S.drew) ?_ ?_ ?_)))))))))))))
 ·intro i_ c_ p_ vals_ w1 hi_ hiE_ hp_ hk_ hu_ hPh_ hd_
  rcases i_ with _|_|_|_|_|_|_|_|_|_|i_
  ·exact tG_ rfl hd_ (gV (.slice A s.length ca) ⟨rfl,rfl⟩)
  ·exact tG_ rfl hd_ (gv_ixB (e:=5) (sz:=1) (n:=s.length) (c:=ca) (i:=1) (k:=.i64) (ad:=ad) (ad':=(ad.add 1)) (j:=1) rfl kr_ kr_ (by rw [←had];kernel_rfl) kr_ rfl om_ (by rw [Nat.mul_one]) ⟨rfl,rfl⟩)
  ·have S4:=St.id hPh_
   exact tG_ rfl hd_ (gL (.int .u8 ((s.getD 1 0).toNat:Int)) rfl ((had▸hr.now S4:RdB _ (some ad) s).cell om_) ⟨rfl,rfl⟩)
  ·exact tG_ rfl hd_ (gv_int (k:=.i64) (z:=IntKind.i64.wrap ((s.getD 1 0).toNat:Int)) (z':=((s.getD 1 0).toNat:Int)) kr_ (wr_u8 _) ⟨rfl,rfl⟩)
  ·exact tG_ rfl hd_ (gV (.slice A s.length ca) ⟨rfl,rfl⟩)
  ·exact tG_ rfl hd_ (gv_ixB (e:=5) (sz:=1) (n:=s.length) (c:=ca) (i:=2) (k:=.i64) (ad:=ad) (ad':=(ad.add 2)) (j:=2) rfl kr_ kr_ (by rw [←had];kernel_rfl) kr_ rfl om_ (by rw [Nat.mul_one]) ⟨rfl,rfl⟩)
  ·have S8:=St.id hPh_
   exact tG_ rfl hd_ (gL (.int .u8 ((s.getD 2 0).toNat:Int)) rfl ((had▸hr.now S8:RdB _ (some ad) s).cell om_) ⟨rfl,rfl⟩)
  ·exact tG_ rfl hd_ (gv_int (k:=.i64) (z:=IntKind.i64.wrap ((s.getD 2 0).toNat:Int)) (z':=((s.getD 2 0).toNat:Int)) kr_ (wr_u8 _) ⟨rfl,rfl⟩)
  ·exact tG_ rfl hd_ (gv_int (k:=.i64) (z:=IntKind.i64.wrap (256*((s.getD 2 0).toNat:Int))) (z':=256*((s.getD 2 0).toNat:Int)) kr_ (wr_ok om_ om_) ⟨rfl,rfl⟩)
  ·exact tG_ rfl hd_ (gv_int (k:=.i64) (z:=IntKind.i64.wrap (((s.getD 1 0).toNat:Int)+(256*((s.getD 2 0).toNat:Int)))) (z':=((n:Nat):Int)) kr_ wq_ ⟨rfl,rfl⟩)
  ·exact absurd hi_ om_
 ·intro k_ c_ vals_ w1 hk_ hPh_ hd_
  exact absurd hk_ (Nat.not_lt_zero _)
 ·intro c_ w1 hPh_
  have S12:=St.id hPh_
  refine (pv (nI_ n) (wE (nS (sR (pv (nI_ n) (dC ((((n:Nat):Int):Int)>504) (fun hd13=>False.elim om_) fun _=>pv fv (pW (.slice A s.length ca) (wl_when kr_ (gv_ixB (e:=5) (sz:=1) (n:=s.length) (c:=ca) (i:=0) (k:=.i64) (ad:=ad) (ad':=(ad.add 0)) (j:=0) rfl kr_ kr_ (by rw [←had];kernel_rfl) kr_ rfl om_ (by rw [Nat.mul_one]) (wl_when kr_ (gv_ldR (v:=.int .u8 ((s.getD 0 0).toNat:Int)) rfl kr_ kr_ ((had▸hr.now S12:RdB _ (some ad) s).cell om_) (wl_when kr_ (gv_dec (p:=(((s.getD 0 0).toNat:Int):Int)>2) kr_ (fun hd14=>False.elim om_) (fun _=> ?_))))))))))))))
  refine pv fv (wE (nCF (wp_skip (nSR (pv (nS_) (wE (nS (sR (pv (iv 0) (wE (then_n (wp_block ?_))))))))))))
  have S15:St F w0 w1 (vec 5 1 (nS_) 0 ([].map bv)::L):=St.vec_nil S12
  refine wp_loop_g (G:=Nat×Option Addr×Nat) (fun (g_:Nat×Option Addr×Nat) (a_:Act) (w_:World)=>∃J:Nat→Value,a_=(fr ([.slice A s.length ca,ud,nS_,iv 0,nI_ n,.slice g_.2.1 g_.1 g_.2.2,nI_ g_.1,ud,.slice A s.length ca,iv (s.length:Nat),fv,.slice A s.length ca,.pointer (some (ad.add 1)),.int .u8 ((s.getD 1 0).toNat:Int),iv ((s.getD 1 0).toNat:Int),.slice A s.length ca,.pointer (some (ad.add 2)),.int .u8 ((s.getD 2 0).toNat:Int),iv ((s.getD 2 0).toNat:Int),iv (256*((s.getD 2 0).toNat:Int)),nI_ n,nI_ n,fv,fv,.slice A s.length ca,.pointer (some (ad.add 0)),.int .u8 ((s.getD 0 0).toNat:Int),fv,fv]++jR J 29 13) 11)∧St F w0 w_ (vec 5 1 (.slice g_.2.1 g_.1 g_.2.2) g_.1 ((pre (s.drop 7) g_.1).map bv)::L)∧(g_.1≤n)) (fun g_=>n-g_.1) (0,none,0) (jE_ ⟨S15,Nat.zero_le _⟩) ?_
  rintro ⟨i,A5,c5⟩ a_ w16 ⟨J,rfl,S17,hI18⟩
  skip
  have S17:St F w0 w16 (vec 5 1 (.slice A5 i c5) i ((pre (s.drop 7) i).map bv)::L):=S17
  have hI18:(i≤n):=hI18
  refine wp_seq (sR (pv (nI_ i) (pv (nI_ n) (dC ((((i:Nat):Int):Int)<((n:Nat):Int)) (fun hb19=> ?_) fun hb19=> ?_))))
  ·have hi:i<n:=by omega
   refine wE (nCT (wp_skip (nS (wp_block (wp_region_lit (pv (.slice A5 i c5) (pv (.slice A s.length ca) (pv (nI_ i) (gI .i64 (IntKind.i64.wrap (7+((i:Nat):Int))) ((7+i:Nat):Int) (wr_eq om_ om_ om_) (g_ (gv_ixB (e:=5) (sz:=1) (n:=s.length) (c:=ca) (i:=((7+i:Nat):Int)) (k:=.i64) (ad:=ad) (ad':=(ad.add (7+i))) (j:=(7+i)) rfl kr_ kr_ (by rw [←had];kernel_rfl) kr_ rfl om_ (by rw [Nat.mul_one]) (lQ (.int .u8 (((s.drop 7).getD i 0).toNat:Int)) (by rw [getD_drop];exact (had▸hr.more.now S17:RdB _ (some ad) s).cell om_) (g_ (gv_slit (e:=5) (sz:=1) (z:=.int .u8 0) (by_:=1) (vs:=#[(0,.int .u8 (((s.drop 7).getD i 0).toNat:Int))]) (cells:=#[.int .u8 (((s.drop 7).getD i 0).toNat:Int)]) S17 rfl kr_ ⟨by kernel_rfl⟩ kr_ kr_ kr_ kr_ (fun g20 w21 hg22 S23=> ?_)))))))))))))))
   have S24:St F w0 w21 (row g20 #[.int .u8 (((s.drop 7).getD i 0).toNat:Int)] 5::vec 5 1 (.slice A5 i c5) i ((pre (s.drop 7) i).map bv)::L):=St.pm 2 [0,1] S23
   refine g_ (gv_append (e:=5) (sz:=1) (n:=i) (v:=(.slice A5 i c5)) (vals:=((pre (s.drop 7) i).map bv)) (z:=.int .u8 0) (by_:=1) (m:=1) (c':=1) (ad:=⟨g20,0,none⟩) (news:=[.int .u8 (((s.drop 7).getD i 0).toNat:Int)]) (St.swap S24) rfl kr_ ⟨by kernel_rfl⟩ rfl kr_ kr_ dc_ rfl (row_news (S24.blk 0 rfl)) (by intro u hu;simp at hu;subst hu;rfl) om_ om_ (fun v26 w25 S27=> ?_))
   have S28:St F w0 w25 (vec 5 1 v26 (i+1) ((pre (s.drop 7) i).map bv++[.int .u8 (((s.drop 7).getD i 0).toNat:Int)])::L):=St.pm 2 [0] S27
   rw [pre_succ] at S28
   obtain ⟨A29,c30,rfl⟩:=St.vecV S28 0 rfl
   change St F w0 w25 (vec 5 1 (.slice A29 (i+1) c30) (i+1) ((pre (s.drop 7) (i+1)).map bv)::L) at S28
   exact pv (.slice A29 (i+1) c30) (wE (inb_n (nR (pv (nI_ i) (gI .i64 (IntKind.i64.wrap (((i:Nat):Int)+1)) ((i+1:Nat):Int) wq_ (pv (nI_ (i+1)) (wE (then_n ⟨(i+1,A29,c30),(jE_ ⟨S28,om_⟩),(by show n-(i+1)<n-i;omega)⟩))))))))
  ·have hie:i=n:=by omega
   have hpi:pre (s.drop 7) n=(s.drop 7).take n:=pre_drop om_
   rw [hie,hpi] at S17
   rw [hie]
   refine wE (nCF (wp_exit (then_x (then_x (inb_x (nSR (pv (.slice A s.length ca) (g_ (gv_ixB (e:=5) (sz:=1) (n:=s.length) (c:=ca) (i:=0) (k:=.i64) (ad:=ad) (ad':=(ad.add 0)) (j:=0) rfl kr_ kr_ (by rw [←had];kernel_rfl) kr_ rfl om_ (by rw [Nat.mul_one]) (lQ (.int .u8 ((s.getD 0 0).toNat:Int)) ((had▸hr.more.now S17:RdB _ (some ad) s).cell om_) (gI .i64 (IntKind.i64.wrap ((s.getD 0 0).toNat:Int)) ((s.getD 0 0).toNat:Int) (wr_u8 _) (pv (.slice A5 n c5) (sP2 Try.func144 #[iv ((s.getD 0 0).toNat:Int),.slice A5 n c5] (rform' S17 (t:=s.getD 0 0) rfl (b:=(s.drop 7).take n) hbl.symm (RoT.ofVec 0 rfl) om_) fun A33 c34 w31 S32=>pv (.slice A33 512 c34) ?_)))))))))))))
   refine wE (nS (sR (pv (.slice A33 512 c34) (pv (.slice A s.length ca) (g_ (gv_call (args:=#[.slice A33 512 c34,.slice A s.length ca]) rfl Try.func145 kr_ rfl rfl kr_ ?_))))))
   by_cases hq:s=form (s.getD 0 0) ((s.drop 7).take n)
   ·refine Calls.mono (rsame' (t:=true) hfl.symm rfl (decide_eq_true hq.symm) S32 (RoT.ofVec 0 rfl) hr.more.more om_ hm) ?_
    rintro _ w35 ⟨rfl,S36⟩
    refine ⟨_,rfl, ?_⟩
    have e:openF s=((s.drop 7).take n,0):=e0.trans (if_pos hq)
    refine pv fv (wE (nCF (wp_skip (nSR (pv (.slice A5 n c5) (pv (.slice A5 n c5) (pv (iv 0) (wE (then_n (wp_ret (bB (.slice A5 n c5) (iv 0) ?_)))))))))))
    rw [e]
    have S37:=St.pm 2 [1] S36
    exact ⟨A5,c5,by rw [hbl];rfl,by rw [hbl];exact S37⟩
   ·refine Calls.mono (rsame' (t:=false) hfl.symm rfl (decide_eq_false (fun h=>hq h.symm)) S32 (RoT.ofVec 0 rfl) hr.more.more om_ hm) ?_
    rintro _ w38 ⟨rfl,S39⟩
    refine ⟨_,rfl, ?_⟩
    have e:openF s=([],30):=e0.trans (if_neg hq)
    refine pv tv (wE (nCT (sR (pv (nS_) (pv (iv 30) (wE (then_n (rR (bB (nS_) (iv 30) ?_)))))))))
    rw [e]
    have S40:=St.pm 2 [] S39
    exact ⟨none,0,rfl,St.vec_nil S40⟩
end
theorem bvs_set (X:List UInt8)(k:Nat)(b:UInt8):(bvs X).setIfInBounds k (.int .u8 (b.toNat:Int))=bvs (X.set k b):=by
 unfold bvs
 rw [List.setIfInBounds_toArray,List.map_set];rfl
end Go.Proofs
end
section
open Go Go.RowKit Go.Proofs.YtgeioealgidkiaaW.PrintWords
namespace Go.Proofs
open Go.Vel
set_option linter.unusedVariables false
section
def Dsk.wrote (s:Dsk)(k:Nat)(d:List UInt8):Dsk:={s with pend:=s.pend++[(k,d)],wr:=inc s.wr,left:=spent s.left}
theorem writeR_go {s:Dsk}{k:Nat}{d:List UInt8}(hz:s.left≠0)(hk:k<s.last.length)(hd:d.length=512):s.writeR ((k:Nat):Int) d=(s.wrote k d,0):=by
 unfold Dsk.writeR Dsk.wrote
 rw [if_neg hz,if_neg (show¬(((k:Nat):Int)<0∨(s.last.length:Int)≤((k:Nat):Int)) by omega),if_neg om_,Int.toNat_natCast]
theorem sealF_len {o b:List UInt8}(ho:o.length=512)(hb:b.length≤504):(sealF o b).1.length=512∧(sealF o b).2=0:=by
 unfold sealF
 rw [if_neg om_,if_neg om_]
 exact ⟨length_form _ hb,rfl⟩
theorem DOk.now {s:Dsk}(h:DOk s){k:Nat}(hk:k<s.last.length):(s.now k).length=512:=by
 unfold Dsk.now
 cases hp:(pendOf s k).getLast? with
 |some d=>
  have:=List.mem_of_getLast? hp
  unfold pendOf at this
  obtain ⟨x,hx,rfl⟩:=List.mem_map.1 this
  exact (h.plen x (List.mem_filter.1 hx).1).1
 |none=>
  show (s.last.getD k []).length=512
  rw [List.getD_eq_getElem?_getD,List.getElem?_eq_getElem hk]
  exact h.len _ (List.getElem_mem hk)
section
variable {F:Nat→Prop}{w0 w:World}{L:List Ast}{g:Nat}{s:Dsk}
end
end
section
theorem length_leB (v n:Nat):(leB v n).length=n:=by simp [leB]
theorem length_bodyR (e p i c:Nat)(d:List UInt8):(bodyR e p i c d).length=12+d.length:=by
 simp only [bodyR,List.length_append,length_leB]
theorem RdB.cells {w:World}{ad:Addr}{l:List UInt8}(h:RdB w (some ad) l):∀j u,(l.map bv)[j]?=some u→w.cell? (ad.add j)=some u:=fun j u hu=>by
 have hl:0<l.length:=by
  have:=(List.getElem?_eq_some_iff.1 hu).1
  rw [List.length_map] at this;omega
 obtain ⟨ad',e,hc⟩:=h hl
 cases e;exact hc j u hu
theorem bv_one (l:List UInt8):∀u∈l.map bv,u.oneCell'=true:=fun u hu=>by
 obtain ⟨x,_,rfl⟩:=List.mem_map.1 hu;rfl
section
variable {F:Nat→Prop}{w0 w:World}{L:List Ast}
end
end
end Go.Proofs
end
section
open Go Go.RowKit Go.Proofs.YtgeioealgidkiaaW.PrintWords
namespace Go.Proofs
open Go.Vel
set_option linter.unusedVariables false
set_option maxRecDepth 100000
set_option maxHeartbeats 4000000
attribute [local irreducible] gives wpList Code.wp
theorem partR_len {d:List UInt8}{i c:Nat}(hc:c=countR d.length)(hi:i<c):(partR d i).length=min d.length ((i+1)*492)-i*492∧1≤(partR d i).length∧(partR d i).length≤492:=by
 unfold partR countR at*
 rw [List.length_take,List.length_drop]
 omega
end Go.Proofs
end
section
open Go Go.RowKit Go.Proofs.YtgeioealgidkiaaW.PrintWords
namespace Go.Proofs
open Go.Vel
set_option linter.unusedVariables false
set_option linter.unusedSimpArgs false
section
abbrev PcV:=Pc×Value
def pcells (x:PcV):List Value:=[.int .i64 (x.1.epoch:Nat),.int .i64 (x.1.pos:Nat),.int .i64 (x.1.idx:Nat),.int .i64 (x.1.cnt:Nat),x.2]
def pc0:PcV:=(pcNo,.slice none 0 0)
section
variable {F:Nat→Prop}{w0 w:World}{L:List Ast}
end
structure RingTo (s:Dsk)(first n i:Nat)(M:List PcV):Prop where
 len:M.length=n
 pc:∀j x,M[j]?=some x→(j<i→x.1=pcAt s first n j)∧(i≤j→x=pc0)∧∃A c,x.2=.slice A x.1.data.length c
theorem RingTo.skip {s:Dsk}{first n i:Nat}{M:List PcV}(h:RingTo s first n i M)(hp:pcAt s first n i=pcNo):RingTo s first n (i+1) M:=⟨h.len,fun j x hx=>by
 obtain ⟨h1,h2,h3⟩:=h.pc j x hx
 refine ⟨fun hj=> ?_,fun hj=>h2 om_,h3⟩
 by_cases hji:j=i
 ·subst hji;rw [hp,h2 (Nat.le_refl _)];rfl
 ·exact h1 om_⟩
end
end Go.Proofs
end
section
open Go Go.RowKit Go.Proofs.YtgeioealgidkiaaW.PrintWords
namespace Go.Proofs
open Go.Vel
set_option linter.unusedVariables false
structure ScSt where
 recs:List (List UInt8)
 rcd:List UInt8
 idx:Nat
 cnt:Nat
 head:Nat
def scCnt (σ:ScSt)(x:Pc):Nat:=if σ.idx=0 then x.cnt else σ.cnt
def scStep (σ:ScSt)(x:Pc):Option ScSt:=
 if σ.idx≠0∧x.cnt≠σ.cnt then none
 else if x.idx≠σ.idx∨scCnt σ x<1∨17<scCnt σ x∨(σ.idx+1<scCnt σ x∧x.data.length≠492) then none
 else if σ.idx+1=scCnt σ x then some ⟨σ.recs++[σ.rcd++x.data],[],0,scCnt σ x,σ.head+scCnt σ x⟩
 else some ⟨σ.recs,σ.rcd++x.data,σ.idx+1,scCnt σ x,σ.head⟩
structure Fits (pc:Nat→Pc)(e p:Nat):Prop where
 epoch:(pc p).epoch=e
 pos:(pc p).pos=p
 data:(pc p).data≠[]
structure ScInv (pc:Nat→Pc)(e tail k:Nat)(σ:ScSt):Prop where
 recs:Recs pc e tail σ.recs σ.head
 pos:σ.head+σ.idx=tail+k
 rcd:σ.rcd=catF pc σ.head σ.idx
 par:0<σ.idx→σ.cnt=(pc σ.head).cnt∧σ.idx<σ.cnt∧σ.cnt≤17∧∀j,j<σ.idx→(pc (σ.head+j)).Part e (σ.head+j) j σ.cnt
theorem ScInv.step {pc:Nat→Pc}{e tail k:Nat}{σ σ':ScSt}(h:ScInv pc e tail k σ)(hm:Fits pc e (tail+k))(hs:scStep σ (pc (tail+k))=some σ'):ScInv pc e tail (k+1) σ':=by
 have hpos:=h.pos
 rw [←hpos] at hm hs
 obtain ⟨c,hc⟩:∃c,scCnt σ (pc (σ.head+σ.idx))=c:=⟨_,rfl⟩
 unfold scStep at hs
 rw [hc] at hs
 split at hs
 ·cases hs
 ·rename_i h1
  split at hs
  ·cases hs
  ·rename_i h2
   have hcnt:(pc (σ.head+σ.idx)).cnt=c:=by
    unfold scCnt at hc
    split at hc
    ·exact hc
    ·rename_i h0
     by_cases h3:(pc (σ.head+σ.idx)).cnt=σ.cnt
     ·rw [h3];exact hc
     ·exact absurd ⟨h0,h3⟩ h1
   have hfull:σ.idx+1=c∨(pc (σ.head+σ.idx)).data.length=492:=by
    by_cases h3:σ.idx+1=c
    ·exact .inl h3
    ·refine .inr ?_
     have h4:σ.idx+1≤c:=by
      by_cases h0:σ.idx=0
      ·omega
      ·obtain ⟨_,h5,_⟩:=h.par om_
       unfold scCnt at hc
       rw [if_neg h0] at hc
       omega
     by_cases h5:(pc (σ.head+σ.idx)).data.length=492
     ·exact h5
     ·exact absurd (.inr (.inr (.inr ⟨by omega,h5⟩))) h2
   have hpart:(pc (σ.head+σ.idx)).Part e (σ.head+σ.idx) σ.idx c:=⟨hm.data,hm.epoch,hm.pos,by omega,hcnt,hfull⟩
   have hall:∀j,j<σ.idx+1→(pc (σ.head+j)).Part e (σ.head+j) j c:=fun j hj=>by
    by_cases hji:j=σ.idx
    ·subst hji;exact hpart
    ·obtain ⟨_,_,_,h5⟩:=h.par om_
     have h6:=h5 j om_
     have h7:c=σ.cnt:=by unfold scCnt at hc;rw [if_neg om_] at hc;exact hc.symm
     rw [h7];exact h6
   have h0c:(pc σ.head).cnt=c:=by
    have:=(hall 0 om_).cnt
    rwa [Nat.add_zero] at this
   split at hs
   ·rename_i h3
    cases hs
    refine ⟨?_,by show σ.head+c+0=_;omega,rfl,fun h=>absurd h (Nat.lt_irrefl 0)⟩
    have e1:σ.rcd++(pc (σ.head+σ.idx)).data=catF pc σ.head c:=by rw [←h3,catF_succ,h.rcd]
    show Recs pc e tail (σ.recs++[σ.rcd++(pc (σ.head+σ.idx)).data]) (σ.head+c)
    rw [e1]
    exact .step h.recs ⟨by omega,by omega,h0c,fun j hj=>hall j om_⟩
   ·rename_i h3
    cases hs
    have hlt:σ.idx+1<c:=by
     by_cases h0:σ.idx=0
     ·omega
     ·obtain ⟨_,h5,_⟩:=h.par om_
      unfold scCnt at hc
      rw [if_neg h0] at hc
      omega
    exact ⟨h.recs,by show σ.head+(σ.idx+1)=_;omega,by show σ.rcd++(pc (σ.head+σ.idx)).data=catF pc σ.head (σ.idx+1);rw [catF_succ,h.rcd],fun _=>⟨h0c.symm,hlt,by show c≤17;omega,hall⟩⟩
theorem ScInv.stop {pc:Nat→Pc}{e tail k:Nat}{σ:ScSt}(h:ScInv pc e tail k σ)(hs:scStep σ (pc (tail+k))=none):NoRec pc e σ.head:=by
 intro c hr
 have hpos:=h.pos
 rw [←hpos] at hs
 have hic:σ.idx<c∧scCnt σ (pc (σ.head+σ.idx))=c:=by
  by_cases h0:σ.idx=0
  ·have:=hr.c1
   have h2:=hr.cnt
   unfold scCnt
   rw [if_pos h0,h0,Nat.add_zero]
   exact ⟨by omega,h2⟩
  ·obtain ⟨h1,h2,_⟩:=h.par om_
   have h3:=hr.cnt
   unfold scCnt
   rw [if_neg h0]
   exact ⟨by omega,by omega⟩
 obtain ⟨hi,hc⟩:=hic
 have hp:=hr.part σ.idx hi
 have h17:=hr.c17
 have h1:=hr.c1
 unfold scStep at hs
 rw [hc] at hs
 rw [if_neg (fun ⟨h0,h2⟩=>by
  obtain ⟨h3,_⟩:=h.par om_
  have:=hp.cnt
  have:=hr.cnt
  omega),if_neg (fun h2=>by
  rcases h2 with h2|h2|h2|⟨h2,h3⟩
  ·exact h2 hp.idx
  ·omega
  ·omega
  ·rcases hp.full with h4|h4
   ·omega
   ·exact h3 h4)] at hs
 split at hs<;>cases hs
theorem ScInv.last {pc:Nat→Pc}{e tail k:Nat}{σ:ScSt}(h:ScInv pc e tail k σ)(hm:¬Fits pc e (tail+k)):NoRec pc e σ.head:=by
 intro c hr
 have hpos:=h.pos
 have hi:σ.idx<c:=by
  by_cases h0:σ.idx=0
  ·have:=hr.c1;omega
  ·obtain ⟨h1,h2,_⟩:=h.par om_
   have h3:=hr.cnt
   omega
 have hp:=hr.part σ.idx hi
 rw [hpos] at hp
 exact hm ⟨hp.epoch,hp.pos,hp.data⟩
end Go.Proofs
end
section
open Go Go.RowKit Go.Proofs.YtgeioealgidkiaaW.PrintWords
namespace Go.Proofs
open Go.Vel
set_option linter.unusedVariables false
set_option maxRecDepth 100000
set_option maxHeartbeats 4000000
attribute [local irreducible] gives wpList wpListIn Code.wp Code.wpIn
structure RowC (W:World)(b1 b2 gl gr n e tl:Nat)(M:List PcV):Prop where
 c1:W.cell? ⟨b1,0,none⟩=some (pq gl)
 c2:W.cell? ⟨b2,0,none⟩=some (.slice (some ⟨gr,0,none⟩) n n)
 c3:W.cell? ⟨gl,2,none⟩=some (iv (n:Nat))
 c4:W.cell? ⟨gl,4,none⟩=some (iv (e:Nat))
 c6:W.cell? ⟨gl,6,none⟩=some (iv (tl:Nat))
 c9:∀j x,M[j]?=some x→∀k v,(pcells x)[k]?=some v→W.cell? ⟨gr,j*5+k,none⟩=some v
def KpR (b1 b2 gl gr:Nat)(W W':World):Prop:=∀a:Addr,(a.block=b1∨a.block=b2∨a.block=gr∨a=⟨gl,2,none⟩∨a=⟨gl,4,none⟩∨a=⟨gl,6,none⟩)→W'.cell? a=W.cell? a
theorem RowC.cells {W W':World}{b1 b2 gl gr n e tl:Nat}{M:List PcV}(h:RowC W b1 b2 gl gr n e tl M)(hk:∀a v,W.cell? a=some v→W'.cell? a=some v):RowC W' b1 b2 gl gr n e tl M:=
 ⟨hk _ _ h.c1,hk _ _ h.c2,hk _ _ h.c3,hk _ _ h.c4,hk _ _ h.c6,fun j x hx k v hv=>hk _ _ (h.c9 j x hx k v hv)⟩
end Go.Proofs
end
section
open Go Go.RowKit Go.Proofs.YtgeioealgidkiaaW.PrintWords
namespace Go.Proofs
open Go.Vel
set_option linter.unusedVariables false
section
def Cel (A:Ast):Prop:=∀h,A h→∀k o,h k=some o→∃cs t f,o=.cells cs t f∧t≠165
abbrev CelL (L:List Ast):Prop:=∀A∈L,Cel A
theorem Cel.stars {L:List Ast}(hL:CelL L):Cel (stars L):=fun h hA k o hk=>by
 obtain ⟨hs,h1,_,h3⟩:=hA
 obtain ⟨i,hi,hk'⟩:=(h3 k o).1 hk
 exact hL _ (List.getElem_mem hi) (hs i) (h1 i _ (List.getElem?_eq_getElem hi)) k o hk'
section
variable {F D:Nat→Prop}{w0 w W W':World}{L L' A R:List Ast}
end
abbrev RecV:=Value×List UInt8
def recD (x:RecV):Ast:=vec 5 1 x.1 x.2.length (x.2.map bv)
end
end Go.Proofs
end
section
open Go Go.RowKit Go.Proofs.YtgeioealgidkiaaW.PrintWords
namespace Go.Proofs
open Go.Vel
set_option linter.unusedVariables false
set_option linter.unusedSimpArgs false
structure ScB (tl m:Nat)(σ:ScSt):Prop where
 idx:σ.idx≤m
 head:σ.head≤tl+17*m
 recs:σ.recs.length≤m
 rcd:σ.rcd.length≤492*m
theorem ScB.step {tl m:Nat}{σ σ':ScSt}{x:Pc}(h:ScB tl m σ)(hx:x.data.length≤492)(hs:scStep σ x=some σ'):ScB tl (m+1) σ':=by
 obtain ⟨h1,h2,h3,h4⟩:=h
 unfold scStep at hs
 split at hs
 ·cases hs
 ·split at hs
  ·cases hs
  ·rename_i h5
   split at hs
   ·cases hs
    exact ⟨Nat.zero_le _,by show σ.head+scCnt σ x≤_;omega,by simp;omega,by simp⟩
   ·cases hs
    exact ⟨by show σ.idx+1≤_;omega,by show σ.head≤_;omega,by show σ.recs.length≤_;omega,by simp only [List.length_append];omega⟩
theorem KpR.trans {b1 b2 gl gr:Nat}{A B C:World}(h:KpR b1 b2 gl gr A B)(k:KpR b1 b2 gl gr B C):KpR b1 b2 gl gr A C:=fun a ha=>(k a ha).trans (h a ha)
end Go.Proofs
end
section
namespace Go.Proofs
open Go Go.Vel
def step (s:List UInt8)(p:Nat)(x:UInt8):List UInt8:=s.set p (s.getD p 0^^^x)
end Go.Proofs
end
