/- Part 2 of 6 of what the proof stands on: the words, the laws of the walk, the walks, the plain laws; each section is one text. -/
import Derived.Test.YtgelippmcflppaaGreatM1
import Derived.Test.YtgelippmcflppaaGreatChecked
import Derived.StillTailTactics
section
open Go Go.RowKit Go.Proofs.YtgelippmcflppaaGreatW.PrintWords Go.Proofs.YtgelippmcflppaaGreatW.PrintMore
namespace Go.Proofs
open Go.Vel
set_option linter.unusedVariables false
set_option maxRecDepth 100000
set_option maxHeartbeats 4000000
attribute [local irreducible] gives wpList Code.wp
section
variable {F:Nat→Prop} {w0 w:World} {L:List Ast}
theorem rd_burnt {g:Nat}{s:Dsk}(S:St F w0 w (RDisk g s::L)):Calls Tryz.prog 19 #[.pointer (some ⟨g,0,none⟩)] w fun e w'=>e=.returned (.bool (decide (s.left=0)))∧St F w0 w' (RDisk g s::L):=by
 obtain ⟨gl,cl,c2,A2,junk,LL,PP,pool,hf,hcl,hju,S⟩:=St.ropen S
 have hn2:=hf.n2
 have hll:=hf.ll
 have hpp:=hf.pp
 have hpn:=hf.pn
 change St F w0 w (rR2 g gl LL.length cl (.slice A2 PP.length c2) s.left s.life s.rd s.wr s.fl s.rf 0::row gl ((LL.map PEnt.val++junk).toArray) 22::vec 102 2 (.slice A2 PP.length c2) PP.length (putsV PP)::stars (pool.map PEnt.row)::L) at S
 refine eN (fr [pq g] 7) Tryz.func19 rfl (sR (pv fv (wER (pv (pq g) (pv (pq g) (pv (po g 2) (lR (iv s.left) S 0 2 (dE s.left 0 (fun hb=> ?_) fun hb=> ?_))))))))
 ·exact pv tv (wE (then_n (wp_ret (bA (.bool true) ⟨by rw [decide_eq_true hb],St.rclose (gl:=gl) (cl:=cl) (c2:=c2) (A2:=A2) (junk:=junk) (LL:=LL) (PP:=PP) (pool:=pool) (s:=s) S (hf.upd rfl rfl hf.lb) hcl hju⟩))))
 ·exact pv fv (wE (then_n (wp_ret (bA (.bool false) ⟨by rw [decide_eq_false hb],St.rclose (gl:=gl) (cl:=cl) (c2:=c2) (A2:=A2) (junk:=junk) (LL:=LL) (PP:=PP) (pool:=pool) (s:=s) S (hf.upd rfl rfl hf.lb) hcl hju⟩))))
theorem rd_life {g:Nat}{s:Dsk}(S:St F w0 w (RDisk g s::L)):Calls Tryz.prog 129 #[.pointer (some ⟨g,0,none⟩)] w fun e w'=>e=.returned (.int .i64 s.life)∧St F w0 w' (RDisk g s::L):=by
 obtain ⟨gl,cl,c2,A2,junk,LL,PP,pool,hf,hcl,hju,S⟩:=St.ropen S
 have hn2:=hf.n2
 have hll:=hf.ll
 have hpp:=hf.pp
 have hpn:=hf.pn
 change St F w0 w (rR2 g gl LL.length cl (.slice A2 PP.length c2) s.left s.life s.rd s.wr s.fl s.rf 0::row gl ((LL.map PEnt.val++junk).toArray) 22::vec 102 2 (.slice A2 PP.length c2) PP.length (putsV PP)::stars (pool.map PEnt.row)::L) at S
 exact eN (fr [pq g] 6) Tryz.func129 rfl (sR (pv (iv 0) (wER (pv (pq g) (pv (pq g) (pv (po g 3) (lR (iv s.life) S 0 3 (pv (iv s.life) (wE (then_n (wp_ret (bA (iv s.life) ⟨rfl,St.rclose (gl:=gl) (cl:=cl) (c2:=c2) (A2:=A2) (junk:=junk) (LL:=LL) (PP:=PP) (pool:=pool) (s:=s) S (hf.upd rfl rfl hf.lb) hcl hju⟩))))))))))))
theorem rd_sectors {g:Nat}{s:Dsk}(S:St F w0 w (RDisk g s::L)):Calls Tryz.prog 38 #[.pointer (some ⟨g,0,none⟩)] w fun e w'=>e=.returned (.int .i64 (s.last.length:Int))∧St F w0 w' (RDisk g s::L):=by
 obtain ⟨gl,cl,c2,A2,junk,LL,PP,pool,hf,hcl,hju,S⟩:=St.ropen S
 have hn2:=hf.n2
 have hll:=hf.ll
 have hpp:=hf.pp
 have hpn:=hf.pn
 change St F w0 w (rR2 g gl LL.length cl (.slice A2 PP.length c2) s.left s.life s.rd s.wr s.fl s.rf 0::row gl ((LL.map PEnt.val++junk).toArray) 22::vec 102 2 (.slice A2 PP.length c2) PP.length (putsV PP)::stars (pool.map PEnt.row)::L) at S
 exact eN (fr [pq g] 7) Tryz.func38 rfl (sR (pv (iv 0) (wER (pv (pq g) (pv (pq g) (pv (pq g) (lR (sl gl 0 LL.length cl) S 0 0 (pv (iv (LL.length:Nat)) (pv (iv (LL.length:Nat)) (wE (then_n (wp_ret (bA (iv (LL.length:Nat)) ⟨by rw [hll],St.rclose (gl:=gl) (cl:=cl) (c2:=c2) (A2:=A2) (junk:=junk) (LL:=LL) (PP:=PP) (pool:=pool) (s:=s) S (hf.upd rfl rfl hf.lb) hcl hju⟩)))))))))))))
theorem rd_take {g:Nat}{s:Dsk}(S:St F w0 w (RDisk g s::L)):Calls Tryz.prog 30 #[.pointer (some ⟨g,0,none⟩)] w fun e w'=>e=.returned (.int .i64 (inc s.life))∧St F w0 w' (RDisk g ({s with life:=inc s.life})::L):=by
 obtain ⟨gl,cl,c2,A2,junk,LL,PP,pool,hf,hcl,hju,S⟩:=St.ropen S
 have hn2:=hf.n2
 have hll:=hf.ll
 have hpp:=hf.pp
 have hpn:=hf.pn
 change St F w0 w (rR2 g gl LL.length cl (.slice A2 PP.length c2) s.left s.life s.rd s.wr s.fl s.rf 0::row gl ((LL.map PEnt.val++junk).toArray) 22::vec 102 2 (.slice A2 PP.length c2) PP.length (putsV PP)::stars (pool.map PEnt.row)::L) at S
 refine eN (fr [pq g] 13) Tryz.func30 rfl (sR (pv (iv 0) (wER (pv (pq g) (pv (pq g) (pv (po g 3) (lR (iv s.life) S 0 3 (pv (iv (inc s.life)) (pv (pq g) (pv (po g 3) (sS S 0 rfl 3 (iv (inc s.life)) fun w1 S2=>wER (pv (pq g) ?_))))))))))))
 exact pv (pq g) (pv (po g 3) (lR (iv (inc s.life)) S2 0 3 (pv (iv (inc s.life)) (wE (then_n (wp_ret (bA (iv (inc s.life)) ⟨rfl,St.rclose (gl:=gl) (cl:=cl) (c2:=c2) (A2:=A2) (junk:=junk) (LL:=LL) (PP:=PP) (pool:=pool) (s:=({s with life:=inc s.life})) S2 (hf.upd rfl rfl hf.lb) hcl hju⟩)))))))
theorem rd_counts {g:Nat}{s:Dsk}(S:St F w0 w (RDisk g s::L)):Calls Tryz.prog 37 #[.pointer (some ⟨g,0,none⟩)] w fun e w'=>e=.returned (.agg #[.int .i64 s.rd,.int .i64 s.wr,.int .i64 s.fl,.int .i64 s.rf,.int .i64 (s.pend.length:Int)])∧St F w0 w' (RDisk g s::L):=by
 obtain ⟨gl,cl,c2,A2,junk,LL,PP,pool,hf,hcl,hju,S⟩:=St.ropen S
 have hn2:=hf.n2
 have hll:=hf.ll
 have hpp:=hf.pp
 have hpn:=hf.pn
 change St F w0 w (rR2 g gl LL.length cl (.slice A2 PP.length c2) s.left s.life s.rd s.wr s.fl s.rf 0::row gl ((LL.map PEnt.val++junk).toArray) 22::vec 102 2 (.slice A2 PP.length c2) PP.length (putsV PP)::stars (pool.map PEnt.row)::L) at S
 refine eN (fr [pq g] 14) Tryz.func37 rfl (sR (nW rfl (.agg #[iv 0,iv 0,iv 0,iv 0,iv 0]) S fun g1 w2 hg3 S4=>wER (pv (pq g) (pv (pq g) (pv (po g 4) (g_ (gv_ldA (k:=4) (n:=5) (vs:=[iv s.rd,iv s.wr,iv s.fl,iv s.rf,iv 0]) S4 1 rfl rfl kr_ kr_ rfl rfl (nW rfl (.agg #[iv 0,iv 0,iv 0,iv 0,iv 0]) S4 fun g5 w6 hg7 S8=>g_ (gv_stA (k:=0) (vs:=[iv s.rd,iv s.wr,iv s.fl,iv s.rf,iv 0]) S8 0 rfl rfl kr_ kr_ kr_ rfl (by simp [Value.oneCell']) (Nat.le_of_ble_eq_true kr_) (L':=(row g5 #[iv s.rd,iv s.wr,iv s.fl,iv s.rf,iv 0] 55::row g1 #[iv 0,iv 0,iv 0,iv 0,iv 0] 55::rR2 g gl LL.length cl (.slice A2 PP.length c2) s.left s.life s.rd s.wr s.fl s.rf 0::row gl ((LL.map PEnt.val++junk).toArray) 22::vec 102 2 (.slice A2 PP.length c2) PP.length (putsV PP)::stars (pool.map PEnt.row)::L)) rfl (fun w9 S10=>wER (pv (pq g) (pv (pq g) (pv (po g 1) ?_)))))))))))))
 exact lR (.slice A2 PP.length c2) S10 2 1 (pv (iv (PP.length:Nat)) (pv (po g5 4) (sS S10 0 rfl 4 (iv (PP.length:Nat)) fun w11 S12=>wER (g_ (gv_ldA (k:=0) (n:=5) (vs:=[iv s.rd,iv s.wr,iv s.fl,iv s.rf,iv (PP.length:Nat)]) S12 0 rfl rfl kr_ kr_ rfl rfl (g_ (gv_stA (k:=0) (vs:=[iv s.rd,iv s.wr,iv s.fl,iv s.rf,iv (PP.length:Nat)]) S12 1 rfl rfl kr_ kr_ kr_ rfl (by simp [Value.oneCell']) (Nat.le_of_ble_eq_true kr_) (L':=(row g5 #[iv s.rd,iv s.wr,iv s.fl,iv s.rf,iv (PP.length:Nat)] 55::row g1 #[iv s.rd,iv s.wr,iv s.fl,iv s.rf,iv (PP.length:Nat)] 55::rR2 g gl LL.length cl (.slice A2 PP.length c2) s.left s.life s.rd s.wr s.fl s.rf 0::row gl ((LL.map PEnt.val++junk).toArray) 22::vec 102 2 (.slice A2 PP.length c2) PP.length (putsV PP)::stars (pool.map PEnt.row)::L)) rfl (fun w13 S14=>wE (then_n (wp_ret (bodyPost_ret (v:=.agg #[iv s.rd,iv s.wr,iv s.fl,iv s.rf,iv (PP.length:Nat)]) (results_cell1 rfl _ (S14.get 1 rfl) kr_ kr_) rfl ⟨by rw [←hpp],St.rclose (gl:=gl) (cl:=cl) (c2:=c2) (A2:=A2) (junk:=junk) (LL:=LL) (PP:=PP) (pool:=pool) (s:=s) (St.tail (St.tail S14)) (hf.upd rfl rfl hf.lb) hcl hju⟩)))))))))))
theorem rd_fuse {n:Int}(hn:n≤9223372036854775807){g:Nat}{s:Dsk}(S:St F w0 w (RDisk g s::L)):Calls Tryz.prog 25 #[.pointer (some ⟨g,0,none⟩),.int .i64 n] w fun e w'=>e=.returned (.tuple #[])∧St F w0 w' (RDisk g (s.fuseR n)::L):=by
 obtain ⟨gl,cl,c2,A2,junk,LL,PP,pool,hf,hcl,hju,S⟩:=St.ropen S
 have hn2:=hf.n2
 have hll:=hf.ll
 have hpp:=hf.pp
 have hpn:=hf.pn
 by_cases hz:s.left=0
 ·have e:s.fuseR n=s:=by unfold Dsk.fuseR;rw [if_pos hz]
  rw [e]
  change St F w0 w (rR2 g gl LL.length cl (.slice A2 PP.length c2) s.left s.life s.rd s.wr s.fl s.rf 0::row gl ((LL.map PEnt.val++junk).toArray) 22::vec 102 2 (.slice A2 PP.length c2) PP.length (putsV PP)::stars (pool.map PEnt.row)::L) at S
  exact eN (fr [pq g,iv n] 16) Tryz.func25 rfl (wp_seq (sR (pv (pq g) (pv (pq g) (pv (po g 2) (lR (iv s.left) S 0 2 (dE s.left 0 (fun _=>wE (nCT (rR (bodyPost_ret (v:=.tuple #[]) (results_none rfl _ _ _) rfl ⟨rfl,St.rclose (gl:=gl) (cl:=cl) (c2:=c2) (A2:=A2) (junk:=junk) (LL:=LL) (PP:=PP) (pool:=pool) (s:=s) S (hf.upd rfl rfl hf.lb) hcl hju⟩)))) fun hd1=>False.elim (absurd hz hd1))))))))
 have e:s.fuseR n={s with left:=if n<0 then-1 else n}:=by unfold Dsk.fuseR;rw [if_neg hz]
 rw [e]
 change St F w0 w (rR2 g gl LL.length cl (.slice A2 PP.length c2) s.left s.life s.rd s.wr s.fl s.rf 0::row gl ((LL.map PEnt.val++junk).toArray) 22::vec 102 2 (.slice A2 PP.length c2) PP.length (putsV PP)::stars (pool.map PEnt.row)::L) at S
 refine eN (fr [pq g,iv n] 16) Tryz.func25 rfl (wp_seq (sR (pv (pq g) (pv (pq g) (pv (po g 2) (lR (iv s.left) S 0 2 (dE s.left 0 (fun hd1=>False.elim (absurd hd1 hz)) fun _=>wE (nCF (wp_skip (nSR (pv (pq g) (pv (iv n) ?_))))))))))))
 refine pv (pq g) (pv (po g 2) (sS S 0 rfl 2 (iv n) fun w2 S3=>wER (pv (iv n) (dC ((n:Int)<0) (fun hb=> ?_) fun hb=> ?_))))
 ·refine wE (nCT (wp_region_lit (pv (pq g) (pv (pq g) (pv (po g 2) (sS S3 0 rfl 2 (iv (-1)) fun w4 S5=>wE (bodyPost_end (v:=.tuple #[]) (results_none rfl _ _ _) rfl ?_)))))))
  rw [show (if n<0 then-1 else n:Int)= -1 from if_pos hb]
  exact ⟨rfl,St.rclose (gl:=gl) (cl:=cl) (c2:=c2) (A2:=A2) (junk:=junk) (LL:=LL) (PP:=PP) (pool:=pool) (s:=({s with left:=(-1:Int)})) S5 (hf.upd rfl rfl (show-1≤(-1:Int)∧(-1:Int)≤9223372036854775807 by omega)) hcl hju⟩
 ·refine wE (nCF (wp_skip (bodyPost_end (v:=.tuple #[]) (results_none rfl _ _ _) rfl ?_)))
  rw [show (if n<0 then-1 else n:Int)=n from if_neg hb]
  exact ⟨rfl,St.rclose (gl:=gl) (cl:=cl) (c2:=c2) (A2:=A2) (junk:=junk) (LL:=LL) (PP:=PP) (pool:=pool) (s:=({s with left:=n})) S3 (hf.upd rfl rfl (show-1≤(n:Int)∧(n:Int)≤9223372036854775807 by omega)) hcl hju⟩
theorem rspent {g gl nl cl np c2:Nat}{A2:Option Addr}{left life rd wr fl rf:Int}(S:St F w0 w (row g (rcells gl nl cl A2 np c2 left life rd wr fl rf) 81::L))(hz:left≠0)(hl: -1≤left)(hm:left≤9223372036854775807):
  Calls Tryz.prog 89 #[pq g] w fun e w'=>e=.returned (.tuple #[])∧St F w0 w' (row g (rcells gl nl cl A2 np c2 (spent left) life rd wr fl rf) 81::L):=by
 change St F w0 w (rR2 g gl nl cl (.slice A2 np c2) left life rd wr fl rf 0::L) at S
 refine eN (fr [pq g] 13) Tryz.func89 rfl (sR (pv (pq g) (pv (pq g) (pv (po g 2) (lR (iv left) S 0 2 (dC ((left:Int)>0) (fun hb=> ?_) fun hb=> ?_))))))
 ·refine wE (nCT (wp_region_lit (pv (pq g) (pv (pq g) (pv (po g 2) (lR (iv left) S 0 2 (pv (iv (dec left)) (pv (pq g) (pv (po g 2) (sS S 0 rfl 2 (iv (dec left)) fun w1 S2=>wE (bodyPost_end (v:=.tuple #[]) (results_none rfl _ _ _) rfl ?_)))))))))))
  rw [show spent left=dec left from by unfold spent;rw [if_pos om_];exact (wr_ok om_ om_).symm]
  exact ⟨rfl,S2⟩
 ·refine wE (nCF (wp_skip (bodyPost_end (v:=.tuple #[]) (results_none rfl _ _ _) rfl ?_)))
  rw [show spent left=left from by unfold spent;rw [if_neg om_]]
  exact ⟨rfl,S⟩
theorem rtwinS {A:Option Addr}{l:List UInt8}{n c:Nat}(S:St F w0 w L)(hr:RoT F w0 L A l)(hn:l.length=n)(hlm:l.length≤140737488355328):Calls Tryz.prog 84 #[.slice A n c] w fun e w'=>∃go,e=.returned (.slice (some ⟨go,0,none⟩) n n)∧St F w0 w' (row go (bvs l) 5::L):=by
 subst hn
 refine eN (fr [.slice A l.length c] 10) Tryz.func84 rfl (sR (pv (.slice none 0 0) (wER (pv (.slice A l.length c) (pv (iv (l.length:Nat)) (g_ (gv_make (e:=5) (u:=(l.length:Nat)) (v:=(l.length:Nat)) (z:=.int .u8 0) (sz:=1) (by_:=1) (n:=l.length) (c:=l.length) (cs:=(bvs (List.replicate l.length 0))) S rfl kr_ ⟨by kernel_rfl⟩ kr_ kr_ rfl rfl (Nat.le_refl _) om_ om_ (mk_bytes _) (fun g1 w2 hg3 S4=>pv (sl g1 0 l.length l.length) (wER (pv (sl g1 0 l.length l.length) (pv (.slice A l.length c) (g_ (gv_copy (e:=5) (off:=0) (dLen:=l.length) (dCap:=l.length) (sLen:=l.length) (sCap:=c) (A:=A) (B:=(List.replicate l.length 0)) (l:=l) S4 0 rfl rfl kr_ kr_ kr_ kr_ rfl (hr.out _ [row g1 (bvs (List.replicate l.length 0)) 5] S4) (by simp) (L':=(row g1 (bvs l) 5::L)) (by rw [copy_all rfl];rfl) (fun w5 m7 S6=>wER (pv (sl g1 0 l.length l.length) ?_)))))))))))))))
 exact pv (sl g1 0 l.length l.length) (wE (then_n (wp_ret (bA (sl g1 0 l.length l.length) ⟨_,rfl,S6⟩))))
theorem pend_last {l:List (Nat×List UInt8)}{k i:Nat}{x:Nat×List UInt8}(hx:l[i]?=some x)(hk:x.1=k)(hi:∀(j:Nat) (y:Nat×List UInt8),i<j→l[j]?=some y→y.1≠k):((l.filter (fun x=>x.1==k)).map (·.2)).getLast?=some x.2:=by
 have hl:=(List.getElem?_eq_some_iff.1 hx).1
 have e:l=l.take i++(x::l.drop (i+1)):=by
  have h1:l.drop i=x::l.drop (i+1):=by rw [List.drop_eq_getElem_cons hl];congr 1;exact (List.getElem?_eq_some_iff.1 hx).2
  rw [←h1,List.take_append_drop]
 have h2:(l.drop (i+1)).filter (fun x=>x.1==k)=[]:=by
  rw [List.filter_eq_nil_iff]
  intro y hy hyk
  obtain ⟨m,hm⟩:=List.getElem?_of_mem hy
  rw [List.getElem?_drop] at hm
  exact hi _ y om_ hm (by simpa using hyk)
 rw [e,List.filter_append,List.filter_cons,h2]
 simp [hk]
theorem pend_none {l:List (Nat×List UInt8)}{k:Nat}(h:∀(j:Nat) (y:Nat×List UInt8),l[j]?=some y→y.1≠k):(l.filter (fun x=>x.1==k)).map (·.2)=[]:=by
 rw [List.map_eq_nil_iff,List.filter_eq_nil_iff]
 intro y hy hyk
 obtain ⟨m,hm⟩:=List.getElem?_of_mem hy
 exact h m y hm (by simpa using hyk)
theorem rnow_own {g gl cl c2:Nat}{A2:Option Addr}{junk:List Value}{LL:List (Nat×List UInt8)}{PP:List RPut}{pool:List (Nat×List UInt8)}{s:Dsk}(S:St F w0 w (rdParts g gl cl c2 A2 junk LL PP pool s++L))(hf:RFacts s LL PP pool){k:Nat}(hk:k<s.last.length):
  Calls Tryz.prog 40 #[pq g,nI_ k] w fun e w'=>∃b,e=.returned (.slice (some ⟨b,0,none⟩) 512 512)∧(b,s.now k)∈pool∧St F w0 w' (rdParts g gl cl c2 A2 junk LL PP pool s++L):=by
 have hn2:=hf.n2
 have hll:=hf.ll
 have hpp:=hf.pp
 have hpn:=hf.pn
 change St F w0 w (rR2 g gl LL.length cl (.slice A2 PP.length c2) s.left s.life s.rd s.wr s.fl s.rf 0::row gl ((LL.map PEnt.val++junk).toArray) 22::vec 102 2 (.slice A2 PP.length c2) PP.length (putsV PP)::stars (pool.map PEnt.row)::L) at S
 refine eN (fr [pq g,nI_ k] 39) Tryz.func40 rfl (sR (pv (nS_) (wE (nS (sR (pv (pq g) (pv (pq g) (pv (po g 1) (lR (.slice A2 PP.length c2) S 0 1 (pv (iv (PP.length:Nat)) (gI .i64 (IntKind.i64.wrap ((PP.length:Nat)-1)) (((PP.length:Nat):Int)-1) (wr_ok om_ om_) (pv (iv (((PP.length:Nat):Int)-1)) (wE ?_)))))))))))))
 refine then_n (wp_block (wp_loop_g (G:=Nat) (fun (g_:Nat) (a_:Act) (w_:World)=>∃J:Nat→Value,a_=(fr ([pq g,nI_ k,ud,ud,J 4,iv (((g_:Nat):Int)-1),pq g,pq g,po g 1,.slice A2 PP.length c2,iv (PP.length:Nat),iv (((PP.length:Nat):Int)-1)]++jR J 12 22) 7)∧St F w0 w_ (rR2 g gl LL.length cl (.slice A2 PP.length c2) s.left s.life s.rd s.wr s.fl s.rf 0::row gl ((LL.map PEnt.val++junk).toArray) 22::vec 102 2 (.slice A2 PP.length c2) PP.length (putsV PP)::stars (pool.map PEnt.row)::L)∧(g_≤PP.length∧(∀j y,g_≤j→s.pend[j]?=some y→y.1≠k))) (fun g_=>g_) PP.length (jE_ ⟨S,⟨Nat.le_refl _,fun j y hj hy=>absurd (List.getElem?_eq_some_iff.1 hy).1 om_⟩⟩) ?_))
 rintro i a_ w1 ⟨J,rfl,S2,hI3⟩
 skip
 have S2:St F w0 w1 (rR2 g gl LL.length cl (.slice A2 PP.length c2) s.left s.life s.rd s.wr s.fl s.rf 0::row gl ((LL.map PEnt.val++junk).toArray) 22::vec 102 2 (.slice A2 PP.length c2) PP.length (putsV PP)::stars (pool.map PEnt.row)::L):=S2
 have hI3:(i≤PP.length∧(∀j y,i≤j→s.pend[j]?=some y→y.1≠k)):=hI3
 refine wp_seq (sR (pv (iv (((i:Nat):Int)-1)) (dC ((((i:Nat):Int)-1:Int)≥0) (fun hb4=> ?_) fun hb4=> ?_)))
 ·have hi0:i-1<PP.length:=by have:=hI3.1;omega
  obtain ⟨x,hx,hxp,hxs,hx5,hxk⟩:=hf.pat hi0
  obtain ⟨ad2,hAd2,hrd⟩:=(St.vec_rd S2 2 rfl) (by rw [length_putsV];omega)
  refine wE (nCT (wp_skip (nS (wp_block (sR (pv (pq g) (pv (pq g) (pv (po g 1) (lR (.slice A2 PP.length c2) S2 0 1 (pv (iv (((i:Nat):Int)-1)) (g_ (gv_ixB (e:=102) (sz:=2) (n:=PP.length) (c:=c2) (i:=(((i:Nat):Int)-1)) (k:=.i64) (ad:=ad2) (ad':=(ad2.add ((i-1)*2))) (j:=(i-1)) rfl kr_ kr_ (by rw [←hAd2];kernel_rfl) kr_ om_ om_ rfl (pv (.pointer (some (ad2.add ((i-1)*2)))) (lQ (nI_ x.2.1) (put_at hrd hx) ?_))))))))))))))
  refine pv (nI_ k) (dE ((x.2.1:Nat):Int) ((k:Nat):Int) (fun hb9=> ?_) fun hb9=> ?_)
  ·refine wE (nCT (sR (pv (pq g) (pv (pq g) (pv (po g 1) (lR (.slice A2 PP.length c2) S2 0 1 (pv (iv (((i:Nat):Int)-1)) (g_ (gv_ixB (e:=102) (sz:=2) (n:=PP.length) (c:=c2) (i:=(((i:Nat):Int)-1)) (k:=.i64) (ad:=ad2) (ad':=(ad2.add ((i-1)*2))) (j:=(i-1)) rfl kr_ kr_ (by rw [←hAd2];kernel_rfl) kr_ om_ om_ rfl (pv (.pointer (some ((ad2.add ((i-1)*2)).add 1))) (lQ (PEnt.val x.ref) (put_data hrd hx) (pv (sl x.1 0 512 512) (wE (then_n ?_))))))))))))))
   exact wp_ret (inb_r (then_r (then_r (inb_r (then_r (bA (sl x.1 0 512 512) ⟨_,rfl,(by have hl:=pend_last (l:=s.pend) (k:=k) hxs om_ (fun j y hj hy=>hI3.2 j y om_ hy);rw [Dsk.now_some (s:=s) (a:=k) rfl hl];exact hxp),S2⟩))))))
  ·have hne9:¬x.2.1=k:=by omega
   exact wE (nCF (wp_skip (inb_n (nR (pv (iv (((i:Nat):Int)-1)) (gI .i64 (IntKind.i64.wrap ((((i:Nat):Int)-1)-1)) (((i-1:Nat):Int)-1) (wr_eq om_ om_ om_) (pv (iv (((i-1:Nat):Int)-1)) (wE (then_n ⟨i-1,(jE_ ⟨S2,⟨by omega,fun j y hj hy=>if e:j=i-1 then (by subst e;rw [hxs] at hy;cases hy;exact fun e=>hne9 om_) else hI3.2 j y om_ hy⟩⟩),om_⟩)))))))))
 ·obtain ⟨x,hx,hxp,hxl,hx5⟩:=hf.at hk
  refine wE (nCF (wp_exit (then_x (then_x (inb_x (nSR (pv (pq g) (pv (pq g) (pv (pq g) (lR (sl gl 0 LL.length cl) S2 0 0 (pv (nI_ k) (g_ (gv_ixE (e:=22) (sz:=1) (g:=gl) (off:=0) (n:=LL.length) (c:=cl) (i:=((k:Nat):Int)) (k:=.i64) (j:=k) (off':=k) rfl kr_ kr_ kr_ kr_ rfl om_ om_ (lQ (PEnt.val x) (((S2.blk 1 rfl).cell k).trans (ll_at hx)) ?_))))))))))))))
  exact pv (sl x.1 0 512 512) (wE (then_n (wp_ret (bA (sl x.1 0 512 512) ⟨_,rfl,(by rw [Dsk.now_none (pend_none fun j y hy=>hI3.2 j y om_ hy),hxl];exact hxp),S2⟩))))
end
theorem tmod_nat' {a b:Int}{m n:Nat}(ha:a=(m:Int))(hb:b=(n:Int)):Int.tmod a b=((m%n:Nat):Int):=by subst ha hb;rfl
theorem byte_at {w:World}{b i:Nat}{l:List UInt8}{t:TypeId}(h:Blk w b (bvs l) t)(hi:i<l.length):w.cell? ⟨b,i,none⟩=some (.int .u8 ((l.getD i 0).toNat:Int)):=by
 rw [h.cell,get_bvs,List.getElem?_eq_getElem hi,List.getD_eq_getElem?_getD,List.getElem?_eq_getElem hi];rfl
theorem torn_set {a b:List UInt8}{i:Nat}(ha:a.length=512)(hb:b.length=512)(hi:i<512):(bvs (a.take i++b.drop i)).setIfInBounds i (.int .u8 ((a.getD i 0).toNat:Int))=bvs (a.take (i+1)++b.drop (i+1)):=by
 apply Array.ext_getElem?
 intro m
 have hla:(a.take i).length=i:=by rw [List.length_take];omega
 have hla1:(a.take (i+1)).length=i+1:=by rw [List.length_take];omega
 rw [Array.getElem?_setIfInBounds,get_bvs,get_bvs]
 by_cases hm:i=m
 ·subst hm
  rw [if_pos rfl,if_pos (by rw [size_bvs,List.length_append,hla,List.length_drop];omega),List.getElem?_append_left om_,List.getElem?_take,if_pos om_,List.getD_eq_getElem?_getD,List.getElem?_eq_getElem om_];rfl
 ·rw [if_neg hm]
  by_cases h1:m<i
  ·rw [List.getElem?_append_left om_,List.getElem?_append_left om_,List.getElem?_take,List.getElem?_take,if_pos h1,if_pos om_]
  ·rw [List.getElem?_append_right om_,List.getElem?_append_right om_,hla,hla1,List.getElem?_drop,List.getElem?_drop,show i+(m-i)=i+1+(m-(i+1)) from by omega]
theorem pend_step {l:List (Nat×List UInt8)}{i k:Nat}{x:Nat×List UInt8}(h:l[i]?=some x):((l.take (i+1)).filter (fun x=>x.1==k)).map (·.2)=((l.take i).filter (fun x=>x.1==k)).map (·.2)++(if x.1=k then [x.2] else []):=by
 rw [List.take_add_one (l:=l) (i:=i),h,List.filter_append,List.map_append]
 by_cases e:x.1=k
 ·simp [e]
 ·simp [e]
theorem rfloor {w:World}{n:Int}:Calls Tryz.prog 101 #[.int .i64 n] w fun e w'=>e=.returned (.int .i64 ((n.toNat:Nat):Int))∧w=w':=by
 refine eN (fr [iv n] 5) Tryz.func101 rfl (sR (pv (iv 0) (wE (nS (sR (pv (iv n) (dC ((n:Int)<0) (fun hb1=> ?_) fun hb1=> ?_)))))))
 ·refine wE (nCT (sR (pv (iv 0) (wE (then_n (rR (bA (iv 0) ?_)))))))
  rw [show ((n.toNat:Nat):Int)=0 from by omega]
  exact ⟨rfl,rfl⟩
 ·refine wE (nCF (wp_skip (nSR (pv (iv n) (pv (iv n) (wE (then_n (wp_ret (bA (iv n) ?_)))))))))
  rw [show ((n.toNat:Nat):Int)=n from by omega]
  exact ⟨rfl,rfl⟩
theorem rcand {F:Nat→Prop}{w0 w:World}{L:List Ast}{g gl cl c2:Nat}{A2:Option Addr}{junk:List Value}{LL:List (Nat×List UInt8)}{PP:List RPut}{pool:List (Nat×List UInt8)}{s:Dsk}(S:St F w0 w (rdParts g gl cl c2 A2 junk LL PP pool s++L))(hf:RFacts s LL PP pool){k:Nat}(hk:k<s.last.length)(hpn:s.pend.length<4398046511104):
  Calls Tryz.prog 66 #[pq g,nI_ k] w fun e w'=>∃(v:Value) (CC:List (Nat×List UInt8)),e=.returned v∧CC.map (·.2)=candS s k∧(∀x∈CC,x∈pool)∧St F w0 w' (vec 22 1 v CC.length (CC.map PEnt.val)::(rdParts g gl cl c2 A2 junk LL PP pool s++L)):=by
 have hn2:=hf.n2
 have hll:=hf.ll
 have hpp:=hf.pp
 obtain ⟨y,hy,hyp,hyl,hy5⟩:=hf.at hk
 change St F w0 w (rR2 g gl LL.length cl (.slice A2 PP.length c2) s.left s.life s.rd s.wr s.fl s.rf 0::row gl ((LL.map PEnt.val++junk).toArray) 22::vec 102 2 (.slice A2 PP.length c2) PP.length (putsV PP)::stars (pool.map PEnt.row)::L) at S
 refine eN (fr [pq g,nI_ k] 44) Tryz.func66 rfl (sR (pv (nS_) (wER (pv (pq g) (pv (pq g) (pv (pq g) (lR (sl gl 0 LL.length cl) S 0 0 (pv (nI_ k) (g_ (gv_ixE (e:=22) (sz:=1) (g:=gl) (off:=0) (n:=LL.length) (c:=cl) (i:=((k:Nat):Int)) (k:=.i64) (j:=k) (off':=k) rfl kr_ kr_ kr_ kr_ rfl om_ om_ (lQ (PEnt.val y) (((S.blk 1 rfl).cell k).trans (ll_at hy)) (g_ (gv_slit (e:=22) (sz:=1) (z:=nS_) (by_:=24) (vs:=#[(0,sl y.1 0 512 512)]) (cells:=#[sl y.1 0 512 512]) S rfl kr_ ⟨by kernel_rfl⟩ kr_ kr_ kr_ kr_ (fun g1 w2 hg3 S4=> ?_))))))))))))))
 have S5:St F w0 w2 (vec 22 1 (sl g1 0 1 1) [y].length ([y].map PEnt.val)::rR2 g gl LL.length cl (.slice A2 PP.length c2) s.left s.life s.rd s.wr s.fl s.rf 0::row gl ((LL.map PEnt.val++junk).toArray) 22::vec 102 2 (.slice A2 PP.length c2) PP.length (putsV PP)::stars (pool.map PEnt.row)::L):=St.vec_mk (vals:=[PEnt.val y]) (junk:=[]) S4 (Nat.le_refl _) rfl rfl
 refine pv (sl g1 0 1 1) (wE (nS (sR (pv (iv 0) (wE (then_n (wp_block (wp_loop_g (G:=Nat×Value×List (Nat×List UInt8)) (fun (g_:Nat×Value×List (Nat×List UInt8)) (a_:Act) (w_:World)=>∃J:Nat→Value,a_=(fr ([pq g,nI_ k,ud,ud,.slice none 0 0,g_.2.1,nI_ g_.1,pq g,pq g,pq g,sl gl 0 LL.length cl,nI_ k,po gl k,sl y.1 0 512 512,sl g1 0 1 1]++jR J 15 30) 1)∧St F w0 w_ (vec 22 1 g_.2.1 g_.2.2.length (g_.2.2.map PEnt.val)::rR2 g gl LL.length cl (.slice A2 PP.length c2) s.left s.life s.rd s.wr s.fl s.rf 0::row gl ((LL.map PEnt.val++junk).toArray) 22::vec 102 2 (.slice A2 PP.length c2) PP.length (putsV PP)::stars (pool.map PEnt.row)::L)∧(g_.1≤PP.length∧g_.2.2.length≤g_.1+1∧g_.2.2.map (·.2)=s.last.getD k []::((s.pend.take g_.1).filter (fun x=>x.1==k)).map (·.2)∧(∀x∈g_.2.2,x∈pool))) (fun g_=>PP.length-g_.1) (0,sl g1 0 1 1,[y]) (jE_ ⟨S5,⟨Nat.zero_le _,Nat.le_refl _,by rw [hyl];rfl,fun z hz=>by rw [List.mem_singleton] at hz;subst hz;exact hyp⟩⟩) ?_))))))))
 rintro ⟨i,v,CC⟩ a_ w6 ⟨J,rfl,S7,hI8⟩
 skip
 have S7:St F w0 w6 (vec 22 1 v CC.length (CC.map PEnt.val)::rR2 g gl LL.length cl (.slice A2 PP.length c2) s.left s.life s.rd s.wr s.fl s.rf 0::row gl ((LL.map PEnt.val++junk).toArray) 22::vec 102 2 (.slice A2 PP.length c2) PP.length (putsV PP)::stars (pool.map PEnt.row)::L):=S7
 have hI8:(i≤PP.length∧CC.length≤i+1∧CC.map (·.2)=s.last.getD k []::((s.pend.take i).filter (fun x=>x.1==k)).map (·.2)∧(∀x∈CC,x∈pool)):=hI8
 refine wp_seq (sR (pv (nI_ i) (pv (pq g) (pv (pq g) (pv (po g 1) (lR (.slice A2 PP.length c2) S7 1 1 (pv (iv (PP.length:Nat)) (dC ((((i:Nat):Int):Int)<(PP.length:Nat)) (fun hb9=> ?_) fun hb9=> ?_))))))))
 ·obtain ⟨x,hx,hxp,hxs,hx5,hxk⟩:=hf.pat (i:=i) om_
  obtain ⟨ad2,hAd2,hrd⟩:=(St.vec_rd S7 3 rfl) (by rw [length_putsV];omega)
  refine wE (nCT (wp_skip (nS (wp_block (sR (pv (pq g) (pv (pq g) (pv (po g 1) (lR (.slice A2 PP.length c2) S7 1 1 (pv (nI_ i) (g_ (gv_ixB (e:=102) (sz:=2) (n:=PP.length) (c:=c2) (i:=((i:Nat):Int)) (k:=.i64) (ad:=ad2) (ad':=(ad2.add (i*2))) (j:=i) rfl kr_ kr_ (by rw [←hAd2];kernel_rfl) kr_ rfl om_ rfl (pv (.pointer (some (ad2.add (i*2)))) (lQ (nI_ x.2.1) (put_at hrd hx) ?_))))))))))))))
  refine pv (nI_ k) (dE ((x.2.1:Nat):Int) ((k:Nat):Int) (fun hb8=> ?_) fun hb8=> ?_)
  ·have hb9:x.2.1=k:=by omega
   refine wE (nCT (wp_region_lit (pv v (pv (pq g) (pv (pq g) (pv (po g 1) (lR (.slice A2 PP.length c2) S7 1 1 (pv (nI_ i) (g_ (gv_ixB (e:=102) (sz:=2) (n:=PP.length) (c:=c2) (i:=((i:Nat):Int)) (k:=.i64) (ad:=ad2) (ad':=(ad2.add (i*2))) (j:=i) rfl kr_ kr_ (by rw [←hAd2];kernel_rfl) kr_ rfl om_ rfl (pv (.pointer (some ((ad2.add (i*2)).add 1))) (lQ (PEnt.val x.ref) (put_data hrd hx) (g_ (gv_slit (e:=22) (sz:=1) (z:=.slice none 0 0) (by_:=24) (vs:=#[(0,sl x.1 0 512 512)]) (cells:=#[sl x.1 0 512 512]) S7 rfl kr_ ⟨by kernel_rfl⟩ kr_ kr_ kr_ kr_ (fun g10 w11 hg12 S13=>g_ (gv_append (e:=22) (sz:=1) (n:=CC.length) (v:=v) (vals:=(CC.map PEnt.val)) (z:=.slice none 0 0) (by_:=24) (m:=1) (c':=1) (ad:=⟨g10,0,none⟩) (news:=[sl x.1 0 512 512]) (St.swap S13) rfl kr_ ⟨by kernel_rfl⟩ rfl kr_ kr_ dc_ rfl (row_news (S13.blk 0 rfl)) (by intro u hu;simp at hu;subst hu;rfl) om_ om_ (fun v15 w14 S16=> ?_)))))))))))))))))
   refine pv v15 (wE (inb_n (nR (pv (nI_ i) (gI .i64 (IntKind.i64.wrap (((i:Nat):Int)+1)) ((i+1:Nat):Int) wq_ (pv (nI_ (i+1)) (wE (then_n ?_))))))))
   have S17:St F w0 w14 (vec 22 1 v15 (CC.length+1) (CC.map PEnt.val++[sl x.1 0 512 512])::rR2 g gl LL.length cl (.slice A2 PP.length c2) s.left s.life s.rd s.wr s.fl s.rf 0::row gl ((LL.map PEnt.val++junk).toArray) 22::vec 102 2 (.slice A2 PP.length c2) PP.length (putsV PP)::stars (pool.map PEnt.row)::L):=St.pm 6 [0,2,3,4,5] S16
   have hv9:CC.map PEnt.val++[.slice (some ⟨x.1,0,none⟩) 512 512]=(CC++[x.ref]).map PEnt.val:=by rw [List.map_append];rfl
   have hn9:CC.length+1=(CC++[x.ref]).length:=by rw [List.length_append];rfl
   rw [hv9,hn9] at S17
   exact ⟨(i+1,v15,CC++[x.ref]),(jE_ ⟨S17,⟨by omega,by rw [List.length_append];show CC.length+1≤i+1+1;omega,by rw [pend_step hxs,if_pos hb9,List.map_append,hI8.2.2.1];rfl,fun z hz=>(List.mem_append.1 hz).elim (hI8.2.2.2 z) (fun h=>by rw [List.mem_singleton] at h;subst h;exact hxp)⟩⟩),(by show PP.length-(i+1)<PP.length-i;omega)⟩
  ·have hb9:¬x.2.1=k:=by omega
   exact wE (nCF (wp_skip (inb_n (nR (pv (nI_ i) (gI .i64 (IntKind.i64.wrap (((i:Nat):Int)+1)) ((i+1:Nat):Int) (wr_eq om_ om_ om_) (pv (nI_ (i+1)) (wE (then_n ⟨(i+1,v,CC),(jE_ ⟨S7,⟨by omega,(by show CC.length≤i+1+1;have:=hI8.2.1;omega),by rw [pend_step hxs,if_neg hb9,List.append_nil];exact hI8.2.2.1,hI8.2.2.2⟩⟩),(by show PP.length-(i+1)<PP.length-i;omega)⟩)))))))))
 ·refine wE (nCF (wp_exit (then_x (then_x (inb_x (nSR (pv v (pv v (wE (then_n (wp_ret (bA v ?_))))))))))))
  have htk:s.pend.take i=s.pend:=List.take_of_length_le om_
  rw [htk] at hI8
  exact ⟨_,CC,rfl,hI8.2.2.1,hI8.2.2.2,S7⟩
theorem rtorn {F:Nat→Prop}{w0 w:World}{L:List Ast}{A1:Option Addr}{c1:Nat}{CC pool:List (Nat×List UInt8)}{pa pb pc:Int}(S:St F w0 w (vec 22 1 (.slice A1 CC.length c1) CC.length (CC.map PEnt.val)::stars (pool.map PEnt.row)::L))(hC:∀x∈CC,x∈pool)(h5:∀x∈CC,x.2.length=512)(h0:0<CC.length)(hlm:CC.length≤9223372036854775807):
  Calls Tryz.prog 67 #[.slice A1 CC.length c1,.agg #[iv pa,iv pb,iv pc]] w fun e w'=>∃go,e=.returned (.slice (some ⟨go,0,none⟩) 512 512)∧St F w0 w' (row go (bvs (tornS (CC.map (·.2)) (pa,pb,pc))) 5::vec 22 1 (.slice A1 CC.length c1) CC.length (CC.map PEnt.val)::stars (pool.map PEnt.row)::L):=by
 have hn1:CC.length=CC.length-1+1:=by omega
 have hma:pa.toNat%CC.length<CC.length:=Nat.mod_lt _ h0
 have hmb:pb.toNat%CC.length<CC.length:=Nat.mod_lt _ h0
 have hcm:pc.toNat%513<513:=Nat.mod_lt _ dc_
 obtain ⟨a,ha⟩:∃a,CC[pa.toNat%CC.length]?=some a:=⟨_,List.getElem?_eq_getElem hma⟩
 obtain ⟨b,hb⟩:∃b,CC[pb.toNat%CC.length]?=some b:=⟨_,List.getElem?_eq_getElem hmb⟩
 have ham:=List.mem_of_getElem? ha
 have hbm:=List.mem_of_getElem? hb
 have ha5:=h5 a ham
 have hb5:=h5 b hbm
 have ht:tornS (CC.map (·.2)) (pa,pb,pc)=a.2.take (pc.toNat%513)++b.2.drop (pc.toNat%513):=by
  unfold tornS
  rw [List.length_map,List.getD_eq_getElem?_getD,List.getD_eq_getElem?_getD,List.getElem?_map,List.getElem?_map,ha,hb];rfl
 rw [ht]
 obtain ⟨ad2,hAd2,hrd⟩:=(St.vec_rd S 0 rfl) (by rw [List.length_map];exact h0)
 refine eN (fr [.slice A1 CC.length c1,.agg #[iv pa,iv pb,iv pc]] 45) Tryz.func67 rfl (sR (nB rfl (.agg #[iv pa,iv pb,iv pc]) S fun g1 w2 hg3 S4=>pv (.slice none 0 0) (wER (pv (.slice A1 CC.length c1) (pv (pq g1) (lR (iv pa) S4 0 0 (sO Tryz.func101 #[iv pa] rfloor (pv (.slice A1 CC.length c1) (pv (iv (CC.length:Nat)) (g_ (gv_int (k:=.i64) (z:=Int.tmod ((pa.toNat:Nat):Int) (CC.length:Nat)) (z':=((pa.toNat%CC.length:Nat):Int)) (by rw [hn1];kernel_rfl) (tmod_nat' rfl rfl) (g_ (gv_ixB (e:=22) (sz:=1) (n:=CC.length) (c:=c1) (i:=((pa.toNat%CC.length:Nat):Int)) (k:=.i64) (ad:=ad2) (ad':=(ad2.add (pa.toNat%CC.length))) (j:=(pa.toNat%CC.length)) rfl kr_ kr_ (by rw [←hAd2];kernel_rfl) kr_ rfl om_ (by rw [Nat.mul_one]) (lQ (PEnt.val a) (rdv_at (St.vec_rd S4 1 rfl) hAd2 (by rw [List.length_map];exact h0) _ _ (by rw [List.getElem?_map,ha];rfl)) ?_))))))))))))))
 refine pv (sl a.1 0 512 512) (wER (pv (.slice A1 CC.length c1) (pv (po g1 1) (lR (iv pb) S4 0 1 (sO Tryz.func101 #[iv pb] rfloor (pv (.slice A1 CC.length c1) (pv (iv (CC.length:Nat)) (g_ (gv_int (k:=.i64) (z:=Int.tmod ((pb.toNat:Nat):Int) (CC.length:Nat)) (z':=((pb.toNat%CC.length:Nat):Int)) (by rw [hn1];kernel_rfl) (tmod_nat' rfl rfl) (g_ (gv_ixB (e:=22) (sz:=1) (n:=CC.length) (c:=c1) (i:=((pb.toNat%CC.length:Nat):Int)) (k:=.i64) (ad:=ad2) (ad':=(ad2.add (pb.toNat%CC.length))) (j:=(pb.toNat%CC.length)) rfl kr_ kr_ (by rw [←hAd2];kernel_rfl) kr_ rfl om_ (by rw [Nat.mul_one]) (lQ (PEnt.val b) (rdv_at (St.vec_rd S4 1 rfl) hAd2 (by rw [List.length_map];exact h0) _ _ (by rw [List.getElem?_map,hb];rfl)) ?_))))))))))))
 refine pv (sl b.1 0 512 512) (wER (pv (po g1 2) (lR (iv pc) S4 0 2 (sO Tryz.func101 #[iv pc] rfloor (gI .i64 (Int.tmod ((pc.toNat:Nat):Int) 513) ((pc.toNat%513:Nat):Int) (tmod_nat' rfl rfl) (pv (nI_ (pc.toNat%513)) (wER (pv (sl b.1 0 512 512) (sP1 Tryz.func84 #[sl b.1 0 512 512] (rtwinS (l:=b.2) S4 (rot_pool 2 rfl (hC b hbm) hb5) hb5 om_) fun g5 w6 S7=> ?_)))))))))
 rw [show b.2=a.2.take 0++b.2.drop 0 from rfl] at S7
 refine pv (sl g5 0 512 512) (wE (nS (sR (pv (iv 0) (wE (then_n (wp_block (wp_loop_g (G:=Nat) (fun (g_:Nat) (a_:Act) (w_:World)=>∃J:Nat→Value,a_=(fr ([.slice A1 CC.length c1,.agg #[iv pa,iv pb,iv pc],ud,pq g1,nS_,sl a.1 0 512 512,sl b.1 0 512 512,nI_ (pc.toNat%513),sl g5 0 512 512,nI_ g_,.slice A1 CC.length c1,pq g1,iv pa,nI_ pa.toNat,.slice A1 CC.length c1,iv (CC.length:Nat),nI_ (pa.toNat%CC.length),.pointer (some (ad2.add (pa.toNat%CC.length))),sl a.1 0 512 512,.slice A1 CC.length c1,po g1 1,iv pb,nI_ pb.toNat,.slice A1 CC.length c1,iv (CC.length:Nat),nI_ (pb.toNat%CC.length),.pointer (some (ad2.add (pb.toNat%CC.length))),sl b.1 0 512 512,po g1 2,iv pc,nI_ pc.toNat,nI_ (pc.toNat%513),sl b.1 0 512 512,sl g5 0 512 512]++jR J 34 12) 1)∧St F w0 w_ (row g5 (bvs (a.2.take g_++b.2.drop g_)) 5::row g1 #[iv pa,iv pb,iv pc] 97::vec 22 1 (.slice A1 CC.length c1) CC.length (CC.map PEnt.val)::stars (pool.map PEnt.row)::L)∧(g_≤pc.toNat%513)) (fun g_=>pc.toNat%513-g_) 0 (jE_ ⟨S7,Nat.zero_le _⟩) ?_))))))))
 rintro i a_ w8 ⟨J,rfl,S9,hI10⟩
 skip
 have S9:St F w0 w8 (row g5 (bvs (a.2.take i++b.2.drop i)) 5::row g1 #[iv pa,iv pb,iv pc] 97::vec 22 1 (.slice A1 CC.length c1) CC.length (CC.map PEnt.val)::stars (pool.map PEnt.row)::L):=S9
 have hI10:(i≤pc.toNat%513):=hI10
 refine wp_seq (sR (pv (nI_ i) (pv (nI_ (pc.toNat%513)) (dC ((((i:Nat):Int):Int)<((pc.toNat%513:Nat):Int)) (fun hb11=> ?_) fun hb11=> ?_))))
 ·refine wE (nCT (wp_skip (nS (wp_block (wp_region_lit (pv (sl g5 0 512 512) (pv (nI_ i) (pv (sl a.1 0 512 512) (pv (nI_ i) (g_ (gv_ixE (e:=5) (sz:=1) (g:=a.1) (off:=0) (n:=512) (c:=512) (i:=((i:Nat):Int)) (k:=.i64) (j:=i) (off':=i) rfl kr_ kr_ kr_ kr_ rfl om_ om_ (lQ (.int .u8 ((a.2.getD i 0).toNat:Int)) (byte_at (St.pool_rd S9 3 rfl (hC a ham)) om_) (g_ (gv_ixE (e:=5) (sz:=1) (g:=g5) (off:=0) (n:=512) (c:=512) (i:=((i:Nat):Int)) (k:=.i64) (j:=i) (off':=i) rfl kr_ kr_ kr_ kr_ rfl om_ om_ (g_ (gv_st (k:=i) (v:=.int .u8 ((a.2.getD i 0).toNat:Int)) S9 0 rfl rfl kr_ kr_ kr_ rfl (Nat.ble_eq_true_of_le (by rw [size_bvs,List.length_append,List.length_take,List.length_drop];omega)) (L':=(row g5 (bvs (a.2.take (i+1)++b.2.drop (i+1))) 5::row g1 #[iv pa,iv pb,iv pc] 97::vec 22 1 (.slice A1 CC.length c1) CC.length (CC.map PEnt.val)::stars (pool.map PEnt.row)::L)) (by rw [torn_set ha5 hb5 om_];rfl) (fun w12 S13=> ?_)))))))))))))))))
  exact wE (inb_n (nR (pv (nI_ i) (gI .i64 (IntKind.i64.wrap (((i:Nat):Int)+1)) ((i+1:Nat):Int) wq_ (pv (nI_ (i+1)) (wE (then_n ⟨i+1,(jE_ ⟨S13,om_⟩),(by show pc.toNat%513-(i+1)<pc.toNat%513-i;omega)⟩)))))))
 ·refine wE (nCF (wp_exit (then_x (then_x (inb_x (nSR (pv (sl g5 0 512 512) (pv (sl g5 0 512 512) (wE (then_n (wp_ret (bA (sl g5 0 512 512) ?_))))))))))))
  have S14:St F w0 w8 (row g5 (bvs (a.2.take i++b.2.drop i)) 5::vec 22 1 (.slice A1 CC.length c1) CC.length (CC.map PEnt.val)::stars (pool.map PEnt.row)::L):=St.pm 4 [0,2,3] S9
  have hi9:i=pc.toNat%513:=by omega
  rw [hi9] at S14
  exact ⟨_,rfl,S14⟩
theorem crash_none {s:Dsk}{ps:List Pick}(h:s.pend=[]):crashOuts s ps=[]:=by
 have:crashKeys s=[]:=by
  unfold crashKeys keysTo
  rw [List.filter_eq_nil_iff]
  intro a _
  simp [pendOf,h]
 unfold crashOuts;rw [this];rfl
theorem keys_in {s:Dsk}{k:Nat}(h:pendOf s k≠[]):keysTo s (k+1)=keysTo s k++[k]:=by
 rw [keysTo_succ]
 cases hp:pendOf s k with
 |nil=>exact absurd hp h
 |cons _ _=>rfl
theorem keys_out {s:Dsk}{k:Nat}(h:pendOf s k=[]):keysTo s (k+1)=keysTo s k:=by rw [keysTo_succ,h];simp
theorem outs_in {s:Dsk}{ps:List Pick}{k:Nat}(h:pendOf s k≠[]):(keysTo s (k+1)).mapIdx (outOf s ps)=(keysTo s k).mapIdx (outOf s ps)++[outOf s ps (keysTo s k).length k]:=by
 rw [keys_in h,List.mapIdx_append];simp
theorem RFacts.more {s:Dsk}{LL:List (Nat×List UInt8)}{PP:List RPut}{pool:List (Nat×List UInt8)}(h:RFacts s LL PP pool)(x:Nat×List UInt8):RFacts s LL PP (x::pool):=
 ⟨h.last,h.pend,fun y hy=>List.mem_cons_of_mem _ (h.lin y hy),fun y hy=>List.mem_cons_of_mem _ (h.pin y hy),h.len,h.plen,h.n1,h.n2,h.lb,h.pn⟩
theorem RFacts.cand5 {s:Dsk}{LL:List (Nat×List UInt8)}{PP:List RPut}{pool:List (Nat×List UInt8)}(h:RFacts s LL PP pool){a:Nat}(ha:a<s.last.length):∀x∈candS s a,x.length=512:=fun x hx=>by
 rcases List.mem_cons.1 hx with rfl|hx
 ·exact h.len _ (List.mem_of_getElem? (mem_getD ha))
 ·unfold pendOf at hx
  obtain ⟨y,hy,rfl⟩:=List.mem_map.1 hx
  exact (h.plen y (List.mem_filter.1 hy).1).1
theorem RFacts.outs5 {s:Dsk}{LL:List (Nat×List UInt8)}{PP:List RPut}{pool:List (Nat×List UInt8)}(h:RFacts s LL PP pool)(ps:List Pick):∀x∈crashOuts s ps,x.2.length=512∧x.1<s.last.length:=fun x hx=>by
 unfold crashOuts at hx
 obtain ⟨i,hi,rfl⟩:=List.mem_mapIdx.1 hx
 have hm:(crashKeys s)[i]∈crashKeys s:=List.getElem_mem hi
 have hk:=(keysTo_mem.1 hm).1
 exact ⟨tornS_len (h.cand5 hk) (by simp [candS]),hk⟩
theorem rd_crash {F:Nat→Prop}{w0 w:World}{L:List Ast}{g:Nat}{s:Dsk}{A:Option Addr}{ps:List Pick}{n c:Nat}(S:St F w0 w (RDisk g s::L))(hr:RoV F w0 L A (picksV ps))(hn:n=ps.length)(hpm:ps.length≤9223372036854775807)(hpn':s.pend.length<4398046511104):
  Calls Tryz.prog 28 #[pq g,.slice A n c] w fun e w'=>e=.returned (.tuple #[])∧St F w0 w' (RDisk g (s.crashR ps)::L):=by
 obtain ⟨gl,cl,c2,A2,junk,LL,PP,pool,hf,hcl,hju,S⟩:=St.ropen S
 have hn2:=hf.n2
 have hll:=hf.ll
 have hpp:=hf.pp
 have hpn:=hf.pn
 by_cases he:s.pend=[]
 ·have ec:s.crashR ps={s with pend:=[],left:= -1,life:=inc s.life}:=by unfold Dsk.crashR;rw [crash_none he];rfl
  have h0:PP.length=0:=by rw [hpp,he];rfl
  rw [ec]
  change St F w0 w (rR2 g gl LL.length cl (.slice A2 PP.length c2) s.left s.life s.rd s.wr s.fl s.rf 0::row gl ((LL.map PEnt.val++junk).toArray) 22::vec 102 2 (.slice A2 PP.length c2) PP.length (putsV PP)::stars (pool.map PEnt.row)::L) at S
  refine eN (fr [pq g,.slice A n c] 84) Tryz.func28 rfl (sR (pv (iv 0) (wER (pv (nS_) (wE (nS (sR (pv (pq g) (pv (pq g) (pv (po g 1) (lR (.slice A2 PP.length c2) S 0 1 (pv (iv (PP.length:Nat)) (dC (((PP.length:Nat):Int)>0) (fun hd1=>False.elim om_) fun _=> ?_)))))))))))))
  refine wE (nCF (wp_skip (nS (sR (pv (iv 0) (wE (then_n (wp_block (wp_loop_g (G:=Nat) (fun (g_:Nat) (a_:Act) (w_:World)=>∃J:Nat→Value,a_=(fr ([pq g,.slice A n c,ud,ud,iv 0,nS_,ud,ud,ud,nI_ g_,pq g,pq g,po g 1,.slice A2 PP.length c2,iv (PP.length:Nat),fv,ud,ud,ud,ud,ud,ud,ud,ud,ud,ud,ud,ud,ud,ud,ud,ud,ud,ud,ud,ud,ud,ud,ud,ud,ud,ud,ud,ud,ud,ud,ud,ud,ud,ud,ud,ud]++jR J 52 21) 13)∧St F w0 w_ (rR2 g gl LL.length cl (.slice A2 PP.length c2) s.left s.life s.rd s.wr s.fl s.rf 0::row gl ((LL.map PEnt.val++junk).toArray) 22::vec 102 2 (.slice A2 PP.length c2) PP.length (putsV PP)::stars (pool.map PEnt.row)::L)∧(g_=0)) (fun g_=>0) 0 (jE_ ⟨S,rfl⟩) ?_)))))))))
  rintro i a_ w2 ⟨J,rfl,S3,hI4⟩
  skip
  have S3:St F w0 w2 (rR2 g gl LL.length cl (.slice A2 PP.length c2) s.left s.life s.rd s.wr s.fl s.rf 0::row gl ((LL.map PEnt.val++junk).toArray) 22::vec 102 2 (.slice A2 PP.length c2) PP.length (putsV PP)::stars (pool.map PEnt.row)::L):=S3
  have hI4:(i=0):=hI4
  refine wp_seq (sR (pv (nI_ i) (pv (nS_) (pv (iv 0) (dC ((((i:Nat):Int):Int)<0) (fun hd5=>False.elim om_) fun _=>wE (nCF (wp_exit (then_x (then_x (inb_x (nSR (pv (pq g) ?_))))))))))))
  refine pv (pq g) (pv (po g 1) (sS S3 0 rfl 1 (nS_) fun w6 S7=>wER (pv (pq g) (pv (pq g) (pv (po g 2) (sS S7 0 rfl 2 (iv (-1)) fun w8 S9=>wE (nR (pv (pq g) (pv (pq g) (pv (po g 3) (lR (iv s.life) S9 0 3 ?_)))))))))))
  refine pv (iv (inc s.life)) (pv (pq g) (pv (po g 3) (sS S9 0 rfl 3 (iv (inc s.life)) fun w10 S11=>wE (bodyPost_end (v:=.tuple #[]) (results_none rfl _ _ _) rfl ?_))))
  have S12:=St.pm 4 [0,1,3] S11
  have S9:=St.permT [_,_,_,_] [1,2,0,3] dc_ rfl (St.vec_nil (e:=102) (sz:=2) S12)
  exact ⟨rfl,St.rclose (gl:=gl) (cl:=cl) (c2:=0) (A2:=none) (junk:=junk) (LL:=LL) (PP:=([]:List RPut)) (pool:=pool) (s:={s with pend:=[],left:= -1,life:=inc s.life}) S9 (⟨hf.last,rfl,hf.lin,fun x hx=>(by cases hx),hf.len,fun x hx=>(by cases hx),hf.n1,hf.n2,show (-1:Int)≤ -1∧(-1:Int)≤9223372036854775807 by decide,Nat.zero_le _⟩) hcl hju⟩
 have hpos:0<PP.length:=by rw [hpp];exact List.length_pos_iff.2 he
 change St F w0 w (rR2 g gl LL.length cl (.slice A2 PP.length c2) s.left s.life s.rd s.wr s.fl s.rf 0::row gl ((LL.map PEnt.val++junk).toArray) 22::vec 102 2 (.slice A2 PP.length c2) PP.length (putsV PP)::stars (pool.map PEnt.row)::L) at S
 refine eN (fr [pq g,.slice A n c] 84) Tryz.func28 rfl (sR (pv (iv 0) (wER (pv (nS_) (wE (nS (sR (pv (pq g) (pv (pq g) (pv (po g 1) (lR (.slice A2 PP.length c2) S 0 1 (pv (iv (PP.length:Nat)) (dC (((PP.length:Nat):Int)>0) (fun _=> ?_) fun hd1=>False.elim om_)))))))))))))
 refine wE (nCT (sR (pv (iv 0) (wE (then_n (wp_block ?_))))))
 have S2:St F w0 w (vec 102 2 (nS_) ([]:List RPut).length (putsV ([]:List RPut))::rR2 g gl LL.length cl (.slice A2 PP.length c2) s.left s.life s.rd s.wr s.fl s.rf 0::row gl ((LL.map PEnt.val++junk).toArray) 22::vec 102 2 (.slice A2 PP.length c2) PP.length (putsV PP)::stars (pool.map PEnt.row)::L):=St.vec_nil S
 have S3:St F w0 w (rR2 g gl LL.length cl (.slice A2 PP.length c2) s.left s.life s.rd s.wr s.fl s.rf 0::row gl ((LL.map PEnt.val++junk).toArray) 22::vec 102 2 (.slice A2 PP.length c2) PP.length (putsV PP)::stars (pool.map PEnt.row)::vec 102 2 (nS_) ([]:List RPut).length (putsV ([]:List RPut))::L):=St.pm 5 [1,2,3,4,0] S2
 refine wp_loop_g (G:=Nat×Value×List RPut×List (Nat×List UInt8)) (fun (g_:Nat×Value×List RPut×List (Nat×List UInt8)) (a_:Act) (w_:World)=>∃J:Nat→Value,a_=(fr ([pq g,.slice A n c,ud,ud,nI_ ((keysTo s g_.1).length),g_.2.1,nI_ g_.1,J 7,J 8,ud,pq g,pq g,po g 1,.slice A2 PP.length c2,iv (PP.length:Nat),tv]++jR J 16 36) 34)∧St F w0 w_ (rR2 g gl LL.length cl (.slice A2 PP.length c2) s.left s.life s.rd s.wr s.fl s.rf 0::row gl ((LL.map PEnt.val++junk).toArray) 22::vec 102 2 (.slice A2 PP.length c2) PP.length (putsV PP)::stars (g_.2.2.2.map PEnt.row)::vec 102 2 g_.2.1 g_.2.2.1.length (putsV g_.2.2.1)::L)∧(g_.1≤LL.length∧g_.2.2.1.map (·.2)=(keysTo s g_.1).mapIdx (outOf s ps)∧RFacts s LL PP g_.2.2.2∧∀x∈g_.2.2.1,x.ref∈g_.2.2.2)) (fun g_=>LL.length-g_.1) (0,nS_,[],pool) (jE_ ⟨S3,⟨Nat.zero_le _,rfl,hf,fun x hx=>by cases hx⟩⟩) ?_
 rintro ⟨at_,v,FF,pool2⟩ a_ w4 ⟨J,rfl,S5,hI6⟩
 skip
 have S5:St F w0 w4 (rR2 g gl LL.length cl (.slice A2 PP.length c2) s.left s.life s.rd s.wr s.fl s.rf 0::row gl ((LL.map PEnt.val++junk).toArray) 22::vec 102 2 (.slice A2 PP.length c2) PP.length (putsV PP)::stars (pool2.map PEnt.row)::vec 102 2 v FF.length (putsV FF)::L):=S5
 have hI6:(at_≤LL.length∧FF.map (·.2)=(keysTo s at_).mapIdx (outOf s ps)∧RFacts s LL PP pool2∧∀x∈FF,x.ref∈pool2):=hI6
 refine wp_seq (sR (pv (nI_ at_) (pv (pq g) (pv (pq g) (pv (pq g) (lR (sl gl 0 LL.length cl) S5 0 0 (pv (iv (LL.length:Nat)) (dC ((((at_:Nat):Int):Int)<(LL.length:Nat)) (fun hb7=> ?_) fun hb7=> ?_))))))))
 ·have hk:at_<s.last.length:=by omega
  have hkl:=keysTo_len s at_
  have hFl:FF.length=(keysTo s at_).length:=by have:=congrArg List.length hI6.2.1;rw [List.length_map,List.length_mapIdx] at this;exact this
  refine wE (nCT (wp_skip (nS (wp_block (sR (pv (pq g) (pv (nI_ at_) (g_ (gv_call (args:=#[pq g,nI_ at_]) rfl Tryz.func66 kr_ rfl rfl kr_ (Calls.mono (rcand S5 hI6.2.2.1 hk hpn') ?_))))))))))
  rintro _ w8 ⟨v2,CC,rfl,hCC,hCp,S9⟩
  refine ⟨_,rfl, ?_⟩
  obtain ⟨A1,c1,rfl⟩:=St.vec_v S9 0 rfl
  have hCl:CC.length=(pendOf s at_).length+1:=by have:=congrArg List.length hCC;rw [List.length_map] at this;exact this
  have hpl:(pendOf s at_).length≤s.pend.length:=by unfold pendOf;rw [List.length_map];exact List.length_filter_le _ _
  have hC5:∀x∈CC,x.2.length=512:=fun x hx=>hI6.2.2.1.cand5 hk _ (by rw [←hCC];exact List.mem_map.2 ⟨x,hx,rfl⟩)
  change St F w0 w8 (vec 22 1 (.slice A1 CC.length c1) CC.length (CC.map PEnt.val)::rR2 g gl LL.length cl (.slice A2 PP.length c2) s.left s.life s.rd s.wr s.fl s.rf 0::row gl ((LL.map PEnt.val++junk).toArray) 22::vec 102 2 (.slice A2 PP.length c2) PP.length (putsV PP)::stars (pool2.map PEnt.row)::vec 102 2 v FF.length (putsV FF)::L) at S9
  refine pv (.slice A1 CC.length c1) (wE (nS (sR (pv (.slice A1 CC.length c1) (pv (iv (CC.length:Nat)) (dE (CC.length:Nat) 1 (fun hb7=> ?_) fun hb7=> ?_))))))
  ·have hp0:pendOf s at_=[]:=List.eq_nil_of_length_eq_zero om_
   refine wE (nCT (wp_exit (then_x (inb_x (nR (pv (nI_ at_) (gI .i64 (IntKind.i64.wrap (((at_:Nat):Int)+1)) ((at_+1:Nat):Int) wq_ (pv (nI_ (at_+1)) (wE (then_n ?_))))))))))
   have S10:=St.pm 6 [1,2,3,4,5] S9
   exact ⟨(at_+1,v,FF,pool2),(jF_ (fun z_:Nat=>(fr ([pq g,.slice A n c,ud,ud,nI_ z_,v,nI_ (at_+1),.slice A1 CC.length c1,J 8,ud,pq g,pq g,po g 1,.slice A2 PP.length c2,iv (PP.length:Nat),tv,nI_ at_,pq g,pq g,pq g,sl gl 0 LL.length cl,iv (LL.length:Nat),tv,nI_ at_,nI_ (at_+1),pq g,nI_ at_,.slice A1 CC.length c1,.slice A1 CC.length c1,iv (CC.length:Nat),tv]++jR J 31 21) 34)) (x:=(keysTo s at_).length) (y:=(keysTo s (at_+1)).length) (congrArg List.length (keys_out hp0)).symm ⟨S10,⟨(by show at_+1≤LL.length;omega),by rw [keys_out hp0];exact hI6.2.1,hI6.2.2.1,hI6.2.2.2⟩⟩),(by show LL.length-(at_+1)<LL.length-at_;omega)⟩
  ·have hp0:pendOf s at_≠[]:=fun h=>hb7 (by rw [hCl,h];rfl)
   refine wE (nCF (wp_skip (nSR (pv (.agg #[iv 0,iv 0,iv 0]) (nW rfl (.agg #[iv 0,iv 0,iv 0]) S9 fun g11 w12 hg13 S14=>g_ (gv_stA (k:=0) (vs:=[iv 0,iv 0,iv 0]) S14 0 rfl rfl kr_ kr_ kr_ rfl (by simp [Value.oneCell']) (Nat.le_of_ble_eq_true kr_) (L':=(row g11 #[iv 0,iv 0,iv 0] 97::vec 22 1 (.slice A1 CC.length c1) CC.length (CC.map PEnt.val)::rR2 g gl LL.length cl (.slice A2 PP.length c2) s.left s.life s.rd s.wr s.fl s.rf 0::row gl ((LL.map PEnt.val++junk).toArray) 22::vec 102 2 (.slice A2 PP.length c2) PP.length (putsV PP)::stars (pool2.map PEnt.row)::vec 102 2 v FF.length (putsV FF)::L)) rfl (fun w15 S16=>wE (nS (sR (pv (.slice A n c) (pv (iv (n:Nat)) (dC (((n:Nat):Int)>0) (fun hb17=> ?_) fun hb17=> ?_))))))))))))
   ·have hp1:0<ps.length:=by omega
    have hn1:n=n-1+1:=by omega
    obtain ⟨ad,hAd,hrp⟩:=hr.out _ [row g11 #[iv 0,iv 0,iv 0] 97,vec 22 1 (.slice A1 CC.length c1) CC.length (CC.map PEnt.val),row g #[.slice (some ⟨gl,0,none⟩) LL.length cl,.slice A2 PP.length c2,iv s.left,iv s.life,iv s.rd,iv s.wr,iv s.fl,iv s.rf,iv 0] 81,row gl ((LL.map PEnt.val++junk).toArray) 22,vec 102 2 (.slice A2 PP.length c2) PP.length (putsV PP),stars (pool2.map PEnt.row),vec 102 2 v FF.length (putsV FF)] S16 (by rw [length_picksV];omega)
    have hrq:RdV w15 (some ad) (picksV ps):=fun _=>⟨ad,rfl,hrp⟩
    have hkm:(keysTo s at_).length%ps.length<ps.length:=Nat.mod_lt _ hp1
    have hpk:ps[(keysTo s at_).length%ps.length]?=some (pickAt ps (keysTo s at_).length):=by unfold pickAt;rw [if_neg om_,List.getD_eq_getElem?_getD,List.getElem?_eq_getElem hkm];rfl
    refine wE (nCT (wp_region_lit (pv (.slice A n c) (pv (nI_ ((keysTo s at_).length)) (pv (.slice A n c) (pv (iv (n:Nat)) (g_ (gv_int (k:=.i64) (z:=Int.tmod (((keysTo s at_).length:Nat):Int) (n:Nat)) (z':=(((keysTo s at_).length%ps.length:Nat):Int)) (by rw [hn1];kernel_rfl) (tmod_nat' rfl om_) (g_ (gv_ixB (e:=97) (sz:=3) (n:=n) (c:=c) (i:=(((keysTo s at_).length%ps.length:Nat):Int)) (k:=.i64) (ad:=ad) (ad':=(ad.add (((keysTo s at_).length%ps.length)*3))) (j:=((keysTo s at_).length%ps.length)) rfl kr_ kr_ (by rw [←hAd];kernel_rfl) kr_ rfl om_ rfl (g_ (gv_ldRA (ad:=ad.add ((keysTo s at_).length%ps.length*3)) (vs:=[iv ((pickAt ps (keysTo s at_).length).1),iv ((pickAt ps (keysTo s at_).length).2.1),iv ((pickAt ps (keysTo s at_).length).2.2)]) (n:=3) rfl kr_ kr_ rfl (RoV.cells hrq ((keysTo s at_).length%ps.length*3) (fun j u hu=>picksV_at ps _ _ hpk j u hu) (Nat.succ_pos _)) (g_ (gv_stA (k:=0) (vs:=[iv ((pickAt ps (keysTo s at_).length).1),iv ((pickAt ps (keysTo s at_).length).2.1),iv ((pickAt ps (keysTo s at_).length).2.2)]) S16 0 rfl rfl kr_ kr_ kr_ rfl (by simp [Value.oneCell']) (Nat.le_of_ble_eq_true kr_) (L':=(row g11 #[iv ((pickAt ps (keysTo s at_).length).1),iv ((pickAt ps (keysTo s at_).length).2.1),iv ((pickAt ps (keysTo s at_).length).2.2)] 97::vec 22 1 (.slice A1 CC.length c1) CC.length (CC.map PEnt.val)::rR2 g gl LL.length cl (.slice A2 PP.length c2) s.left s.life s.rd s.wr s.fl s.rf 0::row gl ((LL.map PEnt.val++junk).toArray) 22::vec 102 2 (.slice A2 PP.length c2) PP.length (putsV PP)::stars (pool2.map PEnt.row)::vec 102 2 v FF.length (putsV FF)::L)) rfl (fun w18 S19=> ?_)))))))))))))))
    refine wER (pv v (pv (nI_ at_) (pv (.slice A1 CC.length c1) (g_ (gv_ldA (k:=0) (n:=3) (vs:=[iv ((pickAt ps (keysTo s at_).length).1),iv ((pickAt ps (keysTo s at_).length).2.1),iv ((pickAt ps (keysTo s at_).length).2.2)]) S19 0 rfl rfl kr_ kr_ rfl rfl (g_ (gv_call (args:=#[.slice A1 CC.length c1,.agg #[iv ((pickAt ps (keysTo s at_).length).1),iv ((pickAt ps (keysTo s at_).length).2.1),iv ((pickAt ps (keysTo s at_).length).2.2)]]) rfl Tryz.func67 kr_ rfl rfl kr_ ?_)))))))
    have S23:St F w0 w18 (vec 22 1 (.slice A1 CC.length c1) CC.length (CC.map PEnt.val)::stars (pool2.map PEnt.row)::row g11 #[iv ((pickAt ps (keysTo s at_).length).1),iv ((pickAt ps (keysTo s at_).length).2.1),iv ((pickAt ps (keysTo s at_).length).2.2)] 97::rR2 g gl LL.length cl (.slice A2 PP.length c2) s.left s.life s.rd s.wr s.fl s.rf 0::row gl ((LL.map PEnt.val++junk).toArray) 22::vec 102 2 (.slice A2 PP.length c2) PP.length (putsV PP)::vec 102 2 v FF.length (putsV FF)::L):=St.pm 7 [1,5,0,2,3,4,6] S19
    refine Calls.mono (rtorn S23 hCp hC5 om_ om_) ?_
    rintro _ w20 ⟨g22,rfl,S21⟩
    rw [hCC] at S21
    refine ⟨_,rfl, ?_⟩
    change St F w0 w20 (row g22 (bvs (tornS (candS s at_) (pickAt ps (keysTo s at_).length))) 5::vec 22 1 (.slice A1 CC.length c1) CC.length (CC.map PEnt.val)::stars (pool2.map PEnt.row)::row g11 #[iv ((pickAt ps (keysTo s at_).length).1),iv ((pickAt ps (keysTo s at_).length).2.1),iv ((pickAt ps (keysTo s at_).length).2.2)] 97::rR2 g gl LL.length cl (.slice A2 PP.length c2) s.left s.life s.rd s.wr s.fl s.rf 0::row gl ((LL.map PEnt.val++junk).toArray) 22::vec 102 2 (.slice A2 PP.length c2) PP.length (putsV PP)::vec 102 2 v FF.length (putsV FF)::L) at S21
    refine pv (.agg #[nI_ at_,sl g22 0 512 512]) (g_ (gv_slit (e:=102) (sz:=2) (z:=.agg #[iv 0,nS_]) (by_:=32) (vs:=#[(0,.agg #[nI_ at_,sl g22 0 512 512])]) (cells:=#[nI_ at_,sl g22 0 512 512]) S21 rfl kr_ ⟨by kernel_rfl⟩ kr_ kr_ kr_ kr_ (fun g24 w25 hg26 S27=> ?_)))
    have S28:St F w0 w25 (row g24 #[nI_ at_,sl g22 0 512 512] 102::vec 102 2 v FF.length (putsV FF)::row g22 (bvs (tornS (candS s at_) (pickAt ps (keysTo s at_).length))) 5::vec 22 1 (.slice A1 CC.length c1) CC.length (CC.map PEnt.val)::stars (pool2.map PEnt.row)::row g11 #[iv ((pickAt ps (keysTo s at_).length).1),iv ((pickAt ps (keysTo s at_).length).2.1),iv ((pickAt ps (keysTo s at_).length).2.2)] 97::rR2 g gl LL.length cl (.slice A2 PP.length c2) s.left s.life s.rd s.wr s.fl s.rf 0::row gl ((LL.map PEnt.val++junk).toArray) 22::vec 102 2 (.slice A2 PP.length c2) PP.length (putsV PP)::L):=St.pm 9 [0,8,1,2,3,4,5,6,7] S27
    refine g_ (gv_append (e:=102) (sz:=2) (n:=FF.length) (v:=v) (vals:=(putsV FF)) (z:=.agg #[iv 0,nS_]) (by_:=32) (m:=1) (c':=1) (ad:=⟨g24,0,none⟩) (news:=[nI_ at_,sl g22 0 512 512]) (St.swap S28) rfl kr_ ⟨by kernel_rfl⟩ rfl kr_ kr_ dc_ rfl (row_news (S28.blk 0 rfl)) (by intro u hu;simp at hu;rcases hu with rfl|rfl<;>rfl) om_ om_ (fun v30 w29 S31=>pv v30 (wE ?_)))
    refine nR (pv (nI_ ((keysTo s at_).length)) (gI .i64 (IntKind.i64.wrap ((((keysTo s at_).length:Nat):Int)+1)) (((keysTo s at_).length+1:Nat):Int) wq_ (pv (nI_ ((keysTo s at_).length+1)) (wE (inb_n (nR (pv (nI_ at_) (gI .i64 (IntKind.i64.wrap (((at_:Nat):Int)+1)) ((at_+1:Nat):Int) wq_ (pv (nI_ (at_+1)) (wE (then_n ?_)))))))))))
    have S32:St F w0 w29 (row g22 (bvs (tornS (candS s at_) (pickAt ps (keysTo s at_).length))) 5::stars (pool2.map PEnt.row)::rR2 g gl LL.length cl (.slice A2 PP.length c2) s.left s.life s.rd s.wr s.fl s.rf 0::row gl ((LL.map PEnt.val++junk).toArray) 22::vec 102 2 (.slice A2 PP.length c2) PP.length (putsV PP)::vec 102 2 v30 (FF.length+1) (putsV FF++[nI_ at_,sl g22 0 512 512])::L):=St.pm 9 [2,4,6,7,8,0] S31
    have S33:St F w0 w29 (stars (((g22,tornS (candS s at_) (pickAt ps (keysTo s at_).length))::pool2).map PEnt.row)::rR2 g gl LL.length cl (.slice A2 PP.length c2) s.left s.life s.rd s.wr s.fl s.rf 0::row gl ((LL.map PEnt.val++junk).toArray) 22::vec 102 2 (.slice A2 PP.length c2) PP.length (putsV PP)::vec 102 2 v30 (FF.length+1) (putsV FF++[nI_ at_,sl g22 0 512 512])::L):=St.pool_add S32
    have S34:St F w0 w29 (rR2 g gl LL.length cl (.slice A2 PP.length c2) s.left s.life s.rd s.wr s.fl s.rf 0::row gl ((LL.map PEnt.val++junk).toArray) 22::vec 102 2 (.slice A2 PP.length c2) PP.length (putsV PP)::stars (((g22,tornS (candS s at_) (pickAt ps (keysTo s at_).length))::pool2).map PEnt.row)::vec 102 2 v30 (FF.length+1) (putsV FF++[nI_ at_,sl g22 0 512 512])::L):=St.pm 5 [1,2,3,0,4] S33
    have hv9:putsV FF++[nI_ at_,.slice (some ⟨g22,0,none⟩) 512 512]=putsV (FF++[((g22,at_,tornS (candS s at_) (pickAt ps (keysTo s at_).length)):RPut)]):=putsV_snoc FF ((g22,at_,tornS (candS s at_) (pickAt ps (keysTo s at_).length)):RPut)
    have hn9:FF.length+1=(FF++[((g22,at_,tornS (candS s at_) (pickAt ps (keysTo s at_).length)):RPut)]).length:=by rw [List.length_append];rfl
    rw [hv9,hn9] at S34
    exact ⟨(at_+1,v30,FF++[((g22,at_,tornS (candS s at_) (pickAt ps (keysTo s at_).length)):RPut)],(g22,tornS (candS s at_) (pickAt ps (keysTo s at_).length))::pool2),(jF_ (fun z_:Nat=>(fr [pq g,.slice A n c,ud,ud,nI_ z_,v30,nI_ (at_+1),.slice A1 CC.length c1,pq g11,ud,pq g,pq g,po g 1,.slice A2 PP.length c2,iv (PP.length:Nat),tv,nI_ at_,pq g,pq g,pq g,sl gl 0 LL.length cl,iv (LL.length:Nat),tv,nI_ at_,nI_ (at_+1),pq g,nI_ at_,.slice A1 CC.length c1,.slice A1 CC.length c1,iv (CC.length:Nat),fv,.agg #[iv 0,iv 0,iv 0],.slice A n c,iv (n:Nat),tv,.slice A n c,nI_ ((keysTo s at_).length),.slice A n c,iv (n:Nat),nI_ ((keysTo s at_).length%ps.length),.pointer (some (ad.add (((keysTo s at_).length%ps.length)*3))),.agg #[iv ((pickAt ps (keysTo s at_).length).1),iv ((pickAt ps (keysTo s at_).length).2.1),iv ((pickAt ps (keysTo s at_).length).2.2)],v,nI_ at_,.slice A1 CC.length c1,.agg #[iv ((pickAt ps (keysTo s at_).length).1),iv ((pickAt ps (keysTo s at_).length).2.1),iv ((pickAt ps (keysTo s at_).length).2.2)],sl g22 0 512 512,.agg #[nI_ at_,sl g22 0 512 512],sl g24 0 1 1,v30,nI_ ((keysTo s at_).length),nI_ ((keysTo s at_).length+1)] 34)) (x:=(keysTo s at_).length+1) (y:=(keysTo s (at_+1)).length) (by rw [keys_in hp0,List.length_append];rfl) ⟨S34,⟨(by show at_+1≤LL.length;omega),by rw [outs_in hp0,List.map_append,hI6.2.1];rfl,hI6.2.2.1.more _,fun z hz=>(List.mem_append.1 hz).elim (fun h=>List.mem_cons_of_mem _ (hI6.2.2.2 z h)) (fun h=>by rw [List.mem_singleton] at h;subst h;exact List.mem_cons_self)⟩⟩),(by show LL.length-(at_+1)<LL.length-at_;omega)⟩
   ·have hpk:pickAt ps (keysTo s at_).length=(0,0,0):=if_pos om_
    have S35:St F w0 w15 (row g11 #[iv ((pickAt ps (keysTo s at_).length).1),iv ((pickAt ps (keysTo s at_).length).2.1),iv ((pickAt ps (keysTo s at_).length).2.2)] 97::vec 22 1 (.slice A1 CC.length c1) CC.length (CC.map PEnt.val)::rR2 g gl LL.length cl (.slice A2 PP.length c2) s.left s.life s.rd s.wr s.fl s.rf 0::row gl ((LL.map PEnt.val++junk).toArray) 22::vec 102 2 (.slice A2 PP.length c2) PP.length (putsV PP)::stars (pool2.map PEnt.row)::vec 102 2 v FF.length (putsV FF)::L):=(by rw [hpk];exact S16)
    refine wE (nCF (wp_skip (nSR (pv v (pv (nI_ at_) (pv (.slice A1 CC.length c1) (g_ (gv_ldA (k:=0) (n:=3) (vs:=[iv ((pickAt ps (keysTo s at_).length).1),iv ((pickAt ps (keysTo s at_).length).2.1),iv ((pickAt ps (keysTo s at_).length).2.2)]) S35 0 rfl rfl kr_ kr_ rfl rfl (g_ (gv_call (args:=#[.slice A1 CC.length c1,.agg #[iv ((pickAt ps (keysTo s at_).length).1),iv ((pickAt ps (keysTo s at_).length).2.1),iv ((pickAt ps (keysTo s at_).length).2.2)]]) rfl Tryz.func67 kr_ rfl rfl kr_ ?_))))))))))
    have S39:St F w0 w15 (vec 22 1 (.slice A1 CC.length c1) CC.length (CC.map PEnt.val)::stars (pool2.map PEnt.row)::row g11 #[iv ((pickAt ps (keysTo s at_).length).1),iv ((pickAt ps (keysTo s at_).length).2.1),iv ((pickAt ps (keysTo s at_).length).2.2)] 97::rR2 g gl LL.length cl (.slice A2 PP.length c2) s.left s.life s.rd s.wr s.fl s.rf 0::row gl ((LL.map PEnt.val++junk).toArray) 22::vec 102 2 (.slice A2 PP.length c2) PP.length (putsV PP)::vec 102 2 v FF.length (putsV FF)::L):=St.pm 7 [1,5,0,2,3,4,6] S35
    refine Calls.mono (rtorn S39 hCp hC5 om_ om_) ?_
    rintro _ w36 ⟨g38,rfl,S37⟩
    rw [hCC] at S37
    refine ⟨_,rfl, ?_⟩
    change St F w0 w36 (row g38 (bvs (tornS (candS s at_) (pickAt ps (keysTo s at_).length))) 5::vec 22 1 (.slice A1 CC.length c1) CC.length (CC.map PEnt.val)::stars (pool2.map PEnt.row)::row g11 #[iv ((pickAt ps (keysTo s at_).length).1),iv ((pickAt ps (keysTo s at_).length).2.1),iv ((pickAt ps (keysTo s at_).length).2.2)] 97::rR2 g gl LL.length cl (.slice A2 PP.length c2) s.left s.life s.rd s.wr s.fl s.rf 0::row gl ((LL.map PEnt.val++junk).toArray) 22::vec 102 2 (.slice A2 PP.length c2) PP.length (putsV PP)::vec 102 2 v FF.length (putsV FF)::L) at S37
    refine pv (.agg #[nI_ at_,sl g38 0 512 512]) (g_ (gv_slit (e:=102) (sz:=2) (z:=.agg #[iv 0,nS_]) (by_:=32) (vs:=#[(0,.agg #[nI_ at_,sl g38 0 512 512])]) (cells:=#[nI_ at_,sl g38 0 512 512]) S37 rfl kr_ ⟨by kernel_rfl⟩ kr_ kr_ kr_ kr_ (fun g40 w41 hg42 S43=> ?_)))
    have S44:St F w0 w41 (row g40 #[nI_ at_,sl g38 0 512 512] 102::vec 102 2 v FF.length (putsV FF)::row g38 (bvs (tornS (candS s at_) (pickAt ps (keysTo s at_).length))) 5::vec 22 1 (.slice A1 CC.length c1) CC.length (CC.map PEnt.val)::stars (pool2.map PEnt.row)::row g11 #[iv ((pickAt ps (keysTo s at_).length).1),iv ((pickAt ps (keysTo s at_).length).2.1),iv ((pickAt ps (keysTo s at_).length).2.2)] 97::rR2 g gl LL.length cl (.slice A2 PP.length c2) s.left s.life s.rd s.wr s.fl s.rf 0::row gl ((LL.map PEnt.val++junk).toArray) 22::vec 102 2 (.slice A2 PP.length c2) PP.length (putsV PP)::L):=St.pm 9 [0,8,1,2,3,4,5,6,7] S43
    refine g_ (gv_append (e:=102) (sz:=2) (n:=FF.length) (v:=v) (vals:=(putsV FF)) (z:=.agg #[iv 0,nS_]) (by_:=32) (m:=1) (c':=1) (ad:=⟨g40,0,none⟩) (news:=[nI_ at_,sl g38 0 512 512]) (St.swap S44) rfl kr_ ⟨by kernel_rfl⟩ rfl kr_ kr_ dc_ rfl (row_news (S44.blk 0 rfl)) (by intro u hu;simp at hu;rcases hu with rfl|rfl<;>rfl) om_ om_ (fun v46 w45 S47=>pv v46 (wE (nR (pv (nI_ ((keysTo s at_).length)) (gI .i64 (IntKind.i64.wrap ((((keysTo s at_).length:Nat):Int)+1)) (((keysTo s at_).length+1:Nat):Int) wq_ (pv (nI_ ((keysTo s at_).length+1)) (wE ?_))))))))
    refine inb_n (nR (pv (nI_ at_) (gI .i64 (IntKind.i64.wrap (((at_:Nat):Int)+1)) ((at_+1:Nat):Int) wq_ (pv (nI_ (at_+1)) (wE (then_n ?_))))))
    have S48:St F w0 w45 (row g38 (bvs (tornS (candS s at_) (pickAt ps (keysTo s at_).length))) 5::stars (pool2.map PEnt.row)::rR2 g gl LL.length cl (.slice A2 PP.length c2) s.left s.life s.rd s.wr s.fl s.rf 0::row gl ((LL.map PEnt.val++junk).toArray) 22::vec 102 2 (.slice A2 PP.length c2) PP.length (putsV PP)::vec 102 2 v46 (FF.length+1) (putsV FF++[nI_ at_,sl g38 0 512 512])::L):=St.pm 9 [2,4,6,7,8,0] S47
    have S49:St F w0 w45 (stars (((g38,tornS (candS s at_) (pickAt ps (keysTo s at_).length))::pool2).map PEnt.row)::rR2 g gl LL.length cl (.slice A2 PP.length c2) s.left s.life s.rd s.wr s.fl s.rf 0::row gl ((LL.map PEnt.val++junk).toArray) 22::vec 102 2 (.slice A2 PP.length c2) PP.length (putsV PP)::vec 102 2 v46 (FF.length+1) (putsV FF++[nI_ at_,sl g38 0 512 512])::L):=St.pool_add S48
    have S50:St F w0 w45 (rR2 g gl LL.length cl (.slice A2 PP.length c2) s.left s.life s.rd s.wr s.fl s.rf 0::row gl ((LL.map PEnt.val++junk).toArray) 22::vec 102 2 (.slice A2 PP.length c2) PP.length (putsV PP)::stars (((g38,tornS (candS s at_) (pickAt ps (keysTo s at_).length))::pool2).map PEnt.row)::vec 102 2 v46 (FF.length+1) (putsV FF++[nI_ at_,sl g38 0 512 512])::L):=St.pm 5 [1,2,3,0,4] S49
    have hv9:putsV FF++[nI_ at_,.slice (some ⟨g38,0,none⟩) 512 512]=putsV (FF++[((g38,at_,tornS (candS s at_) (pickAt ps (keysTo s at_).length)):RPut)]):=putsV_snoc FF ((g38,at_,tornS (candS s at_) (pickAt ps (keysTo s at_).length)):RPut)
    have hn9:FF.length+1=(FF++[((g38,at_,tornS (candS s at_) (pickAt ps (keysTo s at_).length)):RPut)]).length:=by rw [List.length_append];rfl
    rw [hv9,hn9] at S50
    exact ⟨(at_+1,v46,FF++[((g38,at_,tornS (candS s at_) (pickAt ps (keysTo s at_).length)):RPut)],(g38,tornS (candS s at_) (pickAt ps (keysTo s at_).length))::pool2),(jF_ (fun z_:Nat=>(fr ([pq g,.slice A n c,ud,ud,nI_ z_,v46,nI_ (at_+1),.slice A1 CC.length c1,pq g11,ud,pq g,pq g,po g 1,.slice A2 PP.length c2,iv (PP.length:Nat),tv,nI_ at_,pq g,pq g,pq g,sl gl 0 LL.length cl,iv (LL.length:Nat),tv,nI_ at_,nI_ (at_+1),pq g,nI_ at_,.slice A1 CC.length c1,.slice A1 CC.length c1,iv (CC.length:Nat),fv,.agg #[iv 0,iv 0,iv 0],.slice A n c,iv (n:Nat),fv]++jR J 35 7++[v,nI_ at_,.slice A1 CC.length c1,.agg #[iv ((pickAt ps (keysTo s at_).length).1),iv ((pickAt ps (keysTo s at_).length).2.1),iv ((pickAt ps (keysTo s at_).length).2.2)],sl g38 0 512 512,.agg #[nI_ at_,sl g38 0 512 512],sl g40 0 1 1,v46,nI_ ((keysTo s at_).length),nI_ ((keysTo s at_).length+1)]) 34)) (x:=(keysTo s at_).length+1) (y:=(keysTo s (at_+1)).length) (by rw [keys_in hp0,List.length_append];rfl) ⟨S50,⟨(by show at_+1≤LL.length;omega),by rw [outs_in hp0,List.map_append,hI6.2.1];rfl,hI6.2.2.1.more _,fun z hz=>(List.mem_append.1 hz).elim (fun h=>List.mem_cons_of_mem _ (hI6.2.2.2 z h)) (fun h=>by rw [List.mem_singleton] at h;subst h;exact List.mem_cons_self)⟩⟩),(by show LL.length-(at_+1)<LL.length-at_;omega)⟩
 ·have hFo:FF.map (·.2)=crashOuts s ps:=by rw [hI6.2.1,show at_=s.last.length by omega];rfl
  have hf2:=hI6.2.2.1
  have hFp:=hI6.2.2.2
  have hFl:FF.length≤2048:=by have:=congrArg List.length hI6.2.1;rw [List.length_map,List.length_mapIdx] at this;have:=keysTo_len s at_;omega
  have hFn:FF.length=(crashOuts s ps).length:=by rw [←hFo,List.length_map]
  have ho5:=hf2.outs5 ps
  have hFx:∀i,i<FF.length→∃x,FF[i]?=some x∧x.ref∈pool2∧(crashOuts s ps)[i]?=some x.2∧x.2.1<s.last.length:=fun i hi=>⟨FF[i],List.getElem?_eq_getElem hi,hFp _ (List.getElem_mem hi),by rw [←hFo,List.getElem?_map,List.getElem?_eq_getElem hi];rfl,(ho5 _ (by rw [←hFo];exact List.mem_map.2 ⟨_,List.getElem_mem hi,rfl⟩)).2⟩
  obtain ⟨A3,c3,rfl⟩:=St.vec_v S5 4 rfl
  refine wE (nCF (wp_exit (then_x (then_x (inb_x (nS (sR (pv (iv 0) (wE (then_n (wp_block (wp_loop_g (G:=Nat×List (Nat×List UInt8)) (fun (g_:Nat×List (Nat×List UInt8)) (a_:Act) (w_:World)=>∃J:Nat→Value,a_=(fr ([pq g,.slice A n c,ud,ud,nI_ ((keysTo s at_).length),.slice A3 FF.length c3,nI_ at_,J 7,J 8,nI_ g_.1,pq g,pq g,po g 1,.slice A2 PP.length c2,iv (PP.length:Nat),tv,nI_ at_,pq g,pq g,pq g,sl gl 0 LL.length cl,iv (LL.length:Nat),fv]++jR J 23 50) 13)∧St F w0 w_ (rR2 g gl LL.length cl (.slice A2 PP.length c2) s.left s.life s.rd s.wr s.fl s.rf 0::row gl ((g_.2.map PEnt.val++junk).toArray) 22::vec 102 2 (.slice A2 PP.length c2) PP.length (putsV PP)::stars (pool2.map PEnt.row)::vec 102 2 (.slice A3 FF.length c3) FF.length (putsV FF)::L)∧(g_.1≤FF.length∧g_.2.map (·.2)=applyP s.last ((crashOuts s ps).take g_.1)∧(∀x∈g_.2,x∈pool2))) (fun g_=>FF.length-g_.1) (0,LL) (jE_ ⟨S5,⟨Nat.zero_le _,(by rw [List.take_zero];exact hf2.last),hf2.lin⟩⟩) ?_))))))))))))
  rintro ⟨i,LL1⟩ a_ w51 ⟨J,rfl,S52,hI53⟩
  skip
  have S52:St F w0 w51 (rR2 g gl LL.length cl (.slice A2 PP.length c2) s.left s.life s.rd s.wr s.fl s.rf 0::row gl ((LL1.map PEnt.val++junk).toArray) 22::vec 102 2 (.slice A2 PP.length c2) PP.length (putsV PP)::stars (pool2.map PEnt.row)::vec 102 2 (.slice A3 FF.length c3) FF.length (putsV FF)::L):=S52
  have hI53:(i≤FF.length∧LL1.map (·.2)=applyP s.last ((crashOuts s ps).take i)∧(∀x∈LL1,x∈pool2)):=hI53
  refine wp_seq (sR (pv (nI_ i) (pv (.slice A3 FF.length c3) (pv (iv (FF.length:Nat)) (dC ((((i:Nat):Int):Int)<(FF.length:Nat)) (fun hb54=> ?_) fun hb54=> ?_)))))
  ·obtain ⟨x,hx,hxp,hxs,hxk⟩:=hFx i om_
   have hl1:=turn_len (LL:=LL) hI53.2.1
   obtain ⟨ad2,hAd2,hrd⟩:=(St.vec_rd S52 4 rfl) (by rw [length_putsV];omega)
   refine wE (nCT (wp_skip (nS (wp_block (wp_region_phu (γ:=Unit) 14 [] (fun (c_:Unit) (i_:Nat)=>(match i_ with|0=>pq g|1=>pq g|2=>pq g|3=>sl gl 0 LL.length cl|4=>.slice A3 FF.length c3|5=>nI_ i|6=>.pointer (some (ad2.add (i*2)))|7=>.pointer (some (ad2.add (i*2)))|8=>nI_ x.2.1|9=>.slice A3 FF.length c3|10=>nI_ i|11=>.pointer (some (ad2.add (i*2)))|12=>.pointer (some ((ad2.add (i*2)).add 1))|13=>sl x.1 0 512 512|_=>undef:Value)) (fun (c_:Unit) (p_:Nat) (w_:World)=>(match p_ with|_=>St F w0 w_ (rR2 g gl LL.length cl (.slice A2 PP.length c2) s.left s.life s.rd s.wr s.fl s.rf 0::row gl ((LL1.map PEnt.val++junk).toArray) 22::vec 102 2 (.slice A2 PP.length c2) PP.length (putsV PP)::stars (pool2.map PEnt.row)::vec 102 2 (.slice A3 FF.length c3) FF.length (putsV FF)::L):Prop)) () kr_ kr_ kr_ kr_ (S52.drew) ?_ ?_ ?_)))))
   ·intro i_ c_ p_ vals_ w1 hi_ hiE_ hp_ hk_ hu_ hPh_ hd_
    rcases i_ with _|_|_|_|_|_|_|_|_|_|_|_|_|_|i_
    ·exact tG_ rfl hd_ (gV (pq g) ⟨rfl,rfl⟩)
    ·exact tG_ rfl hd_ (gV (pq g) ⟨rfl,rfl⟩)
    ·exact tG_ rfl hd_ (gV (pq g) ⟨rfl,rfl⟩)
    ·have S58:=St.id hPh_
     exact tG_ rfl hd_ (gL (sl gl 0 LL.length cl) rfl (((S58.blk 0 rfl).cell 0).trans rfl) ⟨rfl,rfl⟩)
    ·exact tG_ rfl hd_ (gV (.slice A3 FF.length c3) ⟨rfl,rfl⟩)
    ·exact tG_ rfl hd_ (gV (nI_ i) ⟨rfl,rfl⟩)
    ·exact tG_ rfl hd_ (gv_ixB (e:=102) (sz:=2) (n:=FF.length) (c:=c3) (i:=((i:Nat):Int)) (k:=.i64) (ad:=ad2) (ad':=(ad2.add (i*2))) (j:=i) rfl kr_ kr_ (by rw [←hAd2];kernel_rfl) kr_ rfl om_ rfl ⟨rfl,rfl⟩)
    ·exact tG_ rfl hd_ (gV (.pointer (some (ad2.add (i*2)))) ⟨rfl,rfl⟩)
    ·have S63:=St.id hPh_
     exact tG_ rfl hd_ (gL (nI_ x.2.1) rfl (put_at (rdv_at (St.vec_rd S63 4 rfl) hAd2 (by rw [length_putsV];omega)) hx) ⟨rfl,rfl⟩)
    ·exact tG_ rfl hd_ (gV (.slice A3 FF.length c3) ⟨rfl,rfl⟩)
    ·exact tG_ rfl hd_ (gV (nI_ i) ⟨rfl,rfl⟩)
    ·exact tG_ rfl hd_ (gv_ixB (e:=102) (sz:=2) (n:=FF.length) (c:=c3) (i:=((i:Nat):Int)) (k:=.i64) (ad:=ad2) (ad':=(ad2.add (i*2))) (j:=i) rfl kr_ kr_ (by rw [←hAd2];kernel_rfl) kr_ rfl om_ rfl ⟨rfl,rfl⟩)
    ·exact tG_ rfl hd_ (gV (.pointer (some ((ad2.add (i*2)).add 1))) ⟨rfl,rfl⟩)
    ·have S68:=St.id hPh_
     exact tG_ rfl hd_ (gL (PEnt.val x.ref) rfl (put_data (rdv_at (St.vec_rd S68 4 rfl) hAd2 (by rw [length_putsV];omega)) hx) ⟨rfl,rfl⟩)
    ·exact absurd hi_ om_
   ·intro k_ c_ vals_ w1 hk_ hPh_ hd_
    exact absurd hk_ (Nat.not_lt_zero _)
   ·intro c_ w1 hPh_
    have S69:=St.id hPh_
    refine (g_ (gv_ixE (e:=22) (sz:=1) (g:=gl) (off:=0) (n:=LL.length) (c:=cl) (i:=((x.2.1:Nat):Int)) (k:=.i64) (j:=x.2.1) (off':=x.2.1) rfl kr_ kr_ kr_ kr_ rfl om_ om_ (g_ (gv_st (k:=x.2.1) (v:=PEnt.val x.ref) S69 1 rfl rfl kr_ kr_ kr_ rfl (ll_blt om_) (L':=(rR2 g gl LL.length cl (.slice A2 PP.length c2) s.left s.life s.rd s.wr s.fl s.rf 0::row gl (((LL1.set x.2.1 x.ref).map PEnt.val++junk).toArray) 22::vec 102 2 (.slice A2 PP.length c2) PP.length (putsV PP)::stars (pool2.map PEnt.row)::vec 102 2 (.slice A3 FF.length c3) FF.length (putsV FF)::L)) (by rw [ll_set om_];rfl) (fun w70 S71=> ?_)))))
    exact wE (inb_n (nR (pv (nI_ i) (gI .i64 (IntKind.i64.wrap (((i:Nat):Int)+1)) ((i+1:Nat):Int) (wr_eq om_ om_ om_) (pv (nI_ (i+1)) (wE (then_n ⟨(i+1,LL1.set x.2.1 x.ref),(jE_ ⟨S71,⟨by omega,(by rw [List.take_add_one,hxs];exact turn_one hI53.2.1),mem_set' hI53.2.2 hxp⟩⟩),(by show FF.length-(i+1)<FF.length-i;omega)⟩)))))))
  ·refine wE (nCF (wp_exit (then_x (then_x (inb_x (nSR (pv (pq g) (pv (pq g) (pv (po g 1) (sS S52 0 rfl 1 (nS_) fun w72 S73=>wER (pv (pq g) (pv (pq g) ?_))))))))))))
   refine pv (po g 2) (sS S73 0 rfl 2 (iv (-1)) fun w74 S75=>wE (nR (pv (pq g) (pv (pq g) (pv (po g 3) (lR (iv s.life) S75 0 3 (pv (iv (inc s.life)) (pv (pq g) (pv (po g 3) (sS S75 0 rfl 3 (iv (inc s.life)) fun w76 S77=>wE (bodyPost_end (v:=.tuple #[]) (results_none rfl _ _ _) rfl ?_)))))))))))
   have S78:St F w0 w76 (rR2 g gl LL.length cl (nS_) (-1) (inc s.life) s.rd s.wr s.fl s.rf 0::row gl ((LL1.map PEnt.val++junk).toArray) 22::stars (pool2.map PEnt.row)::L):=St.pm 5 [0,1,3] S77
   have htk:(crashOuts s ps).take i=crashOuts s ps:=List.take_of_length_le om_
   rw [htk] at hI53
   have hl1:LL.length=LL1.length:=by rw [turn_len (LL:=LL) hI53.2.1];exact hll
   rw [hl1] at S78
   have S9:=St.permT [_,_,_,_] [1,2,0,3] dc_ rfl (St.vec_nil (e:=102) (sz:=2) S78)
   exact ⟨rfl,St.rclose (gl:=gl) (cl:=cl) (c2:=0) (A2:=none) (junk:=junk) (LL:=LL1) (PP:=([]:List RPut)) (pool:=pool2) (s:=s.crashR ps) S9 (hf2.turned (s':=s.crashR ps) hI53.2.1 (fun x hx=>(ho5 x hx).1) hI53.2.2 rfl rfl (show (-1:Int)≤ -1∧(-1:Int)≤9223372036854775807 by decide)) (by rw [←hl1];exact hcl) (by rw [List.length_append,List.length_map,←hl1];rw [List.length_append,List.length_map] at hju;exact hju)⟩
theorem rd_write {at_:Int}{A:Option Addr}{d:List UInt8}{cd:Nat}{F:Nat→Prop}{w0 w:World}{L:List Ast}{g:Nat}{s:Dsk}(S:St F w0 w (RDisk g s::L))(hr:RoT F w0 L A d)(hdm:d.length≤9223372036854775807)(hpn':s.pend.length<4398046511104):Calls Tryz.prog 55 #[.pointer (some ⟨g,0,none⟩),.int .i64 at_,.slice A d.length cd] w fun e w'=>e=.returned (.int .i64 (s.writeR at_ d).2)∧St F w0 w' (RDisk g (s.writeR at_ d).1::L):=by
 obtain ⟨gl,cl,c2,A2,junk,LL,PP,pool,hf,hcl,hju,S⟩:=St.ropen S
 have hn2:=hf.n2
 have hll:=hf.ll
 have hpp:=hf.pp
 have hpn:=hf.pn
 by_cases hz:s.left=0
 ·have e:s.writeR at_ d=(s,3):=by unfold Dsk.writeR;rw [if_pos hz]
  rw [e]
  change St F w0 w (rR2 g gl LL.length cl (.slice A2 PP.length c2) s.left s.life s.rd s.wr s.fl s.rf 0::row gl ((LL.map PEnt.val++junk).toArray) 22::vec 102 2 (.slice A2 PP.length c2) PP.length (putsV PP)::stars (pool.map PEnt.row)::L) at S
  refine eN (fr [pq g,iv at_,.slice A d.length cd] 65) Tryz.func55 rfl (sR (pv (iv 0) (wE (nS (sR (pv (pq g) (pv (pq g) (pv (po g 2) (lR (iv s.left) S 0 2 (dE s.left 0 (fun _=>wE (nCT (sR ?_))) fun hd1=>False.elim (absurd hz hd1)))))))))))
  exact pv (iv 3) (wE (then_n (rR (bA (iv 3) ⟨rfl,St.rclose (gl:=gl) (cl:=cl) (c2:=c2) (A2:=A2) (junk:=junk) (LL:=LL) (PP:=PP) (pool:=pool) (s:=s) S (hf.upd rfl rfl hf.lb) hcl hju⟩))))
 by_cases ho:at_<0∨(s.last.length:Int)≤at_
 ·have e:s.writeR at_ d=({s with rf:=inc s.rf},11):=by unfold Dsk.writeR;rw [if_neg hz,if_pos ho]
  rw [e]
  change St F w0 w (rR2 g gl LL.length cl (.slice A2 PP.length c2) s.left s.life s.rd s.wr s.fl s.rf 0::row gl ((LL.map PEnt.val++junk).toArray) 22::vec 102 2 (.slice A2 PP.length c2) PP.length (putsV PP)::stars (pool.map PEnt.row)::L) at S
  refine eN (fr [pq g,iv at_,.slice A d.length cd] 65) Tryz.func55 rfl (sR (pv (iv 0) (wE (nS (sR (pv (pq g) (pv (pq g) (pv (po g 2) (lR (iv s.left) S 0 2 (dE s.left 0 (fun hd1=>False.elim (absurd hd1 hz)) fun _=>wE (nCF (wp_skip ?_))))))))))))
  refine nS (sR (pv (iv at_) (dC ((at_:Int)<0) (fun hb2=> ?_) fun hb2=> ?_)))
  ·refine pv tv (wN (wN (wN (wN (wN (wN (wN (pv tv (wE (nCT (sR (pv (pq g) (pv (pq g) ?_)))))))))))))
   exact pv (po g 4) (pv (po g 7) (lR (iv s.rf) S 0 7 (pv (iv (inc s.rf)) (pv (pq g) (pv (po g 4) (pv (po g 7) (sS S 0 rfl 7 (iv (inc s.rf)) fun w3 S4=>wER (pv (iv 11) (wE (then_n (rR (bA (iv 11) ⟨rfl,St.rclose (gl:=gl) (cl:=cl) (c2:=c2) (A2:=A2) (junk:=junk) (LL:=LL) (PP:=PP) (pool:=pool) (s:={s with rf:=inc s.rf}) S4 (hf.upd rfl rfl hf.lb) hcl hju⟩))))))))))))
  ·refine pv fv (pW (iv at_) (pW (pq g) (pW (pq g) (pW (pq g) (wl_when kr_ (gv_ldR (v:=sl gl 0 LL.length cl) rfl kr_ kr_ (((S.blk 0 rfl).cell 0).trans rfl) (pW (iv (LL.length:Nat)) (wl_when kr_ (gv_dec (p:=(at_:Int)≥(LL.length:Nat)) kr_ (fun _=>pv tv (wE (nCT (sR (pv (pq g) (pv (pq g) ?_)))))) (fun hd5=>False.elim om_))))))))))
   exact pv (po g 4) (pv (po g 7) (lR (iv s.rf) S 0 7 (pv (iv (inc s.rf)) (pv (pq g) (pv (po g 4) (pv (po g 7) (sS S 0 rfl 7 (iv (inc s.rf)) fun w6 S7=>wER (pv (iv 11) (wE (then_n (rR (bA (iv 11) ⟨rfl,St.rclose (gl:=gl) (cl:=cl) (c2:=c2) (A2:=A2) (junk:=junk) (LL:=LL) (PP:=PP) (pool:=pool) (s:={s with rf:=inc s.rf}) S7 (hf.upd rfl rfl hf.lb) hcl hju⟩))))))))))))
 obtain ⟨k,rfl⟩:∃k:Nat,at_=(k:Int):=⟨at_.toNat,by omega⟩
 have hk:k<s.last.length:=by omega
 by_cases hd5:d.length≠512
 ·have e:s.writeR (k:Int) d=({s with rf:=inc s.rf},2):=by unfold Dsk.writeR;rw [if_neg hz,if_neg ho,if_pos hd5]
  rw [e]
  change St F w0 w (rR2 g gl LL.length cl (.slice A2 PP.length c2) s.left s.life s.rd s.wr s.fl s.rf 0::row gl ((LL.map PEnt.val++junk).toArray) 22::vec 102 2 (.slice A2 PP.length c2) PP.length (putsV PP)::stars (pool.map PEnt.row)::L) at S
  refine eN (fr [pq g,nI_ k,.slice A d.length cd] 65) Tryz.func55 rfl (sR (pv (iv 0) (wE (nS (sR (pv (pq g) (pv (pq g) (pv (po g 2) (lR (iv s.left) S 0 2 (dE s.left 0 (fun hd1=>False.elim (absurd hd1 hz)) fun _=>wE (nCF (wp_skip ?_))))))))))))
  refine nS (sR (pv (nI_ k) (dC ((((k:Nat):Int):Int)<0) (fun hd2=>False.elim om_) fun _=>pv fv (pW (nI_ k) (pW (pq g) (pW (pq g) (pW (pq g) (wl_when kr_ (gv_ldR (v:=sl gl 0 LL.length cl) rfl kr_ kr_ (((S.blk 0 rfl).cell 0).trans rfl) (pW (iv (LL.length:Nat)) (wl_when kr_ (gv_dec (p:=(((k:Nat):Int):Int)≥(LL.length:Nat)) kr_ (fun hd3=>False.elim om_) (fun _=>pv fv (wE ?_))))))))))))))
  refine nCF (wp_skip (nS (sR (pv (.slice A d.length cd) (pv (iv (d.length:Nat)) (dN (d.length:Nat) 512 (fun _=>wE (nCT (sR (pv (pq g) (pv (pq g) (pv (po g 4) (pv (po g 7) ?_))))))) fun hd4=>False.elim om_))))))
  exact lR (iv s.rf) S 0 7 (pv (iv (inc s.rf)) (pv (pq g) (pv (po g 4) (pv (po g 7) (sS S 0 rfl 7 (iv (inc s.rf)) fun w5 S6=>wER (pv (iv 2) (wE (then_n (rR (bA (iv 2) ⟨rfl,St.rclose (gl:=gl) (cl:=cl) (c2:=c2) (A2:=A2) (junk:=junk) (LL:=LL) (PP:=PP) (pool:=pool) (s:={s with rf:=inc s.rf}) S6 (hf.upd rfl rfl hf.lb) hcl hju⟩))))))))))
 have hd:d.length=512:=by omega
 have e:s.writeR (k:Int) d=({s with pend:=s.pend++[(k,d)],wr:=inc s.wr,left:=spent s.left},0):=by unfold Dsk.writeR;rw [if_neg hz,if_neg ho,if_neg hd5,Int.toNat_natCast]
 rw [e]
 have hlb:=spent_lb hf.lb hz
 change St F w0 w (rR2 g gl LL.length cl (.slice A2 PP.length c2) s.left s.life s.rd s.wr s.fl s.rf 0::row gl ((LL.map PEnt.val++junk).toArray) 22::vec 102 2 (.slice A2 PP.length c2) PP.length (putsV PP)::stars (pool.map PEnt.row)::L) at S
 refine eN (fr [pq g,nI_ k,.slice A d.length cd] 65) Tryz.func55 rfl (sR (pv (iv 0) (wE (nS (sR (pv (pq g) (pv (pq g) (pv (po g 2) (lR (iv s.left) S 0 2 (dE s.left 0 (fun hd1=>False.elim (absurd hd1 hz)) fun _=>wE (nCF (wp_skip ?_))))))))))))
 refine nS (sR (pv (nI_ k) (dC ((((k:Nat):Int):Int)<0) (fun hd2=>False.elim om_) fun _=>pv fv (pW (nI_ k) (pW (pq g) (pW (pq g) (pW (pq g) (wl_when kr_ (gv_ldR (v:=sl gl 0 LL.length cl) rfl kr_ kr_ (((S.blk 0 rfl).cell 0).trans rfl) (pW (iv (LL.length:Nat)) (wl_when kr_ (gv_dec (p:=(((k:Nat):Int):Int)≥(LL.length:Nat)) kr_ (fun hd3=>False.elim om_) (fun _=>pv fv (wE ?_))))))))))))))
 refine nCF (wp_skip (nS (sR (pv (.slice A d.length cd) (pv (iv (d.length:Nat)) (dN (d.length:Nat) 512 (fun hd4=>False.elim om_) fun _=>wE (nCF (wp_skip (nS ?_)))))))))
 have S5:St F w0 w (vec 102 2 (.slice A2 PP.length c2) PP.length (putsV PP)::rR2 g gl LL.length cl (.slice A2 PP.length c2) s.left s.life s.rd s.wr s.fl s.rf 0::row gl ((LL.map PEnt.val++junk).toArray) 22::stars (pool.map PEnt.row)::L):=St.pm 4 [2,0,1,3] S
 refine wp_region_phu (γ:=Nat×Nat×Value) 14 [7,9,10,13] (fun (c_:Nat×Nat×Value) (i_:Nat)=>(match i_ with|0=>pq g|1=>pq g|2=>pq g|3=>po g 1|4=>.slice A2 PP.length c2|5=>nI_ k|6=>.slice A d.length cd|7=>sl c_.1 0 d.length d.length|8=>.agg #[nI_ k,sl c_.1 0 d.length d.length]|9=>sl c_.2.1 0 1 1|10=>c_.2.2|11=>pq g|12=>po g 1|13=>undef|_=>undef:Value)) (fun (c_:Nat×Nat×Value) (p_:Nat) (w_:World)=>(match p_ with|0=>St F w0 w_ (vec 102 2 (.slice A2 PP.length c2) PP.length (putsV PP)::rR2 g gl LL.length cl (.slice A2 PP.length c2) s.left s.life s.rd s.wr s.fl s.rf 0::row gl ((LL.map PEnt.val++junk).toArray) 22::stars (pool.map PEnt.row)::L)|1=>St F w0 w_ (row c_.1 (bvs d) 5::vec 102 2 (.slice A2 PP.length c2) PP.length (putsV PP)::rR2 g gl LL.length cl (.slice A2 PP.length c2) s.left s.life s.rd s.wr s.fl s.rf 0::row gl ((LL.map PEnt.val++junk).toArray) 22::stars (pool.map PEnt.row)::L)|2=>St F w0 w_ (row c_.2.1 #[nI_ k,sl c_.1 0 d.length d.length] 102::row c_.1 (bvs d) 5::vec 102 2 (.slice A2 PP.length c2) PP.length (putsV PP)::rR2 g gl LL.length cl (.slice A2 PP.length c2) s.left s.life s.rd s.wr s.fl s.rf 0::row gl ((LL.map PEnt.val++junk).toArray) 22::stars (pool.map PEnt.row)::L)|3=>St F w0 w_ (vec 102 2 c_.2.2 (PP.length+1) (putsV PP++[nI_ k,sl c_.1 0 d.length d.length])::row c_.2.1 #[nI_ k,sl c_.1 0 d.length d.length] 102::row c_.1 (bvs d) 5::rR2 g gl LL.length cl (.slice A2 PP.length c2) s.left s.life s.rd s.wr s.fl s.rf 0::row gl ((LL.map PEnt.val++junk).toArray) 22::stars (pool.map PEnt.row)::L)|_=>St F w0 w_ (vec 102 2 c_.2.2 (PP.length+1) (putsV PP++[nI_ k,sl c_.1 0 d.length d.length])::row c_.2.1 #[nI_ k,sl c_.1 0 d.length d.length] 102::row c_.1 (bvs d) 5::rR2 g gl LL.length cl c_.2.2 s.left s.life s.rd s.wr s.fl s.rf 0::row gl ((LL.map PEnt.val++junk).toArray) 22::stars (pool.map PEnt.row)::L):Prop)) (0,0,undef) kr_ kr_ kr_ kr_ (S5.drew) ?_ ?_ ?_
 ·intro i_ c_ p_ vals_ w1 hi_ hiE_ hp_ hk_ hu_ hPh_ hd_
  rcases i_ with _|_|_|_|_|_|_|_|_|_|_|_|_|_|i_
  ·exact tG_ rfl hd_ (gV (pq g) ⟨rfl,rfl⟩)
  ·exact tG_ rfl hd_ (gV (pq g) ⟨rfl,rfl⟩)
  ·exact tG_ rfl hd_ (gV (pq g) ⟨rfl,rfl⟩)
  ·exact tG_ rfl hd_ (gV (po g 1) ⟨rfl,rfl⟩)
  ·rcases p_ with _|_|_|_|_|p_
   ·have S10:=St.id hPh_
    exact tG_ rfl hd_ (gL (.slice A2 PP.length c2) rfl (((S10.blk 1 rfl).cell 1).trans rfl) ⟨rfl,rfl⟩)
   ·have S11:=St.id hPh_
    exact tG_ rfl hd_ (gL (.slice A2 PP.length c2) rfl (((S11.blk 2 rfl).cell 1).trans rfl) ⟨rfl,rfl⟩)
   ·have S12:=St.id hPh_
    exact tG_ rfl hd_ (gL (.slice A2 PP.length c2) rfl (((S12.blk 3 rfl).cell 1).trans rfl) ⟨rfl,rfl⟩)
   ·exact absurd (hu_ 2 dc_ kr_) dc_
   ·exact absurd (hu_ 2 dc_ kr_) dc_
   ·exact absurd hp_ (by simp)
  ·exact tG_ rfl hd_ (gV (nI_ k) ⟨rfl,rfl⟩)
  ·exact tG_ rfl hd_ (gV (.slice A d.length cd) ⟨rfl,rfl⟩)
  ·exact absurd hiE_ dc_
  ·exact tG_ rfl hd_ (gV (.agg #[nI_ k,sl c_.1 0 d.length d.length]) ⟨rfl,rfl⟩)
  ·exact absurd hiE_ dc_
  ·exact absurd hiE_ dc_
  ·exact tG_ rfl hd_ (gV (pq g) ⟨rfl,rfl⟩)
  ·exact tG_ rfl hd_ (gV (po g 1) ⟨rfl,rfl⟩)
  ·exact absurd hiE_ dc_
  ·exact absurd hi_ om_
 ·intro k_ c_ vals_ w1 hk_ hPh_ hd_
  rcases k_ with _|_|_|_|k_
  ·have S18:=St.id hPh_
   refine tG_ rfl hd_ (gv_call (args:=#[.slice A d.length cd]) rfl Tryz.func84 kr_ rfl rfl kr_ (Calls.mono (rtwinS (l:=d) S18 (RoT.more (RoT.more (RoT.more (RoT.more hr)))) rfl om_) ?_))
   rintro _ w20 ⟨g19,rfl,S21⟩
   refine ⟨_,rfl,⟨(g19,c_.2.1,c_.2.2),rfl, ?_,S21⟩⟩
   intro i_ hi_ hne_ hdp_
   rcases i_ with _|_|_|_|_|_|_|_|_|_|_|_|_|_|i_
   ·rfl
   ·rfl
   ·rfl
   ·rfl
   ·rfl
   ·rfl
   ·rfl
   ·exact absurd rfl hne_
   ·exact dN_ hdp_
   ·exact dN_ hdp_
   ·exact dN_ hdp_
   ·exact dN_ hdp_
   ·exact dN_ hdp_
   ·exact dN_ hdp_
   ·exact absurd hi_ om_
  ·have S22:=St.id hPh_
   refine tG_ rfl hd_ (gv_slit (e:=102) (sz:=2) (z:=.agg #[iv 0,nS_]) (by_:=32) (vs:=#[(0,.agg #[nI_ k,sl c_.1 0 d.length d.length])]) (cells:=#[nI_ k,sl c_.1 0 d.length d.length]) S22 rfl kr_ ⟨by kernel_rfl⟩ kr_ kr_ kr_ kr_ (fun g23 w24 hg25 S26=>⟨(c_.1,g23,c_.2.2),rfl, ?_,S26⟩))
   intro i_ hi_ hne_ hdp_
   rcases i_ with _|_|_|_|_|_|_|_|_|_|_|_|_|_|i_
   ·rfl
   ·rfl
   ·rfl
   ·rfl
   ·rfl
   ·rfl
   ·rfl
   ·rfl
   ·rfl
   ·exact absurd rfl hne_
   ·exact dN_ hdp_
   ·exact dN_ hdp_
   ·exact dN_ hdp_
   ·exact dN_ hdp_
   ·exact absurd hi_ om_
  ·have S27:=St.id hPh_
   have S28:=St.pm 6 [0,2,1,3,4,5] S27
   refine tG_ rfl hd_ (gv_append (e:=102) (sz:=2) (n:=PP.length) (v:=(.slice A2 PP.length c2)) (vals:=(putsV PP)) (z:=.agg #[iv 0,nS_]) (by_:=32) (m:=1) (c':=1) (ad:=⟨c_.2.1,0,none⟩) (news:=[nI_ k,sl c_.1 0 d.length d.length]) (St.swap S28) rfl kr_ ⟨by kernel_rfl⟩ rfl kr_ kr_ dc_ rfl (row_news (S28.blk 0 rfl)) (by intro u hu;simp at hu;rcases hu with rfl|rfl<;>rfl) om_ om_ (fun v30 w29 S31=>⟨(c_.1,c_.2.1,v30),rfl, ?_,S31⟩))
   intro i_ hi_ hne_ hdp_
   rcases i_ with _|_|_|_|_|_|_|_|_|_|_|_|_|_|i_
   ·rfl
   ·rfl
   ·rfl
   ·rfl
   ·rfl
   ·rfl
   ·rfl
   ·rfl
   ·rfl
   ·rfl
   ·exact absurd rfl hne_
   ·exact dN_ hdp_
   ·exact dN_ hdp_
   ·exact dN_ hdp_
   ·exact absurd hi_ om_
  ·have S32:=St.id hPh_
   refine tG_ rfl hd_ (gv_st (k:=1) (v:=c_.2.2) S32 3 rfl rfl kr_ kr_ kr_ (St.vec_one S32 0 rfl) rfl (L':=(vec 102 2 c_.2.2 (PP.length+1) (putsV PP++[nI_ k,sl c_.1 0 d.length d.length])::row c_.2.1 #[nI_ k,sl c_.1 0 d.length d.length] 102::row c_.1 (bvs d) 5::rR2 g gl LL.length cl c_.2.2 s.left s.life s.rd s.wr s.fl s.rf 0::row gl ((LL.map PEnt.val++junk).toArray) 22::stars (pool.map PEnt.row)::L)) rfl (fun w33 S34=>⟨(c_.1,c_.2.1,c_.2.2),rfl, ?_,S34⟩))
   intro i_ hi_ hne_ hdp_
   rcases i_ with _|_|_|_|_|_|_|_|_|_|_|_|_|_|i_
   ·rfl
   ·rfl
   ·rfl
   ·rfl
   ·rfl
   ·rfl
   ·rfl
   ·rfl
   ·rfl
   ·rfl
   ·rfl
   ·rfl
   ·rfl
   ·exact absurd rfl hne_
   ·exact absurd hi_ om_
  ·exact absurd hk_ (by simp)
 ·intro c_ w1 hPh_
  have S35:=St.id hPh_
  refine (wE (nSR (pv (pq g) (pv (pq g) (pv (po g 4) (pv (po g 5) (lR (iv s.wr) S35 3 5 (pv (iv (inc s.wr)) (pv (pq g) (pv (po g 4) (pv (po g 5) (sS S35 3 rfl 5 (iv (inc s.wr)) fun w36 S37=>wER ?_))))))))))))
  refine pv (pq g) (g_ (gv_call (args:=#[pq g]) rfl Tryz.func89 kr_ rfl rfl kr_ ?_))
  obtain ⟨A3,c3,e3⟩:=St.vec_v S37 0 rfl
  have S38:St F w0 w36 (row c_.1 (bvs d) 5::stars (pool.map PEnt.row)::rR2 g gl LL.length cl c_.2.2 s.left s.life s.rd (inc s.wr) s.fl s.rf 0::row gl ((LL.map PEnt.val++junk).toArray) 22::vec 102 2 c_.2.2 (PP.length+1) (putsV PP++[nI_ k,sl c_.1 0 d.length d.length])::L):=St.pm 6 [2,5,3,4,0] S37
  have S39:St F w0 w36 (stars (((c_.1,d)::pool).map PEnt.row)::rR2 g gl LL.length cl c_.2.2 s.left s.life s.rd (inc s.wr) s.fl s.rf 0::row gl ((LL.map PEnt.val++junk).toArray) 22::vec 102 2 c_.2.2 (PP.length+1) (putsV PP++[nI_ k,sl c_.1 0 d.length d.length])::L):=St.pool_add S38
  have S40:St F w0 w36 (rR2 g gl LL.length cl c_.2.2 s.left s.life s.rd (inc s.wr) s.fl s.rf 0::row gl ((LL.map PEnt.val++junk).toArray) 22::vec 102 2 c_.2.2 (PP.length+1) (putsV PP++[nI_ k,sl c_.1 0 d.length d.length])::stars (((c_.1,d)::pool).map PEnt.row)::L):=St.pm 4 [1,2,3,0] S39
  rw [e3,hd,show PP.length+1=(PP++[((c_.1,k,d):RPut)]).length from by rw [List.length_append];rfl] at S40
  change St F w0 w36 (row g (rcells gl LL.length cl A3 (PP++[((c_.1,k,d):RPut)]).length c3 s.left s.life s.rd (inc s.wr) s.fl s.rf) 81::row gl (LL.map PEnt.val++junk).toArray 22::vec 102 2 (.slice A3 (PP++[((c_.1,k,d):RPut)]).length c3) (PP++[((c_.1,k,d):RPut)]).length (putsV PP++putCells (c_.1,k,d))::stars (((c_.1,d)::pool).map PEnt.row)::L) at S40
  rw [putsV_snoc] at S40
  refine Calls.mono (rspent S40 hz hf.lb.1 hf.lb.2) ?_
  rintro _ w41 ⟨rfl,S42⟩
  exact ⟨_,rfl,(wER (pv (iv 0) (wE (then_n (wp_ret (bA (iv 0) ⟨rfl,St.rclose (gl:=gl) (cl:=cl) (c2:=c3) (A2:=A3) (junk:=junk) (LL:=LL) (PP:=(PP++[((c_.1,k,d):RPut)])) (pool:=((c_.1,d)::pool)) (s:={s with pend:=s.pend++[(k,d)],wr:=inc s.wr,left:=spent s.left}) S42 (hf.put rfl rfl hlb hk hd hpn') hcl hju⟩))))))⟩
theorem rd_flush {F:Nat→Prop}{w0 w:World}{L:List Ast}{g:Nat}{s:Dsk}(S:St F w0 w (RDisk g s::L)):Calls Tryz.prog 57 #[.pointer (some ⟨g,0,none⟩)] w fun e w'=>e=.returned (.int .i64 s.flushR.2)∧St F w0 w' (RDisk g s.flushR.1::L):=by
 obtain ⟨gl,cl,c2,A2,junk,LL,PP,pool,hf,hcl,hju,S⟩:=St.ropen S
 have hn2:=hf.n2
 have hll:=hf.ll
 have hpp:=hf.pp
 have hpn:=hf.pn
 by_cases hz:s.left=0
 ·have e:s.flushR=(s,3):=by unfold Dsk.flushR;rw [if_pos hz]
  rw [e]
  change St F w0 w (rR2 g gl LL.length cl (.slice A2 PP.length c2) s.left s.life s.rd s.wr s.fl s.rf 0::row gl ((LL.map PEnt.val++junk).toArray) 22::vec 102 2 (.slice A2 PP.length c2) PP.length (putsV PP)::stars (pool.map PEnt.row)::L) at S
  refine eN (fr [pq g] 52) Tryz.func57 rfl (sR (pv (iv 0) (wE (nS (sR (pv (pq g) (pv (pq g) (pv (po g 2) (lR (iv s.left) S 0 2 (dE s.left 0 (fun _=>wE (nCT (sR ?_))) fun hd1=>False.elim (absurd hz hd1)))))))))))
  exact pv (iv 3) (wE (then_n (rR (bA (iv 3) ⟨rfl,St.rclose (gl:=gl) (cl:=cl) (c2:=c2) (A2:=A2) (junk:=junk) (LL:=LL) (PP:=PP) (pool:=pool) (s:=s) S (hf.upd rfl rfl hf.lb) hcl hju⟩))))
 have e:s.flushR=({s with last:=applyP s.last s.pend,pend:=[],fl:=inc s.fl,left:=spent s.left},0):=by unfold Dsk.flushR;rw [if_neg hz]
 rw [e]
 have hlb:=spent_lb hf.lb hz
 change St F w0 w (rR2 g gl LL.length cl (.slice A2 PP.length c2) s.left s.life s.rd s.wr s.fl s.rf 0::row gl ((LL.map PEnt.val++junk).toArray) 22::vec 102 2 (.slice A2 PP.length c2) PP.length (putsV PP)::stars (pool.map PEnt.row)::L) at S
 refine eN (fr [pq g] 52) Tryz.func57 rfl (sR (pv (iv 0) (wE (nS (sR (pv (pq g) (pv (pq g) (pv (po g 2) (lR (iv s.left) S 0 2 (dE s.left 0 (fun hd1=>False.elim (absurd hd1 hz)) fun _=>wE (nCF (wp_skip ?_))))))))))))
 refine nS (sR (pv (iv 0) (wE (then_n (wp_block (wp_loop_g (G:=Nat×List (Nat×List UInt8)) (fun (g_:Nat×List (Nat×List UInt8)) (a_:Act) (w_:World)=>∃J:Nat→Value,a_=(fr ([pq g,ud,iv 0,nI_ g_.1,pq g,pq g,po g 2,iv s.left,fv]++jR J 9 30) 14)∧St F w0 w_ (rR2 g gl LL.length cl (.slice A2 PP.length c2) s.left s.life s.rd s.wr s.fl s.rf 0::row gl ((g_.2.map PEnt.val++junk).toArray) 22::vec 102 2 (.slice A2 PP.length c2) PP.length (putsV PP)::stars (pool.map PEnt.row)::L)∧(g_.1≤PP.length∧g_.2.map (·.2)=applyP s.last (s.pend.take g_.1)∧(∀x∈g_.2,x∈pool))) (fun g_=>PP.length-g_.1) (0,LL) (jE_ ⟨S,⟨Nat.zero_le _,(by rw [List.take_zero];exact hf.last),hf.lin⟩⟩) ?_))))))
 rintro ⟨i,LL1⟩ a_ w2 ⟨J,rfl,S3,hI4⟩
 skip
 have S3:St F w0 w2 (rR2 g gl LL.length cl (.slice A2 PP.length c2) s.left s.life s.rd s.wr s.fl s.rf 0::row gl ((LL1.map PEnt.val++junk).toArray) 22::vec 102 2 (.slice A2 PP.length c2) PP.length (putsV PP)::stars (pool.map PEnt.row)::L):=S3
 have hI4:(i≤PP.length∧LL1.map (·.2)=applyP s.last (s.pend.take i)∧(∀x∈LL1,x∈pool)):=hI4
 refine wp_seq (sR (pv (nI_ i) (pv (pq g) (pv (pq g) (pv (po g 1) (lR (.slice A2 PP.length c2) S3 0 1 (pv (iv (PP.length:Nat)) (dC ((((i:Nat):Int):Int)<(PP.length:Nat)) (fun hb5=> ?_) fun hb5=> ?_))))))))
 ·obtain ⟨x,hx,hxp,hxs,hx5,hxk⟩:=hf.pat (i:=i) om_
  have hl1:=turn_len (LL:=LL) hI4.2.1
  obtain ⟨ad2,hAd2,hrd⟩:=(St.vec_rd S3 2 rfl) (by rw [length_putsV];omega)
  refine wE (nCT (wp_skip (nS (wp_block (wp_region_phu (γ:=Unit) 20 [] (fun (c_:Unit) (i_:Nat)=>(match i_ with|0=>pq g|1=>pq g|2=>pq g|3=>sl gl 0 LL.length cl|4=>pq g|5=>pq g|6=>po g 1|7=>.slice A2 PP.length c2|8=>nI_ i|9=>.pointer (some (ad2.add (i*2)))|10=>.pointer (some (ad2.add (i*2)))|11=>nI_ x.2.1|12=>pq g|13=>pq g|14=>po g 1|15=>.slice A2 PP.length c2|16=>nI_ i|17=>.pointer (some (ad2.add (i*2)))|18=>.pointer (some ((ad2.add (i*2)).add 1))|19=>sl x.1 0 512 512|_=>undef:Value)) (fun (c_:Unit) (p_:Nat) (w_:World)=>(match p_ with|_=>St F w0 w_ (rR2 g gl LL.length cl (.slice A2 PP.length c2) s.left s.life s.rd s.wr s.fl s.rf 0::row gl ((LL1.map PEnt.val++junk).toArray) 22::vec 102 2 (.slice A2 PP.length c2) PP.length (putsV PP)::stars (pool.map PEnt.row)::L):Prop)) () kr_ kr_ kr_ kr_ (S3.drew) ?_ ?_ ?_)))))
  ·intro i_ c_ p_ vals_ w1 hi_ hiE_ hp_ hk_ hu_ hPh_ hd_
   rcases i_ with _|_|_|_|_|_|_|_|_|_|_|_|_|_|_|_|_|_|_|_|i_
   ·exact tG_ rfl hd_ (gV (pq g) ⟨rfl,rfl⟩)
   ·exact tG_ rfl hd_ (gV (pq g) ⟨rfl,rfl⟩)
   ·exact tG_ rfl hd_ (gV (pq g) ⟨rfl,rfl⟩)
   ·have S9:=St.id hPh_
    exact tG_ rfl hd_ (gL (sl gl 0 LL.length cl) rfl (((S9.blk 0 rfl).cell 0).trans rfl) ⟨rfl,rfl⟩)
   ·exact tG_ rfl hd_ (gV (pq g) ⟨rfl,rfl⟩)
   ·exact tG_ rfl hd_ (gV (pq g) ⟨rfl,rfl⟩)
   ·exact tG_ rfl hd_ (gV (po g 1) ⟨rfl,rfl⟩)
   ·have S13:=St.id hPh_
    exact tG_ rfl hd_ (gL (.slice A2 PP.length c2) rfl (((S13.blk 0 rfl).cell 1).trans rfl) ⟨rfl,rfl⟩)
   ·exact tG_ rfl hd_ (gV (nI_ i) ⟨rfl,rfl⟩)
   ·exact tG_ rfl hd_ (gv_ixB (e:=102) (sz:=2) (n:=PP.length) (c:=c2) (i:=((i:Nat):Int)) (k:=.i64) (ad:=ad2) (ad':=(ad2.add (i*2))) (j:=i) rfl kr_ kr_ (by rw [←hAd2];kernel_rfl) kr_ rfl om_ rfl ⟨rfl,rfl⟩)
   ·exact tG_ rfl hd_ (gV (.pointer (some (ad2.add (i*2)))) ⟨rfl,rfl⟩)
   ·have S17:=St.id hPh_
    exact tG_ rfl hd_ (gL (nI_ x.2.1) rfl (put_at (rdv_at (St.vec_rd S17 2 rfl) hAd2 (by rw [length_putsV];omega)) hx) ⟨rfl,rfl⟩)
   ·exact tG_ rfl hd_ (gV (pq g) ⟨rfl,rfl⟩)
   ·exact tG_ rfl hd_ (gV (pq g) ⟨rfl,rfl⟩)
   ·exact tG_ rfl hd_ (gV (po g 1) ⟨rfl,rfl⟩)
   ·have S21:=St.id hPh_
    exact tG_ rfl hd_ (gL (.slice A2 PP.length c2) rfl (((S21.blk 0 rfl).cell 1).trans rfl) ⟨rfl,rfl⟩)
   ·exact tG_ rfl hd_ (gV (nI_ i) ⟨rfl,rfl⟩)
   ·exact tG_ rfl hd_ (gv_ixB (e:=102) (sz:=2) (n:=PP.length) (c:=c2) (i:=((i:Nat):Int)) (k:=.i64) (ad:=ad2) (ad':=(ad2.add (i*2))) (j:=i) rfl kr_ kr_ (by rw [←hAd2];kernel_rfl) kr_ rfl om_ rfl ⟨rfl,rfl⟩)
   ·exact tG_ rfl hd_ (gV (.pointer (some ((ad2.add (i*2)).add 1))) ⟨rfl,rfl⟩)
   ·have S25:=St.id hPh_
    exact tG_ rfl hd_ (gL (PEnt.val x.ref) rfl (put_data (rdv_at (St.vec_rd S25 2 rfl) hAd2 (by rw [length_putsV];omega)) hx) ⟨rfl,rfl⟩)
   ·exact absurd hi_ om_
  ·intro k_ c_ vals_ w1 hk_ hPh_ hd_
   exact absurd hk_ (Nat.not_lt_zero _)
  ·intro c_ w1 hPh_
   have S26:=St.id hPh_
   refine (g_ (gv_ixE (e:=22) (sz:=1) (g:=gl) (off:=0) (n:=LL.length) (c:=cl) (i:=((x.2.1:Nat):Int)) (k:=.i64) (j:=x.2.1) (off':=x.2.1) rfl kr_ kr_ kr_ kr_ rfl om_ om_ (g_ (gv_st (k:=x.2.1) (v:=PEnt.val x.ref) S26 1 rfl rfl kr_ kr_ kr_ rfl (ll_blt om_) (L':=(rR2 g gl LL.length cl (.slice A2 PP.length c2) s.left s.life s.rd s.wr s.fl s.rf 0::row gl (((LL1.set x.2.1 x.ref).map PEnt.val++junk).toArray) 22::vec 102 2 (.slice A2 PP.length c2) PP.length (putsV PP)::stars (pool.map PEnt.row)::L)) (by rw [ll_set om_];rfl) (fun w27 S28=>wE ?_)))))
   exact inb_n (nR (pv (nI_ i) (gI .i64 (IntKind.i64.wrap (((i:Nat):Int)+1)) ((i+1:Nat):Int) (wr_eq om_ om_ om_) (pv (nI_ (i+1)) (wE (then_n ⟨(i+1,LL1.set x.2.1 x.ref),(jE_ ⟨S28,⟨by omega,(by rw [List.take_add_one,hxs];exact turn_one hI4.2.1),mem_set' hI4.2.2 hxp⟩⟩),(by show PP.length-(i+1)<PP.length-i;omega)⟩))))))
 ·refine wE (nCF (wp_exit (then_x (then_x (inb_x (nSR (pv (pq g) (pv (pq g) (pv (po g 1) (sS S3 0 rfl 1 (nS_) fun w29 S30=>wER (pv (pq g) (pv (pq g) ?_))))))))))))
  refine pv (po g 4) (pv (po g 6) (lR (iv s.fl) S30 0 6 (pv (iv (inc s.fl)) (pv (pq g) (pv (po g 4) (pv (po g 6) (sS S30 0 rfl 6 (iv (inc s.fl)) fun w31 S32=>wER (pv (pq g) (g_ (gv_call (args:=#[pq g]) rfl Tryz.func89 kr_ rfl rfl kr_ ?_))))))))))
  have S33:St F w0 w31 (rR2 g gl LL.length cl (nS_) s.left s.life s.rd s.wr (inc s.fl) s.rf 0::row gl ((LL1.map PEnt.val++junk).toArray) 22::stars (pool.map PEnt.row)::L):=St.pm 4 [0,1,3] S32
  have hiP:i=PP.length:=by omega
  have htk:s.pend.take i=s.pend:=List.take_of_length_le om_
  rw [htk] at hI4
  have hl1:LL.length=LL1.length:=by rw [turn_len (LL:=LL) hI4.2.1];exact hll
  rw [hl1] at S33
  refine Calls.mono (rspent (np:=0) (c2:=0) (A2:=none) S33 hz hf.lb.1 hf.lb.2) ?_
  rintro _ w34 ⟨rfl,S35⟩
  refine ⟨_,rfl,(wER (pv (iv 0) (wE (then_n (wp_ret (bA (iv 0) ?_))))))⟩
  have S9:=St.permT [_,_,_,_] [1,2,0,3] dc_ rfl (St.vec_nil (e:=102) (sz:=2) S35)
  exact ⟨rfl,St.rclose (gl:=gl) (cl:=cl) (c2:=0) (A2:=none) (junk:=junk) (LL:=LL1) (PP:=([]:List RPut)) (pool:=pool) (s:={s with last:=applyP s.last s.pend,pend:=[],fl:=inc s.fl,left:=spent s.left}) S9 (hf.turned hI4.2.1 (fun x hx=>(hf.plen x hx).1) hI4.2.2 rfl rfl hlb) (by rw [←hl1];exact hcl) (by rw [List.length_append,List.length_map,←hl1];rw [List.length_append,List.length_map] at hju;exact hju)⟩
section
variable {F:Nat→Prop} {w0 w:World} {L:List Ast}
def Dsk.mk0 (l:List (List UInt8)):Dsk:={last:=l,pend:=[],left:= -1,life:=1,rd:=0,wr:=0,fl:=0,rf:=0}
def zsec:List UInt8:=List.replicate 512 0
theorem zflat (m:Nat):(List.replicate m zsec).flatten=List.replicate (512*m) 0:=by
 unfold zsec;rw [List.flatten_replicate_replicate,Nat.mul_comm]
theorem PFacts.mk0 {l:List (List UInt8)}{left:Int}(h:∀x∈l,x.length=512)(h1:1≤l.length)(h2:l.length≤2048):PFacts (Dsk.mk0 l) 0 [] false left:=
 ⟨fun p hp=>(by cases hp),List.nodup_nil,List.nodup_nil,fun p hp=>(by cases hp),fun x hx=>(by cases hx),fun p hp=>(by cases hp),h,fun x hx=>(by cases hx),h1,h2,rfl,fun h=>absurd (show (0:Int)≤ -1 from h) dc_,show (-1:Int)≤ -1∧(-1:Int)≤9223372036854775807 by decide,Nat.zero_le _⟩
def secs (l:List UInt8):Nat→List (List UInt8)
 |0=>[]
 |n+1=>l.take 512::secs (l.drop 512) n
theorem length_secs:∀(n:Nat) (l:List UInt8),(secs l n).length=n
 |0,_=>rfl
 |n+1,l=>by simp [secs,length_secs n]
theorem secs_len:∀(n:Nat) (l:List UInt8),l.length=512*n→∀x∈secs l n,x.length=512
 |0,_,_,x,hx=>by cases hx
 |n+1,l,h,x,hx=>by
  rcases List.mem_cons.1 hx with rfl|hx
  ·rw [List.length_take];omega
  ·exact secs_len n (l.drop 512) (by rw [List.length_drop];omega) x hx
theorem secs_flat:∀(n:Nat) (l:List UInt8),l.length=512*n→(secs l n).flatten=l
 |0,l,h=>by (have:l=[]:=List.eq_nil_of_length_eq_zero om_);subst this;rfl
 |n+1,l,h=>by rw [secs,List.flatten_cons,secs_flat n (l.drop 512) (by rw [List.length_drop];omega),List.take_append_drop]
theorem pd_new_bad {n:Int}(hn:n<1∨2048<n)(S:St F w0 w L):Calls Tryz.prog 48 #[.int .i64 n] w fun e w'=>e=.returned (.tuple #[.pointer none,.int .i64 10])∧St F w0 w' L:=by
 refine eN (fr [iv n] 15) Tryz.func48 rfl (sR (pv pn (pv (iv 0) (wE (nS (sR (pv (iv n) (dC ((n:Int)<1) (fun hb1=> ?_) fun hb1=> ?_))))))))
 ·exact pv tv (wN (wN (pv tv (wE (nCT (sR (pv pn (pv (iv 10) (wE (then_n (rR (bB pn (iv 10) ⟨rfl,S⟩))))))))))))
 ·exact pv fv (pW (iv n) (wl_when kr_ (gv_dec (p:=(n:Int)>2048) kr_ (fun _=>pv tv (wE (nCT (sR (pv pn (pv (iv 10) (wE (then_n (rR (bB pn (iv 10) ⟨rfl,S⟩)))))))))) (fun hd2=>False.elim om_))))
theorem pd_new {m:Nat}(h1:1≤m)(h2:m≤2048)(S:St F w0 w L):Calls Tryz.prog 48 #[.int .i64 ((m:Nat):Int)] w fun e w'=>∃g,e=.returned (.tuple #[.pointer (some ⟨g,0,none⟩),.int .i64 0])∧St F w0 w' (PDisk g (Dsk.mk0 (List.replicate m zsec))::L):=by
 refine eN (fr [nI_ m] 15) Tryz.func48 rfl (sR (pv pn (pv (iv 0) (wE (nS (sR (pv (nI_ m) (dC ((((m:Nat):Int):Int)<1) (fun hd1=>False.elim om_) fun _=>pv fv (pW (nI_ m) (wl_when kr_ (gv_dec (p:=(((m:Nat):Int):Int)>2048) kr_ (fun hd2=>False.elim om_) (fun _=>pv fv (wE ?_)))))))))))))
 refine nCF (wp_skip (nSR (pv (nI_ m) (gI .i64 (IntKind.i64.wrap (((m:Nat):Int)*512)) ((512*m:Nat):Int) wq_ (g_ (gv_make (e:=5) (u:=((512*m:Nat):Int)) (v:=((512*m:Nat):Int)) (z:=.int .u8 0) (sz:=1) (by_:=1) (n:=(512*m)) (c:=(512*m)) (cs:=(bvs (List.replicate (512*m) 0))) S rfl kr_ ⟨by kernel_rfl⟩ kr_ kr_ rfl rfl (Nat.le_refl _) om_ om_ (mk_bytes _) (fun g3 w4 hg5 S6=>g_ (gv_map S6 rfl (fun g7 w8 hg9 S10=>pv (.agg #[sl g3 0 (512*m) (512*m),.map (some g7),fv,iv 0,iv 1,iv 0,iv 0,iv 0,iv 0,iv 0]) (nB rfl (.agg #[sl g3 0 (512*m) (512*m),.map (some g7),.bool false,iv 0,iv 1,iv 0,iv 0,iv 0,iv 0,iv 0]) S10 fun g11 w12 hg13 S14=>pv (pq g11) (pv (iv 0) (wE (then_n (wp_ret ?_))))))))))))))
 refine bB (pq g11) (iv 0) ?_
 have S15:St F w0 w12 (dR g11 g3 (512*m) g7 false 0 1 0 0 0 0 0::row g3 (bvs (List.replicate (512*m) 0)) 5::pt g7 (mapO [] 0)::L):=St.pm 3 [0,2,1] S14
 have S9:=St.rot (LA:=[_,_,_]) (St.star_nil S15)
 rw [←zflat] at S9
 have hl:(List.replicate m zsec).length=m:=List.length_replicate
 refine ⟨g11,rfl,St.pclose (gd:=g3) (gm:=g7) (clock:=0) (es:=[]) (fused:=false) (left:=0) (s:=Dsk.mk0 (List.replicate m zsec)) ?_ (PFacts.mk0 (fun x hx=>by rw [List.eq_of_mem_replicate hx];rfl) (by rw [hl];exact h1) (by rw [hl];exact h2))⟩
 unfold pdParts
 show St F w0 _ (row _ (dcells _ (512*(List.replicate m zsec).length) (512*(List.replicate m zsec).length) _ _ _ _ _ _ _ _ _) _::_)
 rw [hl];exact S9
theorem pd_load_odd (S:St F w0 w L){A:Option Addr}{l:List UInt8}{ca:Nat}(hr:RoT F w0 L A l)(hlm:l.length≤140737488355328)(ho:l.length%512≠0):Calls Tryz.prog 45 #[.slice A l.length ca] w fun e w'=>e=.returned (.tuple #[.pointer none,.int .i64 2])∧St F w0 w' L:=by
 refine eN (fr [.slice A l.length ca] 26) Tryz.func45 rfl (sR (pv pn (pv (iv 0) (wE (nS (sR (pv (.slice A l.length ca) (pv (iv (l.length:Nat)) (gI .i64 (Int.tmod (l.length:Nat) 512) ((l.length%512:Nat):Int) (by rw [Int.tmod_eq_emod_of_nonneg om_];omega) (dN ((l.length%512:Nat):Int) 0 (fun _=>wE (nCT (sR ?_))) fun hd1=>False.elim om_))))))))))
 exact pv pn (pv (iv 2) (wE (then_n (rR (bB pn (iv 2) ⟨rfl,S⟩)))))
theorem pd_load_bad (S:St F w0 w L){A:Option Addr}{l:List UInt8}{ca:Nat}(hr:RoT F w0 L A l)(hlm:l.length≤140737488355328)(ho:l.length%512=0)(hb:l.length/512<1∨2048<l.length/512):Calls Tryz.prog 45 #[.slice A l.length ca] w fun e w'=>e=.returned (.tuple #[.pointer none,.int .i64 10])∧St F w0 w' L:=by
 refine eN (fr [.slice A l.length ca] 26) Tryz.func45 rfl (sR (pv pn (pv (iv 0) (wE (nS (sR (pv (.slice A l.length ca) (pv (iv (l.length:Nat)) (gI .i64 (Int.tmod (l.length:Nat) 512) ((l.length%512:Nat):Int) (by rw [Int.tmod_eq_emod_of_nonneg om_];omega) (dN ((l.length%512:Nat):Int) 0 (fun hd1=>False.elim om_) fun _=>wE (nCF (wp_skip ?_))))))))))))
 refine nSR (pv (.slice A l.length ca) (pv (iv (l.length:Nat)) (gI .i64 (IntKind.i64.wrap (Int.tdiv (l.length:Nat) 512)) ((l.length/512:Nat):Int) (wr_eq (by rw [Int.tdiv_eq_ediv_of_nonneg om_];omega) om_ om_) (sP Tryz.func48 #[nI_ (l.length/512)] (pd_new_bad om_ S) fun w2 S3=>pv (.tuple #[pn,iv 10]) (pv pn (pv (iv 10) (pv pn (pv (iv 10) (wE (nS (sR (pv (iv 10) ?_))))))))))))
 exact dE 10 0 (fun hd4=>False.elim om_) fun _=>wE (nCF (wp_skip (nSR (pv pn (pv (iv 10) (pv pn (pv (iv 10) (wE (then_n (wp_ret (bB pn (iv 10) ⟨rfl,S3⟩)))))))))))
theorem pd_load {m:Nat}(S:St F w0 w L){A:Option Addr}{l:List UInt8}{ca:Nat}(hr:RoT F w0 L A l)(hlm:l.length≤140737488355328)(ho:l.length=512*m)(h1:1≤m)(h2:m≤2048):Calls Tryz.prog 45 #[.slice A l.length ca] w fun e w'=>∃g,e=.returned (.tuple #[.pointer (some ⟨g,0,none⟩),.int .i64 0])∧St F w0 w' (PDisk g (Dsk.mk0 (secs l m))::L):=by
 refine eN (fr [.slice A l.length ca] 26) Tryz.func45 rfl (sR (pv pn (pv (iv 0) (wE (nS (sR (pv (.slice A l.length ca) (pv (iv (l.length:Nat)) (gI .i64 (Int.tmod (l.length:Nat) 512) ((l.length%512:Nat):Int) (by rw [Int.tmod_eq_emod_of_nonneg om_];omega) (dN ((l.length%512:Nat):Int) 0 (fun hd1=>False.elim om_) fun _=>wE (nCF (wp_skip ?_))))))))))))
 refine nSR (pv (.slice A l.length ca) (pv (iv (l.length:Nat)) (gI .i64 (IntKind.i64.wrap (Int.tdiv (l.length:Nat) 512)) ((m:Nat):Int) (wr_eq (by rw [Int.tdiv_eq_ediv_of_nonneg om_];omega) om_ om_) (sP1 Tryz.func48 #[nI_ m] (pd_new h1 h2 S) fun g w2 S9=> ?_))))
 obtain ⟨gd,gm,clock,es,fused,left,hf,S⟩:=St.popen S9
 have hl:(Dsk.mk0 (List.replicate m zsec)).last.length=m:=List.length_replicate
 have hlf:(Dsk.mk0 (List.replicate m zsec)).last.flatten=List.replicate (512*m) 0:=zflat m
 unfold pdParts at S
 rw [hl,hlf] at S
 change St F w0 w2 (dR g gd (512*m) gm fused left 1 0 0 0 0 0::row gd (bvs (List.replicate (512*m) 0)) 5::pt gm (mapO (es.map PEnt.ent) clock)::stars (es.map PEnt.ast)::L) at S
 refine pv (.tuple #[pq g,iv 0]) (pv (pq g) (pv (iv 0) (pv (pq g) (pv (iv 0) (wE (nS (sR (pv (iv 0) (dE 0 0 (fun _=>wE (nCT (wp_region_lit (pv (pq g) ?_)))) fun hd3=>False.elim om_)))))))))
 refine pv (pq g) (pv (pq g) (lR (sl gd 0 (512*m) (512*m)) S 0 0 (pv (.slice A l.length ca) (g_ (gv_copy (e:=5) (off:=0) (dLen:=(512*m)) (dCap:=(512*m)) (sLen:=l.length) (sCap:=ca) (A:=A) (B:=(List.replicate (512*m) 0)) (l:=l) S 1 rfl rfl kr_ kr_ kr_ kr_ rfl (hr.out _ [dR g gd (512*m) gm fused left 1 0 0 0 0 0,row gd (bvs (List.replicate (512*m) 0)) 5,pt gm (mapO (es.map PEnt.ent) clock),stars (es.map PEnt.ast)] S) (by simp) (L':=(dR g gd (512*m) gm fused left 1 0 0 0 0 0::row gd (bvs l) 5::pt gm (mapO (es.map PEnt.ent) clock)::stars (es.map PEnt.ast)::L)) (by rw [copy_all ho];rfl) (fun w4 m6 S5=>wER (pv (pq g) (pv (iv 0) (pv (pq g) (pv (iv 0) (wE (then_n (wp_ret (bB (pq g) (iv 0) ?_))))))))))))))
 have hsl:=length_secs m l
 have hss:=secs_flat m l ho
 refine ⟨g,rfl,St.pclose (gd:=gd) (gm:=gm) (clock:=clock) (es:=es) (fused:=fused) (left:=left) (s:=Dsk.mk0 (secs l m)) ?_ ?_⟩
 ·unfold pdParts;show St F w0 _ (row _ (dcells _ (512*(secs l m).length) (512*(secs l m).length) _ _ _ _ _ _ _ _ _) _::row _ (bvs (secs l m).flatten) _::_);rw [hsl,hss];exact S5
 ·have he:es=[]:=by
   cases es with
   |nil=>rfl
   |cons p r=>exact absurd (List.map_eq_nil_iff.1 (hf.ws p List.mem_cons_self)) (hf.ne p List.mem_cons_self)
  subst he
  have hm:=PFacts.mk0 (left:=left) (secs_len m l ho) (by rw [hsl];exact h1) (by rw [hsl];exact h2)
  exact ⟨fun p hp=>(by cases hp),List.nodup_nil,List.nodup_nil,fun p hp=>(by cases hp),fun x hx=>(by cases hx),fun p hp=>(by cases hp),hm.len,hm.plen,hm.n1,hm.n2,hf.fuse,hf.left,hf.lb,hm.pn⟩
end
section
variable {F:Nat→Prop} {w0 w:World} {L:List Ast}
theorem flat_take_succ {l:List (List UInt8)}{i:Nat}{x:List UInt8}(h:l[i]?=some x):(l.take (i+1)).flatten=(l.take i).flatten++x:=by
 rw [List.take_add_one,h,List.flatten_append];simp
theorem bv_flat {l:List (List UInt8)}{i:Nat}{x:List UInt8}(h:l[i]?=some x):((l.take i).flatten.map bv)++x.map bv=(l.take (i+1)).flatten.map bv:=by
 rw [flat_take_succ h,List.map_append]
theorem secs_get:∀(n:Nat) (l:List UInt8) (i:Nat),i<n→(secs l n)[i]?=some ((l.drop (512*i)).take 512)
 |0,_,i,h=>absurd h (Nat.not_lt_zero i)
 |n+1,l,0,_=>by simp [secs]
 |n+1,l,i+1,h=>by
  have:=secs_get n (l.drop 512) i om_
  rw [List.drop_drop] at this
  rw [secs,List.getElem?_cons_succ,this,show 512+512*i=512*(i+1) from by omega]
theorem RFacts.mk0 {l:List (List UInt8)}{LL pool:List (Nat×List UInt8)}(h0:LL.map (·.2)=l)(h:∀x∈l,x.length=512)(h1:1≤l.length)(h2:l.length≤2048)(hp:∀x∈LL,x∈pool):RFacts (Dsk.mk0 l) LL [] pool:=
 ⟨h0,rfl,hp,fun x hx=>(by cases hx),h,fun x hx=>(by cases hx),h1,h2,show (-1:Int)≤ -1∧(-1:Int)≤9223372036854775807 by decide,Nat.zero_le _⟩
theorem RdV.bytes {w:World}{A:Option Addr}{l:List UInt8}(h:RdV w A (l.map bv)):RdB w A l:=fun h0=>h (by rw [List.length_map];exact h0)
theorem rd_image {g:Nat}{s:Dsk}(S:St F w0 w (RDisk g s::L)):Calls Tryz.prog 34 #[.pointer (some ⟨g,0,none⟩)] w fun e w'=>∃v,e=.returned v∧St F w0 w' (vec 5 1 v s.last.flatten.length (s.last.flatten.map bv)::RDisk g s::L):=by
 obtain ⟨gl,cl,c2,A2,junk,LL,PP,pool,hf,hcl,hju,S⟩:=St.ropen S
 have hn2:=hf.n2
 have hll:=hf.ll
 have hpp:=hf.pp
 have hpn:=hf.pn
 change St F w0 w (rR2 g gl LL.length cl (.slice A2 PP.length c2) s.left s.life s.rd s.wr s.fl s.rf 0::row gl ((LL.map PEnt.val++junk).toArray) 22::vec 102 2 (.slice A2 PP.length c2) PP.length (putsV PP)::stars (pool.map PEnt.row)::L) at S
 refine eN (fr [pq g] 30) Tryz.func34 rfl (sR (pv (nS_) (wER (pv (pq g) (pv (pq g) (pv (pq g) (lR (sl gl 0 LL.length cl) S 0 0 (pv (iv (LL.length:Nat)) (gI .i64 (IntKind.i64.wrap ((LL.length:Nat)*512)) ((512*LL.length:Nat):Int) wq_ (g_ (gv_make (e:=5) (u:=0) (v:=((512*LL.length:Nat):Int)) (z:=.int .u8 0) (sz:=1) (by_:=1) (n:=0) (c:=512*LL.length) (cs:=bvs (List.replicate (512*LL.length) 0)) S rfl kr_ ⟨by kernel_rfl⟩ kr_ kr_ rfl rfl (Nat.zero_le _) om_ om_ (mk_bytes _) (fun g1 w2 hg3 S4=> ?_))))))))))))
 have S5:St F w0 w2 (vec 5 1 (sl g1 0 0 (512*LL.length)) 0 []::rR2 g gl LL.length cl (.slice A2 PP.length c2) s.left s.life s.rd s.wr s.fl s.rf 0::row gl ((LL.map PEnt.val++junk).toArray) 22::vec 102 2 (.slice A2 PP.length c2) PP.length (putsV PP)::stars (pool.map PEnt.row)::L):=St.vec_mk (vals:=[]) (junk:=(List.replicate (512*LL.length) (0:UInt8)).map bv) S4 (Nat.zero_le _) rfl (by simp)
 refine pv (sl g1 0 0 (512*LL.length)) (wE (nS (sR (pv (iv 0) (wE (then_n (wp_block (wp_loop_g (G:=Nat×Value) (fun (g_:Nat×Value) (a_:Act) (w_:World)=>∃J:Nat→Value,a_=(fr ([pq g,ud,nS_,g_.2,nI_ g_.1,pq g,pq g,pq g,sl gl 0 LL.length cl,iv (LL.length:Nat),nI_ (512*LL.length),sl g1 0 0 (512*LL.length)]++jR J 12 18) 1)∧St F w0 w_ (vec 5 1 g_.2 (512*g_.1) ((s.last.take g_.1).flatten.map bv)::rR2 g gl LL.length cl (.slice A2 PP.length c2) s.left s.life s.rd s.wr s.fl s.rf 0::row gl ((LL.map PEnt.val++junk).toArray) 22::vec 102 2 (.slice A2 PP.length c2) PP.length (putsV PP)::stars (pool.map PEnt.row)::L)∧(g_.1≤LL.length)) (fun g_=>LL.length-g_.1) (0,sl g1 0 0 (512*LL.length)) (jE_ ⟨S5,Nat.zero_le _⟩) ?_))))))))
 rintro ⟨i,v⟩ a_ w6 ⟨J,rfl,S7,hI8⟩
 skip
 have S7:St F w0 w6 (vec 5 1 v (512*i) ((s.last.take i).flatten.map bv)::rR2 g gl LL.length cl (.slice A2 PP.length c2) s.left s.life s.rd s.wr s.fl s.rf 0::row gl ((LL.map PEnt.val++junk).toArray) 22::vec 102 2 (.slice A2 PP.length c2) PP.length (putsV PP)::stars (pool.map PEnt.row)::L):=S7
 have hI8:(i≤LL.length):=hI8
 refine wp_seq (sR (pv (nI_ i) (pv (pq g) (pv (pq g) (pv (pq g) (lR (sl gl 0 LL.length cl) S7 1 0 (pv (iv (LL.length:Nat)) (dC ((((i:Nat):Int):Int)<(LL.length:Nat)) (fun hb9=> ?_) fun hb9=> ?_))))))))
 ·obtain ⟨x,hx,hxp,hxl,hx5⟩:=hf.at (k:=i) om_
  have hxs:s.last[i]?=some x.2:=by rw [←hxl];exact mem_getD om_
  refine wE (nCT (wp_skip (nS (wp_block (wp_region_lit (pv v (pv (pq g) (pv (pq g) (pv (pq g) (lR (sl gl 0 LL.length cl) S7 1 0 (pv (nI_ i) (g_ (gv_ixE (e:=22) (sz:=1) (g:=gl) (off:=0) (n:=LL.length) (c:=cl) (i:=((i:Nat):Int)) (k:=.i64) (j:=i) (off':=i) rfl kr_ kr_ kr_ kr_ rfl om_ om_ (lQ (PEnt.val x) (((S7.blk 2 rfl).cell i).trans (ll_at hx)) ?_))))))))))))))
  refine g_ (gv_append (e:=5) (sz:=1) (n:=512*i) (v:=v) (vals:=(s.last.take i).flatten.map bv) (z:=.int .u8 0) (by_:=1) (m:=512) (c':=512) (ad:=⟨x.1,0,none⟩) (news:=x.2.map bv) S7 rfl kr_ ⟨by kernel_rfl⟩ rfl kr_ kr_ dc_ (by rw [List.length_map,hx5]) (row_news (St.pool_rd S7 4 rfl hxp)) (bvs_one x.2) om_ om_ (fun v11 w10 S12=> ?_))
  rw [bv_flat hxs,show 512*i+512=512*(i+1) from by omega] at S12
  exact pv v11 (wE (inb_n (nR (pv (nI_ i) (gI .i64 (IntKind.i64.wrap (((i:Nat):Int)+1)) ((i+1:Nat):Int) wq_ (pv (nI_ (i+1)) (wE (then_n ⟨(i+1,v11),(jE_ ⟨S12,om_⟩),(by show LL.length-(i+1)<LL.length-i;omega)⟩))))))))
 ·refine wE (nCF (wp_exit (then_x (then_x (inb_x (nSR (pv v (pv v (wE (then_n (wp_ret (bA v ?_))))))))))))
  have hiL:i=LL.length:=by omega
  have htk:s.last.take i=s.last:=List.take_of_length_le om_
  have hfl:=flat_len hf.len
  rw [htk,show 512*i=s.last.flatten.length from by rw [hfl];omega] at S7
  exact ⟨_,rfl,St.swap (St.rclose (gl:=gl) (cl:=cl) (c2:=c2) (A2:=A2) (junk:=junk) (LL:=LL) (PP:=PP) (pool:=pool) (s:=s) (St.rot (LA:=rdParts g gl cl c2 A2 junk LL PP pool s) S7) (hf.upd rfl rfl hf.lb) hcl hju)⟩
theorem rzeros (S:St F w0 w L):Calls Tryz.prog 56 #[] w fun e w'=>∃z,e=.returned (.slice (some ⟨z,0,none⟩) 512 512)∧St F w0 w' (row z (bvs zsec) 5::L):=by
 exact eN (fr [] 2) Tryz.func56 rfl (sR (pv (nS_) (wER (g_ (gv_make (e:=5) (u:=512) (v:=512) (z:=.int .u8 0) (sz:=1) (by_:=1) (n:=512) (c:=512) (cs:=(bvs (List.replicate 512 0))) S rfl kr_ ⟨by kernel_rfl⟩ kr_ kr_ rfl rfl (Nat.le_refl _) dc_ dc_ (mk_bytes _) (fun g1 w2 hg3 S4=>pv (sl g1 0 512 512) (wE (then_n (wp_ret (bA (sl g1 0 512 512) ⟨_,rfl,S4⟩))))))))))
theorem rd_new_bad {n:Int}(hn:n<1∨2048<n)(S:St F w0 w L):Calls Tryz.prog 49 #[.int .i64 n] w fun e w'=>e=.returned (.tuple #[.pointer none,.int .i64 10])∧St F w0 w' L:=by
 refine eN (fr [iv n] 31) Tryz.func49 rfl (sR (pv pn (pv (iv 0) (wE (nS (sR (pv (iv n) (dC ((n:Int)<1) (fun hb1=> ?_) fun hb1=> ?_))))))))
 ·exact pv tv (wN (wN (pv tv (wE (nCT (sR (pv pn (pv (iv 10) (wE (then_n (rR (bB pn (iv 10) ⟨rfl,S⟩))))))))))))
 ·exact pv fv (pW (iv n) (wl_when kr_ (gv_dec (p:=(n:Int)>2048) kr_ (fun _=>pv tv (wE (nCT (sR (pv pn (pv (iv 10) (wE (then_n (rR (bB pn (iv 10) ⟨rfl,S⟩)))))))))) (fun hd2=>False.elim om_))))
theorem rd_new {m:Nat}(h1:1≤m)(h2:m≤2048)(S:St F w0 w L):Calls Tryz.prog 49 #[.int .i64 ((m:Nat):Int)] w fun e w'=>∃g,e=.returned (.tuple #[.pointer (some ⟨g,0,none⟩),.int .i64 0])∧St F w0 w' (RDisk g (Dsk.mk0 (List.replicate m zsec))::L):=by
 refine eN (fr [nI_ m] 31) Tryz.func49 rfl (sR (pv pn (pv (iv 0) (wE (nS (sR (pv (nI_ m) (dC ((((m:Nat):Int):Int)<1) (fun hd1=>False.elim om_) fun _=>pv fv (pW (nI_ m) (wl_when kr_ (gv_dec (p:=(((m:Nat):Int):Int)>2048) kr_ (fun hd2=>False.elim om_) (fun _=>pv fv (wE ?_)))))))))))))
 refine nCF (wp_skip (nSR (sP1 Tryz.func56 #[] (rzeros S) fun z3 w4 S5=> ?_)))
 have S6:St F w0 w4 (vec 22 1 (nS_) 0 []::row z3 (bvs zsec) 5::L):=St.vec_nil S5
 refine pv (sl z3 0 512 512) (wER (pv (.agg #[nS_,nS_,iv (-1),iv 1,iv 0,iv 0,iv 0,iv 0,iv 0]) (nB rfl (.agg #[nS_,nS_,iv (-1),iv 1,iv 0,iv 0,iv 0,iv 0,iv 0]) S6 fun g7 w8 hg9 S10=>pv (pq g7) (wE (nS (sR (pv (iv 0) (wE (then_n (wp_block ?_))))))))))
 have S11:St F w0 w8 (vec 22 1 (nS_) 0 []::row g7 #[nS_,nS_,iv (-1),iv 1,iv 0,iv 0,iv 0,iv 0,iv 0] 81::row z3 (bvs zsec) 5::L):=St.pm 3 [1,0,2] S10
 refine wp_loop_g (G:=Nat×Value) (fun (g_:Nat×Value) (a_:Act) (w_:World)=>∃J:Nat→Value,a_=(fr ([nI_ m,ud,pn,iv 0,sl z3 0 512 512,pq g7,nI_ g_.1,nI_ m,fv,fv,nI_ m,fv,fv,sl z3 0 512 512,.agg #[nS_,nS_,iv (-1),iv 1,iv 0,iv 0,iv 0,iv 0,iv 0],pq g7]++jR J 16 15) 1)∧St F w0 w_ (vec 22 1 g_.2 g_.1 (List.replicate g_.1 (PEnt.val (z3,zsec)))::row g7 #[g_.2,nS_,iv (-1),iv 1,iv 0,iv 0,iv 0,iv 0,iv 0] 81::row z3 (bvs zsec) 5::L)∧(g_.1≤m)) (fun g_=>m-g_.1) (0,nS_) (jE_ ⟨S11,Nat.zero_le _⟩) ?_
 rintro ⟨i,v⟩ a_ w12 ⟨J,rfl,S13,hI14⟩
 skip
 have S13:St F w0 w12 (vec 22 1 v i (List.replicate i (PEnt.val (z3,zsec)))::row g7 #[v,nS_,iv (-1),iv 1,iv 0,iv 0,iv 0,iv 0,iv 0] 81::row z3 (bvs zsec) 5::L):=S13
 have hI14:(i≤m):=hI14
 refine wp_seq (sR (pv (nI_ i) (pv (nI_ m) (dC ((((i:Nat):Int):Int)<((m:Nat):Int)) (fun hb15=> ?_) fun hb15=> ?_))))
 ·refine wE (nCT (wp_skip (nS (wp_block (wp_region_lit (pv (pq g7) (pv (pq g7) (pv (pq g7) (pv (pq g7) (lR v S13 1 0 (pv (sl z3 0 512 512) (g_ (gv_slit (e:=22) (sz:=1) (z:=nS_) (by_:=24) (vs:=#[(0,sl z3 0 512 512)]) (cells:=#[sl z3 0 512 512]) S13 rfl kr_ ⟨by kernel_rfl⟩ kr_ kr_ kr_ kr_ (fun g16 w17 hg18 S19=>g_ (gv_append (e:=22) (sz:=1) (n:=i) (v:=v) (vals:=(List.replicate i (PEnt.val (z3,zsec)))) (z:=nS_) (by_:=24) (m:=1) (c':=1) (ad:=⟨g16,0,none⟩) (news:=[sl z3 0 512 512]) (St.swap S19) rfl kr_ ⟨by kernel_rfl⟩ rfl kr_ kr_ dc_ rfl (row_news (S19.blk 0 rfl)) (by intro u hu;simp at hu;subst hu;rfl) om_ om_ (fun v21 w20 S22=> ?_))))))))))))))))
  refine pv (pq g7) (pv (pq g7) (g_ (gv_st (k:=0) (v:=v21) S22 2 rfl rfl kr_ kr_ kr_ (St.vec_one S22 0 rfl) rfl (L':=(vec 22 1 v21 (i+1) (List.replicate i (PEnt.val (z3,zsec))++[sl z3 0 512 512])::row g16 #[sl z3 0 512 512] 22::row g7 #[v21,nS_,iv (-1),iv 1,iv 0,iv 0,iv 0,iv 0,iv 0] 81::row z3 (bvs zsec) 5::L)) rfl (fun w23 S24=>wE (inb_n (nR (pv (nI_ i) (gI .i64 (IntKind.i64.wrap (((i:Nat):Int)+1)) ((i+1:Nat):Int) wq_ (pv (nI_ (i+1)) (wE (then_n ?_)))))))))))
  have S25:St F w0 w23 (vec 22 1 v21 (i+1) (List.replicate i (PEnt.val (z3,zsec))++[sl z3 0 512 512])::row g7 #[v21,nS_,iv (-1),iv 1,iv 0,iv 0,iv 0,iv 0,iv 0] 81::row z3 (bvs zsec) 5::L):=St.pm 4 [0,2,3] S24
  rw [show List.replicate i (PEnt.val (z3,zsec))++[.slice (some ⟨z3,0,none⟩) 512 512]=List.replicate (i+1) (PEnt.val (z3,zsec)) from List.replicate_succ'.symm] at S25
  exact ⟨(i+1,v21),(jE_ ⟨S25,om_⟩),(by show m-(i+1)<m-i;omega)⟩
 ·refine wE (nCF (wp_exit (then_x (then_x (inb_x (nSR (pv (pq g7) (pv (pq g7) (pv (iv 0) (wE (then_n (wp_ret (bB (pq g7) (iv 0) ?_)))))))))))))
  obtain rfl:i=m:=by omega
  obtain ⟨gl,cl,junk,rfl,hcl,hle,hju,S8⟩:=St.vec_open S13 h1
  have S9:=St.permT [_,_,_,_] [2,1,0,3] dc_ rfl (St.vec_nil (e:=102) (sz:=2) S8)
  have S10:St F w0 _ ([row g7 _ 81,row gl _ _,vec _ _ _ _ _,row z3 _ _]++L):=S9
  have S11:=St.permT [_,_,_,_] [0,1,2,3] dc_ rfl S10
  have hll:(List.replicate i ((z3,zsec):Nat×List UInt8)).length=i:=List.length_replicate
  have hmp:(List.replicate i ((z3,zsec):Nat×List UInt8)).map PEnt.val=List.replicate i (PEnt.val (z3,zsec)):=List.map_replicate
  have hms:(List.replicate i ((z3,zsec):Nat×List UInt8)).map (·.2)=List.replicate i zsec:=List.map_replicate
  refine ⟨g7,rfl,St.rclose (gl:=gl) (cl:=cl) (c2:=0) (A2:=none) (junk:=junk) (LL:=List.replicate i (z3,zsec)) (PP:=[]) (pool:=[(z3,zsec)]) ?_ (RFacts.mk0 hms (fun x hx=>by rw [(List.mem_replicate.1 hx).2];exact List.length_replicate) (by rw [List.length_replicate];exact h1) (by rw [List.length_replicate];exact h2) (fun x hx=>by rw [(List.mem_replicate.1 hx).2];exact List.mem_singleton.2 rfl)) (by rw [hll];exact hcl) (by rw [hmp];exact hju)⟩
  unfold rdParts;rw [hll,hmp]
  exact (St.permT [_,_,_,_] [1,2,3,0] dc_ rfl (St.one_star (St.permT [_,_,_,_] [3,0,1,2] dc_ rfl S11)))
theorem rd_load_odd (S:St F w0 w L){A:Option Addr}{l:List UInt8}{ca:Nat}(hr:RoT F w0 L A l)(hlm:l.length≤140737488355328)(ho:l.length%512≠0):Calls Tryz.prog 47 #[.slice A l.length ca] w fun e w'=>e=.returned (.tuple #[.pointer none,.int .i64 2])∧St F w0 w' L:=by
 refine eN (fr [.slice A l.length ca] 44) Tryz.func47 rfl (sR (pv pn (pv (iv 0) (wE (nS (sR (pv (.slice A l.length ca) (pv (iv (l.length:Nat)) (gI .i64 (Int.tmod (l.length:Nat) 512) ((l.length%512:Nat):Int) (by rw [Int.tmod_eq_emod_of_nonneg om_];omega) (dN ((l.length%512:Nat):Int) 0 (fun _=>wE (nCT (sR ?_))) fun hd1=>False.elim om_))))))))))
 exact pv pn (pv (iv 2) (wE (then_n (rR (bB pn (iv 2) ⟨rfl,S⟩)))))
theorem rd_load_bad (S:St F w0 w L){A:Option Addr}{l:List UInt8}{ca:Nat}(hr:RoT F w0 L A l)(hlm:l.length≤140737488355328)(ho:l.length%512=0)(hb:l.length/512<1∨2048<l.length/512):Calls Tryz.prog 47 #[.slice A l.length ca] w fun e w'=>e=.returned (.tuple #[.pointer none,.int .i64 10])∧St F w0 w' L:=by
 refine eN (fr [.slice A l.length ca] 44) Tryz.func47 rfl (sR (pv pn (pv (iv 0) (wE (nS (sR (pv (.slice A l.length ca) (pv (iv (l.length:Nat)) (gI .i64 (Int.tmod (l.length:Nat) 512) ((l.length%512:Nat):Int) (by rw [Int.tmod_eq_emod_of_nonneg om_];omega) (dN ((l.length%512:Nat):Int) 0 (fun hd1=>False.elim om_) fun _=>wE (nCF (wp_skip ?_))))))))))))
 refine nSR (pv (.slice A l.length ca) (pv (iv (l.length:Nat)) (gI .i64 (IntKind.i64.wrap (Int.tdiv (l.length:Nat) 512)) ((l.length/512:Nat):Int) (wr_eq (by rw [Int.tdiv_eq_ediv_of_nonneg om_];omega) om_ om_) (pv (nI_ (l.length/512)) (wE (nS (sR (pv (nI_ (l.length/512)) (dC ((((l.length/512:Nat):Int):Int)<1) (fun hb2=> ?_) fun hb2=> ?_)))))))))
 ·exact pv tv (wN (wN (pv tv (wE (nCT (sR (pv pn (pv (iv 10) (wE (then_n (rR (bB pn (iv 10) ⟨rfl,S⟩))))))))))))
 ·exact pv fv (pW (nI_ (l.length/512)) (wl_when kr_ (gv_dec (p:=(((l.length/512:Nat):Int):Int)>2048) kr_ (fun _=>pv tv (wE (nCT (sR (pv pn (pv (iv 10) (wE (then_n (rR (bB pn (iv 10) ⟨rfl,S⟩)))))))))) (fun hd3=>False.elim om_))))
theorem rd_load {m:Nat}(S:St F w0 w L){A:Option Addr}{l:List UInt8}{ca:Nat}(hr:RoT F w0 L A l)(hlm:l.length≤140737488355328)(hca:l.length≤ca)(ho:l.length=512*m)(h1:1≤m)(h2:m≤2048):Calls Tryz.prog 47 #[.slice A l.length ca] w fun e w'=>∃g,e=.returned (.tuple #[.pointer (some ⟨g,0,none⟩),.int .i64 0])∧St F w0 w' (RDisk g (Dsk.mk0 (secs l m))::L):=by
 obtain ⟨ada,rfl⟩:=(hr.now S).at (k:=0) om_
 refine eN (fr [.slice (some ada) l.length ca] 44) Tryz.func47 rfl (sR (pv pn (pv (iv 0) (wE (nS (sR (pv (.slice (some ada) l.length ca) (pv (iv (l.length:Nat)) (gI .i64 (Int.tmod (l.length:Nat) 512) ((l.length%512:Nat):Int) (by rw [Int.tmod_eq_emod_of_nonneg om_];omega) (dN ((l.length%512:Nat):Int) 0 (fun hd1=>False.elim om_) fun _=>wE (nCF (wp_skip ?_))))))))))))
 refine nSR (pv (.slice (some ada) l.length ca) (pv (iv (l.length:Nat)) (gI .i64 (IntKind.i64.wrap (Int.tdiv (l.length:Nat) 512)) ((m:Nat):Int) (wr_eq (by rw [Int.tdiv_eq_ediv_of_nonneg om_];omega) om_ om_) (pv (nI_ m) (wE (nS (sR (pv (nI_ m) (dC ((((m:Nat):Int):Int)<1) (fun hd2=>False.elim om_) fun _=>pv fv (pW (nI_ m) (wl_when kr_ (gv_dec (p:=(((m:Nat):Int):Int)>2048) kr_ (fun hd3=>False.elim om_) (fun _=>pv fv ?_)))))))))))))
 refine wE (nCF (wp_skip (nSR (pv (.agg #[nS_,nS_,iv (-1),iv 1,iv 0,iv 0,iv 0,iv 0,iv 0]) (nB rfl (.agg #[nS_,nS_,iv (-1),iv 1,iv 0,iv 0,iv 0,iv 0,iv 0]) S fun g4 w5 hg6 S7=> ?_)))))
 have S8:St F w0 w5 (stars (([]:List (Nat×List UInt8)).map PEnt.row)::row g4 #[nS_,nS_,iv (-1),iv 1,iv 0,iv 0,iv 0,iv 0,iv 0] 81::L):=St.star_nil S7
 have S9:St F w0 w5 (vec 22 1 (nS_) 0 []::stars (([]:List (Nat×List UInt8)).map PEnt.row)::row g4 #[nS_,nS_,iv (-1),iv 1,iv 0,iv 0,iv 0,iv 0,iv 0] 81::L):=St.vec_nil S8
 have S10:St F w0 w5 (vec 22 1 (nS_) 0 []::row g4 #[nS_,nS_,iv (-1),iv 1,iv 0,iv 0,iv 0,iv 0,iv 0] 81::stars (([]:List (Nat×List UInt8)).map PEnt.row)::L):=St.pm 3 [0,2,1] S9
 refine pv (pq g4) (wE (nS (sR (pv (iv 0) (wE (then_n (wp_block (wp_loop_g (G:=Nat×Value×List (Nat×List UInt8)) (fun (g_:Nat×Value×List (Nat×List UInt8)) (a_:Act) (w_:World)=>∃J:Nat→Value,a_=(fr ([.slice (some ada) l.length ca,ud,pn,iv 0,nI_ m,pq g4,nI_ g_.1,.slice (some ada) l.length ca,iv (l.length:Nat),nI_ (l.length%512),fv,.slice (some ada) l.length ca,iv (l.length:Nat),nI_ m,nI_ m,fv,fv,nI_ m,fv,fv,.agg #[nS_,nS_,iv (-1),iv 1,iv 0,iv 0,iv 0,iv 0,iv 0],pq g4]++jR J 22 22) 1)∧St F w0 w_ (vec 22 1 g_.2.1 g_.2.2.length (g_.2.2.map PEnt.val)::row g4 #[g_.2.1,nS_,iv (-1),iv 1,iv 0,iv 0,iv 0,iv 0,iv 0] 81::stars (g_.2.2.map PEnt.row)::L)∧(g_.1≤m∧g_.2.2.map (·.2)=(secs l m).take g_.1)) (fun g_=>m-g_.1) (0,nS_,[]) (jE_ ⟨S10,⟨Nat.zero_le _,rfl⟩⟩) ?_))))))))
 rintro ⟨i,v,LL1⟩ a_ w11 ⟨J,rfl,S12,hI13⟩
 skip
 have S12:St F w0 w11 (vec 22 1 v LL1.length (LL1.map PEnt.val)::row g4 #[v,nS_,iv (-1),iv 1,iv 0,iv 0,iv 0,iv 0,iv 0] 81::stars (LL1.map PEnt.row)::L):=S12
 have hI13:(i≤m∧LL1.map (·.2)=(secs l m).take i):=hI13
 refine wp_seq (sR (pv (nI_ i) (pv (nI_ m) (dC ((((i:Nat):Int):Int)<((m:Nat):Int)) (fun hb14=> ?_) fun hb14=> ?_))))
 ·have hl1:LL1.length=i:=by have:=congrArg List.length hI13.2;rw [List.length_map,List.length_take,length_secs] at this;omega
  have hx5:((l.drop (512*i)).take 512).length=512:=by rw [List.length_take,List.length_drop];omega
  refine wE (nCT (wp_skip (nS (wp_block (wp_region_phu (γ:=Nat×Nat×Value) 18 [12,13,14,17] (fun (c_:Nat×Nat×Value) (i_:Nat)=>(match i_ with|0=>pq g4|1=>pq g4|2=>pq g4|3=>pq g4|4=>v|5=>.slice (some ada) l.length ca|6=>nI_ i|7=>nI_ (512*i)|8=>nI_ i|9=>nI_ (512*i)|10=>nI_ (512*i+512)|11=>.slice (some (ada.add (512*i))) 512 (ca-512*i)|12=>sl c_.1 0 512 512|13=>sl c_.2.1 0 1 1|14=>c_.2.2|15=>pq g4|16=>pq g4|17=>undef|_=>undef:Value)) (fun (c_:Nat×Nat×Value) (p_:Nat) (w_:World)=>(match p_ with|0=>St F w0 w_ (vec 22 1 v LL1.length (LL1.map PEnt.val)::row g4 #[v,nS_,iv (-1),iv 1,iv 0,iv 0,iv 0,iv 0,iv 0] 81::stars (LL1.map PEnt.row)::L)|1=>St F w0 w_ (row c_.1 (bvs ((l.drop (512*i)).take 512)) 5::vec 22 1 v LL1.length (LL1.map PEnt.val)::row g4 #[v,nS_,iv (-1),iv 1,iv 0,iv 0,iv 0,iv 0,iv 0] 81::stars (LL1.map PEnt.row)::L)|2=>St F w0 w_ (row c_.2.1 #[sl c_.1 0 512 512] 22::row c_.1 (bvs ((l.drop (512*i)).take 512)) 5::vec 22 1 v LL1.length (LL1.map PEnt.val)::row g4 #[v,nS_,iv (-1),iv 1,iv 0,iv 0,iv 0,iv 0,iv 0] 81::stars (LL1.map PEnt.row)::L)|3=>St F w0 w_ (vec 22 1 c_.2.2 (LL1.length+1) (LL1.map PEnt.val++[sl c_.1 0 512 512])::row c_.2.1 #[sl c_.1 0 512 512] 22::row c_.1 (bvs ((l.drop (512*i)).take 512)) 5::row g4 #[v,nS_,iv (-1),iv 1,iv 0,iv 0,iv 0,iv 0,iv 0] 81::stars (LL1.map PEnt.row)::L)|_=>St F w0 w_ (vec 22 1 c_.2.2 (LL1.length+1) (LL1.map PEnt.val++[sl c_.1 0 512 512])::row c_.2.1 #[sl c_.1 0 512 512] 22::row c_.1 (bvs ((l.drop (512*i)).take 512)) 5::row g4 #[c_.2.2,nS_,iv (-1),iv 1,iv 0,iv 0,iv 0,iv 0,iv 0] 81::stars (LL1.map PEnt.row)::L):Prop)) (0,0,undef) kr_ kr_ kr_ kr_ (S12.drew) ?_ ?_ ?_)))))
  ·intro i_ c_ p_ vals_ w1 hi_ hiE_ hp_ hk_ hu_ hPh_ hd_
   rcases i_ with _|_|_|_|_|_|_|_|_|_|_|_|_|_|_|_|_|_|i_
   ·exact tG_ rfl hd_ (gV (pq g4) ⟨rfl,rfl⟩)
   ·exact tG_ rfl hd_ (gV (pq g4) ⟨rfl,rfl⟩)
   ·exact tG_ rfl hd_ (gV (pq g4) ⟨rfl,rfl⟩)
   ·exact tG_ rfl hd_ (gV (pq g4) ⟨rfl,rfl⟩)
   ·rcases p_ with _|_|_|_|_|p_
    ·have S19:=St.id hPh_
     exact tG_ rfl hd_ (gL v rfl (((S19.blk 1 rfl).cell 0).trans rfl) ⟨rfl,rfl⟩)
    ·have S20:=St.id hPh_
     exact tG_ rfl hd_ (gL v rfl (((S20.blk 2 rfl).cell 0).trans rfl) ⟨rfl,rfl⟩)
    ·have S21:=St.id hPh_
     exact tG_ rfl hd_ (gL v rfl (((S21.blk 3 rfl).cell 0).trans rfl) ⟨rfl,rfl⟩)
    ·exact absurd (hu_ 2 dc_ kr_) dc_
    ·exact absurd (hu_ 2 dc_ kr_) dc_
    ·exact absurd hp_ (by simp)
   ·exact tG_ rfl hd_ (gV (.slice (some ada) l.length ca) ⟨rfl,rfl⟩)
   ·exact tG_ rfl hd_ (gV (nI_ i) ⟨rfl,rfl⟩)
   ·exact tG_ rfl hd_ (gv_int (k:=.i64) (z:=IntKind.i64.wrap (((i:Nat):Int)*512)) (z':=((512*i:Nat):Int)) kr_ wq_ ⟨rfl,rfl⟩)
   ·exact tG_ rfl hd_ (gV (nI_ i) ⟨rfl,rfl⟩)
   ·exact tG_ rfl hd_ (gv_int (k:=.i64) (z:=IntKind.i64.wrap (((i:Nat):Int)*512)) (z':=((512*i:Nat):Int)) kr_ wq_ ⟨rfl,rfl⟩)
   ·exact tG_ rfl hd_ (gv_int (k:=.i64) (z:=IntKind.i64.wrap (((512*i:Nat):Int)+512)) (z':=((512*i+512:Nat):Int)) kr_ wq_ ⟨rfl,rfl⟩)
   ·exact tG_ rfl hd_ (gv_cutA (e:=5) (sz:=1) (ad:=ada) (n:=l.length) (c:=ca) (kl:=.i64) (kh:=.i64) (u:=((512*i:Nat):Int)) (v:=((512*i+512:Nat):Int)) (lo:=(512*i)) (hi:=(512*i+512)) (ad':=(ada.add (512*i))) (n':=512) (c':=(ca-512*i)) rfl kr_ kr_ kr_ kr_ kr_ rfl rfl om_ om_ om_ (by rw [Nat.mul_one]) om_ om_ ⟨rfl,rfl⟩)
   ·exact absurd hiE_ dc_
   ·exact absurd hiE_ dc_
   ·exact absurd hiE_ dc_
   ·exact tG_ rfl hd_ (gV (pq g4) ⟨rfl,rfl⟩)
   ·exact tG_ rfl hd_ (gV (pq g4) ⟨rfl,rfl⟩)
   ·exact absurd hiE_ dc_
   ·exact absurd hi_ om_
  ·intro k_ c_ vals_ w1 hk_ hPh_ hd_
   rcases k_ with _|_|_|_|k_
   ·have S31:=St.id hPh_
    refine tG_ rfl hd_ (gv_call (args:=#[.slice (some (ada.add (512*i))) 512 (ca-512*i)]) rfl Tryz.func84 kr_ rfl rfl kr_ (Calls.mono (rtwinS (l:=(l.drop (512*i)).take 512) S31 (RoT.more (RoT.more (RoT.more (hr.sub (512*i) 512)))) hx5 om_) ?_))
    rintro _ w33 ⟨g32,rfl,S34⟩
    refine ⟨_,rfl,⟨(g32,c_.2.1,c_.2.2),rfl, ?_,S34⟩⟩
    intro i_ hi_ hne_ hdp_
    rcases i_ with _|_|_|_|_|_|_|_|_|_|_|_|_|_|_|_|_|_|i_
    ·rfl
    ·rfl
    ·rfl
    ·rfl
    ·rfl
    ·rfl
    ·rfl
    ·rfl
    ·rfl
    ·rfl
    ·rfl
    ·rfl
    ·exact absurd rfl hne_
    ·exact dN_ hdp_
    ·exact dN_ hdp_
    ·exact dN_ hdp_
    ·exact dN_ hdp_
    ·exact dN_ hdp_
    ·exact absurd hi_ om_
   ·have S35:=St.id hPh_
    refine tG_ rfl hd_ (gv_slit (e:=22) (sz:=1) (z:=nS_) (by_:=24) (vs:=#[(0,sl c_.1 0 512 512)]) (cells:=#[sl c_.1 0 512 512]) S35 rfl kr_ ⟨by kernel_rfl⟩ kr_ kr_ kr_ kr_ (fun g36 w37 hg38 S39=>⟨(c_.1,g36,c_.2.2),rfl, ?_,S39⟩))
    intro i_ hi_ hne_ hdp_
    rcases i_ with _|_|_|_|_|_|_|_|_|_|_|_|_|_|_|_|_|_|i_
    ·rfl
    ·rfl
    ·rfl
    ·rfl
    ·rfl
    ·rfl
    ·rfl
    ·rfl
    ·rfl
    ·rfl
    ·rfl
    ·rfl
    ·rfl
    ·exact absurd rfl hne_
    ·exact dN_ hdp_
    ·exact dN_ hdp_
    ·exact dN_ hdp_
    ·exact dN_ hdp_
    ·exact absurd hi_ om_
   ·have S40:=St.id hPh_
    have S41:=St.pm 5 [0,2,1,3,4] S40
    refine tG_ rfl hd_ (gv_append (e:=22) (sz:=1) (n:=LL1.length) (v:=v) (vals:=(LL1.map PEnt.val)) (z:=nS_) (by_:=24) (m:=1) (c':=1) (ad:=⟨c_.2.1,0,none⟩) (news:=[sl c_.1 0 512 512]) (St.swap S41) rfl kr_ ⟨by kernel_rfl⟩ rfl kr_ kr_ dc_ rfl (row_news (S41.blk 0 rfl)) (by intro u hu;simp at hu;subst hu;rfl) om_ om_ (fun v43 w42 S44=>⟨(c_.1,c_.2.1,v43),rfl, ?_,S44⟩))
    intro i_ hi_ hne_ hdp_
    rcases i_ with _|_|_|_|_|_|_|_|_|_|_|_|_|_|_|_|_|_|i_
    ·rfl
    ·rfl
    ·rfl
    ·rfl
    ·rfl
    ·rfl
    ·rfl
    ·rfl
    ·rfl
    ·rfl
    ·rfl
    ·rfl
    ·rfl
    ·rfl
    ·exact absurd rfl hne_
    ·exact dN_ hdp_
    ·exact dN_ hdp_
    ·exact dN_ hdp_
    ·exact absurd hi_ om_
   ·have S45:=St.id hPh_
    refine tG_ rfl hd_ (gv_st (k:=0) (v:=c_.2.2) S45 3 rfl rfl kr_ kr_ kr_ (St.vec_one S45 0 rfl) rfl (L':=(vec 22 1 c_.2.2 (LL1.length+1) (LL1.map PEnt.val++[sl c_.1 0 512 512])::row c_.2.1 #[sl c_.1 0 512 512] 22::row c_.1 (bvs ((l.drop (512*i)).take 512)) 5::row g4 #[c_.2.2,nS_,iv (-1),iv 1,iv 0,iv 0,iv 0,iv 0,iv 0] 81::stars (LL1.map PEnt.row)::L)) rfl (fun w46 S47=>⟨(c_.1,c_.2.1,c_.2.2),rfl, ?_,S47⟩))
    intro i_ hi_ hne_ hdp_
    rcases i_ with _|_|_|_|_|_|_|_|_|_|_|_|_|_|_|_|_|_|i_
    ·rfl
    ·rfl
    ·rfl
    ·rfl
    ·rfl
    ·rfl
    ·rfl
    ·rfl
    ·rfl
    ·rfl
    ·rfl
    ·rfl
    ·rfl
    ·rfl
    ·rfl
    ·rfl
    ·rfl
    ·exact absurd rfl hne_
    ·exact absurd hi_ om_
   ·exact absurd hk_ (by simp)
  ·intro c_ w1 hPh_
   have S48:=St.id hPh_
   refine (wE ?_)
   refine inb_n (nR (pv (nI_ i) (gI .i64 (IntKind.i64.wrap (((i:Nat):Int)+1)) ((i+1:Nat):Int) wq_ (pv (nI_ (i+1)) (wE (then_n ?_))))))
   have S49:St F w0 w1 (stars (LL1.map PEnt.row)::row c_.1 (bvs ((l.drop (512*i)).take 512)) 5::vec 22 1 c_.2.2 (LL1.length+1) (LL1.map PEnt.val++[sl c_.1 0 512 512])::row g4 #[c_.2.2,nS_,iv (-1),iv 1,iv 0,iv 0,iv 0,iv 0,iv 0] 81::L):=St.pm 5 [4,2,0,3] S48
   have S8:=(St.star_join (LB:=[_]) (St.swap (St.one_star (St.swap S49))))
   have hm9:LL1.map PEnt.row++[row c_.1 (bvs ((l.drop (512*i)).take 512)) 5]=(LL1++[((c_.1,(l.drop (512*i)).take 512):Nat×List UInt8)]).map PEnt.row:=by rw [List.map_append];rfl
   have hv9:LL1.map PEnt.val++[.slice (some ⟨c_.1,0,none⟩) 512 512]=(LL1++[((c_.1,(l.drop (512*i)).take 512):Nat×List UInt8)]).map PEnt.val:=by rw [List.map_append];rfl
   have hn9:LL1.length+1=(LL1++[((c_.1,(l.drop (512*i)).take 512):Nat×List UInt8)]).length:=by rw [List.length_append];rfl
   rw [hm9,hv9,hn9] at S8
   have S50:=St.pm 3 [1,2,0] S8
   exact ⟨(i+1,c_.2.2,LL1++[(c_.1,(l.drop (512*i)).take 512)]),(jE_ ⟨S50,⟨by omega,by rw [List.map_append,hI13.2,show (secs l m).take ((i+1:Nat))=(secs l m).take i++[(l.drop (512*i)).take 512] from by rw [List.take_add_one (l:=secs l m) (i:=i),secs_get _ _ _ (show i<m by omega)];rfl];rfl⟩⟩),(by show m-(i+1)<m-i;omega)⟩
 ·refine wE (nCF (wp_exit (then_x (then_x (inb_x (nSR (pv (pq g4) (pv (pq g4) (pv (iv 0) (wE (then_n (wp_ret (bB (pq g4) (iv 0) ?_)))))))))))))
  obtain rfl:i=m:=by omega
  have hsl:=length_secs i l
  have hms:LL1.map (·.2)=secs l i:=hI13.2.trans (List.take_of_length_le (by rw [hsl];exact Nat.le_refl _))
  have hl1:LL1.length=i:=by have:=congrArg List.length hms;rw [List.length_map,hsl] at this;exact this
  obtain ⟨gl,cl,junk,rfl,hcl,hle,hju,S8⟩:=St.vec_open S12 om_
  have S9:=St.permT [_,_,_,_] [2,1,0,3] dc_ rfl (St.vec_nil (e:=102) (sz:=2) S8)
  exact ⟨g4,rfl,St.rclose (gl:=gl) (cl:=cl) (c2:=0) (A2:=none) (junk:=junk) (LL:=LL1) (PP:=[]) (pool:=LL1) S9 (RFacts.mk0 hms (secs_len i l ho) (by rw [hsl];exact h1) (by rw [hsl];exact h2) (fun x hx=>hx)) hcl hju⟩
end
theorem tmod_nat {a b:Int}{m n:Nat}(ha:a=(m:Int))(hb:b=(n:Int)):Int.tmod a b=((m%n:Nat):Int):=by subst ha hb;rfl
theorem max_nat (n:Int):(if (0:Int)>n then 0 else n)=((n.toNat:Nat):Int):=by split<;>omega
def CandA (gd k m:Nat)(ws:List (Nat×List UInt8))(i:Nat)(A:Option Addr)(c:Nat):Prop:=(i=0∧A=some ⟨gd,512*k,none⟩∧c=512*m-512*k)∨∃x,i≠0∧ws[i-1]?=some x∧A=some ⟨x.1,0,none⟩∧c=512
theorem cand_ro {w:World}{g gd gm m g7 g3 g4:Nat}{fused:Bool}{left life r wr fl rf pn:Int}{p:PEnt}{t7 t3 t4:TypeId}{n:Int}{A:Option Addr}{ca:Nat}(HB:Blk w g (dcells gd (512*m) (512*m) gm fused left life r wr fl rf pn) 77)(H7:Blk w g7 #[p.v] t7)(H3:Blk w g3 #[.pointer (some ⟨g,0,none⟩)] t3)(H4:Blk w g4 #[.int .i64 ((p.at_:Nat):Int)] t4)(hm:m≤2048)(hk:p.at_<m)(hq:p.ws.length≤4611686018427387904)
  (hv:∃(gb cb:Nat) (cells:Array Value),p.v=.slice (some ⟨gb,0,none⟩) p.ws.length cb∧Blk w gb cells 22∧(∀(m:Nat) (x:Nat×List UInt8),p.ws[m]?=some x→cells[m]?=some (PEnt.val x))) (hA:CandA gd p.at_ m p.ws (n.toNat%(p.ws.length+1)) A ca):
  Calls Tryz.prog 100 #[iv n,pq g7,pq g3,pq g4] w fun e w'=>e=.returned (.slice A 512 ca)∧w=w':=by
 obtain ⟨gb,cb,cells,hv,HV,hcell⟩:=hv
 rw [hv] at H7
 rcases hA with ⟨h0,rfl,rfl⟩|⟨x,h0,hx,rfl,rfl⟩
 ·refine eN (fr [iv n,pq g7,pq g3,pq g4] 18) Tryz.func100 rfl (sR (pv (nS_) (wE (nS (sR (pv (iv n) (gI .i64 (if 0>n then 0 else n) ((n.toNat:Nat):Int) (max_nat n) (lQ (sl gb 0 p.ws.length cb) ((H7.cell 0).trans rfl) (pv (iv (p.ws.length:Nat)) (gI .i64 (IntKind.i64.wrap ((p.ws.length:Nat)+1)) ((p.ws.length+1:Nat):Int) wq_ (gI .i64 (Int.tmod ((n.toNat:Nat):Int) ((p.ws.length+1:Nat):Int)) ((n.toNat%(p.ws.length+1):Nat):Int) (tmod_nat rfl rfl) (pv (nI_ (n.toNat%(p.ws.length+1))) (wER ?_)))))))))))))
  exact pv (nI_ (n.toNat%(p.ws.length+1))) (dC ((((n.toNat%(p.ws.length+1):Nat):Int):Int)>0) (fun hd1=>False.elim om_) fun _=>wE (nCF (wp_skip (nSR (lQ (pq g) ((H3.cell 0).trans rfl) (lQ (nI_ p.at_) ((H4.cell 0).trans rfl) (sO Tryz.func63 #[pq g,nI_ p.at_] (home_ro HB rfl rfl hm hk) (pv (sl gd (512*p.at_) 512 (512*m-512*p.at_)) (wE (then_n (wp_ret (bA (.slice (some ⟨gd,512*p.at_,none⟩) 512 (512*m-512*p.at_)) ⟨rfl,rfl⟩))))))))))))
 ·have hlt:=(List.getElem?_eq_some_iff.1 hx).1
  refine eN (fr [iv n,pq g7,pq g3,pq g4] 18) Tryz.func100 rfl (sR (pv (nS_) (wE (nS (sR (pv (iv n) (gI .i64 (if 0>n then 0 else n) ((n.toNat:Nat):Int) (max_nat n) (lQ (sl gb 0 p.ws.length cb) ((H7.cell 0).trans rfl) (pv (iv (p.ws.length:Nat)) (gI .i64 (IntKind.i64.wrap ((p.ws.length:Nat)+1)) ((p.ws.length+1:Nat):Int) wq_ (gI .i64 (Int.tmod ((n.toNat:Nat):Int) ((p.ws.length+1:Nat):Int)) ((n.toNat%(p.ws.length+1):Nat):Int) (tmod_nat rfl rfl) (pv (nI_ (n.toNat%(p.ws.length+1))) (wER ?_)))))))))))))
  refine pv (nI_ (n.toNat%(p.ws.length+1))) (dC ((((n.toNat%(p.ws.length+1):Nat):Int):Int)>0) (fun _=>wE (nCT (sR (lQ (sl gb 0 p.ws.length cb) ((H7.cell 0).trans rfl) (pv (nI_ (n.toNat%(p.ws.length+1))) (gI .i64 (IntKind.i64.wrap (((n.toNat%(p.ws.length+1):Nat):Int)-1)) ((n.toNat%(p.ws.length+1)-1:Nat):Int) wq_ (g_ (gv_ixE (e:=22) (sz:=1) (g:=gb) (off:=0) (n:=p.ws.length) (c:=cb) (i:=((n.toNat%(p.ws.length+1)-1:Nat):Int)) (k:=.i64) (j:=(n.toNat%(p.ws.length+1)-1)) (off':=(n.toNat%(p.ws.length+1)-1)) rfl kr_ kr_ kr_ kr_ rfl om_ om_ (lQ (sl x.1 0 512 512) ((HV.cell _).trans (hcell _ x hx)) (pv (sl x.1 0 512 512) (wE (then_n (rR ?_))))))))))))) fun hd1=>False.elim om_)
  exact bA (sl x.1 0 512 512) ⟨rfl,rfl⟩
theorem cand_pick {F:Nat→Prop}{w0 w:World}{L:List Ast}{g gd gm m clock:Nat}{fused:Bool}{left life r wr fl rf pn:Int}{D x:List UInt8}{es:List PEnt}{j:Nat}{p:PEnt}(S:St F w0 w ([row g (dcells gd (512*m) (512*m) gm fused left life r wr fl rf pn) 77,row gd (bvs D) 5,pt gm (mapO (es.map PEnt.ent) clock),stars (es.map PEnt.ast)]++L))(hj:es[j]?=some p)(hne:p.ws≠[])(hx:x=(D.drop (512*p.at_)).take 512)(h5:∀x∈p.ws,x.2.length=512)(i:Nat)(hi:i<p.ws.length+1):
  ∃A ca,CandA gd p.at_ m p.ws i A ca∧RoT F w0 ([row g (dcells gd (512*m) (512*m) gm fused left life r wr fl rf pn) 77,row gd (bvs D) 5,pt gm (mapO (es.map PEnt.ent) clock),stars (es.map PEnt.ast)]++L) A ((x::p.ws.map (·.2)).getD i []):=by
 rcases Nat.eq_zero_or_pos i with rfl|h0
 ·exact ⟨_,_,.inl ⟨rfl,rfl,rfl⟩,RoT.item 1 rfl _ 512 _ hx⟩
 ·have hl:i-1<p.ws.length:=by omega
  refine ⟨_,_,.inr ⟨p.ws[i-1],by omega,List.getElem?_eq_getElem hl,rfl,rfl⟩,⟨fun w' L' S'=> ?_⟩⟩
  have h1:(L'++([row g (dcells gd (512*m) (512*m) gm fused left life r wr fl rf pn) 77,row gd (bvs D) 5,pt gm (mapO (es.map PEnt.ent) clock),stars (es.map PEnt.ast)]++L))[L'.length+3]?=some (stars (es.map PEnt.ast)):=by rw [List.getElem?_append_right om_];simp
  obtain ⟨_,_,_,_,_,_,hdat⟩:=pend_facts S' _ h1 hj hne
  have hm:p.ws[i-1]∈p.ws:=List.getElem_mem hl
  refine RdB.row (hdat _ hm) 0 512 _ ?_
  rw [List.drop_zero,List.take_of_length_le (by rw [h5 _ hm];exact Nat.le_refl _)]
  obtain ⟨q,rfl⟩:∃q,i=q+1:=⟨i-1,by omega⟩
  simp at hl
  simp [hl]
theorem outcome_own {F:Nat→Prop}{w0 w:World}{L:List Ast}{g gd gm m clock:Nat}{fused:Bool}{left life r wr fl rf pn:Int}{D x:List UInt8}{es:List PEnt}{j:Nat}{p:PEnt}{pa pb pc:Int}(S:St F w0 w ([row g (dcells gd (512*m) (512*m) gm fused left life r wr fl rf pn) 77,row gd (bvs D) 5,pt gm (mapO (es.map PEnt.ent) clock),stars (es.map PEnt.ast)]++L))(hj:es[j]?=some p)(hje:(es.map PEnt.ent)[j]?=some p.ent)(hke:p.ent.k=((p.at_:Nat):Int))(hfe:∀(m:Nat) (e:Ent),m<j→(es.map PEnt.ent)[m]?=some e→e.k≠((p.at_:Nat):Int))(hne:p.ws≠[])(hx:x=(D.drop (512*p.at_)).take 512)(hx5:x.length=512)(h5:∀x∈p.ws,x.2.length=512)(hm:m≤2048)(hk:p.at_<m)(hq:p.ws.length≤4611686018427387904):
  Calls Tryz.prog 64 #[pq g,nI_ p.at_,.agg #[iv pa,iv pb,iv pc]] w fun e w'=>∃go,e=.returned (.slice (some ⟨go,0,none⟩) 512 512)∧St F w0 w' (row go (bvs (tornS (x::p.ws.map (·.2)) (pa,pb,pc))) 5::([row g (dcells gd (512*m) (512*m) gm fused left life r wr fl rf pn) 77,row gd (bvs D) 5,pt gm (mapO (es.map PEnt.ent) clock),stars (es.map PEnt.ast)]++L)):=by
 obtain ⟨Aa,caa,hAa,hRa⟩:=cand_pick S hj hne hx h5 (pa.toNat%(p.ws.length+1)) (Nat.mod_lt _ (Nat.succ_pos _))
 obtain ⟨Ab,cab,hAb,hRb⟩:=cand_pick S hj hne hx h5 (pb.toNat%(p.ws.length+1)) (Nat.mod_lt _ (Nat.succ_pos _))
 have hone:p.v.oneCell'=true:=by
  obtain ⟨_,_,_,hv,_⟩:=pend_facts S 3 rfl hj hne
  rw [hv];rfl
 have hcl:∀y∈(x::p.ws.map (·.2)),y.length=512:=fun y hy=>by
  rcases List.mem_cons.1 hy with rfl|hy
  ·exact hx5
  ·obtain ⟨z,hz,rfl⟩:=List.mem_map.1 hy;exact h5 z hz
 have hlen:(x::p.ws.map (·.2)).length=p.ws.length+1:=by simp
 have hcl2:∀i,i<p.ws.length+1→((x::p.ws.map (·.2)).getD i []).length=512:=fun i hi=>by
  rw [List.getD_eq_getElem?_getD,List.getElem?_eq_getElem (by rw [hlen];exact hi)];exact hcl _ (List.getElem_mem _)
 have hla:=hcl2 _ (Nat.mod_lt pa.toNat (Nat.succ_pos p.ws.length))
 have hlb:=hcl2 _ (Nat.mod_lt pb.toNat (Nat.succ_pos p.ws.length))
 have hcm:pc.toNat%513<513:=Nat.mod_lt _ dc_
 change St F w0 w (dR g gd (512*m) gm fused left life r wr fl rf pn::row gd (bvs D) 5::pt gm (mapO (es.map PEnt.ent) clock)::stars (es.map PEnt.ast)::L) at S
 refine eN (fr [pq g,nI_ p.at_,.agg #[iv pa,iv pb,iv pc]] 35) Tryz.func64 rfl (sR (nB rfl (pq g) S fun g1 w2 hg3 S4=>nB rfl (nI_ p.at_) S4 fun g5 w6 hg7 S8=>nB rfl (.agg #[iv pa,iv pb,iv pc]) S8 fun g9 w10 hg11 S12=>pv (nS_) (wE (nS (wp_region_phu (γ:=Nat) 7 [6] (fun (c_:Nat) (i_:Nat)=>(match i_ with|0=>pq g|1=>pq g|2=>po g 1|3=>.map (some gm)|4=>nI_ p.at_|5=>p.v|6=>pq c_|_=>undef:Value)) (fun (c_:Nat) (p_:Nat) (w_:World)=>(match p_ with|0=>St F w0 w_ (row g9 #[iv pa,iv pb,iv pc] 97::row g5 #[nI_ p.at_] 3::row g1 #[pq g] 30::dR g gd (512*m) gm fused left life r wr fl rf pn::row gd (bvs D) 5::pt gm (mapO (es.map PEnt.ent) clock)::stars (es.map PEnt.ast)::L)|_=>St F w0 w_ (row c_ #[nS_] 78::row g9 #[iv pa,iv pb,iv pc] 97::row g5 #[nI_ p.at_] 3::row g1 #[pq g] 30::dR g gd (512*m) gm fused left life r wr fl rf pn::row gd (bvs D) 5::pt gm (mapO (es.map PEnt.ent) clock)::stars (es.map PEnt.ast)::L):Prop)) (0) kr_ kr_ kr_ kr_ (S12.drew) ?_ ?_ ?_)))))
 ·intro i_ c_ p_ vals_ w1 hi_ hiE_ hp_ hk_ hu_ hPh_ hd_
  rcases i_ with _|_|_|_|_|_|_|i_
  ·rcases p_ with _|_|p_
   ·have S13:=St.id hPh_
    exact tG_ rfl hd_ (gL (pq g) rfl (((S13.blk 2 rfl).cell 0).trans rfl) ⟨rfl,rfl⟩)
   ·have S14:=St.id hPh_
    exact tG_ rfl hd_ (gL (pq g) rfl (((S14.blk 3 rfl).cell 0).trans rfl) ⟨rfl,rfl⟩)
   ·exact absurd hp_ (by simp)
  ·exact tG_ rfl hd_ (gV (pq g) ⟨rfl,rfl⟩)
  ·exact tG_ rfl hd_ (gV (po g 1) ⟨rfl,rfl⟩)
  ·rcases p_ with _|_|p_
   ·have S17:=St.id hPh_
    exact tG_ rfl hd_ (gL (.map (some gm)) rfl (((S17.blk 3 rfl).cell 1).trans rfl) ⟨rfl,rfl⟩)
   ·have S18:=St.id hPh_
    exact tG_ rfl hd_ (gL (.map (some gm)) rfl (((S18.blk 4 rfl).cell 1).trans rfl) ⟨rfl,rfl⟩)
   ·exact absurd hp_ (by simp)
  ·rcases p_ with _|_|p_
   ·have S19:=St.id hPh_
    exact tG_ rfl hd_ (gL (nI_ p.at_) rfl (((S19.blk 1 rfl).cell 0).trans rfl) ⟨rfl,rfl⟩)
   ·have S20:=St.id hPh_
    exact tG_ rfl hd_ (gL (nI_ p.at_) rfl (((S20.blk 2 rfl).cell 0).trans rfl) ⟨rfl,rfl⟩)
   ·exact absurd hp_ (by simp)
  ·rcases p_ with _|_|p_
   ·have S21:=St.id hPh_
    exact tG_ rfl hd_ (gv_look_some (kT:=3) (eT:=78) (k:=((p.at_:Nat):Int)) (S21.get 5 rfl) rfl kr_ kr_ kr_ kr_ hje hke hfe ⟨rfl,rfl⟩)
   ·have S22:=St.id hPh_
    exact tG_ rfl hd_ (gv_look_some (kT:=3) (eT:=78) (k:=((p.at_:Nat):Int)) (S22.get 6 rfl) rfl kr_ kr_ kr_ kr_ hje hke hfe ⟨rfl,rfl⟩)
   ·exact absurd hp_ (by simp)
  ·exact absurd hiE_ dc_
  ·exact absurd hi_ om_
 ·intro k_ c_ vals_ w1 hk_ hPh_ hd_
  rcases k_ with _|k_
  ·have S23:=St.id hPh_
   refine tG_ rfl hd_ (gv_new (z:=nS_) S23 rfl kr_ (fun g24 w25 hg26 S27=>⟨(g24),rfl, ?_,S27⟩))
   intro i_ hi_ hne_ hdp_
   rcases i_ with _|_|_|_|_|_|_|i_
   ·rfl
   ·rfl
   ·rfl
   ·rfl
   ·rfl
   ·rfl
   ·exact absurd rfl hne_
   ·exact absurd hi_ om_
  ·exact absurd hk_ (by simp)
 ·intro c_ w1 hPh_
  have S28:=St.id hPh_
  refine (g_ (gv_st (k:=0) (v:=p.v) S28 0 rfl rfl kr_ kr_ kr_ hone rfl (L':=(row c_ #[p.v] 78::row g9 #[iv pa,iv pb,iv pc] 97::row g5 #[nI_ p.at_] 3::row g1 #[pq g] 30::dR g gd (512*m) gm fused left life r wr fl rf pn::row gd (bvs D) 5::pt gm (mapO (es.map PEnt.ent) clock)::stars (es.map PEnt.ast)::L)) rfl (fun w29 S30=>wE (nSR (pv (.func (.func 100) #[] #[pq c_,pq g1,pq g5]) (pv (.func (.func 100) #[] #[pq c_,pq g1,pq g5]) (wER (pv (po g9 2) (lR (iv pc) S30 1 2 (gI .i64 (if 0>pc then 0 else pc) ((pc.toNat:Nat):Int) (max_nat pc) (gI .i64 (Int.tmod ((pc.toNat:Nat):Int) 513) ((pc.toNat%513:Nat):Int) (tmod_nat rfl rfl) (pv (nI_ (pc.toNat%513)) (wER (g_ (gv_make (e:=5) (u:=512) (v:=512) (z:=.int .u8 0) (sz:=1) (by_:=1) (n:=512) (c:=512) (cs:=(bvs (List.replicate 512 0))) S30 rfl kr_ ⟨by kernel_rfl⟩ kr_ kr_ rfl rfl (Nat.le_refl _) dc_ dc_ (mk_bytes _) (fun g31 w32 hg33 S34=> ?_))))))))))))))))
  refine pv (sl g31 0 512 512) (wER (pv (sl g31 0 512 512) (pv (.func (.func 100) #[] #[pq c_,pq g1,pq g5]) (pv (po g9 1) (lR (iv pb) S34 2 1 (g_ (gv_callC (f:=100) (args:=#[iv pb,pq c_,pq g1,pq g5]) (caps:=#[pq c_,pq g1,pq g5]) rfl Tryz.func100 kr_ rfl kr_ kr_ (Calls.mono (cand_ro (p:=p) (S34.blk 5 rfl) (S34.blk 1 rfl) (S34.blk 4 rfl) (S34.blk 3 rfl) hm hk hq ((pend_facts S34 8 rfl hj hne).elim fun a h=>h.elim fun b h=>h.elim fun c h=>⟨a,b,c,h.1,h.2.1,h.2.2.1⟩) hAb) ?_))))))))
  rintro _ _ ⟨rfl,rfl⟩
  refine ⟨_,rfl,(g_ (gv_copy (e:=5) (off:=0) (dLen:=512) (dCap:=512) (sLen:=512) (sCap:=cab) (A:=Ab) (B:=(List.replicate 512 0)) (l:=((x::p.ws.map (·.2)).getD (pb.toNat%(p.ws.length+1)) [])) S34 0 rfl rfl kr_ kr_ kr_ kr_ hlb.symm (hRb.out _ [row g31 (bvs (List.replicate 512 0)) 5,row c_ #[p.v] 78,row g9 #[iv pa,iv pb,iv pc] 97,row g5 #[nI_ p.at_] 3,row g1 #[pq g] 30] S34) (by rw [List.length_replicate];omega) (L':=(row g31 (bvs ((x::p.ws.map (·.2)).getD (pb.toNat%(p.ws.length+1)) [])) 5::row c_ #[p.v] 78::row g9 #[iv pa,iv pb,iv pc] 97::row g5 #[nI_ p.at_] 3::row g1 #[pq g] 30::dR g gd (512*m) gm fused left life r wr fl rf pn::row gd (bvs D) 5::pt gm (mapO (es.map PEnt.ent) clock)::stars (es.map PEnt.ast)::L)) (by rw [copy512 hlb];rfl) (fun w35 m37 S36=>wE (nS (wp_region_phu (γ:=Int) 8 [7] (fun (c2_:Int) (i_:Nat)=>(match i_ with|0=>sl g31 0 512 512|1=>nI_ (pc.toNat%513)|2=>sl g31 0 (pc.toNat%513) 512|3=>.func (.func 100) #[] #[pq c_,pq g1,pq g5]|4=>pq g9|5=>iv pa|6=>.slice Aa 512 caa|7=>goInt c2_|_=>undef:Value)) (fun (c2_:Int) (p_:Nat) (w_:World)=>(match p_ with|0=>St F w0 w_ (row g31 (bvs ((x::p.ws.map (·.2)).getD (pb.toNat%(p.ws.length+1)) [])) 5::row c_ #[p.v] 78::row g9 #[iv pa,iv pb,iv pc] 97::row g5 #[nI_ p.at_] 3::row g1 #[pq g] 30::dR g gd (512*m) gm fused left life r wr fl rf pn::row gd (bvs D) 5::pt gm (mapO (es.map PEnt.ent) clock)::stars (es.map PEnt.ast)::L)|_=>St F w0 w_ (row g31 (bvs (tornS (x::p.ws.map (·.2)) (pa,pb,pc))) 5::row c_ #[p.v] 78::row g9 #[iv pa,iv pb,iv pc] 97::row g5 #[nI_ p.at_] 3::row g1 #[pq g] 30::dR g gd (512*m) gm fused left life r wr fl rf pn::row gd (bvs D) 5::pt gm (mapO (es.map PEnt.ent) clock)::stars (es.map PEnt.ast)::L):Prop)) (0) kr_ kr_ kr_ kr_ (S36.drew) ?_ ?_ ?_)))))⟩
  ·intro i_ c2_ p_ vals_ w1 hi_ hiE_ hp_ hk_ hu_ hPh_ hd_
   rcases i_ with _|_|_|_|_|_|_|_|i_
   ·exact tG_ rfl hd_ (gV (sl g31 0 512 512) ⟨rfl,rfl⟩)
   ·exact tG_ rfl hd_ (gV (nI_ (pc.toNat%513)) ⟨rfl,rfl⟩)
   ·exact tG_ rfl hd_ (gv_cutTo (e:=5) (sz:=1) (A:=(some ⟨g31,0,none⟩)) (n:=512) (c:=512) (kh:=.i64) (v:=((pc.toNat%513:Nat):Int)) (hi:=(pc.toNat%513)) rfl kr_ kr_ kr_ kr_ rfl om_ ⟨rfl,rfl⟩)
   ·exact tG_ rfl hd_ (gV (.func (.func 100) #[] #[pq c_,pq g1,pq g5]) ⟨rfl,rfl⟩)
   ·exact tG_ rfl hd_ (gV (pq g9) ⟨rfl,rfl⟩)
   ·rcases p_ with _|_|p_
    ·have S43:=St.id hPh_
     exact tG_ rfl hd_ (gL (iv pa) rfl (((S43.blk 2 rfl).cell 0).trans rfl) ⟨rfl,rfl⟩)
    ·exact absurd (hu_ 0 dc_ kr_) dc_
    ·exact absurd hp_ (by simp)
   ·rcases p_ with _|_|p_
    ·have S44:=St.id hPh_
     refine tG_ rfl hd_ (gv_callC (f:=100) (args:=#[iv pa,pq c_,pq g1,pq g5]) (caps:=#[pq c_,pq g1,pq g5]) rfl Tryz.func100 kr_ rfl kr_ kr_ (Calls.mono (cand_ro (p:=p) (S44.blk 5 rfl) (S44.blk 1 rfl) (S44.blk 4 rfl) (S44.blk 3 rfl) hm hk hq ((pend_facts S44 8 rfl hj hne).elim fun a h=>h.elim fun b h=>h.elim fun c h=>⟨a,b,c,h.1,h.2.1,h.2.2.1⟩) hAa) ?_))
     rintro _ _ ⟨rfl,rfl⟩
     exact ⟨_,rfl,⟨rfl,rfl⟩⟩
    ·exact absurd (hu_ 0 dc_ kr_) dc_
    ·exact absurd hp_ (by simp)
   ·exact absurd hiE_ dc_
   ·exact absurd hi_ om_
  ·intro k_ c2_ vals_ w1 hk_ hPh_ hd_
   rcases k_ with _|k_
   ·have S45:=St.id hPh_
    refine tG_ rfl hd_ (gv_copy (e:=5) (off:=0) (dLen:=(pc.toNat%513)) (dCap:=512) (sLen:=512) (sCap:=caa) (A:=Aa) (B:=((x::p.ws.map (·.2)).getD (pb.toNat%(p.ws.length+1)) [])) (l:=((x::p.ws.map (·.2)).getD (pa.toNat%(p.ws.length+1)) [])) S45 0 rfl rfl kr_ kr_ kr_ kr_ hla.symm (hRa.out _ [row g31 (bvs ((x::p.ws.map (·.2)).getD (pb.toNat%(p.ws.length+1)) [])) 5,row c_ #[p.v] 78,row g9 #[iv pa,iv pb,iv pc] 97,row g5 #[nI_ p.at_] 3,row g1 #[pq g] 30] S45) (by rw [hlb];omega) (L':=(row g31 (bvs (tornS (x::p.ws.map (·.2)) (pa,pb,pc))) 5::row c_ #[p.v] 78::row g9 #[iv pa,iv pb,iv pc] 97::row g5 #[nI_ p.at_] 3::row g1 #[pq g] 30::dR g gd (512*m) gm fused left life r wr fl rf pn::row gd (bvs D) 5::pt gm (mapO (es.map PEnt.ent) clock)::stars (es.map PEnt.ast)::L)) (by rw [show splice ((x::p.ws.map (·.2)).getD (pb.toNat%(p.ws.length+1)) []) 0 (List.take (pc.toNat%513) ((x::p.ws.map (·.2)).getD (pa.toNat%(p.ws.length+1)) []))=(tornS (x::p.ws.map (·.2)) (pa,pb,pc)) from by unfold tornS splice;rw [hlen,List.take_zero,List.nil_append,Nat.zero_add,List.length_take,hla,Nat.min_eq_left om_]];rfl) (fun w46 m48 S47=> ?_))
    refine ⟨(m48),rfl, ?_,S47⟩
    intro i_ hi_ hne_ hdp_
    rcases i_ with _|_|_|_|_|_|_|_|i_
    ·rfl
    ·rfl
    ·rfl
    ·rfl
    ·rfl
    ·rfl
    ·rfl
    ·exact absurd rfl hne_
    ·exact absurd hi_ om_
   ·exact absurd hk_ (by simp)
  ·intro c2_ w1 hPh_
   have S49:=St.id hPh_
   refine (wE ?_)
   refine nSR (pv (sl g31 0 512 512) (pv (sl g31 0 512 512) (wE (then_n (wp_ret (bA (sl g31 0 512 512) ?_))))))
   have S50:=St.pm 9 [0,5,6,7,8] S49
   exact ⟨_,rfl,S50⟩
theorem nodup_sub {α:Type}[BEq α][LawfulBEq α]:∀(l m:List α),l.Nodup→(∀x∈l,x∈m)→l.length≤m.length
 |[],_,_,_=>Nat.zero_le _
 |x::r,m,hn,h=>by
  have hx:=h x List.mem_cons_self
  have h1:=nodup_sub r (m.erase x) (List.nodup_cons.1 hn).2 fun y hy=>(List.mem_erase_of_ne (fun e=>(List.nodup_cons.1 hn).1 (by subst e;exact hy))).2 (h y (List.mem_cons_of_mem _ hy))
  rw [List.length_erase_of_mem hx] at h1
  have:=List.length_pos_of_mem hx
  rw [List.length_cons];omega
theorem PFacts.few {s:Dsk}{clock:Nat}{es:List PEnt}{fused:Bool}{left:Int}(h:PFacts s clock es fused left){ps:List PEnt}(hps:∀p∈ps,p∈es)(hnd:(ps.map (·.b)).Nodup):ps.length≤2048:=by
 have h1:=nodup_sub (ps.map (·.b)) (es.map (·.b)) hnd fun x hx=>by
  obtain ⟨p,hp,rfl⟩:=List.mem_map.1 hx
  exact List.mem_map.2 ⟨p,hps p hp,rfl⟩
 have h2:=nodup_sub (es.map (·.at_)) (List.range s.last.length) h.keyN fun x hx=>by
  obtain ⟨p,hp,rfl⟩:=List.mem_map.1 hx
  obtain ⟨j,_,_,_,_,hk,_⟩:=h.find_mem hp
  exact List.mem_range.2 hk
 have:=h.n2
 simp only [List.length_map,List.length_range] at h1 h2;omega
theorem St.vec_rdv {F:Nat→Prop}{w0 w:World}{L:List Ast}{e:TypeId}{A:Option Addr}{n c:Nat}{vals:List Value}(S:St F w0 w L)(i:Nat)(hi:L[i]?=some (vec e 1 (.slice A n c) n vals)):RdV w A vals:=by
 have S1:=S.mem i hi
 rcases S1.vec_cases with ⟨h,rfl,rfl,_⟩|⟨g,c',junk,h,_,h3,_,S2⟩
 ·exact fun h=>absurd h (Nat.lt_irrefl 0)
 ·simp at h
  obtain ⟨rfl,_⟩:=h
  exact fun _=>⟨_,rfl,fun j u hu=>by
   rw [Addr.add_lit,Nat.zero_add,(S2.blk 0 rfl).cell,List.getElem?_toArray,List.getElem?_append_left (List.getElem?_eq_some_iff.1 hu).1];exact hu⟩
theorem pd_crash {F:Nat→Prop}{w0 w:World}{L:List Ast}{g:Nat}{s:Dsk}{A:Option Addr}{ps:List Pick}{n c:Nat}(S:St F w0 w (PDisk g s::L))(hr:RoV F w0 L A (picksV ps))(hn:n=ps.length)(hpm:ps.length≤9223372036854775807):
  Calls Tryz.prog 26 #[pq g,.slice A n c] w fun e w'=>e=.returned (.tuple #[])∧St F w0 w' (PDisk g (s.crashR ps)::L):=by
 obtain ⟨gd,gm,clock,es,fused,left,hf,S⟩:=St.popen S
 have hn2:=hf.n2
 have hol:=hf.out_len ps
 have hkl:=keysTo_len s s.last.length
 change (crashKeys s).length≤_ at hkl
 have hA:∀i,(applyP s.last ((crashOuts s ps).take i)).length=s.last.length∧∀l∈applyP s.last ((crashOuts s ps).take i),l.length=512:=fun i=>⟨length_applyP _ _,applyP_all _ _ hf.len (fun x hx=>hol x (List.mem_of_mem_take hx))⟩
 have hD:∀i,(applyP s.last ((crashOuts s ps).take i)).flatten.length=512*s.last.length:=fun i=>(flat_len (hA i).2).trans (by rw [(hA i).1])
 change St F w0 w (dR g gd (512*s.last.length) gm fused left s.life s.rd s.wr s.fl s.rf (s.pend.length:Int)::row gd (bvs s.last.flatten) 5::pt gm (mapO (es.map PEnt.ent) clock)::stars (es.map PEnt.ast)::L) at S
 refine eN (fr [pq g,.slice A n c] 60) Tryz.func26 rfl (sR (pv (nS_) (wE (nS (sR (pv (pq g) (pv (pq g) (pv (po g 1) (lR (.map (some gm)) S 0 1 ?_)))))))))
 have S1:St F w0 w (vec 3 1 (nS_) 0 []::dR g gd (512*s.last.length) gm fused left s.life s.rd s.wr s.fl s.rf (s.pend.length:Int)::row gd (bvs s.last.flatten) 5::pt gm (mapO (es.map PEnt.ent) clock)::stars (es.map PEnt.ast)::L):=St.vec_nil S
 refine g_ (gv_range (kT:=3) (eT:=78) (g:=gm) (clock:=clock) (es:=es.map PEnt.ent) S1 3 rfl rfl kr_ kr_ (fun gi2 w3 hg4 S5=> ?_))
 have S6:St F w0 w3 (vec 3 1 (nS_) 0 []::pt gi2 (iterO gm clock [])::dR g gd (512*s.last.length) gm fused left s.life s.rd s.wr s.fl s.rf (s.pend.length:Int)::row gd (bvs s.last.flatten) 5::pt gm (mapO (es.map PEnt.ent) clock)::stars (es.map PEnt.ast)::L):=St.pm 6 [1,0,2,3,4,5] S5
 refine wE (then_n (wp_block (wp_loop_g (G:=List PEnt×Value) (fun (g_:List PEnt×Value) (a_:Act) (w_:World)=>∃J:Nat→Value,a_=(fr ([pq g,.slice A n c,ud,ud,g_.2,J 5,ud,ud,ud,pq g,pq g,po g 1,.map (some gm),pq gi2]++jR J 14 8) 40)∧St F w0 w_ (vec 3 1 g_.2 g_.1.length ((g_.1.map fun p=>((p.at_:Nat):Int)).map (Value.int .i64))::pt gi2 (iterO gm clock (g_.1.map (·.b)))::dR g gd (512*s.last.length) gm fused left s.life s.rd s.wr s.fl s.rf (s.pend.length:Int)::row gd (bvs s.last.flatten) 5::pt gm (mapO (es.map PEnt.ent) clock)::stars (es.map PEnt.ast)::L)∧((∀p∈g_.1,p∈es)∧(g_.1.map (·.b)).Nodup)) (fun g_=>(leftE (es.map PEnt.ent) (g_.1.map (·.b))).length) ([],nS_) (jE_ ⟨S6,⟨(fun p hp=>by cases hp),List.nodup_nil⟩⟩) ?_)))
 rintro ⟨es1,v⟩ a_ w7 ⟨J,rfl,S8,hI9⟩
 skip
 have S8:St F w0 w7 (vec 3 1 v es1.length ((es1.map fun p=>((p.at_:Nat):Int)).map (Value.int .i64))::pt gi2 (iterO gm clock (es1.map (·.b)))::dR g gd (512*s.last.length) gm fused left s.life s.rd s.wr s.fl s.rf (s.pend.length:Int)::row gd (bvs s.last.flatten) 5::pt gm (mapO (es.map PEnt.ent) clock)::stars (es.map PEnt.ast)::L):=S8
 have hI9:((∀p∈es1,p∈es)∧(es1.map (·.b)).Nodup):=hI9
 refine sR ?_
 have hfw:=hf.few hI9.1 hI9.2
 refine g_ (gv_next (g:=gm) (clock:=clock) (es:=es.map PEnt.ent) (gi:=gi2) (seen:=es1.map (·.b)) S8 1 4 rfl rfl (fun e he=>by obtain ⟨p,hp,rfl⟩:=List.mem_map.1 he;exact hf.born p hp) rfl kr_ (fun hl=> ?_) (fun e w10 hel S11=> ?_))
 ·refine pv fv (wE (nS (cF (wp_exit (then_x (then_x (inb_x (nSR (pv v (sP Tryz.func62 #[v] (sort_own S8 om_) fun w12 S13=> ?_))))))))))
  have hso:=hf.sorted hI9.1 hI9.2 hl
  have hkn:es1.length=(crashKeys s).length:=by have:=congrArg List.length hso;rw [List.length_mergeSort,List.length_map,List.length_map] at this;exact this
  rw [hso,hkn] at S13
  obtain ⟨A1,c1,rfl⟩:=S13.vec_val
  have S14:St F w0 w12 (vec 3 1 (.slice A1 (crashKeys s).length c1) (crashKeys s).length (((crashKeys s).map fun a=>((a:Nat):Int)).map (Value.int .i64))::dR g gd (512*s.last.length) gm fused left s.life s.rd s.wr s.fl s.rf (s.pend.length:Int)::row gd (bvs s.last.flatten) 5::pt gm (mapO (es.map PEnt.ent) clock)::stars (es.map PEnt.ast)::L):=St.pm 6 [0,2,3,4,5] S13
  have e0:s.last.flatten=(applyP s.last ((crashOuts s ps).take 0)).flatten:=by rw [List.take_zero];rfl
  rw [e0] at S14
  refine wE (nS (sR (pv (.slice A1 ((crashKeys s).length) c1) (pv (iv ((crashKeys s).length:Nat)) (pv (iv 0) (wE (then_n (wp_block (wp_loop_g (G:=Nat) (fun (g_:Nat) (a_:Act) (w_:World)=>∃J:Nat→Value,a_=(fr ([pq g,.slice A n c,ud,ud,.slice A1 ((crashKeys s).length) c1]++jR J 5 4++[pq g,pq g,po g 1,.map (some gm),pq gi2,.tuple #[fv],fv]++jR J 16 6++[.slice A1 ((crashKeys s).length) c1,.tuple #[],.slice A1 ((crashKeys s).length) c1,iv ((crashKeys s).length:Nat),nI_ g_]++jR J 27 23) 12)∧St F w0 w_ (vec 3 1 (.slice A1 (crashKeys s).length c1) (crashKeys s).length (((crashKeys s).map fun a=>((a:Nat):Int)).map (Value.int .i64))::dR g gd (512*s.last.length) gm fused left s.life s.rd s.wr s.fl s.rf (s.pend.length:Int)::row gd (bvs (applyP s.last ((crashOuts s ps).take g_)).flatten) 5::pt gm (mapO (es.map PEnt.ent) clock)::stars (es.map PEnt.ast)::L)∧(g_≤(crashKeys s).length)) (fun g_=>(crashKeys s).length-g_) 0 (jE_ ⟨S14,(Nat.zero_le _)⟩) ?_)))))))))
  rintro k a_ w15 ⟨J,rfl,S16,hI17⟩
  skip
  have S16:St F w0 w15 (vec 3 1 (.slice A1 (crashKeys s).length c1) (crashKeys s).length (((crashKeys s).map fun a=>((a:Nat):Int)).map (Value.int .i64))::dR g gd (512*s.last.length) gm fused left s.life s.rd s.wr s.fl s.rf (s.pend.length:Int)::row gd (bvs (applyP s.last ((crashOuts s ps).take k)).flatten) 5::pt gm (mapO (es.map PEnt.ent) clock)::stars (es.map PEnt.ast)::L):=S16
  have hI17:(k≤(crashKeys s).length):=hI17
  refine sR (dC ((((k:Nat):Int):Int)<((crashKeys s).length:Nat)) (fun hb18=> ?_) fun hb18=> ?_)
  ·have hkk:k<(crashKeys s).length:=by omega
   obtain ⟨p,hpe,hat⟩:=hf.key_mem.1 (List.getElem_mem hkk)
   have hK:(crashKeys s)[k]?=some p.at_:=by rw [List.getElem?_eq_getElem hkk,hat]
   obtain ⟨j,hj,hje,hke,hfe,hk,hne,hx512,hle⟩:=hf.find_mem hpe
   have hq:p.ws.length≤4611686018427387904:=by have:=hf.pn;omega
   have hgd:(applyP s.last ((crashOuts s ps).take k))[p.at_]?=some (s.last.getD p.at_ []):=by rw [←applyP_getD _ _ _ (out_fst hK)];exact mem_getD (by rw [(hA k).1];exact hk)
   have hx:=(flat_sec (hA k).2 p.at_ _ hgd).symm
   have hx5:=(hA k).2 _ (List.mem_of_getElem? hgd)
   have hcs:s.last.getD p.at_ []::p.ws.map (·.2)=candS s p.at_:=by rw [hf.ws p hpe];rfl
   have htl:(tornS (candS s p.at_) (pickAt ps k)).length=512:=tornS_len (hf.cand_len hk) (by simp [candS])
   have hDk:=hD k
   obtain ⟨ad1,hAd1,hrd⟩:=(St.vec_rdv S16 0 rfl) (by simp;omega)
   refine wE (nS (cT (wp_skip (nS (wp_block (sR (pv (nI_ k) (g_ (gv_ixB (e:=3) (sz:=1) (n:=((crashKeys s).length)) (c:=c1) (i:=((k:Nat):Int)) (k:=.i64) (ad:=ad1) (ad':=(ad1.add k)) (j:=k) rfl kr_ kr_ (by rw [←hAd1];kernel_rfl) kr_ rfl om_ (by rw [Nat.mul_one]) (lQ (nI_ p.at_) (hrd k _ (by rw [List.getElem?_map,List.getElem?_map,hK];rfl)) ?_))))))))))
   refine pv (nI_ k) (pv (nI_ p.at_) (wER (nW rfl (.agg #[iv 0,iv 0,iv 0]) S16 fun g19 w20 hg21 S22=>wE (nS (sR (pv (.slice A n c) (pv (iv (n:Nat)) (dC (((n:Nat):Int)>0) (fun hb23=> ?_) fun hb23=> ?_))))))))
   ·have hp0:0<ps.length:=by omega
    have hn1:n=n-1+1:=by omega
    obtain ⟨ad,hAd,hrp⟩:=hr.out _ [row g19 #[.int .i64 0,.int .i64 0,.int .i64 0] 97,vec 3 1 (.slice A1 (crashKeys s).length c1) (crashKeys s).length (((crashKeys s).map fun a=>((a:Nat):Int)).map (Value.int .i64)),row g #[.slice (some ⟨gd,0,none⟩) (512*s.last.length) (512*s.last.length),.map (some gm),.bool fused,.int .i64 left,.int .i64 s.life,.int .i64 s.rd,.int .i64 s.wr,.int .i64 s.fl,.int .i64 s.rf,.int .i64 (s.pend.length:Int)] 77,row gd (bvs (applyP s.last ((crashOuts s ps).take k)).flatten) 5,pt gm (mapO (es.map PEnt.ent) clock),stars (es.map PEnt.ast)] S22 (by rw [length_picksV];omega)
    have hrq:RdV w20 (some ad) (picksV ps):=fun _=>⟨ad,rfl,hrp⟩
    have hkm:k%ps.length<ps.length:=Nat.mod_lt _ hp0
    have hpk:ps[k%ps.length]?=some (pickAt ps k):=by unfold pickAt;rw [if_neg om_,List.getD_eq_getElem?_getD,List.getElem?_eq_getElem hkm];rfl
    refine wE (nCT (wp_region_lit (pv (.slice A n c) (pv (nI_ k) (pv (.slice A n c) (pv (iv (n:Nat)) (g_ (gv_int (k:=.i64) (z:=Int.tmod ((k:Nat):Int) (n:Nat)) (z':=((k%ps.length:Nat):Int)) (by rw [hn1];kernel_rfl) (tmod_nat rfl om_) (g_ (gv_ixB (e:=97) (sz:=3) (n:=n) (c:=c) (i:=((k%ps.length:Nat):Int)) (k:=.i64) (ad:=ad) (ad':=(ad.add ((k%ps.length)*3))) (j:=(k%ps.length)) rfl kr_ kr_ (by rw [←hAd];kernel_rfl) kr_ rfl om_ rfl (g_ (gv_ldRA (ad:=ad.add (k%ps.length*3)) (vs:=[iv ((pickAt ps k).1),iv ((pickAt ps k).2.1),iv ((pickAt ps k).2.2)]) (n:=3) rfl kr_ kr_ rfl (RoV.cells hrq (k%ps.length*3) (fun j u hu=>picksV_at ps _ _ hpk j u hu) (Nat.succ_pos _)) (g_ (gv_stA (k:=0) (vs:=[iv ((pickAt ps k).1),iv ((pickAt ps k).2.1),iv ((pickAt ps k).2.2)]) S22 0 rfl rfl kr_ kr_ kr_ rfl (by simp [Value.oneCell']) (Nat.le_of_ble_eq_true kr_) (L':=(row g19 #[iv ((pickAt ps k).1),iv ((pickAt ps k).2.1),iv ((pickAt ps k).2.2)] 97::vec 3 1 (.slice A1 (crashKeys s).length c1) (crashKeys s).length (((crashKeys s).map fun a=>((a:Nat):Int)).map (Value.int .i64))::dR g gd (512*s.last.length) gm fused left s.life s.rd s.wr s.fl s.rf (s.pend.length:Int)::row gd (bvs (applyP s.last ((crashOuts s ps).take k)).flatten) 5::pt gm (mapO (es.map PEnt.ent) clock)::stars (es.map PEnt.ast)::L)) rfl (fun w24 S25=> ?_)))))))))))))))
    refine wE (then_n ?_)
    have S26:St F w0 w24 (dR g gd (512*s.last.length) gm fused left s.life s.rd s.wr s.fl s.rf (s.pend.length:Int)::row gd (bvs (applyP s.last ((crashOuts s ps).take k)).flatten) 5::pt gm (mapO (es.map PEnt.ent) clock)::stars (es.map PEnt.ast)::row g19 #[iv ((pickAt ps k).1),iv ((pickAt ps k).2.1),iv ((pickAt ps k).2.2)] 97::vec 3 1 (.slice A1 (crashKeys s).length c1) (crashKeys s).length (((crashKeys s).map fun a=>((a:Nat):Int)).map (Value.int .i64))::L):=St.pm 6 [2,3,4,5,0,1] S25
    refine wp_region_phu (γ:=Nat×Int) 8 [6,7] (fun (c_:Nat×Int) (i_:Nat)=>(match i_ with|0=>pq g|1=>nI_ p.at_|2=>.slice (some ⟨gd,512*p.at_,none⟩) 512 (512*s.last.length-512*p.at_)|3=>pq g|4=>nI_ p.at_|5=>.agg #[iv ((pickAt ps k).1),iv ((pickAt ps k).2.1),iv ((pickAt ps k).2.2)]|6=>sl c_.1 0 512 512|7=>goInt c_.2|_=>undef:Value)) (fun (c_:Nat×Int) (p_:Nat) (w_:World)=>(match p_ with|0=>St F w0 w_ (dR g gd (512*s.last.length) gm fused left s.life s.rd s.wr s.fl s.rf (s.pend.length:Int)::row gd (bvs (applyP s.last ((crashOuts s ps).take k)).flatten) 5::pt gm (mapO (es.map PEnt.ent) clock)::stars (es.map PEnt.ast)::row g19 #[iv ((pickAt ps k).1),iv ((pickAt ps k).2.1),iv ((pickAt ps k).2.2)] 97::vec 3 1 (.slice A1 (crashKeys s).length c1) (crashKeys s).length (((crashKeys s).map fun a=>((a:Nat):Int)).map (Value.int .i64))::L)|1=>St F w0 w_ (row c_.1 (bvs (tornS (candS s p.at_) (pickAt ps k))) 5::dR g gd (512*s.last.length) gm fused left s.life s.rd s.wr s.fl s.rf (s.pend.length:Int)::row gd (bvs (applyP s.last ((crashOuts s ps).take k)).flatten) 5::pt gm (mapO (es.map PEnt.ent) clock)::stars (es.map PEnt.ast)::row g19 #[iv ((pickAt ps k).1),iv ((pickAt ps k).2.1),iv ((pickAt ps k).2.2)] 97::vec 3 1 (.slice A1 (crashKeys s).length c1) (crashKeys s).length (((crashKeys s).map fun a=>((a:Nat):Int)).map (Value.int .i64))::L)|_=>St F w0 w_ (row c_.1 (bvs (tornS (candS s p.at_) (pickAt ps k))) 5::dR g gd (512*s.last.length) gm fused left s.life s.rd s.wr s.fl s.rf (s.pend.length:Int)::row gd (bvs ((applyP s.last ((crashOuts s ps).take (k+1))).flatten)) 5::pt gm (mapO (es.map PEnt.ent) clock)::stars (es.map PEnt.ast)::row g19 #[iv ((pickAt ps k).1),iv ((pickAt ps k).2.1),iv ((pickAt ps k).2.2)] 97::vec 3 1 (.slice A1 (crashKeys s).length c1) (crashKeys s).length (((crashKeys s).map fun a=>((a:Nat):Int)).map (Value.int .i64))::L):Prop)) (0,0) kr_ kr_ kr_ kr_ (S26.drew) ?_ ?_ ?_
    ·intro i_ c_ p_ vals_ w1 hi_ hiE_ hp_ hk_ hu_ hPh_ hd_
     rcases i_ with _|_|_|_|_|_|_|_|i_
     ·exact tG_ rfl hd_ (gV (pq g) ⟨rfl,rfl⟩)
     ·exact tG_ rfl hd_ (gV (nI_ p.at_) ⟨rfl,rfl⟩)
     ·rcases p_ with _|_|_|p_
      ·have S29:=St.id hPh_
       refine tG_ rfl hd_ (gv_call (args:=#[pq g,nI_ p.at_]) rfl Tryz.func63 kr_ rfl rfl kr_ (Calls.mono (home_ro (S29.blk 0 rfl) rfl rfl hn2 hk) ?_))
       rintro _ _ ⟨rfl,rfl⟩
       exact ⟨_,rfl,⟨rfl,rfl⟩⟩
      ·exact absurd (hu_ 0 dc_ kr_) dc_
      ·exact absurd (hu_ 0 dc_ kr_) dc_
      ·exact absurd hp_ (by simp)
     ·exact tG_ rfl hd_ (gV (pq g) ⟨rfl,rfl⟩)
     ·exact tG_ rfl hd_ (gV (nI_ p.at_) ⟨rfl,rfl⟩)
     ·rcases p_ with _|_|_|p_
      ·have S32:=St.id hPh_
       exact tG_ rfl hd_ (gv_ldA (k:=0) (n:=3) (vs:=[iv ((pickAt ps k).1),iv ((pickAt ps k).2.1),iv ((pickAt ps k).2.2)]) S32 4 rfl rfl kr_ kr_ rfl rfl ⟨rfl,rfl⟩)
      ·exact absurd (hu_ 0 dc_ kr_) dc_
      ·exact absurd (hu_ 0 dc_ kr_) dc_
      ·exact absurd hp_ (by simp)
     ·exact absurd hiE_ dc_
     ·exact absurd hiE_ dc_
     ·exact absurd hi_ om_
    ·intro k_ c_ vals_ w1 hk_ hPh_ hd_
     rcases k_ with _|_|k_
     ·have S33:=St.id hPh_
      refine tG_ rfl hd_ (gv_call (args:=#[pq g,nI_ p.at_,.agg #[iv ((pickAt ps k).1),iv ((pickAt ps k).2.1),iv ((pickAt ps k).2.2)]]) rfl Tryz.func64 kr_ rfl rfl kr_ (Calls.mono (outcome_own S33 hj hje hke hfe hne hx hx5 hx512 hn2 hk hq) ?_))
      rintro _ w35 ⟨g34,rfl,S36⟩
      rw [hcs] at S36
      refine ⟨_,rfl,⟨(g34,c_.2),rfl, ?_,S36⟩⟩
      intro i_ hi_ hne_ hdp_
      rcases i_ with _|_|_|_|_|_|_|_|i_
      ·rfl
      ·rfl
      ·rfl
      ·rfl
      ·rfl
      ·rfl
      ·exact absurd rfl hne_
      ·exact dN_ hdp_
      ·exact absurd hi_ om_
     ·have S37:=St.id hPh_
      refine tG_ rfl hd_ (gv_copy (e:=5) (off:=512*p.at_) (dLen:=512) (dCap:=(512*s.last.length-512*p.at_)) (sLen:=512) (sCap:=512) (A:=(some ⟨c_.1,0,none⟩)) (B:=((applyP s.last ((crashOuts s ps).take k)).flatten)) (l:=(tornS (candS s p.at_) (pickAt ps k))) S37 2 rfl rfl kr_ kr_ kr_ kr_ htl.symm (RdB.row (S37.blk 0 rfl) 0 512 _ (by rw [List.drop_zero,List.take_of_length_le om_])) (by rw [hDk];omega) (L':=(row c_.1 (bvs (tornS (candS s p.at_) (pickAt ps k))) 5::dR g gd (512*s.last.length) gm fused left s.life s.rd s.wr s.fl s.rf (s.pend.length:Int)::row gd (bvs ((applyP s.last ((crashOuts s ps).take (k+1))).flatten)) 5::pt gm (mapO (es.map PEnt.ent) clock)::stars (es.map PEnt.ast)::row g19 #[iv ((pickAt ps k).1),iv ((pickAt ps k).2.1),iv ((pickAt ps k).2.2)] 97::vec 3 1 (.slice A1 (crashKeys s).length c1) (crashKeys s).length (((crashKeys s).map fun a=>((a:Nat):Int)).map (Value.int .i64))::L)) (by rw [List.take_of_length_le (l:=tornS (candS s p.at_) (pickAt ps k)) (Nat.le_of_eq htl),flat_set (hA k).2 _ _ (by rw [(hA k).1];exact hk) htl,out_take hK,applyP_snoc];rfl) (fun w38 m40 S39=> ?_))
      refine ⟨(c_.1,m40),rfl, ?_,S39⟩
      intro i_ hi_ hne_ hdp_
      rcases i_ with _|_|_|_|_|_|_|_|i_
      ·rfl
      ·rfl
      ·rfl
      ·rfl
      ·rfl
      ·rfl
      ·rfl
      ·exact absurd rfl hne_
      ·exact absurd hi_ om_
     ·exact absurd hk_ (by simp)
    ·intro c_ w1 hPh_
     have S41:=St.id hPh_
     refine (wE ?_)
     refine inb_n (nR (gI .i64 (IntKind.i64.wrap (((k:Nat):Int)+1)) (((k:Nat):Int)+1) (wr_ok om_ om_) (pv (iv (((k:Nat):Int)+1)) ?_)))
     have S42:=St.pm 7 [6,1,2,3,4] S41
     exact wE (then_n ⟨k+1,(jE_ ⟨S42,om_⟩),(by show (crashKeys s).length-(k+1)<(crashKeys s).length-k;omega)⟩)
   ·have hpk:pickAt ps k=(0,0,0):=if_pos om_
    have S43:St F w0 w20 (row g19 #[iv ((pickAt ps k).1),iv ((pickAt ps k).2.1),iv ((pickAt ps k).2.2)] 97::vec 3 1 (.slice A1 (crashKeys s).length c1) (crashKeys s).length (((crashKeys s).map fun a=>((a:Nat):Int)).map (Value.int .i64))::dR g gd (512*s.last.length) gm fused left s.life s.rd s.wr s.fl s.rf (s.pend.length:Int)::row gd (bvs (applyP s.last ((crashOuts s ps).take k)).flatten) 5::pt gm (mapO (es.map PEnt.ent) clock)::stars (es.map PEnt.ast)::L):=(by rw [hpk];exact S22)
    refine wE (nCF (kN ?_))
    have S44:St F w0 w20 (dR g gd (512*s.last.length) gm fused left s.life s.rd s.wr s.fl s.rf (s.pend.length:Int)::row gd (bvs (applyP s.last ((crashOuts s ps).take k)).flatten) 5::pt gm (mapO (es.map PEnt.ent) clock)::stars (es.map PEnt.ast)::row g19 #[iv ((pickAt ps k).1),iv ((pickAt ps k).2.1),iv ((pickAt ps k).2.2)] 97::vec 3 1 (.slice A1 (crashKeys s).length c1) (crashKeys s).length (((crashKeys s).map fun a=>((a:Nat):Int)).map (Value.int .i64))::L):=St.pm 6 [2,3,4,5,0,1] S43
    refine wp_region_phu (γ:=Nat×Int) 8 [6,7] (fun (c2_:Nat×Int) (i_:Nat)=>(match i_ with|0=>pq g|1=>nI_ p.at_|2=>.slice (some ⟨gd,512*p.at_,none⟩) 512 (512*s.last.length-512*p.at_)|3=>pq g|4=>nI_ p.at_|5=>.agg #[iv ((pickAt ps k).1),iv ((pickAt ps k).2.1),iv ((pickAt ps k).2.2)]|6=>sl c2_.1 0 512 512|7=>goInt c2_.2|_=>undef:Value)) (fun (c2_:Nat×Int) (p_:Nat) (w_:World)=>(match p_ with|0=>St F w0 w_ (dR g gd (512*s.last.length) gm fused left s.life s.rd s.wr s.fl s.rf (s.pend.length:Int)::row gd (bvs (applyP s.last ((crashOuts s ps).take k)).flatten) 5::pt gm (mapO (es.map PEnt.ent) clock)::stars (es.map PEnt.ast)::row g19 #[iv ((pickAt ps k).1),iv ((pickAt ps k).2.1),iv ((pickAt ps k).2.2)] 97::vec 3 1 (.slice A1 (crashKeys s).length c1) (crashKeys s).length (((crashKeys s).map fun a=>((a:Nat):Int)).map (Value.int .i64))::L)|1=>St F w0 w_ (row c2_.1 (bvs (tornS (candS s p.at_) (pickAt ps k))) 5::dR g gd (512*s.last.length) gm fused left s.life s.rd s.wr s.fl s.rf (s.pend.length:Int)::row gd (bvs (applyP s.last ((crashOuts s ps).take k)).flatten) 5::pt gm (mapO (es.map PEnt.ent) clock)::stars (es.map PEnt.ast)::row g19 #[iv ((pickAt ps k).1),iv ((pickAt ps k).2.1),iv ((pickAt ps k).2.2)] 97::vec 3 1 (.slice A1 (crashKeys s).length c1) (crashKeys s).length (((crashKeys s).map fun a=>((a:Nat):Int)).map (Value.int .i64))::L)|_=>St F w0 w_ (row c2_.1 (bvs (tornS (candS s p.at_) (pickAt ps k))) 5::dR g gd (512*s.last.length) gm fused left s.life s.rd s.wr s.fl s.rf (s.pend.length:Int)::row gd (bvs ((applyP s.last ((crashOuts s ps).take (k+1))).flatten)) 5::pt gm (mapO (es.map PEnt.ent) clock)::stars (es.map PEnt.ast)::row g19 #[iv ((pickAt ps k).1),iv ((pickAt ps k).2.1),iv ((pickAt ps k).2.2)] 97::vec 3 1 (.slice A1 (crashKeys s).length c1) (crashKeys s).length (((crashKeys s).map fun a=>((a:Nat):Int)).map (Value.int .i64))::L):Prop)) (0,0) kr_ kr_ kr_ kr_ (S44.drew) ?_ ?_ ?_
    ·intro i_ c2_ p_ vals_ w1 hi_ hiE_ hp_ hk_ hu_ hPh_ hd_
     rcases i_ with _|_|_|_|_|_|_|_|i_
     ·exact tG_ rfl hd_ (gV (pq g) ⟨rfl,rfl⟩)
     ·exact tG_ rfl hd_ (gV (nI_ p.at_) ⟨rfl,rfl⟩)
     ·rcases p_ with _|_|_|p_
      ·have S47:=St.id hPh_
       refine tG_ rfl hd_ (gv_call (args:=#[pq g,nI_ p.at_]) rfl Tryz.func63 kr_ rfl rfl kr_ (Calls.mono (home_ro (S47.blk 0 rfl) rfl rfl hn2 hk) ?_))
       rintro _ _ ⟨rfl,rfl⟩
       exact ⟨_,rfl,⟨rfl,rfl⟩⟩
      ·exact absurd (hu_ 0 dc_ kr_) dc_
      ·exact absurd (hu_ 0 dc_ kr_) dc_
      ·exact absurd hp_ (by simp)
     ·exact tG_ rfl hd_ (gV (pq g) ⟨rfl,rfl⟩)
     ·exact tG_ rfl hd_ (gV (nI_ p.at_) ⟨rfl,rfl⟩)
     ·rcases p_ with _|_|_|p_
      ·have S50:=St.id hPh_
       exact tG_ rfl hd_ (gv_ldA (k:=0) (n:=3) (vs:=[iv ((pickAt ps k).1),iv ((pickAt ps k).2.1),iv ((pickAt ps k).2.2)]) S50 4 rfl rfl kr_ kr_ rfl rfl ⟨rfl,rfl⟩)
      ·exact absurd (hu_ 0 dc_ kr_) dc_
      ·exact absurd (hu_ 0 dc_ kr_) dc_
      ·exact absurd hp_ (by simp)
     ·exact absurd hiE_ dc_
     ·exact absurd hiE_ dc_
     ·exact absurd hi_ om_
    ·intro k_ c2_ vals_ w1 hk_ hPh_ hd_
     rcases k_ with _|_|k_
     ·have S51:=St.id hPh_
      refine tG_ rfl hd_ (gv_call (args:=#[pq g,nI_ p.at_,.agg #[iv ((pickAt ps k).1),iv ((pickAt ps k).2.1),iv ((pickAt ps k).2.2)]]) rfl Tryz.func64 kr_ rfl rfl kr_ (Calls.mono (outcome_own S51 hj hje hke hfe hne hx hx5 hx512 hn2 hk hq) ?_))
      rintro _ w53 ⟨g52,rfl,S54⟩
      rw [hcs] at S54
      refine ⟨_,rfl,⟨(g52,c2_.2),rfl, ?_,S54⟩⟩
      intro i_ hi_ hne_ hdp_
      rcases i_ with _|_|_|_|_|_|_|_|i_
      ·rfl
      ·rfl
      ·rfl
      ·rfl
      ·rfl
      ·rfl
      ·exact absurd rfl hne_
      ·exact dN_ hdp_
      ·exact absurd hi_ om_
     ·have S55:=St.id hPh_
      refine tG_ rfl hd_ (gv_copy (e:=5) (off:=512*p.at_) (dLen:=512) (dCap:=(512*s.last.length-512*p.at_)) (sLen:=512) (sCap:=512) (A:=(some ⟨c2_.1,0,none⟩)) (B:=((applyP s.last ((crashOuts s ps).take k)).flatten)) (l:=(tornS (candS s p.at_) (pickAt ps k))) S55 2 rfl rfl kr_ kr_ kr_ kr_ htl.symm (RdB.row (S55.blk 0 rfl) 0 512 _ (by rw [List.drop_zero,List.take_of_length_le om_])) (by rw [hDk];omega) (L':=(row c2_.1 (bvs (tornS (candS s p.at_) (pickAt ps k))) 5::dR g gd (512*s.last.length) gm fused left s.life s.rd s.wr s.fl s.rf (s.pend.length:Int)::row gd (bvs ((applyP s.last ((crashOuts s ps).take (k+1))).flatten)) 5::pt gm (mapO (es.map PEnt.ent) clock)::stars (es.map PEnt.ast)::row g19 #[iv ((pickAt ps k).1),iv ((pickAt ps k).2.1),iv ((pickAt ps k).2.2)] 97::vec 3 1 (.slice A1 (crashKeys s).length c1) (crashKeys s).length (((crashKeys s).map fun a=>((a:Nat):Int)).map (Value.int .i64))::L)) (by rw [List.take_of_length_le (l:=tornS (candS s p.at_) (pickAt ps k)) (Nat.le_of_eq htl),flat_set (hA k).2 _ _ (by rw [(hA k).1];exact hk) htl,out_take hK,applyP_snoc];rfl) (fun w56 m58 S57=> ?_))
      refine ⟨(c2_.1,m58),rfl, ?_,S57⟩
      intro i_ hi_ hne_ hdp_
      rcases i_ with _|_|_|_|_|_|_|_|i_
      ·rfl
      ·rfl
      ·rfl
      ·rfl
      ·rfl
      ·rfl
      ·rfl
      ·exact absurd rfl hne_
      ·exact absurd hi_ om_
     ·exact absurd hk_ (by simp)
    ·intro c2_ w1 hPh_
     have S59:=St.id hPh_
     refine (wE (inb_n (nR (gI .i64 (IntKind.i64.wrap (((k:Nat):Int)+1)) (((k:Nat):Int)+1) (wr_ok om_ om_) ?_))))
     refine pv (iv (((k:Nat):Int)+1)) ?_
     have S60:=St.pm 7 [6,1,2,3,4] S59
     exact wE (then_n ⟨k+1,(jE_ ⟨S60,om_⟩),(by show (crashKeys s).length-(k+1)<(crashKeys s).length-k;omega)⟩)
  ·refine wE (nS (cF (wp_exit (then_x (then_x (inb_x (nSR (pv (pq g) (g_ (gv_call (args:=#[pq g]) rfl Tryz.func65 kr_ rfl rfl kr_ ?_))))))))))
   have hkL:k=(crashKeys s).length:=by omega
   have hfin:(crashOuts s ps).take k=crashOuts s ps:=List.take_of_length_le (by rw [hkL];unfold crashOuts;rw [List.length_mapIdx];exact Nat.le_refl _)
   rw [hfin] at S16
   have S61:St F w0 w15 (dR g gd (512*s.last.length) gm fused left s.life s.rd s.wr s.fl s.rf (s.pend.length:Int)::row gd (bvs (applyP s.last (crashOuts s ps)).flatten) 5::pt gm (mapO (es.map PEnt.ent) clock)::L):=St.pm 5 [1,2,3] S16
   refine Calls.mono (settle_own S61) ?_
   rintro _ w62 ⟨rfl,S63⟩
   refine ⟨_,rfl,(wER (pv (pq g) (pv (pq g) (pv (po g 2) (sS S63 0 rfl 2 (.bool false) fun w64 S65=>wE (nR (pv (pq g) (pv (pq g) (pv (po g 4) (lR (iv s.life) S65 0 4 (pv (iv (inc s.life)) (pv (pq g) ?_))))))))))))⟩
   refine pv (po g 4) (sS S65 0 rfl 4 (iv (inc s.life)) fun w66 S67=>wE (bodyPost_end (v:=.tuple #[]) (results_none rfl _ _ _) rfl ?_))
   have hlf:(applyP s.last (crashOuts s ps)).length=s.last.length:=length_applyP _ _
   rw [←hlf] at S67
   have S9:=St.rot (LA:=[_,_,_]) (St.star_nil S67)
   exact ⟨rfl,St.pclose (gd:=gd) (gm:=gm) (clock:=clock) (es:=[]) (fused:=false) (left:=left) (s:=s.crashR ps) S9 (PFacts.settled (s':=s.crashR ps) hf hlf (applyP_all _ _ hf.len hol) rfl rfl (fun h=>absurd (show (0:Int)≤ -1 from h) dc_) (show (-1:Int)≤ -1∧(-1:Int)≤9223372036854775807 by decide))⟩
 ·obtain ⟨p,hpe,rfl,hpn⟩:=mem_left hel
  refine pv tv (wE (nS (cT (kN (wp_block (sR (g_ (gv_entry (g:=gm) (clock:=clock) (es:=es.map PEnt.ent) (gi:=gi2) (seen:=es1.map (·.b)) (e:=p.ent) S11 1 4 rfl rfl rfl kr_ (List.mem_map.2 ⟨p,hpe,rfl⟩) (fun y hy hb=>by obtain ⟨q,hq,rfl⟩:=List.mem_map.1 hy;rw [hf.injB hq hpe hb]) (pv (nI_ p.at_) (pv (nI_ p.at_) (wE (nR (pv v (pv (nI_ p.at_) ?_))))))))))))))
  refine g_ (gv_slit (e:=3) (sz:=1) (z:=iv 0) (by_:=8) (vs:=#[(0,nI_ p.at_)]) (cells:=#[nI_ p.at_]) S11 rfl kr_ ⟨by kernel_rfl⟩ kr_ kr_ kr_ kr_ (fun g68 w69 hg70 S71=>g_ (gv_append (e:=3) (sz:=1) (n:=es1.length) (v:=v) (vals:=((es1.map fun p=>((p.at_:Nat):Int)).map (Value.int .i64))) (z:=iv 0) (by_:=8) (m:=1) (c':=1) (ad:=⟨g68,0,none⟩) (news:=[nI_ p.at_]) (St.swap S71) rfl kr_ ⟨by kernel_rfl⟩ rfl kr_ kr_ dc_ rfl (row_news (S71.blk 0 rfl)) (by intro u hu;simp at hu;subst hu;rfl) om_ om_ (fun v73 w72 S74=>pv v73 (wE (iN ?_))))))
  have S75:St F w0 w72 (vec 3 1 v73 (es1.length+1) ((es1.map fun p=>((p.at_:Nat):Int)).map (Value.int .i64)++[nI_ p.at_])::pt gi2 (iterO gm clock (es1.map (·.b)++[p.b]))::dR g gd (512*s.last.length) gm fused left s.life s.rd s.wr s.fl s.rf (s.pend.length:Int)::row gd (bvs s.last.flatten) 5::pt gm (mapO (es.map PEnt.ent) clock)::stars (es.map PEnt.ast)::L):=St.pm 7 [0,2,3,4,5,6] S74
  rw [show es1.map (·.b)++[p.b]=(es1++[p]).map (·.b) from by rw [List.map_append];rfl,show (es1.map fun p=>((p.at_:Nat):Int)).map (Value.int .i64)++[nI_ p.at_]=((es1++[p]).map fun p=>((p.at_:Nat):Int)).map (Value.int .i64) from by rw [List.map_append,List.map_append];rfl,show es1.length+1=(es1++[p]).length from by rw [List.length_append];rfl] at S75
  exact ⟨(es1++[p],v73),(jE_ ⟨S75,⟨fun q hq=>(List.mem_append.1 hq).elim (hI9.1 q) (fun h=>(List.mem_singleton.1 h)▸hpe),(by rw [List.map_append];exact List.nodup_append.2 ⟨hI9.2,List.nodup_cons.2 ⟨List.not_mem_nil,List.nodup_nil⟩,fun a ha b hb=>by rw [List.map_singleton,List.mem_singleton] at hb;subst hb;exact fun e=>hpn (e▸ha)⟩)⟩⟩),(by show (leftE _ ((es1++[p]).map (·.b))).length<_;rw [List.map_append];exact left_less hel)⟩
section
variable {F:Nat→Prop} {w0 w:World} {L:List Ast}
theorem pd_burnt {g:Nat}{s:Dsk}(S:St F w0 w L)(i:Nat)(hi:L[i]?=some (PDisk g s)):Calls Tryz.prog 35 #[.pointer (some ⟨g,0,none⟩)] w fun e w'=>e=.returned (.bool (decide (s.left=0)))∧w=w':=by
 obtain ⟨gd,gm,clock,es,fused,left,hf,S1⟩:=St.popen (L:=[]) (S.mem i hi)
 exact burnt_b (S1.blk 0 rfl) hf.burnt
theorem pd_life {g:Nat}{s:Dsk}(S:St F w0 w L)(i:Nat)(hi:L[i]?=some (PDisk g s)):Calls Tryz.prog 18 #[.pointer (some ⟨g,0,none⟩)] w fun e w'=>e=.returned (.int .i64 s.life)∧w=w':=by
 obtain ⟨gd,gm,clock,es,fused,left,hf,S1⟩:=St.popen (L:=[]) (S.mem i hi)
 exact life_ro (S1.blk 0 rfl)
theorem pd_sectors {g:Nat}{s:Dsk}(S:St F w0 w L)(i:Nat)(hi:L[i]?=some (PDisk g s)):Calls Tryz.prog 85 #[.pointer (some ⟨g,0,none⟩)] w fun e w'=>e=.returned (.int .i64 (s.last.length:Int))∧w=w':=by
 obtain ⟨gd,gm,clock,es,fused,left,hf,S1⟩:=St.popen (L:=[]) (S.mem i hi)
 exact sectors_ro (S1.blk 0 rfl) rfl hf.n2
theorem pd_take {g:Nat}{s:Dsk}(S:St F w0 w (PDisk g s::L)):Calls Tryz.prog 29 #[.pointer (some ⟨g,0,none⟩)] w fun e w'=>e=.returned (.int .i64 (inc s.life))∧St F w0 w' (PDisk g {s with life:=inc s.life}::L):=by
 obtain ⟨gd,gm,clock,es,fused,left,hf,S⟩:=St.popen S
 refine (take_own S).mono fun e w' h=>⟨h.1,St.pclose (gd:=gd) (gm:=gm) (clock:=clock) (es:=es) (fused:=fused) (left:=left) (s:={s with life:=inc s.life}) h.2 (hf.congr rfl rfl rfl)⟩
theorem pd_counts {g:Nat}{s:Dsk}(S:St F w0 w (PDisk g s::L)):Calls Tryz.prog 36 #[.pointer (some ⟨g,0,none⟩)] w fun e w'=>e=.returned (.agg #[.int .i64 s.rd,.int .i64 s.wr,.int .i64 s.fl,.int .i64 s.rf,.int .i64 (s.pend.length:Int)])∧St F w0 w' (PDisk g s::L):=by
 obtain ⟨gd,gm,clock,es,fused,left,hf,S⟩:=St.popen S
 change St F w0 w (dR g gd (512*s.last.length) gm fused left s.life s.rd s.wr s.fl s.rf (s.pend.length:Int)::row gd (bvs s.last.flatten) 5::pt gm (mapO (es.map PEnt.ent) clock)::stars (es.map PEnt.ast)::L) at S
 exact eN (fr [pq g] 6) Tryz.func36 rfl (sR (nW rfl (.agg #[iv 0,iv 0,iv 0,iv 0,iv 0]) S fun g1 w2 hg3 S4=>wER (pv (pq g) (pv (pq g) (pv (po g 5) (g_ (gv_ldA (k:=5) (n:=5) (vs:=[iv s.rd,iv s.wr,iv s.fl,iv s.rf,iv (s.pend.length:Int)]) S4 1 rfl rfl kr_ kr_ rfl rfl (g_ (gv_stA (k:=0) (vs:=[iv s.rd,iv s.wr,iv s.fl,iv s.rf,iv (s.pend.length:Int)]) S4 0 rfl rfl kr_ kr_ kr_ rfl (by simp [Value.oneCell']) (Nat.le_of_ble_eq_true kr_) (L':=(row g1 #[iv s.rd,iv s.wr,iv s.fl,iv s.rf,iv (s.pend.length:Int)] 55::dR g gd (512*s.last.length) gm fused left s.life s.rd s.wr s.fl s.rf (s.pend.length:Int)::row gd (bvs s.last.flatten) 5::pt gm (mapO (es.map PEnt.ent) clock)::stars (es.map PEnt.ast)::L)) rfl (fun w5 S6=>wE (then_n (wp_ret (bodyPost_ret (v:=.agg #[iv s.rd,iv s.wr,iv s.fl,iv s.rf,iv (s.pend.length:Int)]) (results_cell1 rfl _ (S6.get 0 rfl) kr_ kr_) rfl ⟨rfl,St.pclose (gd:=gd) (gm:=gm) (clock:=clock) (es:=es) (fused:=fused) (left:=left) (s:=s) (St.tail S6) (hf.congr rfl rfl rfl)⟩)))))))))))))
theorem pd_image {g:Nat}{s:Dsk}(S:St F w0 w (PDisk g s::L)):Calls Tryz.prog 32 #[.pointer (some ⟨g,0,none⟩)] w fun e w'=>∃v,e=.returned v∧St F w0 w' (bytesA v s.last.flatten::PDisk g s::L):=by
 obtain ⟨gd,gm,clock,es,fused,left,hf,S⟩:=St.popen S
 have hn2:=hf.n2
 change St F w0 w (dR g gd (512*s.last.length) gm fused left s.life s.rd s.wr s.fl s.rf (s.pend.length:Int)::row gd (bvs s.last.flatten) 5::pt gm (mapO (es.map PEnt.ent) clock)::stars (es.map PEnt.ast)::L) at S
 refine eN (fr [pq g] 16) Tryz.func32 rfl (sR (pv (nS_) (wER (pv (pq g) (pv (pq g) (pv (pq g) (lR (sl gd 0 (512*s.last.length) (512*s.last.length)) S 0 0 (pv (iv (512*s.last.length:Nat)) (g_ (gv_make (e:=5) (u:=(512*s.last.length:Nat)) (v:=(512*s.last.length:Nat)) (z:=.int .u8 0) (sz:=1) (by_:=1) (n:=(512*s.last.length)) (c:=(512*s.last.length)) (cs:=(bvs (List.replicate (512*s.last.length) 0))) S rfl kr_ ⟨by kernel_rfl⟩ kr_ kr_ rfl rfl (Nat.le_refl _) om_ om_ (mk_bytes _) (fun g1 w2 hg3 S4=>pv (sl g1 0 (512*s.last.length) (512*s.last.length)) (wER (pv (sl g1 0 (512*s.last.length) (512*s.last.length)) (pv (pq g) ?_))))))))))))))
 exact pv (pq g) (pv (pq g) (lR (sl gd 0 (512*s.last.length) (512*s.last.length)) S4 1 0 (g_ (gv_copy (e:=5) (off:=0) (dLen:=(512*s.last.length)) (dCap:=(512*s.last.length)) (sLen:=(512*s.last.length)) (sCap:=(512*s.last.length)) (A:=(some ⟨gd,0,none⟩)) (B:=(List.replicate (512*s.last.length) 0)) (l:=s.last.flatten) S4 0 rfl rfl kr_ kr_ kr_ kr_ (flat_len hf.len).symm (RdB.row (S4.blk 2 rfl) 0 _ _ (by rw [List.drop_zero,List.take_of_length_le (Nat.le_of_eq (flat_len hf.len))])) (by rw [List.length_replicate];omega) (L':=(row g1 (bvs s.last.flatten) 5::dR g gd (512*s.last.length) gm fused left s.life s.rd s.wr s.fl s.rf (s.pend.length:Int)::row gd (bvs s.last.flatten) 5::pt gm (mapO (es.map PEnt.ent) clock)::stars (es.map PEnt.ast)::L)) (by rw [copy_all (flat_len hf.len)];rfl) (fun w5 m7 S6=>wER (pv (sl g1 0 (512*s.last.length) (512*s.last.length)) (pv (sl g1 0 (512*s.last.length) (512*s.last.length)) (wE (then_n (wp_ret (bA (sl g1 0 (512*s.last.length) (512*s.last.length)) ⟨_,rfl,St.bytes_row (St.swap (St.pclose (gd:=gd) (gm:=gm) (clock:=clock) (es:=es) (fused:=fused) (left:=left) (s:=s) (St.rot (LA:=pdParts g gd gm clock es fused left s) S6) (hf.congr rfl rfl rfl))) (flat_len hf.len).symm (flat_len hf.len).symm⟩)))))))))))
theorem pd_read {at_:Int}{g:Nat}{s:Dsk}(S:St F w0 w (PDisk g s::L)):Calls Tryz.prog 39 #[.pointer (some ⟨g,0,none⟩),.int .i64 at_] w fun e w'=>∃v,e=.returned (.tuple #[v,.int .i64 (s.readR at_).2.2])∧St F w0 w' (bytesA v (s.readR at_).2.1::PDisk g (s.readR at_).1::L):=by
 obtain ⟨gd,gm,clock,es,fused,left,hf,S⟩:=St.popen S
 have hn2:=hf.n2
 have hbu:=hf.burnt
 by_cases hz:s.left=0
 ·have e:s.readR at_=(s,[],3):=by unfold Dsk.readR;rw [if_pos hz]
  rw [e]
  have hb:(fused&&decide (left=0))=true:=by rw [hbu];exact decide_eq_true hz
  change St F w0 w (dR g gd (512*s.last.length) gm fused left s.life s.rd s.wr s.fl s.rf (s.pend.length:Int)::row gd (bvs s.last.flatten) 5::pt gm (mapO (es.map PEnt.ent) clock)::stars (es.map PEnt.ast)::L) at S
  refine eN (fr [pq g,iv at_] 28) Tryz.func39 rfl (sR (pv (nS_) (pv (iv 0) (wE (nS (sR (pv (pq g) (pv (iv at_) (sP Tryz.func78 #[pq g,iv at_] (there_dead hb S) fun w1 S2=>pv (iv 3) (wER (pv (iv 3) (dN 3 0 (fun _=> ?_) fun hd3=>False.elim om_))))))))))))
  exact wE (nCT (sR (pv (iv 3) (pv (nS_) (pv (iv 3) (wE (then_n (rR (bB (nS_) (iv 3) ⟨_,rfl,St.bytes_nil (St.pclose (gd:=gd) (gm:=gm) (clock:=clock) (es:=es) (fused:=fused) (left:=left) (s:=s) S2 (hf.congr rfl rfl rfl))⟩)))))))))
 have hb:(fused&&decide (left=0))=false:=by rw [hbu];exact decide_eq_false hz
 by_cases ho:at_<0∨(s.last.length:Int)≤at_
 ·have e:s.readR at_=({s with rf:=inc s.rf},[],11):=by unfold Dsk.readR;rw [if_neg hz,if_pos ho]
  rw [e]
  change St F w0 w (dR g gd (512*s.last.length) gm fused left s.life s.rd s.wr s.fl s.rf (s.pend.length:Int)::row gd (bvs s.last.flatten) 5::pt gm (mapO (es.map PEnt.ent) clock)::stars (es.map PEnt.ast)::L) at S
  refine eN (fr [pq g,iv at_] 28) Tryz.func39 rfl (sR (pv (nS_) (pv (iv 0) (wE (nS (sR (pv (pq g) (pv (iv at_) (sP Tryz.func78 #[pq g,iv at_] (there_out hb rfl hn2 ho S) fun w1 S2=>pv (iv 11) (wER (pv (iv 11) (dN 11 0 (fun _=> ?_) fun hd3=>False.elim om_))))))))))))
  exact wE (nCT (sR (pv (iv 11) (pv (nS_) (pv (iv 11) (wE (then_n (rR (bB (nS_) (iv 11) ⟨_,rfl,St.bytes_nil (St.pclose (gd:=gd) (gm:=gm) (clock:=clock) (es:=es) (fused:=fused) (left:=left) (s:={s with rf:=inc s.rf}) S2 (hf.congr rfl rfl rfl))⟩)))))))))
 obtain ⟨k,rfl⟩:∃k:Nat,at_=(k:Int):=⟨at_.toNat,by omega⟩
 have hk:k<s.last.length:=by omega
 have hsk:=mem_getD hk
 have hl5:=hf.len _ (List.mem_of_getElem? hsk)
 have hfl:=flat_sec hf.len k _ hsk
 have e:s.readR (k:Int)=({s with rd:=inc s.rd},s.now k,0):=by unfold Dsk.readR;rw [if_neg hz,if_neg ho,Int.toNat_natCast]
 rw [e]
 rcases hf.find k with ⟨hp,hno⟩|⟨j,p,hj,hat,hp,hne,hje,hke,hfe⟩
 ·rw [Dsk.now_none hp]
  change St F w0 w (dR g gd (512*s.last.length) gm fused left s.life s.rd s.wr s.fl s.rf (s.pend.length:Int)::row gd (bvs s.last.flatten) 5::pt gm (mapO (es.map PEnt.ent) clock)::stars (es.map PEnt.ast)::L) at S
  refine eN (fr [pq g,nI_ k] 28) Tryz.func39 rfl (sR (pv (nS_) (pv (iv 0) (wE (nS (sR (pv (pq g) (pv (nI_ k) (sP Tryz.func78 #[pq g,nI_ k] (there_in hb rfl hn2 hk S) fun w1 S2=>pv (iv 0) (wER (pv (iv 0) (dN 0 0 (fun hd3=>False.elim om_) fun _=> ?_))))))))))))
  refine wE (nCF (wp_skip (nSR (pv (pq g) (pv (pq g) (pv (po g 5) (pv (po g 5) (lR (iv s.rd) S2 0 5 (pv (iv (inc s.rd)) (pv (pq g) (pv (po g 5) (pv (po g 5) (sS S2 0 rfl 5 (iv (inc s.rd)) fun w4 S5=> ?_)))))))))))))
  refine wER (g_ (gv_make (e:=5) (u:=512) (v:=512) (z:=.int .u8 0) (sz:=1) (by_:=1) (n:=512) (c:=512) (cs:=(bvs (List.replicate 512 0))) S5 rfl kr_ ⟨by kernel_rfl⟩ kr_ kr_ rfl rfl (Nat.le_refl _) dc_ dc_ (mk_bytes _) (fun g6 w7 hg8 S9=>pv (sl g6 0 512 512) (wER (pv (sl g6 0 512 512) (pv (pq g) (pv (nI_ k) (sO Tryz.func79 #[pq g,nI_ k] (now_home (S9.blk 1 rfl) rfl rfl hn2 hk (S9.get 3 rfl) hno) (g_ (gv_copy (e:=5) (off:=0) (dLen:=512) (dCap:=512) (sLen:=512) (sCap:=(512*s.last.length-512*k)) (A:=(some ⟨gd,512*k,none⟩)) (B:=(List.replicate 512 0)) (l:=(s.last.getD k [])) S9 0 rfl rfl kr_ kr_ kr_ kr_ hl5.symm (RdB.row (S9.blk 2 rfl) _ 512 _ hfl.symm) (by simp) (L':=(row g6 (bvs (s.last.getD k [])) 5::dR g gd (512*s.last.length) gm fused left s.life (inc s.rd) s.wr s.fl s.rf (s.pend.length:Int)::row gd (bvs s.last.flatten) 5::pt gm (mapO (es.map PEnt.ent) clock)::stars (es.map PEnt.ast)::L)) (by rw [copy512 hl5];rfl) (fun w10 m12 S11=>wER (pv (sl g6 0 512 512) (pv (sl g6 0 512 512) (pv (iv 0) (wE ?_)))))))))))))))
  exact then_n (wp_ret (bB (sl g6 0 512 512) (iv 0) ⟨_,rfl,St.bytes_row (St.swap (St.pclose (gd:=gd) (gm:=gm) (clock:=clock) (es:=es) (fused:=fused) (left:=left) (s:={s with rd:=inc s.rd}) (St.rot (LA:=pdParts g gd gm clock es fused left ({s with rd:=inc s.rd})) S11) (hf.congr rfl rfl rfl))) hl5.symm hl5.symm⟩))
 ·obtain ⟨x,hx,hxl,hxm⟩:=last_some (f:=Prod.snd) hne
  rw [Dsk.now_some hp hxl]
  have hx5:x.2.length=512:=by
   have h1:x.2∈pendOf s k:=by rw [hp];exact List.mem_map.2 ⟨x,hxm,rfl⟩
   obtain ⟨y,hy,e1⟩:=List.mem_map.1 h1
   rw [←e1];exact (hf.plen y (List.mem_filter.1 hy).1).1
  have hq0:=List.length_pos_iff.2 hne
  have hqm:p.ws.length≤9223372036854775807:=by
   have h1:=hf.pn
   have h2:p.ws.length=(pendOf s k).length:=by rw [hp,List.length_map]
   have h3:(pendOf s k).length≤s.pend.length:=by unfold pendOf;rw [List.length_map];exact List.length_filter_le _ _
   omega
  change St F w0 w (dR g gd (512*s.last.length) gm fused left s.life s.rd s.wr s.fl s.rf (s.pend.length:Int)::row gd (bvs s.last.flatten) 5::pt gm (mapO (es.map PEnt.ent) clock)::stars (es.map PEnt.ast)::L) at S
  refine eN (fr [pq g,nI_ k] 28) Tryz.func39 rfl (sR (pv (nS_) (pv (iv 0) (wE (nS (sR (pv (pq g) (pv (nI_ k) (sP Tryz.func78 #[pq g,nI_ k] (there_in hb rfl hn2 hk S) fun w1 S2=>pv (iv 0) (wER (pv (iv 0) (dN 0 0 (fun hd3=>False.elim om_) fun _=> ?_))))))))))))
  refine wE (nCF (wp_skip (nSR (pv (pq g) (pv (pq g) (pv (po g 5) (pv (po g 5) (lR (iv s.rd) S2 0 5 (pv (iv (inc s.rd)) (pv (pq g) (pv (po g 5) (pv (po g 5) (sS S2 0 rfl 5 (iv (inc s.rd)) fun w4 S5=> ?_)))))))))))))
  refine wER (g_ (gv_make (e:=5) (u:=512) (v:=512) (z:=.int .u8 0) (sz:=1) (by_:=1) (n:=512) (c:=512) (cs:=(bvs (List.replicate 512 0))) S5 rfl kr_ ⟨by kernel_rfl⟩ kr_ kr_ rfl rfl (Nat.le_refl _) dc_ dc_ (mk_bytes _) (fun g6 w7 hg8 S9=>pv (sl g6 0 512 512) (wER (pv (sl g6 0 512 512) (pv (pq g) (pv (nI_ k) (g_ (gv_call (args:=#[pq g,nI_ k]) rfl Tryz.func79 kr_ rfl rfl kr_ ?_)))))))))
  obtain ⟨gb,cb,cells,hv,HV,hcell,hdat⟩:=pend_facts S9 4 rfl hj hne
  refine Calls.mono (now_pend (S9.blk 1 rfl) (S9.get 3 rfl) hje hke hfe hv hq0 hqm HV (hcell _ _ hx)) ?_
  rintro _ _ ⟨rfl,rfl⟩
  exact ⟨_,rfl,(g_ (gv_copy (e:=5) (off:=0) (dLen:=512) (dCap:=512) (sLen:=512) (sCap:=512) (A:=(some ⟨x.1,0,none⟩)) (B:=(List.replicate 512 0)) (l:=x.2) S9 0 rfl rfl kr_ kr_ kr_ kr_ hx5.symm (RdB.row (hdat x hxm) 0 512 _ (by rw [List.drop_zero,List.take_of_length_le om_])) (by simp) (L':=(row g6 (bvs x.2) 5::dR g gd (512*s.last.length) gm fused left s.life (inc s.rd) s.wr s.fl s.rf (s.pend.length:Int)::row gd (bvs s.last.flatten) 5::pt gm (mapO (es.map PEnt.ent) clock)::stars (es.map PEnt.ast)::L)) (by rw [copy512 hx5];rfl) (fun w10 m12 S11=>wER (pv (sl g6 0 512 512) (pv (sl g6 0 512 512) (pv (iv 0) (wE (then_n (wp_ret (bB (sl g6 0 512 512) (iv 0) ⟨_,rfl,St.bytes_row (St.swap (St.pclose (gd:=gd) (gm:=gm) (clock:=clock) (es:=es) (fused:=fused) (left:=left) (s:={s with rd:=inc s.rd}) (St.rot (LA:=pdParts g gd gm clock es fused left ({s with rd:=inc s.rd})) S11) (hf.congr rfl rfl rfl))) hx5.symm hx5.symm⟩))))))))))⟩
end
theorem pd_write {F:Nat→Prop}{w0 w:World}{L:List Ast}{g:Nat}{s:Dsk}{at_:Int}{A:Option Addr}{d:List UInt8}{cd:Nat}(S:St F w0 w (PDisk g s::L))(hr:RoT F w0 L A d)(hdm:d.length≤9223372036854775807)(hpn:s.pend.length<4398046511104):
  Calls Tryz.prog 51 #[pq g,iv at_,.slice A d.length cd] w fun e w'=>e=.returned (iv (s.writeR at_ d).2)∧St F w0 w' (PDisk g (s.writeR at_ d).1::L):=by
 obtain ⟨gd,gm,clock,es,fused,left,hf,S⟩:=St.popen S
 have hn2:=hf.n2
 have hbu:=hf.burnt
 by_cases hz:s.left=0
 ·have e:s.writeR at_ d=(s,3):=by unfold Dsk.writeR;rw [if_pos hz]
  rw [e]
  have hb:(fused&&decide (left=0))=true:=by rw [hbu];exact decide_eq_true hz
  change St F w0 w (dR g gd (512*s.last.length) gm fused left s.life s.rd s.wr s.fl s.rf (s.pend.length:Int)::row gd (bvs s.last.flatten) 5::pt gm (mapO (es.map PEnt.ent) clock)::stars (es.map PEnt.ast)::L) at S
  refine eN (fr [pq g,iv at_,.slice A d.length cd] 62) Tryz.func51 rfl (sR (pv (iv 0) (wE (nS (sR (pv (pq g) (pv (iv at_) (sP Tryz.func78 #[pq g,iv at_] (there_dead hb S) fun w1 S2=>pv (iv 3) (wER (pv (iv 3) (dN 3 0 (fun _=>wE ?_) fun hd3=>False.elim om_)))))))))))
  exact nCT (sR (pv (iv 3) (pv (iv 3) (wE (then_n (rR (bA (iv 3) ⟨rfl,St.pclose (gd:=gd) (gm:=gm) (clock:=clock) (es:=es) (fused:=fused) (left:=left) (s:=s) S2 (hf.congr rfl rfl rfl)⟩)))))))
 have hb:(fused&&decide (left=0))=false:=by rw [hbu];exact decide_eq_false hz
 by_cases ho:at_<0∨(s.last.length:Int)≤at_
 ·have e:s.writeR at_ d=({s with rf:=inc s.rf},11):=by unfold Dsk.writeR;rw [if_neg hz,if_pos ho]
  rw [e]
  change St F w0 w (dR g gd (512*s.last.length) gm fused left s.life s.rd s.wr s.fl s.rf (s.pend.length:Int)::row gd (bvs s.last.flatten) 5::pt gm (mapO (es.map PEnt.ent) clock)::stars (es.map PEnt.ast)::L) at S
  refine eN (fr [pq g,iv at_,.slice A d.length cd] 62) Tryz.func51 rfl (sR (pv (iv 0) (wE (nS (sR (pv (pq g) (pv (iv at_) (sP Tryz.func78 #[pq g,iv at_] (there_out hb rfl hn2 ho S) fun w1 S2=>pv (iv 11) (wER (pv (iv 11) (dN 11 0 (fun _=>wE ?_) fun hd3=>False.elim om_)))))))))))
  exact nCT (sR (pv (iv 11) (pv (iv 11) (wE (then_n (rR (bA (iv 11) ⟨rfl,St.pclose (gd:=gd) (gm:=gm) (clock:=clock) (es:=es) (fused:=fused) (left:=left) (s:={s with rf:=inc s.rf}) S2 (hf.congr rfl rfl rfl)⟩)))))))
 obtain ⟨k,rfl⟩:∃k:Nat,at_=(k:Int):=⟨at_.toNat,by omega⟩
 have hk:k<s.last.length:=by omega
 by_cases hd5:d.length≠512
 ·have e:s.writeR (k:Int) d=({s with rf:=inc s.rf},2):=by unfold Dsk.writeR;rw [if_neg hz,if_neg ho,if_pos hd5]
  rw [e]
  change St F w0 w (dR g gd (512*s.last.length) gm fused left s.life s.rd s.wr s.fl s.rf (s.pend.length:Int)::row gd (bvs s.last.flatten) 5::pt gm (mapO (es.map PEnt.ent) clock)::stars (es.map PEnt.ast)::L) at S
  refine eN (fr [pq g,nI_ k,.slice A d.length cd] 62) Tryz.func51 rfl (sR (pv (iv 0) (wE (nS (sR (pv (pq g) (pv (nI_ k) (sP Tryz.func78 #[pq g,nI_ k] (there_in hb rfl hn2 hk S) fun w1 S2=>pv (iv 0) (wER (pv (iv 0) (dN 0 0 (fun hd3=>False.elim om_) fun _=>wE ?_)))))))))))
  refine nCF (wp_skip (nS (sR (pv (.slice A d.length cd) (pv (iv (d.length:Nat)) (dN (d.length:Nat) 512 (fun _=>wE (nCT (sR (pv (pq g) (pv (pq g) (pv (po g 5) (pv (po g 8) ?_))))))) fun hd4=>False.elim om_))))))
  exact lR (iv s.rf) S2 0 8 (pv (iv (inc s.rf)) (pv (pq g) (pv (po g 5) (pv (po g 8) (sS S2 0 rfl 8 (iv (inc s.rf)) fun w5 S6=>wER (pv (iv 2) (wE (then_n (rR (bA (iv 2) ⟨rfl,St.pclose (gd:=gd) (gm:=gm) (clock:=clock) (es:=es) (fused:=fused) (left:=left) (s:={s with rf:=inc s.rf}) S6 (hf.congr rfl rfl rfl)⟩))))))))))
 have hd:d.length=512:=by omega
 have e:s.writeR (k:Int) d=({s with pend:=s.pend++[(k,d)],wr:=inc s.wr,left:=spent s.left},0):=by unfold Dsk.writeR;rw [if_neg hz,if_neg ho,if_neg hd5,Int.toNat_natCast]
 rw [e]
 have hsp:=hf.spend hz
 have hlb:=spent_lb hf.lb hz
 rcases hf.find k with ⟨hp,hno⟩|⟨j,p,hj,hat,hp,hne,hje,hke,hfe⟩
 ·rcases hsp with ⟨rfl,hdc,hde⟩|⟨rfl,hdc,hde⟩
  ·change St F w0 w (dR g gd (512*s.last.length) gm true left s.life s.rd s.wr s.fl s.rf (s.pend.length:Int)::row gd (bvs s.last.flatten) 5::pt gm (mapO (es.map PEnt.ent) clock)::stars (es.map PEnt.ast)::L) at S
   refine eN (fr [pq g,nI_ k,.slice A d.length cd] 62) Tryz.func51 rfl (sR (pv (iv 0) (wE (nS (sR (pv (pq g) (pv (nI_ k) (sP Tryz.func78 #[pq g,nI_ k] (there_in hb rfl hn2 hk S) fun w1 S2=>pv (iv 0) (wER (pv (iv 0) (dN 0 0 (fun hd3=>False.elim om_) fun _=>wE ?_)))))))))))
   refine nCF (wp_skip (nS (sR (pv (.slice A d.length cd) (pv (iv (d.length:Nat)) (dN (d.length:Nat) 512 (fun hd4=>False.elim om_) fun _=>wE (nCF (wp_skip (nSR (g_ (gv_make (e:=5) (u:=512) (v:=512) (z:=.int .u8 0) (sz:=1) (by_:=1) (n:=512) (c:=512) (cs:=(bvs (List.replicate 512 0))) S2 rfl kr_ ⟨by kernel_rfl⟩ kr_ kr_ rfl rfl (Nat.le_refl _) dc_ dc_ (mk_bytes _) (fun g5 w6 hg7 S8=>pv (sl g5 0 512 512) (wER ?_)))))))))))))
   refine pv (sl g5 0 512 512) (pv (.slice A d.length cd) (g_ (gv_copy (e:=5) (off:=0) (dLen:=512) (dCap:=512) (sLen:=d.length) (sCap:=cd) (A:=A) (B:=(List.replicate 512 0)) (l:=d) S8 0 rfl rfl kr_ kr_ kr_ kr_ rfl (hr.out _ [row g5 (bvs (List.replicate 512 0)) 5,dR g gd (512*s.last.length) gm true left s.life s.rd s.wr s.fl s.rf (s.pend.length:Int),row gd (bvs s.last.flatten) 5,pt gm (mapO (es.map PEnt.ent) clock),stars (es.map PEnt.ast)] S8) (by simp) (L':=(row g5 (bvs d) 5::dR g gd (512*s.last.length) gm true left s.life s.rd s.wr s.fl s.rf (s.pend.length:Int)::row gd (bvs s.last.flatten) 5::pt gm (mapO (es.map PEnt.ent) clock)::stars (es.map PEnt.ast)::L)) (by rw [copy512 hd];rfl) (fun w9 m11 S10=>wE (nS ?_)))))
   have S12:St F w0 w9 (vec 22 1 (nS_) 0 []::row g5 (bvs d) 5::dR g gd (512*s.last.length) gm true left s.life s.rd s.wr s.fl s.rf (s.pend.length:Int)::row gd (bvs s.last.flatten) 5::pt gm (mapO (es.map PEnt.ent) clock)::stars (es.map PEnt.ast)::L):=St.vec_nil S10
   refine wp_region_phu (γ:=Nat×Value) 14 [12,13] (fun (c_:Nat×Value) (i_:Nat)=>(match i_ with|0=>pq g|1=>pq g|2=>po g 1|3=>.map (some gm)|4=>nI_ k|5=>pq g|6=>pq g|7=>po g 1|8=>.map (some gm)|9=>nI_ k|10=>nS_|11=>sl g5 0 512 512|12=>sl c_.1 0 1 1|13=>c_.2|_=>undef:Value)) (fun (c_:Nat×Value) (p_:Nat) (w_:World)=>(match p_ with|0=>St F w0 w_ (vec 22 1 (nS_) 0 []::row g5 (bvs d) 5::dR g gd (512*s.last.length) gm true left s.life s.rd s.wr s.fl s.rf (s.pend.length:Int)::row gd (bvs s.last.flatten) 5::pt gm (mapO (es.map PEnt.ent) clock)::stars (es.map PEnt.ast)::L)|1=>St F w0 w_ (row c_.1 #[sl g5 0 512 512] 22::vec 22 1 (nS_) 0 []::row g5 (bvs d) 5::dR g gd (512*s.last.length) gm true left s.life s.rd s.wr s.fl s.rf (s.pend.length:Int)::row gd (bvs s.last.flatten) 5::pt gm (mapO (es.map PEnt.ent) clock)::stars (es.map PEnt.ast)::L)|_=>St F w0 w_ (vec 22 1 c_.2 1 [sl g5 0 512 512]::row c_.1 #[sl g5 0 512 512] 22::row g5 (bvs d) 5::dR g gd (512*s.last.length) gm true left s.life s.rd s.wr s.fl s.rf (s.pend.length:Int)::row gd (bvs s.last.flatten) 5::pt gm (mapO (es.map PEnt.ent) clock)::stars (es.map PEnt.ast)::L):Prop)) (0,undef) kr_ kr_ kr_ kr_ (S12.drew) ?_ ?_ ?_
   ·intro i_ c_ p_ vals_ w1 hi_ hiE_ hp_ hk_ hu_ hPh_ hd_
    rcases i_ with _|_|_|_|_|_|_|_|_|_|_|_|_|_|i_
    ·exact tG_ rfl hd_ (gV (pq g) ⟨rfl,rfl⟩)
    ·exact tG_ rfl hd_ (gV (pq g) ⟨rfl,rfl⟩)
    ·exact tG_ rfl hd_ (gV (po g 1) ⟨rfl,rfl⟩)
    ·rcases p_ with _|_|_|p_
     ·have S16:=St.id hPh_
      exact tG_ rfl hd_ (gL (.map (some gm)) rfl (((S16.blk 2 rfl).cell 1).trans rfl) ⟨rfl,rfl⟩)
     ·have S17:=St.id hPh_
      exact tG_ rfl hd_ (gL (.map (some gm)) rfl (((S17.blk 3 rfl).cell 1).trans rfl) ⟨rfl,rfl⟩)
     ·have S18:=St.id hPh_
      exact tG_ rfl hd_ (gL (.map (some gm)) rfl (((S18.blk 3 rfl).cell 1).trans rfl) ⟨rfl,rfl⟩)
     ·exact absurd hp_ (by simp)
    ·exact tG_ rfl hd_ (gV (nI_ k) ⟨rfl,rfl⟩)
    ·exact tG_ rfl hd_ (gV (pq g) ⟨rfl,rfl⟩)
    ·exact tG_ rfl hd_ (gV (pq g) ⟨rfl,rfl⟩)
    ·exact tG_ rfl hd_ (gV (po g 1) ⟨rfl,rfl⟩)
    ·rcases p_ with _|_|_|p_
     ·have S23:=St.id hPh_
      exact tG_ rfl hd_ (gL (.map (some gm)) rfl (((S23.blk 2 rfl).cell 1).trans rfl) ⟨rfl,rfl⟩)
     ·have S24:=St.id hPh_
      exact tG_ rfl hd_ (gL (.map (some gm)) rfl (((S24.blk 3 rfl).cell 1).trans rfl) ⟨rfl,rfl⟩)
     ·exact absurd (hu_ 1 dc_ kr_) dc_
     ·exact absurd hp_ (by simp)
    ·exact tG_ rfl hd_ (gV (nI_ k) ⟨rfl,rfl⟩)
    ·rcases p_ with _|_|_|p_
     ·have S26:=St.id hPh_
      exact tG_ rfl hd_ (gv_look_none (kT:=3) (eT:=78) (k:=((k:Nat):Int)) (z:=nS_) (S26.get 4 rfl) rfl kr_ kr_ kr_ kr_ kr_ hno ⟨rfl,rfl⟩)
     ·have S27:=St.id hPh_
      exact tG_ rfl hd_ (gv_look_none (kT:=3) (eT:=78) (k:=((k:Nat):Int)) (z:=nS_) (S27.get 5 rfl) rfl kr_ kr_ kr_ kr_ kr_ hno ⟨rfl,rfl⟩)
     ·exact absurd (hu_ 1 dc_ kr_) dc_
     ·exact absurd hp_ (by simp)
    ·exact tG_ rfl hd_ (gV (sl g5 0 512 512) ⟨rfl,rfl⟩)
    ·exact absurd hiE_ dc_
    ·exact absurd hiE_ dc_
    ·exact absurd hi_ om_
   ·intro k_ c_ vals_ w1 hk_ hPh_ hd_
    rcases k_ with _|_|k_
    ·have S29:=St.id hPh_
     refine tG_ rfl hd_ (gv_slit (e:=22) (sz:=1) (z:=nS_) (by_:=24) (vs:=#[(0,sl g5 0 512 512)]) (cells:=#[sl g5 0 512 512]) S29 rfl kr_ ⟨by kernel_rfl⟩ kr_ kr_ kr_ kr_ (fun g30 w31 hg32 S33=>⟨(g30,c_.2),rfl, ?_,S33⟩))
     intro i_ hi_ hne_ hdp_
     rcases i_ with _|_|_|_|_|_|_|_|_|_|_|_|_|_|i_
     ·rfl
     ·rfl
     ·rfl
     ·rfl
     ·rfl
     ·rfl
     ·rfl
     ·rfl
     ·rfl
     ·rfl
     ·rfl
     ·rfl
     ·exact absurd rfl hne_
     ·exact dN_ hdp_
     ·exact absurd hi_ om_
    ·have S34:=St.id hPh_
     refine tG_ rfl hd_ (gv_append (e:=22) (sz:=1) (n:=0) (v:=(nS_)) (vals:=[]) (z:=nS_) (by_:=24) (m:=1) (c':=1) (ad:=⟨c_.1,0,none⟩) (news:=[sl g5 0 512 512]) (St.swap S34) rfl kr_ ⟨by kernel_rfl⟩ rfl kr_ kr_ dc_ rfl (row_news (S34.blk 0 rfl)) (by intro u hu;simp at hu;subst hu;rfl) om_ om_ (fun v36 w35 S37=>⟨(c_.1,v36),rfl, ?_,S37⟩))
     intro i_ hi_ hne_ hdp_
     rcases i_ with _|_|_|_|_|_|_|_|_|_|_|_|_|_|i_
     ·rfl
     ·rfl
     ·rfl
     ·rfl
     ·rfl
     ·rfl
     ·rfl
     ·rfl
     ·rfl
     ·rfl
     ·rfl
     ·rfl
     ·rfl
     ·exact absurd rfl hne_
     ·exact absurd hi_ om_
    ·exact absurd hk_ (by simp)
   ·intro c_ w1 hPh_
    have S38:=St.id hPh_
    refine (g_ (gv_put_new (kT:=3) (eT:=78) (g:=gm) (clock:=clock) (es:=es.map PEnt.ent) (k:=((k:Nat):Int)) (v:=c_.2) S38 5 rfl rfl kr_ kr_ kr_ kr_ kr_ hno (L':=(vec 22 1 c_.2 1 [sl g5 0 512 512]::row c_.1 #[sl g5 0 512 512] 22::row g5 (bvs d) 5::dR g gd (512*s.last.length) gm true left s.life s.rd s.wr s.fl s.rf (s.pend.length:Int)::row gd (bvs s.last.flatten) 5::pt gm (mapO (es.map PEnt.ent++[⟨((k:Nat):Int),c_.2,clock⟩]) (clock+1))::stars (es.map PEnt.ast)::L)) rfl (fun w39 S40=>wE ?_)))
    refine nSR (pv (pq g) (pv (pq g) (pv (po g 5) (pv (po g 6) (lR (iv s.wr) S40 3 6 (pv (iv (inc s.wr)) (pv (pq g) (pv (po g 5) (pv (po g 6) (sS S40 3 rfl 6 (iv (inc s.wr)) fun w41 S42=>wER (pv (pq g) (pv (pq g) ?_))))))))))))
    refine pv (po g 5) (pv (po g 9) (lR (iv (s.pend.length:Int)) S42 3 9 (gI .i64 (IntKind.i64.wrap ((s.pend.length:Int)+1)) ((s.pend.length+1:Nat):Int) wq_ (pv (pq g) (pv (po g 5) (pv (po g 9) (sS S42 3 rfl 9 (nI_ (s.pend.length+1)) fun w43 S44=>wER (pv (pq g) (g_ (gv_call (args:=#[pq g]) rfl Tryz.func86 kr_ rfl rfl kr_ ?_))))))))))
    have S45:St F w0 w43 (vec 22 1 c_.2 1 [sl g5 0 512 512]::row g5 (bvs d) 5::dR g gd (512*s.last.length) gm true left s.life s.rd (inc s.wr) s.fl s.rf ((s.pend.length+1:Nat):Int)::row gd (bvs s.last.flatten) 5::pt gm (mapO (es.map PEnt.ent++[⟨((k:Nat):Int),c_.2,clock⟩]) (clock+1))::stars (es.map PEnt.ast)::L):=St.pm 7 [0,2,3,4,5,6] S44
    have em:es.map PEnt.ent++[⟨((k:Nat):Int),c_.2,clock⟩]=(es++[(⟨k,c_.2,clock,[(g5,d)]⟩:PEnt)]).map PEnt.ent:=by rw [List.map_append];rfl
    have S46:St F w0 w43 (dR g gd (512*s.last.length) gm true left s.life s.rd (inc s.wr) s.fl s.rf ((s.pend.length+1:Nat):Int)::row gd (bvs s.last.flatten) 5::pt gm (mapO (es.map PEnt.ent++[⟨((k:Nat):Int),c_.2,clock⟩]) (clock+1))::stars ((es++[(⟨k,c_.2,clock,[(g5,d)]⟩:PEnt)]).map PEnt.ast)::L):=entry_new S45
    rw [em] at S46
    refine Calls.mono (spend_true S46) ?_
    rintro _ w47 ⟨rfl,S48⟩
    refine ⟨_,rfl,(wER (pv (iv 0) (wE (then_n (wp_ret (bA (iv 0) ?_))))))⟩
    have hl1:((s.pend.length+1:Nat):Int)=((s.pend++[(k,d)]).length:Nat):=by rw [List.length_append];rfl
    rw [hl1] at S48
    exact ⟨rfl,St.pclose (gd:=gd) (gm:=gm) (clock:=clock+1) (es:=es++[(⟨k,c_.2,clock,[(g5,d)]⟩:PEnt)]) (fused:=true) (left:=dec left) (s:={s with pend:=s.pend++[(k,d)],wr:=inc s.wr,left:=spent s.left}) S48 (PFacts.refuse (s':={s with pend:=s.pend++[(k,d)],wr:=inc s.wr,left:=spent s.left}) (hf.write_new (s':={s with pend:=s.pend++[(k,d)]}) (go:=g5) (d:=d) (v':=c_.2) hp hno hk hd hpn rfl rfl rfl) rfl rfl hdc.symm (fun _=>hde) hlb)⟩
  ·change St F w0 w (dR g gd (512*s.last.length) gm false left s.life s.rd s.wr s.fl s.rf (s.pend.length:Int)::row gd (bvs s.last.flatten) 5::pt gm (mapO (es.map PEnt.ent) clock)::stars (es.map PEnt.ast)::L) at S
   refine eN (fr [pq g,nI_ k,.slice A d.length cd] 62) Tryz.func51 rfl (sR (pv (iv 0) (wE (nS (sR (pv (pq g) (pv (nI_ k) (sP Tryz.func78 #[pq g,nI_ k] (there_in hb rfl hn2 hk S) fun w1 S2=>pv (iv 0) (wER (pv (iv 0) (dN 0 0 (fun hd3=>False.elim om_) fun _=>wE ?_)))))))))))
   refine nCF (wp_skip (nS (sR (pv (.slice A d.length cd) (pv (iv (d.length:Nat)) (dN (d.length:Nat) 512 (fun hd4=>False.elim om_) fun _=>wE (nCF (wp_skip (nSR (g_ (gv_make (e:=5) (u:=512) (v:=512) (z:=.int .u8 0) (sz:=1) (by_:=1) (n:=512) (c:=512) (cs:=(bvs (List.replicate 512 0))) S2 rfl kr_ ⟨by kernel_rfl⟩ kr_ kr_ rfl rfl (Nat.le_refl _) dc_ dc_ (mk_bytes _) (fun g5 w6 hg7 S8=>pv (sl g5 0 512 512) (wER ?_)))))))))))))
   refine pv (sl g5 0 512 512) (pv (.slice A d.length cd) (g_ (gv_copy (e:=5) (off:=0) (dLen:=512) (dCap:=512) (sLen:=d.length) (sCap:=cd) (A:=A) (B:=(List.replicate 512 0)) (l:=d) S8 0 rfl rfl kr_ kr_ kr_ kr_ rfl (hr.out _ [row g5 (bvs (List.replicate 512 0)) 5,dR g gd (512*s.last.length) gm false left s.life s.rd s.wr s.fl s.rf (s.pend.length:Int),row gd (bvs s.last.flatten) 5,pt gm (mapO (es.map PEnt.ent) clock),stars (es.map PEnt.ast)] S8) (by simp) (L':=(row g5 (bvs d) 5::dR g gd (512*s.last.length) gm false left s.life s.rd s.wr s.fl s.rf (s.pend.length:Int)::row gd (bvs s.last.flatten) 5::pt gm (mapO (es.map PEnt.ent) clock)::stars (es.map PEnt.ast)::L)) (by rw [copy512 hd];rfl) (fun w9 m11 S10=>wE (nS ?_)))))
   have S12:St F w0 w9 (vec 22 1 (nS_) 0 []::row g5 (bvs d) 5::dR g gd (512*s.last.length) gm false left s.life s.rd s.wr s.fl s.rf (s.pend.length:Int)::row gd (bvs s.last.flatten) 5::pt gm (mapO (es.map PEnt.ent) clock)::stars (es.map PEnt.ast)::L):=St.vec_nil S10
   refine wp_region_phu (γ:=Nat×Value) 14 [12,13] (fun (c_:Nat×Value) (i_:Nat)=>(match i_ with|0=>pq g|1=>pq g|2=>po g 1|3=>.map (some gm)|4=>nI_ k|5=>pq g|6=>pq g|7=>po g 1|8=>.map (some gm)|9=>nI_ k|10=>nS_|11=>sl g5 0 512 512|12=>sl c_.1 0 1 1|13=>c_.2|_=>undef:Value)) (fun (c_:Nat×Value) (p_:Nat) (w_:World)=>(match p_ with|0=>St F w0 w_ (vec 22 1 (nS_) 0 []::row g5 (bvs d) 5::dR g gd (512*s.last.length) gm false left s.life s.rd s.wr s.fl s.rf (s.pend.length:Int)::row gd (bvs s.last.flatten) 5::pt gm (mapO (es.map PEnt.ent) clock)::stars (es.map PEnt.ast)::L)|1=>St F w0 w_ (row c_.1 #[sl g5 0 512 512] 22::vec 22 1 (nS_) 0 []::row g5 (bvs d) 5::dR g gd (512*s.last.length) gm false left s.life s.rd s.wr s.fl s.rf (s.pend.length:Int)::row gd (bvs s.last.flatten) 5::pt gm (mapO (es.map PEnt.ent) clock)::stars (es.map PEnt.ast)::L)|_=>St F w0 w_ (vec 22 1 c_.2 1 [sl g5 0 512 512]::row c_.1 #[sl g5 0 512 512] 22::row g5 (bvs d) 5::dR g gd (512*s.last.length) gm false left s.life s.rd s.wr s.fl s.rf (s.pend.length:Int)::row gd (bvs s.last.flatten) 5::pt gm (mapO (es.map PEnt.ent) clock)::stars (es.map PEnt.ast)::L):Prop)) (0,undef) kr_ kr_ kr_ kr_ (S12.drew) ?_ ?_ ?_
   ·intro i_ c_ p_ vals_ w1 hi_ hiE_ hp_ hk_ hu_ hPh_ hd_
    rcases i_ with _|_|_|_|_|_|_|_|_|_|_|_|_|_|i_
    ·exact tG_ rfl hd_ (gV (pq g) ⟨rfl,rfl⟩)
    ·exact tG_ rfl hd_ (gV (pq g) ⟨rfl,rfl⟩)
    ·exact tG_ rfl hd_ (gV (po g 1) ⟨rfl,rfl⟩)
    ·rcases p_ with _|_|_|p_
     ·have S16:=St.id hPh_
      exact tG_ rfl hd_ (gL (.map (some gm)) rfl (((S16.blk 2 rfl).cell 1).trans rfl) ⟨rfl,rfl⟩)
     ·have S17:=St.id hPh_
      exact tG_ rfl hd_ (gL (.map (some gm)) rfl (((S17.blk 3 rfl).cell 1).trans rfl) ⟨rfl,rfl⟩)
     ·have S18:=St.id hPh_
      exact tG_ rfl hd_ (gL (.map (some gm)) rfl (((S18.blk 3 rfl).cell 1).trans rfl) ⟨rfl,rfl⟩)
     ·exact absurd hp_ (by simp)
    ·exact tG_ rfl hd_ (gV (nI_ k) ⟨rfl,rfl⟩)
    ·exact tG_ rfl hd_ (gV (pq g) ⟨rfl,rfl⟩)
    ·exact tG_ rfl hd_ (gV (pq g) ⟨rfl,rfl⟩)
    ·exact tG_ rfl hd_ (gV (po g 1) ⟨rfl,rfl⟩)
    ·rcases p_ with _|_|_|p_
     ·have S23:=St.id hPh_
      exact tG_ rfl hd_ (gL (.map (some gm)) rfl (((S23.blk 2 rfl).cell 1).trans rfl) ⟨rfl,rfl⟩)
     ·have S24:=St.id hPh_
      exact tG_ rfl hd_ (gL (.map (some gm)) rfl (((S24.blk 3 rfl).cell 1).trans rfl) ⟨rfl,rfl⟩)
     ·exact absurd (hu_ 1 dc_ kr_) dc_
     ·exact absurd hp_ (by simp)
    ·exact tG_ rfl hd_ (gV (nI_ k) ⟨rfl,rfl⟩)
    ·rcases p_ with _|_|_|p_
     ·have S26:=St.id hPh_
      exact tG_ rfl hd_ (gv_look_none (kT:=3) (eT:=78) (k:=((k:Nat):Int)) (z:=nS_) (S26.get 4 rfl) rfl kr_ kr_ kr_ kr_ kr_ hno ⟨rfl,rfl⟩)
     ·have S27:=St.id hPh_
      exact tG_ rfl hd_ (gv_look_none (kT:=3) (eT:=78) (k:=((k:Nat):Int)) (z:=nS_) (S27.get 5 rfl) rfl kr_ kr_ kr_ kr_ kr_ hno ⟨rfl,rfl⟩)
     ·exact absurd (hu_ 1 dc_ kr_) dc_
     ·exact absurd hp_ (by simp)
    ·exact tG_ rfl hd_ (gV (sl g5 0 512 512) ⟨rfl,rfl⟩)
    ·exact absurd hiE_ dc_
    ·exact absurd hiE_ dc_
    ·exact absurd hi_ om_
   ·intro k_ c_ vals_ w1 hk_ hPh_ hd_
    rcases k_ with _|_|k_
    ·have S29:=St.id hPh_
     refine tG_ rfl hd_ (gv_slit (e:=22) (sz:=1) (z:=nS_) (by_:=24) (vs:=#[(0,sl g5 0 512 512)]) (cells:=#[sl g5 0 512 512]) S29 rfl kr_ ⟨by kernel_rfl⟩ kr_ kr_ kr_ kr_ (fun g30 w31 hg32 S33=>⟨(g30,c_.2),rfl, ?_,S33⟩))
     intro i_ hi_ hne_ hdp_
     rcases i_ with _|_|_|_|_|_|_|_|_|_|_|_|_|_|i_
     ·rfl
     ·rfl
     ·rfl
     ·rfl
     ·rfl
     ·rfl
     ·rfl
     ·rfl
     ·rfl
     ·rfl
     ·rfl
     ·rfl
     ·exact absurd rfl hne_
     ·exact dN_ hdp_
     ·exact absurd hi_ om_
    ·have S34:=St.id hPh_
     refine tG_ rfl hd_ (gv_append (e:=22) (sz:=1) (n:=0) (v:=(nS_)) (vals:=[]) (z:=nS_) (by_:=24) (m:=1) (c':=1) (ad:=⟨c_.1,0,none⟩) (news:=[sl g5 0 512 512]) (St.swap S34) rfl kr_ ⟨by kernel_rfl⟩ rfl kr_ kr_ dc_ rfl (row_news (S34.blk 0 rfl)) (by intro u hu;simp at hu;subst hu;rfl) om_ om_ (fun v36 w35 S37=>⟨(c_.1,v36),rfl, ?_,S37⟩))
     intro i_ hi_ hne_ hdp_
     rcases i_ with _|_|_|_|_|_|_|_|_|_|_|_|_|_|i_
     ·rfl
     ·rfl
     ·rfl
     ·rfl
     ·rfl
     ·rfl
     ·rfl
     ·rfl
     ·rfl
     ·rfl
     ·rfl
     ·rfl
     ·rfl
     ·exact absurd rfl hne_
     ·exact absurd hi_ om_
    ·exact absurd hk_ (by simp)
   ·intro c_ w1 hPh_
    have S38:=St.id hPh_
    refine (g_ (gv_put_new (kT:=3) (eT:=78) (g:=gm) (clock:=clock) (es:=es.map PEnt.ent) (k:=((k:Nat):Int)) (v:=c_.2) S38 5 rfl rfl kr_ kr_ kr_ kr_ kr_ hno (L':=(vec 22 1 c_.2 1 [sl g5 0 512 512]::row c_.1 #[sl g5 0 512 512] 22::row g5 (bvs d) 5::dR g gd (512*s.last.length) gm false left s.life s.rd s.wr s.fl s.rf (s.pend.length:Int)::row gd (bvs s.last.flatten) 5::pt gm (mapO (es.map PEnt.ent++[⟨((k:Nat):Int),c_.2,clock⟩]) (clock+1))::stars (es.map PEnt.ast)::L)) rfl (fun w39 S40=>wE ?_)))
    refine nSR (pv (pq g) (pv (pq g) (pv (po g 5) (pv (po g 6) (lR (iv s.wr) S40 3 6 (pv (iv (inc s.wr)) (pv (pq g) (pv (po g 5) (pv (po g 6) (sS S40 3 rfl 6 (iv (inc s.wr)) fun w41 S42=>wER (pv (pq g) (pv (pq g) ?_))))))))))))
    refine pv (po g 5) (pv (po g 9) (lR (iv (s.pend.length:Int)) S42 3 9 (gI .i64 (IntKind.i64.wrap ((s.pend.length:Int)+1)) ((s.pend.length+1:Nat):Int) wq_ (pv (pq g) (pv (po g 5) (pv (po g 9) (sS S42 3 rfl 9 (nI_ (s.pend.length+1)) fun w43 S44=>wER (pv (pq g) (g_ (gv_call (args:=#[pq g]) rfl Tryz.func86 kr_ rfl rfl kr_ ?_))))))))))
    have S45:St F w0 w43 (vec 22 1 c_.2 1 [sl g5 0 512 512]::row g5 (bvs d) 5::dR g gd (512*s.last.length) gm false left s.life s.rd (inc s.wr) s.fl s.rf ((s.pend.length+1:Nat):Int)::row gd (bvs s.last.flatten) 5::pt gm (mapO (es.map PEnt.ent++[⟨((k:Nat):Int),c_.2,clock⟩]) (clock+1))::stars (es.map PEnt.ast)::L):=St.pm 7 [0,2,3,4,5,6] S44
    have em:es.map PEnt.ent++[⟨((k:Nat):Int),c_.2,clock⟩]=(es++[(⟨k,c_.2,clock,[(g5,d)]⟩:PEnt)]).map PEnt.ent:=by rw [List.map_append];rfl
    have S46:St F w0 w43 (dR g gd (512*s.last.length) gm false left s.life s.rd (inc s.wr) s.fl s.rf ((s.pend.length+1:Nat):Int)::row gd (bvs s.last.flatten) 5::pt gm (mapO (es.map PEnt.ent++[⟨((k:Nat):Int),c_.2,clock⟩]) (clock+1))::stars ((es++[(⟨k,c_.2,clock,[(g5,d)]⟩:PEnt)]).map PEnt.ast)::L):=entry_new S45
    rw [em] at S46
    refine Calls.mono (spend_false S46) ?_
    rintro _ w47 ⟨rfl,S48⟩
    refine ⟨_,rfl,(wER (pv (iv 0) (wE (then_n (wp_ret (bA (iv 0) ?_))))))⟩
    have hl1:((s.pend.length+1:Nat):Int)=((s.pend++[(k,d)]).length:Nat):=by rw [List.length_append];rfl
    rw [hl1] at S48
    exact ⟨rfl,St.pclose (gd:=gd) (gm:=gm) (clock:=clock+1) (es:=es++[(⟨k,c_.2,clock,[(g5,d)]⟩:PEnt)]) (fused:=false) (left:=left) (s:={s with pend:=s.pend++[(k,d)],wr:=inc s.wr,left:=spent s.left}) S48 (PFacts.refuse (s':={s with pend:=s.pend++[(k,d)],wr:=inc s.wr,left:=spent s.left}) (hf.write_new (s':={s with pend:=s.pend++[(k,d)]}) (go:=g5) (d:=d) (v':=c_.2) hp hno hk hd hpn rfl rfl rfl) rfl rfl hdc.symm (fun h=>absurd h (of_decide_eq_false hdc)) hlb)⟩
 ·have hqm:p.ws.length≤s.pend.length:=by
   have h2:p.ws.length=(pendOf s k).length:=by rw [hp,List.length_map]
   have h3:(pendOf s k).length≤s.pend.length:=by unfold pendOf;rw [List.length_map];exact List.length_filter_le _ _
   omega
  subst hat
  rcases hsp with ⟨rfl,hdc,hde⟩|⟨rfl,hdc,hde⟩
  ·change St F w0 w (dR g gd (512*s.last.length) gm true left s.life s.rd s.wr s.fl s.rf (s.pend.length:Int)::row gd (bvs s.last.flatten) 5::pt gm (mapO (es.map PEnt.ent) clock)::stars (es.map PEnt.ast)::L) at S
   refine eN (fr [pq g,nI_ p.at_,.slice A d.length cd] 62) Tryz.func51 rfl (sR (pv (iv 0) (wE (nS (sR (pv (pq g) (pv (nI_ p.at_) (sP Tryz.func78 #[pq g,nI_ p.at_] (there_in hb rfl hn2 hk S) fun w1 S2=>pv (iv 0) (wER (pv (iv 0) (dN 0 0 (fun hd3=>False.elim om_) fun _=>wE ?_)))))))))))
   refine nCF (wp_skip (nS (sR (pv (.slice A d.length cd) (pv (iv (d.length:Nat)) (dN (d.length:Nat) 512 (fun hd4=>False.elim om_) fun _=>wE (nCF (wp_skip (nSR (g_ (gv_make (e:=5) (u:=512) (v:=512) (z:=.int .u8 0) (sz:=1) (by_:=1) (n:=512) (c:=512) (cs:=(bvs (List.replicate 512 0))) S2 rfl kr_ ⟨by kernel_rfl⟩ kr_ kr_ rfl rfl (Nat.le_refl _) dc_ dc_ (mk_bytes _) (fun g5 w6 hg7 S8=>pv (sl g5 0 512 512) (wER ?_)))))))))))))
   refine pv (sl g5 0 512 512) (pv (.slice A d.length cd) (g_ (gv_copy (e:=5) (off:=0) (dLen:=512) (dCap:=512) (sLen:=d.length) (sCap:=cd) (A:=A) (B:=(List.replicate 512 0)) (l:=d) S8 0 rfl rfl kr_ kr_ kr_ kr_ rfl (hr.out _ [row g5 (bvs (List.replicate 512 0)) 5,dR g gd (512*s.last.length) gm true left s.life s.rd s.wr s.fl s.rf (s.pend.length:Int),row gd (bvs s.last.flatten) 5,pt gm (mapO (es.map PEnt.ent) clock),stars (es.map PEnt.ast)] S8) (by simp) (L':=(row g5 (bvs d) 5::dR g gd (512*s.last.length) gm true left s.life s.rd s.wr s.fl s.rf (s.pend.length:Int)::row gd (bvs s.last.flatten) 5::pt gm (mapO (es.map PEnt.ent) clock)::stars (es.map PEnt.ast)::L)) (by rw [copy512 hd];rfl) (fun w9 m11 S10=>wE (nS ?_)))))
   have S12:St F w0 w9 (vec 22 1 p.v p.ws.length (p.ws.map PEnt.val)::stars (p.ws.map PEnt.row)::stars ((es.take j).map PEnt.ast)::stars ((es.drop (j+1)).map PEnt.ast)::row g5 (bvs d) 5::dR g gd (512*s.last.length) gm true left s.life s.rd s.wr s.fl s.rf (s.pend.length:Int)::row gd (bvs s.last.flatten) 5::pt gm (mapO (es.map PEnt.ent) clock)::L):=entry_out [row g5 (bvs d) 5,dR g gd (512*s.last.length) gm true left s.life s.rd s.wr s.fl s.rf (s.pend.length:Int),row gd (bvs s.last.flatten) 5,pt gm (mapO (es.map PEnt.ent) clock)] S10 hj
   refine wp_region_phu (γ:=Nat×Value) 14 [12,13] (fun (c_:Nat×Value) (i_:Nat)=>(match i_ with|0=>pq g|1=>pq g|2=>po g 1|3=>.map (some gm)|4=>nI_ p.at_|5=>pq g|6=>pq g|7=>po g 1|8=>.map (some gm)|9=>nI_ p.at_|10=>p.v|11=>sl g5 0 512 512|12=>sl c_.1 0 1 1|13=>c_.2|_=>undef:Value)) (fun (c_:Nat×Value) (p_:Nat) (w_:World)=>(match p_ with|0=>St F w0 w_ (vec 22 1 p.v p.ws.length (p.ws.map PEnt.val)::stars (p.ws.map PEnt.row)::stars ((es.take j).map PEnt.ast)::stars ((es.drop (j+1)).map PEnt.ast)::row g5 (bvs d) 5::dR g gd (512*s.last.length) gm true left s.life s.rd s.wr s.fl s.rf (s.pend.length:Int)::row gd (bvs s.last.flatten) 5::pt gm (mapO (es.map PEnt.ent) clock)::L)|1=>St F w0 w_ (row c_.1 #[sl g5 0 512 512] 22::vec 22 1 p.v p.ws.length (p.ws.map PEnt.val)::stars (p.ws.map PEnt.row)::stars ((es.take j).map PEnt.ast)::stars ((es.drop (j+1)).map PEnt.ast)::row g5 (bvs d) 5::dR g gd (512*s.last.length) gm true left s.life s.rd s.wr s.fl s.rf (s.pend.length:Int)::row gd (bvs s.last.flatten) 5::pt gm (mapO (es.map PEnt.ent) clock)::L)|_=>St F w0 w_ (vec 22 1 c_.2 (p.ws.length+1) (p.ws.map PEnt.val++[sl g5 0 512 512])::row c_.1 #[sl g5 0 512 512] 22::stars (p.ws.map PEnt.row)::stars ((es.take j).map PEnt.ast)::stars ((es.drop (j+1)).map PEnt.ast)::row g5 (bvs d) 5::dR g gd (512*s.last.length) gm true left s.life s.rd s.wr s.fl s.rf (s.pend.length:Int)::row gd (bvs s.last.flatten) 5::pt gm (mapO (es.map PEnt.ent) clock)::L):Prop)) (0,undef) kr_ kr_ kr_ kr_ (S12.drew) ?_ ?_ ?_
   ·intro i_ c_ p_ vals_ w1 hi_ hiE_ hp_ hk_ hu_ hPh_ hd_
    rcases i_ with _|_|_|_|_|_|_|_|_|_|_|_|_|_|i_
    ·exact tG_ rfl hd_ (gV (pq g) ⟨rfl,rfl⟩)
    ·exact tG_ rfl hd_ (gV (pq g) ⟨rfl,rfl⟩)
    ·exact tG_ rfl hd_ (gV (po g 1) ⟨rfl,rfl⟩)
    ·rcases p_ with _|_|_|p_
     ·have S16:=St.id hPh_
      exact tG_ rfl hd_ (gL (.map (some gm)) rfl (((S16.blk 5 rfl).cell 1).trans rfl) ⟨rfl,rfl⟩)
     ·have S17:=St.id hPh_
      exact tG_ rfl hd_ (gL (.map (some gm)) rfl (((S17.blk 6 rfl).cell 1).trans rfl) ⟨rfl,rfl⟩)
     ·have S18:=St.id hPh_
      exact tG_ rfl hd_ (gL (.map (some gm)) rfl (((S18.blk 6 rfl).cell 1).trans rfl) ⟨rfl,rfl⟩)
     ·exact absurd hp_ (by simp)
    ·exact tG_ rfl hd_ (gV (nI_ p.at_) ⟨rfl,rfl⟩)
    ·exact tG_ rfl hd_ (gV (pq g) ⟨rfl,rfl⟩)
    ·exact tG_ rfl hd_ (gV (pq g) ⟨rfl,rfl⟩)
    ·exact tG_ rfl hd_ (gV (po g 1) ⟨rfl,rfl⟩)
    ·rcases p_ with _|_|_|p_
     ·have S23:=St.id hPh_
      exact tG_ rfl hd_ (gL (.map (some gm)) rfl (((S23.blk 5 rfl).cell 1).trans rfl) ⟨rfl,rfl⟩)
     ·have S24:=St.id hPh_
      exact tG_ rfl hd_ (gL (.map (some gm)) rfl (((S24.blk 6 rfl).cell 1).trans rfl) ⟨rfl,rfl⟩)
     ·exact absurd (hu_ 1 dc_ kr_) dc_
     ·exact absurd hp_ (by simp)
    ·exact tG_ rfl hd_ (gV (nI_ p.at_) ⟨rfl,rfl⟩)
    ·rcases p_ with _|_|_|p_
     ·have S26:=St.id hPh_
      exact tG_ rfl hd_ (gv_look_some (kT:=3) (eT:=78) (k:=((p.at_:Nat):Int)) (S26.get 7 rfl) rfl kr_ kr_ kr_ kr_ hje hke hfe ⟨rfl,rfl⟩)
     ·have S27:=St.id hPh_
      exact tG_ rfl hd_ (gv_look_some (kT:=3) (eT:=78) (k:=((p.at_:Nat):Int)) (S27.get 8 rfl) rfl kr_ kr_ kr_ kr_ hje hke hfe ⟨rfl,rfl⟩)
     ·exact absurd (hu_ 1 dc_ kr_) dc_
     ·exact absurd hp_ (by simp)
    ·exact tG_ rfl hd_ (gV (sl g5 0 512 512) ⟨rfl,rfl⟩)
    ·exact absurd hiE_ dc_
    ·exact absurd hiE_ dc_
    ·exact absurd hi_ om_
   ·intro k_ c_ vals_ w1 hk_ hPh_ hd_
    rcases k_ with _|_|k_
    ·have S29:=St.id hPh_
     refine tG_ rfl hd_ (gv_slit (e:=22) (sz:=1) (z:=nS_) (by_:=24) (vs:=#[(0,sl g5 0 512 512)]) (cells:=#[sl g5 0 512 512]) S29 rfl kr_ ⟨by kernel_rfl⟩ kr_ kr_ kr_ kr_ (fun g30 w31 hg32 S33=>⟨(g30,c_.2),rfl, ?_,S33⟩))
     intro i_ hi_ hne_ hdp_
     rcases i_ with _|_|_|_|_|_|_|_|_|_|_|_|_|_|i_
     ·rfl
     ·rfl
     ·rfl
     ·rfl
     ·rfl
     ·rfl
     ·rfl
     ·rfl
     ·rfl
     ·rfl
     ·rfl
     ·rfl
     ·exact absurd rfl hne_
     ·exact dN_ hdp_
     ·exact absurd hi_ om_
    ·have S34:=St.id hPh_
     refine tG_ rfl hd_ (gv_append (e:=22) (sz:=1) (n:=p.ws.length) (v:=p.v) (vals:=(p.ws.map PEnt.val)) (z:=nS_) (by_:=24) (m:=1) (c':=1) (ad:=⟨c_.1,0,none⟩) (news:=[sl g5 0 512 512]) (St.swap S34) rfl kr_ ⟨by kernel_rfl⟩ rfl kr_ kr_ dc_ rfl (row_news (S34.blk 0 rfl)) (by intro u hu;simp at hu;subst hu;rfl) om_ om_ (fun v36 w35 S37=>⟨(c_.1,v36),rfl, ?_,S37⟩))
     intro i_ hi_ hne_ hdp_
     rcases i_ with _|_|_|_|_|_|_|_|_|_|_|_|_|_|i_
     ·rfl
     ·rfl
     ·rfl
     ·rfl
     ·rfl
     ·rfl
     ·rfl
     ·rfl
     ·rfl
     ·rfl
     ·rfl
     ·rfl
     ·rfl
     ·exact absurd rfl hne_
     ·exact absurd hi_ om_
    ·exact absurd hk_ (by simp)
   ·intro c_ w1 hPh_
    have S38:=St.id hPh_
    refine (g_ (gv_put_old (kT:=3) (eT:=78) (g:=gm) (clock:=clock) (es:=es.map PEnt.ent) (k:=((p.at_:Nat):Int)) (v:=c_.2) S38 8 rfl rfl kr_ kr_ kr_ kr_ kr_ hje hke hfe (L':=(vec 22 1 c_.2 (p.ws.length+1) (p.ws.map PEnt.val++[sl g5 0 512 512])::row c_.1 #[sl g5 0 512 512] 22::stars (p.ws.map PEnt.row)::stars ((es.take j).map PEnt.ast)::stars ((es.drop (j+1)).map PEnt.ast)::row g5 (bvs d) 5::dR g gd (512*s.last.length) gm true left s.life s.rd s.wr s.fl s.rf (s.pend.length:Int)::row gd (bvs s.last.flatten) 5::pt gm (mapO ((es.map PEnt.ent).set j ⟨((p.at_:Nat):Int),c_.2,p.b⟩) clock)::L)) rfl (fun w39 S40=>wE ?_)))
    refine nSR (pv (pq g) (pv (pq g) (pv (po g 5) (pv (po g 6) (lR (iv s.wr) S40 6 6 (pv (iv (inc s.wr)) (pv (pq g) (pv (po g 5) (pv (po g 6) (sS S40 6 rfl 6 (iv (inc s.wr)) fun w41 S42=>wER (pv (pq g) (pv (pq g) ?_))))))))))))
    refine pv (po g 5) (pv (po g 9) (lR (iv (s.pend.length:Int)) S42 6 9 (gI .i64 (IntKind.i64.wrap ((s.pend.length:Int)+1)) ((s.pend.length+1:Nat):Int) wq_ (pv (pq g) (pv (po g 5) (pv (po g 9) (sS S42 6 rfl 9 (nI_ (s.pend.length+1)) fun w43 S44=>wER (pv (pq g) (g_ (gv_call (args:=#[pq g]) rfl Tryz.func86 kr_ rfl rfl kr_ ?_))))))))))
    have S45:St F w0 w43 (vec 22 1 c_.2 (p.ws.length+1) (p.ws.map PEnt.val++[sl g5 0 512 512])::stars (p.ws.map PEnt.row)::stars ((es.take j).map PEnt.ast)::stars ((es.drop (j+1)).map PEnt.ast)::row g5 (bvs d) 5::dR g gd (512*s.last.length) gm true left s.life s.rd (inc s.wr) s.fl s.rf ((s.pend.length+1:Nat):Int)::row gd (bvs s.last.flatten) 5::pt gm (mapO ((es.map PEnt.ent).set j ⟨((p.at_:Nat):Int),c_.2,p.b⟩) clock)::L):=St.pm 9 [0,2,3,4,5,6,7,8] S44
    have em:(es.map PEnt.ent).set j ⟨((p.at_:Nat):Int),c_.2,p.b⟩=(es.set j ⟨p.at_,c_.2,p.b,p.ws++[(g5,d)]⟩).map PEnt.ent:=by rw [map_set];rfl
    have S46:St F w0 w43 (dR g gd (512*s.last.length) gm true left s.life s.rd (inc s.wr) s.fl s.rf ((s.pend.length+1:Nat):Int)::row gd (bvs s.last.flatten) 5::pt gm (mapO ((es.map PEnt.ent).set j ⟨((p.at_:Nat):Int),c_.2,p.b⟩) clock)::stars ((es.set j ⟨p.at_,c_.2,p.b,p.ws++[(g5,d)]⟩).map PEnt.ast)::L):=entry_in hj S45
    rw [em] at S46
    refine Calls.mono (spend_true S46) ?_
    rintro _ w47 ⟨rfl,S48⟩
    refine ⟨_,rfl,(wER (pv (iv 0) (wE (then_n (wp_ret (bA (iv 0) ?_))))))⟩
    have hl1:((s.pend.length+1:Nat):Int)=((s.pend++[(p.at_,d)]).length:Nat):=by rw [List.length_append];rfl
    rw [hl1] at S48
    exact ⟨rfl,St.pclose (gd:=gd) (gm:=gm) (clock:=clock) (es:=es.set j ⟨p.at_,c_.2,p.b,p.ws++[(g5,d)]⟩) (fused:=true) (left:=dec left) (s:={s with pend:=s.pend++[(p.at_,d)],wr:=inc s.wr,left:=spent s.left}) S48 (PFacts.refuse (s':={s with pend:=s.pend++[(p.at_,d)],wr:=inc s.wr,left:=spent s.left}) (hf.write_old (s':={s with pend:=s.pend++[(p.at_,d)]}) (go:=g5) (d:=d) (v':=c_.2) hj rfl hk hd hpn rfl rfl rfl) rfl rfl hdc.symm (fun _=>hde) hlb)⟩
  ·change St F w0 w (dR g gd (512*s.last.length) gm false left s.life s.rd s.wr s.fl s.rf (s.pend.length:Int)::row gd (bvs s.last.flatten) 5::pt gm (mapO (es.map PEnt.ent) clock)::stars (es.map PEnt.ast)::L) at S
   refine eN (fr [pq g,nI_ p.at_,.slice A d.length cd] 62) Tryz.func51 rfl (sR (pv (iv 0) (wE (nS (sR (pv (pq g) (pv (nI_ p.at_) (sP Tryz.func78 #[pq g,nI_ p.at_] (there_in hb rfl hn2 hk S) fun w1 S2=>pv (iv 0) (wER (pv (iv 0) (dN 0 0 (fun hd3=>False.elim om_) fun _=>wE ?_)))))))))))
   refine nCF (wp_skip (nS (sR (pv (.slice A d.length cd) (pv (iv (d.length:Nat)) (dN (d.length:Nat) 512 (fun hd4=>False.elim om_) fun _=>wE (nCF (wp_skip (nSR (g_ (gv_make (e:=5) (u:=512) (v:=512) (z:=.int .u8 0) (sz:=1) (by_:=1) (n:=512) (c:=512) (cs:=(bvs (List.replicate 512 0))) S2 rfl kr_ ⟨by kernel_rfl⟩ kr_ kr_ rfl rfl (Nat.le_refl _) dc_ dc_ (mk_bytes _) (fun g5 w6 hg7 S8=>pv (sl g5 0 512 512) (wER ?_)))))))))))))
   refine pv (sl g5 0 512 512) (pv (.slice A d.length cd) (g_ (gv_copy (e:=5) (off:=0) (dLen:=512) (dCap:=512) (sLen:=d.length) (sCap:=cd) (A:=A) (B:=(List.replicate 512 0)) (l:=d) S8 0 rfl rfl kr_ kr_ kr_ kr_ rfl (hr.out _ [row g5 (bvs (List.replicate 512 0)) 5,dR g gd (512*s.last.length) gm false left s.life s.rd s.wr s.fl s.rf (s.pend.length:Int),row gd (bvs s.last.flatten) 5,pt gm (mapO (es.map PEnt.ent) clock),stars (es.map PEnt.ast)] S8) (by simp) (L':=(row g5 (bvs d) 5::dR g gd (512*s.last.length) gm false left s.life s.rd s.wr s.fl s.rf (s.pend.length:Int)::row gd (bvs s.last.flatten) 5::pt gm (mapO (es.map PEnt.ent) clock)::stars (es.map PEnt.ast)::L)) (by rw [copy512 hd];rfl) (fun w9 m11 S10=>wE (nS ?_)))))
   have S12:St F w0 w9 (vec 22 1 p.v p.ws.length (p.ws.map PEnt.val)::stars (p.ws.map PEnt.row)::stars ((es.take j).map PEnt.ast)::stars ((es.drop (j+1)).map PEnt.ast)::row g5 (bvs d) 5::dR g gd (512*s.last.length) gm false left s.life s.rd s.wr s.fl s.rf (s.pend.length:Int)::row gd (bvs s.last.flatten) 5::pt gm (mapO (es.map PEnt.ent) clock)::L):=entry_out [row g5 (bvs d) 5,dR g gd (512*s.last.length) gm false left s.life s.rd s.wr s.fl s.rf (s.pend.length:Int),row gd (bvs s.last.flatten) 5,pt gm (mapO (es.map PEnt.ent) clock)] S10 hj
   refine wp_region_phu (γ:=Nat×Value) 14 [12,13] (fun (c_:Nat×Value) (i_:Nat)=>(match i_ with|0=>pq g|1=>pq g|2=>po g 1|3=>.map (some gm)|4=>nI_ p.at_|5=>pq g|6=>pq g|7=>po g 1|8=>.map (some gm)|9=>nI_ p.at_|10=>p.v|11=>sl g5 0 512 512|12=>sl c_.1 0 1 1|13=>c_.2|_=>undef:Value)) (fun (c_:Nat×Value) (p_:Nat) (w_:World)=>(match p_ with|0=>St F w0 w_ (vec 22 1 p.v p.ws.length (p.ws.map PEnt.val)::stars (p.ws.map PEnt.row)::stars ((es.take j).map PEnt.ast)::stars ((es.drop (j+1)).map PEnt.ast)::row g5 (bvs d) 5::dR g gd (512*s.last.length) gm false left s.life s.rd s.wr s.fl s.rf (s.pend.length:Int)::row gd (bvs s.last.flatten) 5::pt gm (mapO (es.map PEnt.ent) clock)::L)|1=>St F w0 w_ (row c_.1 #[sl g5 0 512 512] 22::vec 22 1 p.v p.ws.length (p.ws.map PEnt.val)::stars (p.ws.map PEnt.row)::stars ((es.take j).map PEnt.ast)::stars ((es.drop (j+1)).map PEnt.ast)::row g5 (bvs d) 5::dR g gd (512*s.last.length) gm false left s.life s.rd s.wr s.fl s.rf (s.pend.length:Int)::row gd (bvs s.last.flatten) 5::pt gm (mapO (es.map PEnt.ent) clock)::L)|_=>St F w0 w_ (vec 22 1 c_.2 (p.ws.length+1) (p.ws.map PEnt.val++[sl g5 0 512 512])::row c_.1 #[sl g5 0 512 512] 22::stars (p.ws.map PEnt.row)::stars ((es.take j).map PEnt.ast)::stars ((es.drop (j+1)).map PEnt.ast)::row g5 (bvs d) 5::dR g gd (512*s.last.length) gm false left s.life s.rd s.wr s.fl s.rf (s.pend.length:Int)::row gd (bvs s.last.flatten) 5::pt gm (mapO (es.map PEnt.ent) clock)::L):Prop)) (0,undef) kr_ kr_ kr_ kr_ (S12.drew) ?_ ?_ ?_
   ·intro i_ c_ p_ vals_ w1 hi_ hiE_ hp_ hk_ hu_ hPh_ hd_
    rcases i_ with _|_|_|_|_|_|_|_|_|_|_|_|_|_|i_
    ·exact tG_ rfl hd_ (gV (pq g) ⟨rfl,rfl⟩)
    ·exact tG_ rfl hd_ (gV (pq g) ⟨rfl,rfl⟩)
    ·exact tG_ rfl hd_ (gV (po g 1) ⟨rfl,rfl⟩)
    ·rcases p_ with _|_|_|p_
     ·have S16:=St.id hPh_
      exact tG_ rfl hd_ (gL (.map (some gm)) rfl (((S16.blk 5 rfl).cell 1).trans rfl) ⟨rfl,rfl⟩)
     ·have S17:=St.id hPh_
      exact tG_ rfl hd_ (gL (.map (some gm)) rfl (((S17.blk 6 rfl).cell 1).trans rfl) ⟨rfl,rfl⟩)
     ·have S18:=St.id hPh_
      exact tG_ rfl hd_ (gL (.map (some gm)) rfl (((S18.blk 6 rfl).cell 1).trans rfl) ⟨rfl,rfl⟩)
     ·exact absurd hp_ (by simp)
    ·exact tG_ rfl hd_ (gV (nI_ p.at_) ⟨rfl,rfl⟩)
    ·exact tG_ rfl hd_ (gV (pq g) ⟨rfl,rfl⟩)
    ·exact tG_ rfl hd_ (gV (pq g) ⟨rfl,rfl⟩)
    ·exact tG_ rfl hd_ (gV (po g 1) ⟨rfl,rfl⟩)
    ·rcases p_ with _|_|_|p_
     ·have S23:=St.id hPh_
      exact tG_ rfl hd_ (gL (.map (some gm)) rfl (((S23.blk 5 rfl).cell 1).trans rfl) ⟨rfl,rfl⟩)
     ·have S24:=St.id hPh_
      exact tG_ rfl hd_ (gL (.map (some gm)) rfl (((S24.blk 6 rfl).cell 1).trans rfl) ⟨rfl,rfl⟩)
     ·exact absurd (hu_ 1 dc_ kr_) dc_
     ·exact absurd hp_ (by simp)
    ·exact tG_ rfl hd_ (gV (nI_ p.at_) ⟨rfl,rfl⟩)
    ·rcases p_ with _|_|_|p_
     ·have S26:=St.id hPh_
      exact tG_ rfl hd_ (gv_look_some (kT:=3) (eT:=78) (k:=((p.at_:Nat):Int)) (S26.get 7 rfl) rfl kr_ kr_ kr_ kr_ hje hke hfe ⟨rfl,rfl⟩)
     ·have S27:=St.id hPh_
      exact tG_ rfl hd_ (gv_look_some (kT:=3) (eT:=78) (k:=((p.at_:Nat):Int)) (S27.get 8 rfl) rfl kr_ kr_ kr_ kr_ hje hke hfe ⟨rfl,rfl⟩)
     ·exact absurd (hu_ 1 dc_ kr_) dc_
     ·exact absurd hp_ (by simp)
    ·exact tG_ rfl hd_ (gV (sl g5 0 512 512) ⟨rfl,rfl⟩)
    ·exact absurd hiE_ dc_
    ·exact absurd hiE_ dc_
    ·exact absurd hi_ om_
   ·intro k_ c_ vals_ w1 hk_ hPh_ hd_
    rcases k_ with _|_|k_
    ·have S29:=St.id hPh_
     refine tG_ rfl hd_ (gv_slit (e:=22) (sz:=1) (z:=nS_) (by_:=24) (vs:=#[(0,sl g5 0 512 512)]) (cells:=#[sl g5 0 512 512]) S29 rfl kr_ ⟨by kernel_rfl⟩ kr_ kr_ kr_ kr_ (fun g30 w31 hg32 S33=>⟨(g30,c_.2),rfl, ?_,S33⟩))
     intro i_ hi_ hne_ hdp_
     rcases i_ with _|_|_|_|_|_|_|_|_|_|_|_|_|_|i_
     ·rfl
     ·rfl
     ·rfl
     ·rfl
     ·rfl
     ·rfl
     ·rfl
     ·rfl
     ·rfl
     ·rfl
     ·rfl
     ·rfl
     ·exact absurd rfl hne_
     ·exact dN_ hdp_
     ·exact absurd hi_ om_
    ·have S34:=St.id hPh_
     refine tG_ rfl hd_ (gv_append (e:=22) (sz:=1) (n:=p.ws.length) (v:=p.v) (vals:=(p.ws.map PEnt.val)) (z:=nS_) (by_:=24) (m:=1) (c':=1) (ad:=⟨c_.1,0,none⟩) (news:=[sl g5 0 512 512]) (St.swap S34) rfl kr_ ⟨by kernel_rfl⟩ rfl kr_ kr_ dc_ rfl (row_news (S34.blk 0 rfl)) (by intro u hu;simp at hu;subst hu;rfl) om_ om_ (fun v36 w35 S37=>⟨(c_.1,v36),rfl, ?_,S37⟩))
     intro i_ hi_ hne_ hdp_
     rcases i_ with _|_|_|_|_|_|_|_|_|_|_|_|_|_|i_
     ·rfl
     ·rfl
     ·rfl
     ·rfl
     ·rfl
     ·rfl
     ·rfl
     ·rfl
     ·rfl
     ·rfl
     ·rfl
     ·rfl
     ·rfl
     ·exact absurd rfl hne_
     ·exact absurd hi_ om_
    ·exact absurd hk_ (by simp)
   ·intro c_ w1 hPh_
    have S38:=St.id hPh_
    refine (g_ (gv_put_old (kT:=3) (eT:=78) (g:=gm) (clock:=clock) (es:=es.map PEnt.ent) (k:=((p.at_:Nat):Int)) (v:=c_.2) S38 8 rfl rfl kr_ kr_ kr_ kr_ kr_ hje hke hfe (L':=(vec 22 1 c_.2 (p.ws.length+1) (p.ws.map PEnt.val++[sl g5 0 512 512])::row c_.1 #[sl g5 0 512 512] 22::stars (p.ws.map PEnt.row)::stars ((es.take j).map PEnt.ast)::stars ((es.drop (j+1)).map PEnt.ast)::row g5 (bvs d) 5::dR g gd (512*s.last.length) gm false left s.life s.rd s.wr s.fl s.rf (s.pend.length:Int)::row gd (bvs s.last.flatten) 5::pt gm (mapO ((es.map PEnt.ent).set j ⟨((p.at_:Nat):Int),c_.2,p.b⟩) clock)::L)) rfl (fun w39 S40=>wE ?_)))
    refine nSR (pv (pq g) (pv (pq g) (pv (po g 5) (pv (po g 6) (lR (iv s.wr) S40 6 6 (pv (iv (inc s.wr)) (pv (pq g) (pv (po g 5) (pv (po g 6) (sS S40 6 rfl 6 (iv (inc s.wr)) fun w41 S42=>wER (pv (pq g) (pv (pq g) ?_))))))))))))
    refine pv (po g 5) (pv (po g 9) (lR (iv (s.pend.length:Int)) S42 6 9 (gI .i64 (IntKind.i64.wrap ((s.pend.length:Int)+1)) ((s.pend.length+1:Nat):Int) wq_ (pv (pq g) (pv (po g 5) (pv (po g 9) (sS S42 6 rfl 9 (nI_ (s.pend.length+1)) fun w43 S44=>wER (pv (pq g) (g_ (gv_call (args:=#[pq g]) rfl Tryz.func86 kr_ rfl rfl kr_ ?_))))))))))
    have S45:St F w0 w43 (vec 22 1 c_.2 (p.ws.length+1) (p.ws.map PEnt.val++[sl g5 0 512 512])::stars (p.ws.map PEnt.row)::stars ((es.take j).map PEnt.ast)::stars ((es.drop (j+1)).map PEnt.ast)::row g5 (bvs d) 5::dR g gd (512*s.last.length) gm false left s.life s.rd (inc s.wr) s.fl s.rf ((s.pend.length+1:Nat):Int)::row gd (bvs s.last.flatten) 5::pt gm (mapO ((es.map PEnt.ent).set j ⟨((p.at_:Nat):Int),c_.2,p.b⟩) clock)::L):=St.pm 9 [0,2,3,4,5,6,7,8] S44
    have em:(es.map PEnt.ent).set j ⟨((p.at_:Nat):Int),c_.2,p.b⟩=(es.set j ⟨p.at_,c_.2,p.b,p.ws++[(g5,d)]⟩).map PEnt.ent:=by rw [map_set];rfl
    have S46:St F w0 w43 (dR g gd (512*s.last.length) gm false left s.life s.rd (inc s.wr) s.fl s.rf ((s.pend.length+1:Nat):Int)::row gd (bvs s.last.flatten) 5::pt gm (mapO ((es.map PEnt.ent).set j ⟨((p.at_:Nat):Int),c_.2,p.b⟩) clock)::stars ((es.set j ⟨p.at_,c_.2,p.b,p.ws++[(g5,d)]⟩).map PEnt.ast)::L):=entry_in hj S45
    rw [em] at S46
    refine Calls.mono (spend_false S46) ?_
    rintro _ w47 ⟨rfl,S48⟩
    refine ⟨_,rfl,(wER (pv (iv 0) (wE (then_n (wp_ret (bA (iv 0) ?_))))))⟩
    have hl1:((s.pend.length+1:Nat):Int)=((s.pend++[(p.at_,d)]).length:Nat):=by rw [List.length_append];rfl
    rw [hl1] at S48
    exact ⟨rfl,St.pclose (gd:=gd) (gm:=gm) (clock:=clock) (es:=es.set j ⟨p.at_,c_.2,p.b,p.ws++[(g5,d)]⟩) (fused:=false) (left:=left) (s:={s with pend:=s.pend++[(p.at_,d)],wr:=inc s.wr,left:=spent s.left}) S48 (PFacts.refuse (s':={s with pend:=s.pend++[(p.at_,d)],wr:=inc s.wr,left:=spent s.left}) (hf.write_old (s':={s with pend:=s.pend++[(p.at_,d)]}) (go:=g5) (d:=d) (v':=c_.2) hj rfl hk hd hpn rfl rfl rfl) rfl rfl hdc.symm (fun h=>absurd h (of_decide_eq_false hdc)) hlb)⟩
end Go.Proofs
end
section
open Go Go.RowKit Go.Proofs.YtgelippmcflppaaGreatW.PrintWords Go.Proofs.YtgelippmcflppaaGreatW.PrintMore
namespace Go.Proofs
open Go.Vel
set_option linter.unusedVariables false
section
def Dsk.rdd (s:Dsk)(r:Int):Dsk:={s with rd:=r}
def PW (g:Nat)(s:Dsk):Ast:=fun h=>∃r:Int,PDisk g (s.rdd r) h
def RW (g:Nat)(s:Dsk):Ast:=fun h=>∃r:Int,RDisk g (s.rdd r) h
theorem writeR_rd (s:Dsk)(r at_:Int)(d:List UInt8):(s.rdd r).writeR at_ d=((s.writeR at_ d).1.rdd r,(s.writeR at_ d).2):=by
 by_cases h1:s.left=0
 ·simp [Dsk.writeR,Dsk.rdd,h1]
 ·by_cases h2:at_<0∨(s.last.length:Int)≤at_
  ·simp [Dsk.writeR,Dsk.rdd,h1,h2]
  ·by_cases h3:d.length≠512
   ·simp [Dsk.writeR,Dsk.rdd,h1,h2,h3]
   ·simp [Dsk.writeR,Dsk.rdd,h1,h2,h3]
theorem flushR_rd (s:Dsk)(r:Int):(s.rdd r).flushR=(s.flushR.1.rdd r,s.flushR.2):=by
 by_cases h1:s.left=0
 ·simp [Dsk.flushR,Dsk.rdd,h1]
 ·simp [Dsk.flushR,Dsk.rdd,h1]
theorem fuseR_rd (s:Dsk)(r n:Int):(s.rdd r).fuseR n=(s.fuseR n).rdd r:=by
 by_cases h1:s.left=0
 ·simp [Dsk.fuseR,Dsk.rdd,h1]
 ·simp [Dsk.fuseR,Dsk.rdd,h1]
def Dsk.take (s:Dsk):Dsk:={s with life:=inc s.life}
structure DOk (s:Dsk):Prop where
 len:∀l∈s.last,l.length=512
 plen:∀x∈s.pend,x.2.length=512∧x.1<s.last.length
 n1:1≤s.last.length
 n2:s.last.length≤2048
 lb: -1≤s.left∧s.left≤9223372036854775807
section
variable {F:Nat→Prop}{w0 w:World}{L:List Ast}{g:Nat}{s:Dsk}
theorem St.pw (S:St F w0 w (PW g s::L)):∃r,St F w0 w (PDisk g (s.rdd r)::L):=S.ex
theorem St.rw (S:St F w0 w (RW g s::L)):∃r,St F w0 w (RDisk g (s.rdd r)::L):=S.ex
theorem St.wp {r:Int}(S:St F w0 w (PDisk g (s.rdd r)::L)):St F w0 w (PW g s::L):=S.map1 fun _ h=>⟨r,h⟩
theorem St.wr {r:Int}(S:St F w0 w (RDisk g (s.rdd r)::L)):St F w0 w (RW g s::L):=S.map1 fun _ h=>⟨r,h⟩
theorem St.pw0 (S:St F w0 w (PDisk g s::L)):St F w0 w (PW g s::L):=S.map1 fun _ h=>⟨s.rd,h⟩
theorem St.rw0 (S:St F w0 w (RDisk g s::L)):St F w0 w (RW g s::L):=S.map1 fun _ h=>⟨s.rd,h⟩
theorem St.pw_ok (S:St F w0 w (PW g s::L)):DOk s:=by
 obtain ⟨r,S⟩:=St.pw S
 obtain ⟨gd,gm,clock,es,fused,left,hf,_⟩:=St.popen S
 exact ⟨hf.len,hf.plen,hf.n1,hf.n2,hf.lb⟩
theorem St.rw_ok (S:St F w0 w (RW g s::L)):DOk s:=by
 obtain ⟨r,S⟩:=St.rw S
 obtain ⟨gl,cl,c2,A2,junk,LL,PP,pool,hf,hcl,hju,_⟩:=St.ropen S
 exact ⟨hf.len,hf.plen,hf.n1,hf.n2,hf.lb⟩
theorem pw_burnt (S:St F w0 w L)(i:Nat)(hi:L[i]?=some (PW g s)):Calls Tryz.prog 35 #[.pointer (some ⟨g,0,none⟩)] w fun e w'=>e=.returned (.bool (decide (s.left=0)))∧w=w':=by
 obtain ⟨r,S1⟩:=St.pw (S.mem i hi);exact pd_burnt (s:=s.rdd r) S1 0 rfl
theorem pw_life (S:St F w0 w L)(i:Nat)(hi:L[i]?=some (PW g s)):Calls Tryz.prog 18 #[.pointer (some ⟨g,0,none⟩)] w fun e w'=>e=.returned (.int .i64 s.life)∧w=w':=by
 obtain ⟨r,S1⟩:=St.pw (S.mem i hi);exact pd_life (s:=s.rdd r) S1 0 rfl
theorem pw_sectors (S:St F w0 w L)(i:Nat)(hi:L[i]?=some (PW g s)):Calls Tryz.prog 85 #[.pointer (some ⟨g,0,none⟩)] w fun e w'=>e=.returned (.int .i64 (s.last.length:Int))∧w=w':=by
 obtain ⟨r,S1⟩:=St.pw (S.mem i hi);exact pd_sectors (s:=s.rdd r) S1 0 rfl
theorem pw_take (S:St F w0 w (PW g s::L)):Calls Tryz.prog 29 #[.pointer (some ⟨g,0,none⟩)] w fun e w'=>e=.returned (.int .i64 (inc s.life))∧St F w0 w' (PW g s.take::L):=by
 obtain ⟨r,S⟩:=St.pw S
 exact (pd_take S).mono fun e w' h=>⟨h.1,St.wp (r:=r) (s:=s.take) h.2⟩
theorem pw_read_dead {at_:Int}(S:St F w0 w (PW g s::L))(hz:s.left=0):Calls Tryz.prog 39 #[.pointer (some ⟨g,0,none⟩),.int .i64 at_] w fun e w'=>∃v,e=.returned (.tuple #[v,.int .i64 3])∧St F w0 w' (PW g s::L):=by
 obtain ⟨r,S⟩:=St.pw S
 refine (pd_read (at_:=at_) S).mono fun e w' h=> ?_
 obtain ⟨v,h1,h2⟩:=h
 have e1:(s.rdd r).readR at_=(s.rdd r,[],3):=by unfold Dsk.readR;rw [if_pos (show (s.rdd r).left=0 from hz)]
 rw [e1] at h1 h2
 exact ⟨v,h1,St.wp h2.tail⟩
theorem pw_read {k:Nat}(S:St F w0 w (PW g s::L))(hz:s.left≠0)(hk:k<s.last.length):Calls Tryz.prog 39 #[.pointer (some ⟨g,0,none⟩),.int .i64 ((k:Nat):Int)] w fun e w'=>∃A,e=.returned (.tuple #[.slice A 512 512,.int .i64 0])∧St F w0 w' (bytesA (.slice A 512 512) (s.now k)::PW g s::L):=by
 have hok:=St.pw_ok S
 obtain ⟨r,S⟩:=St.pw S
 refine (pd_read (at_:=((k:Nat):Int)) S).mono fun e w' h=> ?_
 obtain ⟨v,h1,h2⟩:=h
 rw [Dsk.readR_ok (s:=s.rdd r) (d:=s.now k) hz hk rfl] at h1 h2
 obtain ⟨A,rfl,h3⟩:=St.bytes_eq h2
 have hl:(s.now k).length=512:=by
  unfold Dsk.now
  cases hp:(pendOf s k).getLast? with
  |some d=>
   have:=List.mem_of_getLast? hp
   unfold pendOf at this
   obtain ⟨x,hx,rfl⟩:=List.mem_map.1 this
   exact (hok.plen x (List.mem_filter.1 hx).1).1
  |none=>
   show (s.last.getD k []).length=512
   rw [List.getD_eq_getElem?_getD,List.getElem?_eq_getElem hk]
   exact hok.len _ (List.getElem_mem hk)
 have h4:St F w0 w' (bytesA (.slice A 512 512) (s.now k)::PDisk g ({s.rdd r with rd:=inc (s.rdd r).rd})::L):=by rw [hl] at h3;exact h3
 exact ⟨A,by rw [h1,hl],(St.wp (r:=inc r) (s:=s) h4.swap).swap⟩
theorem pw_write {at_:Int}{A:Option Addr}{d:List UInt8}{cd:Nat}(S:St F w0 w (PW g s::L))(hr:RoT F w0 L A d)(hdm:d.length≤9223372036854775807)(hpn:s.pend.length<4398046511104):
  Calls Tryz.prog 51 #[pq g,iv at_,.slice A d.length cd] w fun e w'=>e=.returned (iv (s.writeR at_ d).2)∧St F w0 w' (PW g (s.writeR at_ d).1::L):=by
 obtain ⟨r,S⟩:=St.pw S
 refine (pd_write (at_:=at_) S hr hdm hpn).mono fun e w' h=> ?_
 rw [writeR_rd] at h
 exact ⟨h.1,St.wp h.2⟩
theorem pw_flush (S:St F w0 w (PW g s::L)):Calls Tryz.prog 52 #[.pointer (some ⟨g,0,none⟩)] w fun e w'=>e=.returned (.int .i64 s.flushR.2)∧St F w0 w' (PW g s.flushR.1::L):=by
 obtain ⟨r,S⟩:=St.pw S
 refine (pd_flush S).mono fun e w' h=> ?_
 rw [flushR_rd] at h
 exact ⟨h.1,St.wp h.2⟩
theorem pw_fuse {n:Int}(hn:n≤9223372036854775807)(S:St F w0 w (PW g s::L)):Calls Tryz.prog 24 #[.pointer (some ⟨g,0,none⟩),.int .i64 n] w fun e w'=>e=.returned (.tuple #[])∧St F w0 w' (PW g (s.fuseR n)::L):=by
 obtain ⟨r,S⟩:=St.pw S
 refine (pd_fuse hn S).mono fun e w' h=> ?_
 rw [fuseR_rd] at h
 exact ⟨h.1,St.wp h.2⟩
theorem pw_image (S:St F w0 w (PW g s::L)):Calls Tryz.prog 32 #[.pointer (some ⟨g,0,none⟩)] w fun e w'=>∃v,e=.returned v∧St F w0 w' (bytesA v s.last.flatten::PW g s::L):=by
 obtain ⟨r,S⟩:=St.pw S
 refine (pd_image S).mono fun e w' h=> ?_
 obtain ⟨v,h1,h2⟩:=h
 exact ⟨v,h1,(St.wp (r:=r) h2.swap).swap⟩
theorem pw_counts (S:St F w0 w (PW g s::L)):Calls Tryz.prog 36 #[.pointer (some ⟨g,0,none⟩)] w fun e w'=>∃r,e=.returned (.agg #[.int .i64 r,.int .i64 s.wr,.int .i64 s.fl,.int .i64 s.rf,.int .i64 (s.pend.length:Int)])∧St F w0 w' (PW g s::L):=by
 obtain ⟨r,S⟩:=St.pw S
 exact (pd_counts S).mono fun e w' h=>⟨r,h.1,St.wp h.2⟩
theorem rw_burnt (S:St F w0 w (RW g s::L)):Calls Tryz.prog 19 #[.pointer (some ⟨g,0,none⟩)] w fun e w'=>e=.returned (.bool (decide (s.left=0)))∧St F w0 w' (RW g s::L):=by
 obtain ⟨r,S⟩:=St.rw S
 exact (rd_burnt S).mono fun e w' h=>⟨h.1,St.wr h.2⟩
theorem rw_life (S:St F w0 w (RW g s::L)):Calls Tryz.prog 129 #[.pointer (some ⟨g,0,none⟩)] w fun e w'=>e=.returned (.int .i64 s.life)∧St F w0 w' (RW g s::L):=by
 obtain ⟨r,S⟩:=St.rw S
 exact (rd_life S).mono fun e w' h=>⟨h.1,St.wr h.2⟩
theorem rw_sectors (S:St F w0 w (RW g s::L)):Calls Tryz.prog 38 #[.pointer (some ⟨g,0,none⟩)] w fun e w'=>e=.returned (.int .i64 (s.last.length:Int))∧St F w0 w' (RW g s::L):=by
 obtain ⟨r,S⟩:=St.rw S
 exact (rd_sectors S).mono fun e w' h=>⟨h.1,St.wr h.2⟩
theorem rw_take (S:St F w0 w (RW g s::L)):Calls Tryz.prog 30 #[.pointer (some ⟨g,0,none⟩)] w fun e w'=>e=.returned (.int .i64 (inc s.life))∧St F w0 w' (RW g s.take::L):=by
 obtain ⟨r,S⟩:=St.rw S
 exact (rd_take S).mono fun e w' h=>⟨h.1,St.wr (r:=r) (s:=s.take) h.2⟩
theorem rw_write {at_:Int}{A:Option Addr}{d:List UInt8}{cd:Nat}(S:St F w0 w (RW g s::L))(hr:RoT F w0 L A d)(hdm:d.length≤9223372036854775807)(hpn:s.pend.length<4398046511104):
  Calls Tryz.prog 55 #[pq g,iv at_,.slice A d.length cd] w fun e w'=>e=.returned (iv (s.writeR at_ d).2)∧St F w0 w' (RW g (s.writeR at_ d).1::L):=by
 obtain ⟨r,S⟩:=St.rw S
 refine (rd_write (at_:=at_) S hr hdm hpn).mono fun e w' h=> ?_
 rw [writeR_rd] at h
 exact ⟨h.1,St.wr h.2⟩
theorem rw_flush (S:St F w0 w (RW g s::L)):Calls Tryz.prog 57 #[.pointer (some ⟨g,0,none⟩)] w fun e w'=>e=.returned (.int .i64 s.flushR.2)∧St F w0 w' (RW g s.flushR.1::L):=by
 obtain ⟨r,S⟩:=St.rw S
 refine (rd_flush S).mono fun e w' h=> ?_
 rw [flushR_rd] at h
 exact ⟨h.1,St.wr h.2⟩
theorem rw_fuse {n:Int}(hn:n≤9223372036854775807)(S:St F w0 w (RW g s::L)):Calls Tryz.prog 25 #[.pointer (some ⟨g,0,none⟩),.int .i64 n] w fun e w'=>e=.returned (.tuple #[])∧St F w0 w' (RW g (s.fuseR n)::L):=by
 obtain ⟨r,S⟩:=St.rw S
 refine (rd_fuse hn S).mono fun e w' h=> ?_
 rw [fuseR_rd] at h
 exact ⟨h.1,St.wr h.2⟩
theorem rw_image (S:St F w0 w (RW g s::L)):Calls Tryz.prog 34 #[.pointer (some ⟨g,0,none⟩)] w fun e w'=>∃v,e=.returned v∧St F w0 w' (vec 5 1 v s.last.flatten.length (s.last.flatten.map bv)::RW g s::L):=by
 obtain ⟨r,S⟩:=St.rw S
 refine (rd_image S).mono fun e w' h=> ?_
 obtain ⟨v,h1,h2⟩:=h
 exact ⟨v,h1,(St.wr (r:=r) h2.swap).swap⟩
theorem rw_counts (S:St F w0 w (RW g s::L)):Calls Tryz.prog 37 #[.pointer (some ⟨g,0,none⟩)] w fun e w'=>∃r,e=.returned (.agg #[.int .i64 r,.int .i64 s.wr,.int .i64 s.fl,.int .i64 s.rf,.int .i64 (s.pend.length:Int)])∧St F w0 w' (RW g s::L):=by
 obtain ⟨r,S⟩:=St.rw S
 exact (rd_counts S).mono fun e w' h=>⟨r,h.1,St.wr h.2⟩
end
end
theorem now_congr {s s':Dsk}(h1:s'.last=s.last)(h2:s'.pend=s.pend)(k:Nat):s'.now k=s.now k:=by
 unfold Dsk.now pendOf;rw [h1,h2]
theorem now_nil {s:Dsk}(h:s.pend=[])(k:Nat):s.now k=s.last.getD k []:=Dsk.now_none (by unfold pendOf;rw [h];rfl)
theorem writeR_ok {s:Dsk}{a:Int}{d:List UInt8}(h:(s.writeR a d).2=0):0≤a∧a<s.last.length∧d.length=512∧s.left≠0∧(s.writeR a d).1={s with pend:=s.pend++[(a.toNat,d)],wr:=inc s.wr,left:=spent s.left}:=by
 unfold Dsk.writeR at h ⊢
 by_cases h1:s.left=0
 ·rw [if_pos h1] at h;exact absurd (show (_:Int)=0 from h) om_
 ·rw [if_neg h1] at h ⊢
  by_cases h2:a<0∨(s.last.length:Int)≤a
  ·rw [if_pos h2] at h;exact absurd (show (_:Int)=0 from h) om_
  ·rw [if_neg h2] at h ⊢
   by_cases h3:d.length≠512
   ·rw [if_pos h3] at h;exact absurd (show (_:Int)=0 from h) om_
   ·rw [if_neg h3] at h ⊢
    exact ⟨by omega,by omega,by omega,h1,rfl⟩
theorem writeR_no {s:Dsk}{a:Int}{d:List UInt8}(h:(s.writeR a d).2≠0):(s.writeR a d).1.last=s.last∧(s.writeR a d).1.pend=s.pend∧(s.writeR a d).1.left=s.left∧(0≤a→a<s.last.length→d.length=512→(s.writeR a d).2=3∧s.left=0)∧(s.left=0→(s.writeR a d).2=3):=by
 unfold Dsk.writeR at h ⊢
 by_cases h1:s.left=0
 ·rw [if_pos h1];exact ⟨rfl,rfl,rfl,fun _ _ _=>⟨rfl,h1⟩,fun _=>rfl⟩
 ·rw [if_neg h1] at h ⊢
  by_cases h2:a<0∨(s.last.length:Int)≤a
  ·rw [if_pos h2];exact ⟨rfl,rfl,rfl,fun q1 q2 _=>by omega,fun q=>absurd q h1⟩
  ·rw [if_neg h2] at h ⊢
   by_cases h3:d.length≠512
   ·rw [if_pos h3];exact ⟨rfl,rfl,rfl,fun _ _ q3=>absurd q3 h3,fun q=>absurd q h1⟩
   ·rw [if_neg h3] at h;exact absurd rfl h
theorem readR_ok {s:Dsk}{a:Int}(h:(s.readR a).2.2=0):0≤a∧a<s.last.length∧s.left≠0∧(s.readR a).2.1=s.now a.toNat:=by
 unfold Dsk.readR at h ⊢
 by_cases h1:s.left=0
 ·rw [if_pos h1] at h;exact absurd (show (3:Int)=0 from h) om_
 ·rw [if_neg h1] at h ⊢
  by_cases h2:a<0∨(s.last.length:Int)≤a
  ·rw [if_pos h2] at h;exact absurd (show (11:Int)=0 from h) om_
  ·rw [if_neg h2];exact ⟨by omega,by omega,h1,rfl⟩
theorem now_write {s s':Dsk}{k:Nat}{d:List UInt8}(h1:s'.last=s.last)(h2:s'.pend=s.pend++[(k,d)])(j:Nat):s'.now j=if k=j then d else s.now j:=by
 have hp:=pendOf_snoc s k j d s' h2
 unfold Dsk.now
 rw [hp,h1]
 by_cases hk:k=j
 ·rw [if_pos hk,if_pos hk,List.getLast?_append];rfl
 ·rw [if_neg hk,if_neg hk,List.append_nil]
theorem now_flush {s s':Dsk}(h1:s'.last=applyP s.last s.pend)(h2:s'.pend=[]){k:Nat}(hk:k<s.last.length):s'.now k=s.now k:=by
 rw [now_nil h2,h1,List.getD_eq_getElem?_getD,get_applyP]
 unfold newest Dsk.now pendOf
 cases hq:((s.pend.filter fun x=>x.1==k).map (·.2)).getLast? with
 |none=>rw [List.getD_eq_getElem?_getD]
 |some d=>simp only [];rw [if_pos hk];rfl
theorem flushR_cases (s:Dsk):(s.left=0∧s.flushR=(s,3))∨(s.left≠0∧s.flushR=({s with last:=applyP s.last s.pend,pend:=[],fl:=inc s.fl,left:=spent s.left},0)):=by
 unfold Dsk.flushR
 by_cases h:s.left=0
 ·rw [if_pos h];exact .inl ⟨h,rfl⟩
 ·rw [if_neg h];exact .inr ⟨h,rfl⟩
theorem fuseR_same (s:Dsk)(n:Int):(s.fuseR n).last=s.last∧(s.fuseR n).pend=s.pend:=by unfold Dsk.fuseR;split<;>exact ⟨rfl,rfl⟩
theorem crashR_len (s:Dsk)(ps:List Pick):(s.crashR ps).last.length=s.last.length:=length_applyP _ _
end Go.Proofs
end
section
open Go Go.RowKit Go.Proofs.YtgelippmcflppaaGreatW.PrintWords Go.Proofs.YtgelippmcflppaaGreatW.PrintMore
namespace Go.Vel
set_option linter.unusedVariables false
section
def bytesX (v:Value)(l:List UInt8):Ast:=fun h=>∃A c,v=.slice A l.length c∧l.length≤c∧∀w:World,(∀k o,h k=some o→w.heap[k]?=some o)→RdB w A l
section
variable {F:Nat→Prop}{w0 w w':World}{L:List Ast}
theorem St.lift0 {X:Ast}(S:St F w0 w L)(hb:Below w.heap.size w w')(hX:X (fun k=>if w.heap.size≤k then w'.heap[k]? else none)):St F w0 w' (X::L):=by
 refine ⟨S.fr.trans (Fr.of_below hb), ?_⟩
 have h1:Own (fun k=>(F k∨w0.heap.size≤k)∧k<w.heap.size) w' L:=(S.own.mono (D1:=fun k=>(F k∨w0.heap.size≤k)∧k<w.heap.size) fun k hk hl=>⟨hk,hl⟩).frame fun k _ hk=>hb.block k hk
 have h2:Own (fun k=>w.heap.size≤k) w' [X]:=Own.one hX fun k o hk=>by
  split at hk
  ·rename_i h;exact ⟨hk,h⟩
  ·cases hk
 exact (h2.append h1 fun i hi hj _=>by omega).mono fun k hk _=>hk.elim (fun h=>.inr (Nat.le_trans S.fr.size h)) (fun h=>h.1)
theorem bytesX_of {v:Value}{l:List UInt8}{e:TypeId}(hv:Kd.V (Kd.int .u8) e w' w.heap.size (fun k_=>(w.heap.size≤k_)) v (ofB l)):bytesX v l (fun k=>if w.heap.size≤k then w'.heap[k]? else none):=by
 obtain ⟨A,c,e1,hc,hF⟩:=hv
 rw [len_ofB] at e1 hc
 refine ⟨A,c,e1,hc,fun w2 h2=>RdB.of_C (hF w2 fun k hk hlt=> ?_)⟩
 have h3:w'.heap[k]?=some w'.heap[k]:=Array.getElem?_eq_getElem hlt
 rw [h3]
 exact h2 k _ ((if_pos hk).trans h3)
theorem St.lift {v:Value}{l:List UInt8}{e:TypeId}(S:St F w0 w L)(hb:Below w.heap.size w w')(hv:Kd.V (Kd.int .u8) e w' w.heap.size (fun k_=>(w.heap.size≤k_)) v (ofB l)):St F w0 w' (bytesX v l::L):=S.lift0 hb (bytesX_of hv)
theorem RoT.bytesX {v:Value}{l:List UInt8}{A:Option Addr}{n c:Nat}(j:Nat)(hj:L[j]?=some (bytesX v l))(hv:v=.slice A n c):RoT F w0 L A l:=⟨fun w' L' S=>by
 have h1:(L'++L)[L'.length+j]?=some (Go.Vel.bytesX v l):=by rw [List.getElem?_append_right om_];simpa using hj
 obtain ⟨_,hs,a1,a2,a3⟩:=S
 obtain ⟨A',c',e,_,hR⟩:=a1 _ _ h1
 rw [hv] at e
 simp at e
 rw [e.1]
 exact hR w' fun k o hk=>(a3 _ (List.getElem?_eq_some_iff.1 h1).1 k o hk).1⟩
theorem St.bytesX_v {v:Value}{l:List UInt8}(S:St F w0 w (Go.Vel.bytesX v l::L)):∃A c,v=.slice A l.length c∧l.length≤c:=by
 obtain ⟨q,A,c,e,hc,_⟩:=S.own.holds
 exact ⟨A,c,e,hc⟩
theorem RoT.to_C {A:Option Addr}{l:List UInt8}(h:RoT F w0 L A l)(S:St F w0 w L)(hm:l.length≤9223372036854775807):Kd.C (Kd.int .u8) w A (ofB l).length (ofB l):=(h.now S).to_C hm
end
end
end Go.Vel
end
section
namespace Go
end Go
def Go.Vel.m1 (r:BitVec 32):BitVec 32:=(r>>>1)^^^(if r.getLsbD 0=true then BitVec.ofNat 32 2197175160 else (BitVec.ofNat 32 0))
namespace Go.Vel
theorem xself (a b:BitVec 32):a^^^(a^^^b)=b:=by rw [←BitVec.xor_assoc];simp
def mk:Nat→BitVec 32→BitVec 32
 |0,r=>r
 |k+1,r=>mk k (m1 r)
theorem m1_xor (a b:BitVec 32):m1 (a^^^b)=m1 a^^^m1 b:=by
 unfold m1
 rw [BitVec.ushiftRight_xor_distrib,BitVec.getLsbD_xor]
 cases a.getLsbD 0<;>cases b.getLsbD 0<;>simp [BitVec.xor_assoc]
 ·rw [BitVec.xor_comm]
 ·rw [BitVec.xor_comm (b>>>1),xself]
theorem mk_xor (k:Nat):∀a b:BitVec 32,mk k (a^^^b)=mk k a^^^mk k b:=by
 induction k with
 |zero=>intros;rfl
 |succ k ih=>intro a b;simp [mk,m1_xor,ih]
theorem mk_add (j:Nat):∀(k:Nat) (r:BitVec 32),mk (k+j) r=mk j (mk k r):=by
 intro k
 induction k with
 |zero=>intro r;simp [mk]
 |succ k ih=>intro r;rw [Nat.add_right_comm];simp [mk,ih]
theorem mk_succ' (k:Nat)(r:BitVec 32):mk (k+1) r=m1 (mk k r):=mk_add 1 k r
def ex (b:UInt8):BitVec 32:=BitVec.ofNat 32 b.toNat
def upd (r:BitVec 32)(b:UInt8):BitVec 32:=mk 8 (r^^^ex b)
def raw (r:BitVec 32)(l:List UInt8):BitVec 32:=l.foldl upd r
def crc (l:List UInt8):BitVec 32:= ~~~ raw (BitVec.ofNat 32 4294967295) l
theorem raw_append (r:BitVec 32)(a b:List UInt8):raw r (a++b)=raw (raw r a) b:=List.foldl_append ..
end Go.Vel
namespace Go.Vel
theorem m1_even {r:BitVec 32}(h:r.getLsbD 0=false):m1 r=r>>>1:=by
 unfold m1;rw [h,if_neg dc_];simp
def tab16:List Nat:=[0,274646895,549293790,820201905,1098587580,1361435347,1640403810,1905808397,2197175160,2460548119,2722870694,2987750089,3280807620,3553878443,3811616794,4084100981]
def nib (r:BitVec 32):BitVec 32:=(r>>>4)^^^BitVec.ofNat 32 (tab16.getD (r.toNat%16) 0)
theorem mk4_high (r:BitVec 32):mk 4 ((r>>>4)<<<4)=r>>>4:=by
 have h:∀k,k<4→(((r>>>4)<<<4)>>>k).getLsbD 0=false:=by
  intro k hk;simp;omega
 have e:∀k,k<4→m1 (((r>>>4)<<<4)>>>k)=((r>>>4)<<<4)>>>(k+1):=by
  intro k hk
  rw [m1_even (h k hk),←BitVec.shiftRight_add]
 have e0:=e 0 om_
 rw [BitVec.ushiftRight_zero] at e0
 show m1 (m1 (m1 (m1 _)))=_
 rw [e0,e 1 om_,e 2 om_,e 3 om_]
 apply BitVec.eq_of_getLsbD_eq;intro i hi
 simp
 intro h;have:=BitVec.lt_of_getLsbD h;omega
theorem split4 (r:BitVec 32):r=((r>>>4)<<<4)^^^BitVec.ofNat 32 (r.toNat%16):=by
 apply BitVec.eq_of_getLsbD_eq;intro i hi
 have h16:(16:Nat)=2^4:=rfl
 rw [BitVec.getLsbD_xor,BitVec.getLsbD_ofNat,h16,Nat.testBit_mod_two_pow]
 simp only [BitVec.getLsbD_shiftLeft,BitVec.getLsbD_ushiftRight]
 by_cases h4:i<4
 ·simp [h4,hi,BitVec.getLsbD]
 ·have:4+(i-4)=i:=by omega
  simp [h4,hi,this]
theorem mk4_low:∀k,k<16→mk 4 (BitVec.ofNat 32 k)=BitVec.ofNat 32 (tab16.getD k 0):=by decide
theorem mk4 (r:BitVec 32):mk 4 r=nib r:=by
 conv=>lhs;rw [split4 r]
 rw [mk_xor,mk4_high,mk4_low _ (Nat.mod_lt _ dc_)]
 rfl
theorem upd_nib (r:BitVec 32)(b:UInt8):upd r b=nib (nib (r^^^ex b)):=by
 unfold upd;rw [show 8=4+4 from rfl,mk_add,mk4,mk4]
def le4 (r:BitVec 32):List UInt8:=[UInt8.ofNat (r.toNat%256),UInt8.ofNat (r.toNat/256%256),UInt8.ofNat (r.toNat/65536%256),UInt8.ofNat (r.toNat/16777216%256)]
end Go.Vel
end
section
open Go Go.RowKit Go.Proofs.YtgelippmcflppaaGreatW.PrintWords Go.Proofs.YtgelippmcflppaaGreatW.PrintMore
namespace Go.Proofs
open Go.Vel
def tabV:Array Value:=#[.int .u32 0,.int .u32 274646895,.int .u32 549293790,.int .u32 820201905,.int .u32 1098587580,.int .u32 1361435347,.int .u32 1640403810,.int .u32 1905808397,.int .u32 2197175160,.int .u32 2460548119,.int .u32 2722870694,.int .u32 2987750089,.int .u32 3280807620,.int .u32 3553878443,.int .u32 3811616794,.int .u32 4084100981]
def zeroV:Array Value:=#[.int .u32 0,.int .u32 0,.int .u32 0,.int .u32 0,.int .u32 0,.int .u32 0,.int .u32 0,.int .u32 0,.int .u32 0,.int .u32 0,.int .u32 0,.int .u32 0,.int .u32 0,.int .u32 0,.int .u32 0,.int .u32 0]
theorem tab_at:∀i,i<16→tabV[i]?=some (.int .u32 ((tab16.getD i 0:Nat):Int)):=by
 intro i hi
 rcases i with _|_|_|_|_|_|_|_|_|_|_|_|_|_|_|_|i
 all_goals first|rfl|omega
theorem agg66:Agg Tryz.prog 183 zeroV:=⟨⟨_,Tryz.underlying183,rfl⟩,by kernel_rfl,by kernel_rfl⟩
theorem tabV_one:∀v∈tabV.toList,v.oneCell'=true:=by simp [tabV,Value.oneCell']
set_option maxHeartbeats 1000000 in
theorem halves_any (w:World):Calls Tryz.prog 145 #[] w fun e w'=>e=.returned (.agg tabV)∧Below w.heap.size w w':=by
 go_enter Tryz.func145,Tryz.ntmps145
 go_wp2_with (first|(refine wl_alloc rfl rfl agg66 ?_;intro g1 w1 hB1 hg1 hb1)|(refine wl_store_row rfl rfl agg66 rfl rfl (by assumption) (cs:=tabV) rfl rfl tabV_one ?_;intro w2 hB2 hb2))
 refine bodyPost_ret (v:=.agg tabV) ?_ rfl ⟨rfl, ?_⟩
 ·exact results_cell_row (P:=Tryz.prog) rfl _ _ g1 183 tabV (0,0) (.array 16 164) rfl hB2.out Tryz.underlying183 rfl kr_
 ·exact hb1.trans (hb2.below hg1)
theorem bits_xor32 (a b:BitVec 32):bits .xor .u32 (a.toNat:Int) (b.toNat:Int)=((a^^^b).toNat:Int):=by
 have h1:BitVec.ofInt 32 (a.toNat:Int)=a:=by simp
 have h2:BitVec.ofInt 32 (b.toNat:Int)=b:=by simp
 show IntKind.u32.wrap ((BitVec.ofInt 32 (a.toNat:Int)^^^BitVec.ofInt 32 (b.toNat:Int)).toNat:Int)=_
 rw [h1,h2,IntKind.wrap_u32]
 have:=(a^^^b).isLt
 omega
theorem bits_and15 (a:BitVec 32):bits .and .u32 (a.toNat:Int) 15=((a.toNat%16:Nat):Int):=by
 have h:=bits_mask .u32 32 dc_ (fun n h0 h1=>by rw [IntKind.wrap_u32];omega) 4 dc_ (a.toNat:Int) om_ (by have:=a.isLt;omega)
 have e:((2:Int)^4-1)=15:=by decide
 rw [e] at h
 rw [h]
 omega
theorem ex_toNat (x:UInt8):((ex x).toNat:Int)=(x.toNat:Int):=by
 unfold ex
 have:=x.toNat_lt
 rw [BitVec.toNat_ofNat,Nat.mod_eq_of_lt om_]
theorem wl_not32 {P:Program}{ops:Array Oper}{rest:List Oper}{o:Oper}{a:Act}{Q:Exit→Act→World→Prop}{w:World}(hg:o.guard=none){T:TypeId}{x:Operand}(ho:o.op=.unOp .xor T x){r:BitVec 32}(hx:a.eval x=.int .u32 (r.toNat:Int))
  (h:wpList P ops Q rest (a.put o.dst (.int .u32 ((~~~ r).toNat:Int))) w):wpList P ops Q (o::rest) a w:=by
 refine wl_val hg ?_ h
 have e:IntKind.u32.max=(((BitVec.ofNat 32 4294967295).toNat:Nat):Int):=by decide
 have e2:∀y:BitVec 32,BitVec.ofNat 32 4294967295^^^y= ~~~ y:=fun y=>by
  rw [show BitVec.ofNat 32 4294967295=BitVec.allOnes 32 from by decide,BitVec.allOnes_xor]
 have h2:=bits_xor32 (BitVec.ofNat 32 4294967295) r
 rw [e2] at h2
 simp only [execOp,ho,hx]
 show ((Op.intBits .xor .u32 (if IntKind.u32.signed then-1 else IntKind.u32.max) (r.toNat:Int)>>=fun v=>pure (.value v)):Sem Next).run P w=_
 rw [if_neg dc_,e]
 have h3:(Op.intBits .xor .u32 ((BitVec.ofNat 32 4294967295).toNat:Int) (r.toNat:Int)).run P w=.ok (.int .u32 (bits .xor .u32 ((BitVec.ofNat 32 4294967295).toNat:Int) (r.toNat:Int))) w:=by
  simp [Op.intBits,bits]
 rw [Sem.run_bind,h3,h2]
 rfl
theorem not32_num (r:BitVec 32):∃q:Nat,Aside0 ((~~~ r).toNat=q)∧((~~~ r).toNat:Int)=(q:Int)∧(q:Int)<4294967296:=⟨_,⟨rfl⟩,rfl,by have:=(~~~ r).isLt;omega⟩
theorem nib_bits (r1:BitVec 32):bits .xor .u32 ((r1.toNat:Int)/16) ((tab16.getD (r1.toNat%16) 0:Nat):Int)=((nib r1).toNat:Int):=by
 have e1:((r1.toNat:Int)/16:Int)=((r1>>>4).toNat:Int):=by
  rw [BitVec.toNat_ushiftRight,Nat.shiftRight_eq_div_pow];omega
 have hb:∀i,i<16→tab16.getD i 0<4294967296:=by decide
 have e2:((tab16.getD (r1.toNat%16) 0:Nat):Int)=((BitVec.ofNat 32 (tab16.getD (r1.toNat%16) 0)).toNat:Int):=by
  rw [BitVec.toNat_ofNat,Nat.mod_eq_of_lt (hb _ (Nat.mod_lt _ dc_))]
 rw [e2,e1,bits_xor32];rfl
set_option maxHeartbeats 1000000 in
set_option maxRecDepth 100000 in
theorem sum_any (w:World)(A:Option Addr)(c:Nat)(b:List UInt8)(hr:Kd.C (Kd.int .u8) w A (ofB b).length (ofB b)):Calls Tryz.prog 143 #[.slice A (ofB b).length c] w fun e w'=>e=.returned (.int .i64 (crc b).toNat)∧Below w.heap.size w w':=by
 have HR:=Aside0.mk hr
 clear hr
 go_enter Tryz.func143,Tryz.ntmps143
 go_wp2_with (first|(go_at_call 145;refine (halves_any _).mono ?_;rintro e w1 ⟨rfl,hb1⟩)|(refine wl_alloc rfl rfl agg66 ?_;intro g1 w2 hB2 hg1 hb2)|(refine wl_store_row rfl rfl agg66 rfl rfl (by assumption) (cs:=tabV) rfl rfl tabV_one ?_;intro w3 hB3 hb3))
 have HB3:=Aside0.mk hB3
 have HW:=Aside0.mk ((hb1.trans (hb2.mono hb1.size)).trans (hb3.below (Nat.le_trans hb1.size hg1)))
 have hlen:(ofB b).length≤9223372036854775807:=HR.out.2.1
 clear hB3 hb1 hb2 hb3 hB2 hg1
 go_loop [4,10] (fun v4 v10=>∃k:Nat,k≤(ofB b).length∧v10=.int .i64 k∧v4=.int .u32 ((raw (BitVec.ofNat 32 4294967295) (b.take k)).toNat:Int)) (fun _ v10=>(ofB b).length-(intOf v10).toNat)
 case atStart=>exact ⟨0,Nat.zero_le _,rfl,rfl⟩
 case round=>
  obtain ⟨k,hk,rfl,rfl⟩:=hrel
  by_cases hlt:k<(ofB b).length
  ·obtain ⟨r,hr⟩:∃r,r=raw (BitVec.ofNat 32 4294967295) (b.take k):=⟨_,rfl⟩
   rw [←hr]
   have Hr:=Aside0.mk hr
   clear hr
   obtain ⟨ad,e,hx⟩:=C_byte HR.out HW.out k hlt
   cases e
   obtain ⟨x,hx0⟩:∃x,x=b.getD k 0:=⟨_,rfl⟩
   rw [←hx0] at hx
   have Hx0:=Aside0.mk hx0
   clear hx0
   have hxb:(x.toNat:Int)<256:=by have:=x.toNat_lt;omega
   obtain ⟨r1,hr1⟩:∃r1,r1=r^^^ex x:=⟨_,rfl⟩
   have e1:bits .xor .u32 (r.toNat:Int) (x.toNat:Int)=(r1.toNat:Int):=by rw [←ex_toNat,bits_xor32,hr1]
   have e2:=bits_and15 r1
   obtain ⟨i1,hi1⟩:∃i1,i1=r1.toNat%16:=⟨_,rfl⟩
   have hi1l:i1<16:=by rw [hi1];exact Nat.mod_lt _ dc_
   rw [←hi1] at e2
   have c1:=HB3.out.cell i1
   rw [tab_at i1 hi1l] at c1
   have n1:=nib_bits r1
   rw [←hi1] at n1
   obtain ⟨t1,ht1⟩:∃t1,t1=tab16.getD i1 0:=⟨_,rfl⟩
   rw [←ht1] at n1 c1
   obtain ⟨r2,hr2⟩:∃r2,r2=nib r1:=⟨_,rfl⟩
   rw [←hr2] at n1
   have e3:=bits_and15 r2
   obtain ⟨i2,hi2⟩:∃i2,i2=r2.toNat%16:=⟨_,rfl⟩
   have hi2l:i2<16:=by rw [hi2];exact Nat.mod_lt _ dc_
   rw [←hi2] at e3
   have c2:=HB3.out.cell i2
   rw [tab_at i2 hi2l] at c2
   have n2:=nib_bits r2
   rw [←hi2] at n2
   obtain ⟨t2,ht2⟩:∃t2,t2=tab16.getD i2 0:=⟨_,rfl⟩
   rw [←ht2] at n2 c2
   obtain ⟨r3,hr3⟩:∃r3,r3=nib r2:=⟨_,rfl⟩
   rw [←hr3] at n2
   have Hr3:=Aside0.mk (show r3=upd r x by rw [upd_nib,hr3,hr2,hr1])
   clear hr1 hr2 hr3 hi1 hi2 ht1 ht2
   have hlt':(k:Int)<((ofB b).length:Int):=by omega
   go_wp2
   have hkb:k<b.length:=by rw [len_ofB] at hlt;exact hlt
   have hs:raw (BitVec.ofNat 32 4294967295) (b.take (k+1))=r3:=by
    rw [Hr3.out,Hr.out,Hx0.out,List.take_succ_eq_append_getElem hkb,raw_append,List.getD_eq_getElem?_getD,List.getElem?_eq_getElem hkb];rfl
   exact ⟨⟨k+1,by omega,by go_num,by rw [hs]⟩,by simp [intOf];omega⟩
  ·have hk2:b.take k=b:=List.take_of_length_le (by rw [len_ofB] at hlt;omega)
   rw [hk2]
   clear hk2
   obtain ⟨r,hr⟩:∃r,r=raw (BitVec.ofNat 32 4294967295) b:=⟨_,rfl⟩
   have Hc:Aside0 ((crc b)= ~~~ r):=⟨by rw [hr];rfl⟩
   rw [←hr]
   clear hr
   have hge:¬((k:Int)<((ofB b).length:Int)):=by omega
   go_wp2_with (refine wl_not32 rfl rfl rfl ?_;obtain ⟨q,hq,hq2,hq3⟩:=not32_num r;rw [hq2];clear hq2)
   go_ret
   refine ⟨?_,HW.out⟩
   rw [Hc.out,hq.out]
   rfl
end Go.Proofs
end
section
namespace Go.Vel
def text (body:List UInt8):List UInt8:=UInt8.ofNat (body.length%256)::UInt8.ofNat (body.length/256)::(body++List.replicate (504-body.length) 0)
def form (t:UInt8)(body:List UInt8):List UInt8:=t::((text body).take 2++(le4 (crc (text body))++((text body).drop 2++[t])))
def turnOf (a b:UInt8):UInt8:=if (0:UInt8)≠a∧(0:UInt8)≠b then 0 else if (1:UInt8)≠a∧(1:UInt8)≠b then 1 else 2
def sealF (old body:List UInt8):List UInt8×Nat:=
 if old.length≠512 then ([],2) else if 504<body.length then ([],7) else (form (turnOf (old.getD 0 0) (old.getD 511 0)) body,0)
def openF (s:List UInt8):List UInt8×Nat:=
 if s.length≠512 then ([],2) else
 if 2<(s.getD 0 0).toNat∨504<(s.getD 1 0).toNat+256*(s.getD 2 0).toNat then ([],30) else
 if s=form (s.getD 0 0) ((s.drop 7).take ((s.getD 1 0).toNat+256*(s.getD 2 0).toNat)) then ((s.drop 7).take ((s.getD 1 0).toNat+256*(s.getD 2 0).toNat),0) else ([],30)
theorem length_text {body:List UInt8}(h:body.length≤504):(text body).length=506:=by simp [text];omega
theorem length_le4 (r:BitVec 32):(le4 r).length=4:=rfl
theorem length_form {body:List UInt8}(t:UInt8)(h:body.length≤504):(form t body).length=512:=by
 have:=length_text h
 simp only [form,List.length_cons,List.length_append,List.length_take,List.length_drop,length_le4,List.length_nil]
 omega
def splice' (L:List UInt8)(off:Nat)(cs:List UInt8):List UInt8:=L.take off++(cs++L.drop (off+cs.length))
theorem zeros8 (m:Nat)(t:UInt8):((List.replicate (m+8) (0:UInt8)).set 0 t).set (m+7) t=t::0::0::0::0::0::0::(List.replicate m 0++[t]):=by
 have e:List.replicate (m+8) (0:UInt8)=0::0::0::0::0::0::0::(List.replicate m 0++[0]):=by
  rw [show m+8=(m+1)+7 from rfl]
  simp only [List.replicate_succ,←List.replicate_succ']
 rw [e]
 simp only [List.set_cons_zero,List.set_cons_succ]
 rw [List.set_append_right _ _ (by simp)]
 simp
theorem lay_body (m:Nat)(t b1 b2:UInt8)(body:List UInt8)(h:body.length≤m):
  splice' ((((List.replicate (m+8) 0).set 0 t).set (m+7) t|>.set 1 b1).set 2 b2) 7 body=t::b1::b2::0::0::0::0::(body++(List.replicate (m-body.length) 0++[t])):=by
 rw [zeros8]
 simp only [splice',List.set_cons_zero,List.set_cons_succ,List.take_succ_cons,List.take_zero,List.cons_append,List.nil_append]
 have e3:7+body.length=body.length+7:=by omega
 rw [e3]
 simp only [List.drop_succ_cons,List.drop_append,List.drop_replicate]
 have e4:body.length-(List.replicate m (0:UInt8)).length=0:=by simp;omega
 rw [e4]
 rfl
theorem lay_sum (t b1 b2 s0 s1 s2 s3:UInt8)(r:List UInt8):
  ((((t::b1::b2::0::0::0::0::r:List UInt8).set 3 s0).set 4 s1).set 5 s2).set 6 s3=t::b1::b2::s0::s1::s2::s3::r:=rfl
theorem form_eq (t:UInt8)(body:List UInt8)(s0 s1 s2 s3:UInt8)(hs:le4 (crc (text body))=[s0,s1,s2,s3]):
  form t body=t::UInt8.ofNat (body.length%256)::UInt8.ofNat (body.length/256)::s0::s1::s2::s3::(body++(List.replicate (504-body.length) 0++[t])):=by
 unfold form
 rw [hs]
 simp [text]
theorem lay_text (t b1 b2:UInt8)(body:List UInt8)(m:Nat)(h:body.length≤m):
  ((t::b1::b2::0::0::0::0::(body++(List.replicate (m-body.length) 0++[t])):List UInt8).drop 1).take 2++((t::b1::b2::0::0::0::0::(body++(List.replicate (m-body.length) 0++[t]))).drop 7).take m
   =b1::b2::(body++List.replicate (m-body.length) 0):=by
 simp only [List.drop_succ_cons,List.drop_zero,List.take_succ_cons,List.take_zero,List.cons_append,List.nil_append]
 rw [←List.append_assoc,List.take_left' (by simp;omega)]
end Go.Vel
end
section
open Go Go.RowKit Go.Proofs.YtgelippmcflppaaGreatW.PrintWords Go.Proofs.YtgelippmcflppaaGreatW.PrintMore
namespace Go.Proofs
open Go.Vel
def zeros512:List UInt8:=List.replicate 512 0
theorem agg50:Agg Tryz.prog 169 (bvs zeros512):=⟨⟨_,Tryz.underlying169,rfl⟩,by kernel_rfl,by kernel_rfl⟩
theorem size5:(Tryz.prog.info? 5).map (·.size)=some 1:=by kernel_rfl
theorem info5:(Tryz.prog.info? 5).map (fun i=>(i.zero,i.size,i.bytes))=some (some (.int .u8 0),1,1):=by kernel_rfl
def setS (L:List UInt8)(q:BitVec 32):Nat→List UInt8
 |0=>L
 |k+1=>(setS L q k).set (3+k) ((le4 q).getD k 0)
theorem length_setS (L:List UInt8)(q:BitVec 32)(k:Nat):(setS L q k).length=L.length:=by
 induction k with
 |zero=>rfl
 |succ k ih=>simp [setS,ih]
theorem le4_n (q:BitVec 32):(((le4 q).getD 0 0).toNat:Int)=(q.toNat:Int)%256∧(((le4 q).getD 1 0).toNat:Int)=(q.toNat:Int)/256%256∧(((le4 q).getD 2 0).toNat:Int)=(q.toNat:Int)/65536%256∧(((le4 q).getD 3 0).toNat:Int)=(q.toNat:Int)/16777216%256:=by
 have h:∀n:Nat,((UInt8.ofNat (n%256)).toNat:Int)=(n:Int)%256:=fun n=>by
  rw [UInt8.toNat_ofNat',Nat.mod_eq_of_lt om_];omega
 refine ⟨h _,(h _).trans om_,(h _).trans om_,(h _).trans om_⟩
set_option maxHeartbeats 4000000 in
set_option maxRecDepth 100000 in
theorem lay_any (w:World)(A:Option Addr)(c:Nat)(t:UInt8)(b:List UInt8)(hb:b.length≤504)(hr:Kd.C (Kd.int .u8) w A (ofB b).length (ofB b)):Calls Tryz.prog 131 #[.int .u8 t.toNat,.slice A (ofB b).length c] w fun e w'=>e=.returned (.agg (bvs (form t b)))∧Below w.heap.size w w':=by
 have HR:=Aside0.mk hr
 clear hr
 have tok1:True:=trivial
 have hl:((ofB b).length:Int)≤504:=by rw [len_ofB];omega
 obtain ⟨b1,hb1⟩:∃b1,b1=UInt8.ofNat (b.length%256):=⟨_,rfl⟩
 obtain ⟨b2,hb2⟩:∃b2,b2=UInt8.ofNat (b.length/256):=⟨_,rfl⟩
 have Hb1:Aside0 (((ofB b).length:Int)%256=(b1.toNat:Int)):=⟨by rw [hb1,len_ofB,UInt8.toNat_ofNat',Nat.mod_eq_of_lt om_];omega⟩
 have Hb2:Aside0 (((ofB b).length:Int)/256=(b2.toNat:Int)):=⟨by rw [hb2,len_ofB,UInt8.toNat_ofNat',Nat.mod_eq_of_lt om_];omega⟩
 go_enter Tryz.func131,Tryz.ntmps131
 go_wp2_with (first
  |(have _t:=tok1;refine wl_alloc rfl rfl agg50 ?_;intro g4 w1 hB4 hg4 hw1;have HB4:=Aside0.mk hB4;have HW1:=Aside0.mk hw1;clear tok1 hB4 hw1)
  |(refine wl_alloc rfl rfl agg50 ?_;intro g5 w2 hB5 hg5 hw2;have HB:=Aside0.mk hB5;have HO:=Aside0.mk (Only.refl g5 w2);have HW:=Aside0.mk (HW1.out.trans (hw2.mono HW1.out.size));have HW2:=Aside0.mk hw2;have Hg:=Aside0.mk (Nat.le_trans HW1.out.size hg5);clear hB5 hw2)
  |(refine wl_store_byte (b:=t) rfl rfl size5 rfl rfl rfl HB.out (by simp [zeros512]) ?_;intro w3 hB3 hO3;replace HB:=Aside0.mk hB3;replace HO:=Aside0.mk (HO.out.trans hO3);clear hB3 hO3)
  |(refine wl_store_byte (b:=b1) rfl rfl size5 rfl rfl Hb1.out HB.out (by simp [zeros512]) ?_;intro w3 hB3 hO3;replace HB:=Aside0.mk hB3;replace HO:=Aside0.mk (HO.out.trans hO3);clear hB3 hO3)
  |(refine wl_store_byte (b:=b2) rfl rfl size5 rfl rfl Hb2.out HB.out (by simp [zeros512]) ?_;intro w3 hB3 hO3;replace HB:=Aside0.mk hB3;replace HO:=Aside0.mk (HO.out.trans hO3);clear hB3 hO3)
  |(refine wl_copy rfl rfl Tryz.underlying22 size5 rfl rfl (len_ofB b) HB.out (Kd.C_below HR.out (HW.out.trans (HO.out.below Hg.out))) (by simp [zeros512]) ?_;intro w3 nc hB3 hO3;replace HB:=Aside0.mk hB3;replace HO:=Aside0.mk (HO.out.trans hO3);clear hB3 hO3))
 obtain ⟨L,hL⟩:∃L,L=t::b1::b2::0::0::0::0::(b++(List.replicate (504-b.length) 0++[t])):=⟨_,rfl⟩
 have eL:splice ((((zeros512.set 0 t).set 511 t).set 1 b1).set 2 b2) 7 (b.take 504)=L:=by
  rw [List.take_of_length_le hb,hL]
  exact lay_body 504 t b1 b2 b hb
 rw [eL] at HB
 have HLl:Aside0 (L.length=512):=⟨by rw [hL];simp;omega⟩
 have HLt:Aside0 ((L.drop 1).take 2++(L.drop 7).take 504=text b):=⟨by rw [hL,lay_text t b1 b2 b 504 hb,hb1,hb2];rfl⟩
 have HLs:Aside0 (∀s0 s1 s2 s3,le4 (crc (text b))=[s0,s1,s2,s3]→(((L.set 3 s0).set 4 s1).set 5 s2).set 6 s3=form t b):=⟨by
  intro s0 s1 s2 s3 hs
  rw [hL,lay_sum,form_eq t b s0 s1 s2 s3 hs,hb1,hb2]⟩
 have HC1:=Aside0.mk (HB.out.C 1 2 (by rw [HLl.out];decide) dc_)
 have HC2:=Aside0.mk (HB.out.C 7 504 (by rw [HLl.out];decide) dc_)
 have HX1:Aside0 (((L.drop 1).take 2).length=2):=⟨by rw [List.length_take,List.length_drop,HLl.out];decide⟩
 have HX2:Aside0 (((L.drop 7).take 504).length=504):=⟨by rw [List.length_take,List.length_drop,HLl.out];decide⟩
 generalize (L.drop 1).take 2=X1 at*
 generalize (L.drop 7).take 504=X2 at*
 clear hL eL hb1 hb2
 go_still_tail 2,kr_
 go_wp2_with (first
  |(refine wl_append_grow rfl rfl Tryz.underlying22 info5 rfl rfl HX1.out.symm HX2.out.symm (Kd.C_drew HC1.out) (Kd.C_drew HC2.out) (by rw [HX1.out];decide) (by rw [HX2.out];decide) (by rw [HX1.out,HX2.out];decide) (by rw [HX1.out,HX2.out];decide) ?_;intro A1 c1 w4 hc1 hcap hw4;have HC3:=Aside0.mk hc1;have HW4:=Aside0.mk hw4;clear hc1 hcap hw4)
  |(go_at_call 143;refine (sum_any _ _ _ _ HC3.out).mono ?_;rintro e w5 ⟨rfl,hw5⟩;have HW5:=Aside0.mk hw5;clear hw5))
 have HW4b:=Aside0.mk (show Below w3.heap.size w3 w4 from ((Below.refl _ _).drew).trans HW4.out)
 have HB5:=Aside0.mk ((HB.out.below HW4b.out).below HW5.out)
 obtain ⟨q,hq⟩:∃q,q=crc (X1++X2):=⟨_,rfl⟩
 rw [←hq]
 have Hq:=Aside0.mk (show q=crc (text b) by rw [hq,HLt.out])
 clear hq
 have hql:(q.toNat:Int)<4294967296:=by have:=q.isLt;omega
 obtain ⟨qn,hqn⟩:∃qn:Nat,qn=q.toNat:=⟨_,rfl⟩
 have Hn:=Aside0.mk (le4_n q)
 rw [←hqn] at hql Hn ⊢
 clear hqn
 go_loopw [28] (fun v28 wr=>∃k:Nat,k≤4∧v28=.int .i64 k∧Aside0 (Blk wr g5 (bvs (setS L q k)) 169)∧Aside0 (Only g5 w5 wr)) (fun v28 _=>4-(intOf v28).toNat)
 case atStart=>exact ⟨0,Nat.zero_le _,rfl,HB5,⟨Only.refl _ _⟩⟩
 case round=>
  obtain ⟨k,hk,rfl,HBk,HOk⟩:=hrel
  by_cases hlt:k<4
  ·have hlt':(k:Int)<4:=by omega
   have hsz:Aside0 ((setS L q k).length=512):=⟨by rw [length_setS,HLl.out]⟩
   have h0123:k=0∨k=1∨k=2∨k=3:=by omega
   clear hlt
   rcases h0123 with rfl|rfl|rfl|rfl
   all_goals
    have HQ:=Aside0.mk hql
    clear hql hlt' hk
   ·go_wp2_with (refine wl_store_byte (b:=(le4 q).getD 0 0) rfl rfl size5 rfl rfl ?hn HBk.out (by rw [hsz.out];decide) ?_;(case hn=>exact Hn.out.1.symm);intro w6 hB6 hO6;have HB6:=Aside0.mk hB6;have HO6:=Aside0.mk (HOk.out.trans hO6);clear hB6 hO6)
    exact ⟨⟨1,by omega,by first|rfl|simp,HB6,HO6⟩,by simp [intOf]⟩
   ·go_wp2_with (refine wl_store_byte (b:=(le4 q).getD 1 0) rfl rfl size5 rfl rfl ?hn HBk.out (by rw [hsz.out];decide) ?_;(case hn=>exact Hn.out.2.1.symm);intro w6 hB6 hO6;have HB6:=Aside0.mk hB6;have HO6:=Aside0.mk (HOk.out.trans hO6);clear hB6 hO6)
    exact ⟨⟨2,by omega,by first|rfl|simp,HB6,HO6⟩,by simp [intOf]⟩
   ·go_wp2_with (refine wl_store_byte (b:=(le4 q).getD 2 0) rfl rfl size5 rfl rfl ?hn HBk.out (by rw [hsz.out];decide) ?_;(case hn=>exact Hn.out.2.2.1.symm);intro w6 hB6 hO6;have HB6:=Aside0.mk hB6;have HO6:=Aside0.mk (HOk.out.trans hO6);clear hB6 hO6)
    exact ⟨⟨3,by omega,by first|rfl|simp,HB6,HO6⟩,by simp [intOf]⟩
   ·go_wp2_with (refine wl_store_byte (b:=(le4 q).getD 3 0) rfl rfl size5 rfl rfl ?hn HBk.out (by rw [hsz.out];decide) ?_;(case hn=>exact Hn.out.2.2.2.symm);intro w6 hB6 hO6;have HB6:=Aside0.mk hB6;have HO6:=Aside0.mk (HOk.out.trans hO6);clear hB6 hO6)
    exact ⟨⟨4,by omega,by first|rfl|simp,HB6,HO6⟩,by simp [intOf]⟩
  ·have hge:¬((k:Int)<4):=by omega
   have HQ:=Aside0.mk hql
   have e4:k=4:=by omega
   have hsF:setS L q k=form t b:=by
    rw [e4]
    have:=HLs.out ((le4 q).getD 0 0) ((le4 q).getD 1 0) ((le4 q).getD 2 0) ((le4 q).getD 3 0) (by rw [←Hq.out];rfl)
    exact this
   rw [hsF] at HBk
   have HF:=Aside0.mk (length_form t hb)
   have HB4r:=Aside0.mk (HOk.out.blk (((HO.out.blk (HB4.out.below HW2.out) (show g4≠g5 by have:=HB4.out.lt;omega)).below HW4b.out).below HW5.out) (show g4≠g5 by have:=HB4.out.lt;omega))
   clear hql e4 hsF hk
   go_wp2_with (first
    |(refine wl_load_row rfl rfl agg50 rfl HBk.out (by rw [size_bvs,size_bvs,HF.out];rfl) ?_)
    |(refine wl_store_row rfl rfl agg50 rfl rfl HB4r.out (by rw [size_bvs,size_bvs,HF.out];rfl) rfl (bvs_one _) ?_;intro w7 hB7 hO7;have HB7:=Aside0.mk hB7;have HO7:=Aside0.mk hO7;clear hB7 hO7))
   refine bodyPost_ret (v:=.agg (bvs (form t b))) ?_ rfl ⟨rfl, ?_⟩
   ·exact results_cell_row (P:=Tryz.prog) rfl _ _ g4 169 (bvs (form t b)) (0,0) _ rfl HB7.out.out Tryz.underlying169 rfl (by rw [size_bvs,length_form t hb];kernel_rfl)
   ·have b3:Below w.heap.size w w3:=HW.out.trans (HO.out.below Hg.out)
    have b4:Below w.heap.size w w4:=b3.trans (HW4b.out.mono b3.size)
    have b5:Below w.heap.size w w5:=b4.trans (HW5.out.mono b4.size)
    exact (b5.trans (HOk.out.below Hg.out)).trans (HO7.out.below hg4)
theorem turn_found {x y:UInt8}{k:Nat}(hk:k≤2)(h1:(k:Int)≠x.toNat)(h2:(k:Int)≠y.toNat)(h3:1≤k→(x.toNat:Int)=0∨(y.toNat:Int)=0)(h4:2≤k→(x.toNat:Int)=1∨(y.toNat:Int)=1):(k:Int)=(turnOf x y).toNat:=by
 have e0:∀z:UInt8,(0:UInt8)≠z↔z.toNat≠0:=fun z=>by rw [ne_eq,←UInt8.toNat_inj];simp;omega
 have e1:∀z:UInt8,(1:UInt8)≠z↔z.toNat≠1:=fun z=>by rw [ne_eq,←UInt8.toNat_inj];simp;omega
 unfold turnOf
 simp only [e0,e1]
 split
 ·have:k=0:=by omega
  subst this;rfl
 ·split
  ·have:k=1:=by omega
   subst this;rfl
  ·have:k=2:=by omega
   subst this;rfl
set_option maxHeartbeats 400000 in
theorem turn_any (w:World)(x y:UInt8):Calls Tryz.prog 132 #[.int .u8 x.toNat,.int .u8 y.toNat] w fun e w'=>e=.returned (.int .u8 (turnOf x y).toNat)∧w=w':=by
 have hx:=x.toNat_lt
 have hy:=y.toNat_lt
 obtain ⟨X,hX⟩:∃X:Int,X=(x.toNat:Int):=⟨_,rfl⟩
 obtain ⟨Y,hY⟩:∃Y:Int,Y=(y.toNat:Int):=⟨_,rfl⟩
 have hX2:0≤X∧X<256:=by omega
 have hY2:0≤Y∧Y<256:=by omega
 have HF:Aside0 (∀k:Nat,k≤2→(k:Int)≠X→(k:Int)≠Y→(1≤k→X=0∨Y=0)→(2≤k→X=1∨Y=1)→(k:Int)=(turnOf x y).toNat):=⟨fun k a b c d e=>turn_found a (hX▸b) (hY▸c) (hX▸hY▸d) (hX▸hY▸e)⟩
 rw [←hX,←hY]
 generalize (turnOf x y).toNat=tn at*
 clear hX hY hx hy
 obtain ⟨hX0,hX1⟩:=hX2
 obtain ⟨hY0,hY1⟩:=hY2
 go_enter Tryz.func132,Tryz.ntmps132
 go_wp2
 go_loop [6] (fun i=>∃k:Nat,k≤2∧i=.int .u8 k∧(1≤k→X=0∨Y=0)∧(2≤k→X=1∨Y=1)) (fun i=>3-(intOf i).toNat)
 case atStart=>exact ⟨0,by omega,rfl,by omega,by omega⟩
 case round=>
  obtain ⟨k,hk,rfl,h1,h2⟩:=hrel
  have hk3:(k:Int)<3:=by omega
  by_cases hkx:(k:Int)=X
  ·have b1:((k:Int) !=X)=false:=by simpa using hkx
   have H1:=Aside0.mk h1
   have H2:=Aside0.mk h2
   have HX:=Aside0.mk hkx
   clear hkx h1 h2
   go_wp2
   exact ⟨⟨k+1,by have:=HX.out;have:=H1.out;have:=H2.out;omega,by go_num,by have:=HX.out;have:=H1.out;omega,by have:=HX.out;have:=H1.out;have:=H2.out;omega⟩,by simp [intOf];omega⟩
  ·by_cases hky:(k:Int)=Y
   ·have b1:((k:Int) !=X)=true:=by simpa using hkx
    have b2:((k:Int) !=Y)=false:=by simpa using hky
    have H1:=Aside0.mk h1
    have H2:=Aside0.mk h2
    have HY:=Aside0.mk hky
    clear hkx hky h1 h2
    go_wp2
    exact ⟨⟨k+1,by have:=HY.out;have:=H1.out;have:=H2.out;omega,by go_num,by have:=HY.out;have:=H1.out;omega,by have:=HY.out;have:=H1.out;have:=H2.out;omega⟩,by simp [intOf];omega⟩
   ·have b1:((k:Int) !=X)=true:=by simpa using hkx
    have b2:((k:Int) !=Y)=true:=by simpa using hky
    have HE:=Aside0.mk (HF.out k hk hkx hky h1 h2)
    clear hkx hky h1 h2
    go_wp2
    go_ret
    exact ⟨by rw [←HE.out];rfl,rfl⟩
def SealS (w0:World)(L:List Value)(i:Nat)(v:Value)(w:World):Prop:=
 if i=9 then∃g,v=.pointer (some ⟨g,0,none⟩)∧w0.heap.size≤g∧Blk w g (bvs zeros512) 169 else v=L.getD i undef
theorem SealS.val {w0:World}{L:List Value}{i:Nat}{v:Value}{w:World}(hi:i≠9)(h:SealS w0 L i v w):v=L.getD i undef:=by
 unfold SealS at h
 rwa [if_neg hi] at h
theorem look2 {f:Operand→Value}{x y:Operand}{u v:Value}(h1:f x=u)(h2:f y=v):(#[x,y]:Array Operand).map f=#[u,v]:=by
 subst h1 h2;simp
set_option maxHeartbeats 1000000 in
set_option maxRecDepth 100000 in
theorem seal_any (w:World)(A0:Option Addr)(c0:Nat)(a:List UInt8)(A1:Option Addr)(c1:Nat)(b:List UInt8)(hr0:Kd.C (Kd.int .u8) w A0 (ofB a).length (ofB a))(hr1:Kd.C (Kd.int .u8) w A1 (ofB b).length (ofB b)):
  Calls Tryz.prog 109 #[.slice A0 (ofB a).length c0,.slice A1 (ofB b).length c1] w (Ret2 (ofB (sealF a b).1) (sealF a b).2 w):=by
 have HR0:=Aside0.mk hr0
 have HR1:=Aside0.mk hr1
 clear hr0 hr1
 by_cases ha:a.length=512
 ·have ha':((((ofB a).length:Nat):Int) !=512)=false:=by rw [len_ofB,ha];rfl
  have Ha:=Aside0.mk ha
  clear ha
  by_cases hb:504<b.length
  ·have e:sealF a b=([],7):=by simp [sealF,Ha.out,hb]
   rw [e]
   have hb':(504:Int)<((ofB b).length:Int):=by rw [len_ofB];omega
   clear e hb
   go_enter Tryz.func109,Tryz.ntmps109
   go_wp2
   go_ret2
   exact ⟨_,rfl,V_nil,Below.refl _ _⟩
  ·have e:sealF a b=(form (turnOf (a.getD 0 0) (a.getD 511 0)) b,0):=by simp [sealF,Ha.out,hb]
   rw [e]
   have hb':((ofB b).length:Int)≤504:=by rw [len_ofB];omega
   have Hb:=Aside0.mk (show b.length≤504 by omega)
   clear e hb
   obtain ⟨ad,e,hx0⟩:=C_byte HR0.out (Below.refl _ _) 0 (by rw [len_ofB,Ha.out];decide)
   obtain ⟨ad',e',hx1⟩:=C_byte HR0.out (Below.refl _ _) 511 (by rw [len_ofB,Ha.out];decide)
   rw [e] at e'
   cases e'
   cases e
   have HX0:=Aside0.mk hx0
   have HX1:=Aside0.mk hx1
   clear hx0 hx1
   go_enter Tryz.func109,Tryz.ntmps109
   go_wp2
   refine wp_region_told 10 (fun w1=>Below w.heap.size w w1) (SealS w [.slice (some ad) (ofB a).length c0,.pointer (some (ad.add 0)),.int .u8 (a.getD 0 0).toNat,.slice (some ad) (ofB a).length c0,.pointer (some (ad.add 511)),.int .u8 (a.getD 511 0).toNat,.int .u8 (turnOf (a.getD 0 0) (a.getD 511 0)).toNat,.slice A1 (ofB b).length c1,.agg (bvs (form (turnOf (a.getD 0 0) (a.getD 511 0)) b))]) kr_ kr_ kr_ (Below.refl _ _).drew ?_ ?_ ?_
   ·intro i v w1 w2 hb h
    unfold SealS at*
    split at h
    ·obtain ⟨g,h1,h2,h3⟩:=h
     rw [if_pos (by assumption)]
     exact ⟨g,h1,h2,h3.below hb⟩
    ·rw [if_neg (by assumption)];exact h
   ·intro i vals w1 hi hc hd
    have D:∀k,k≠9→waitsAt _ i k=true→vals k=_:=fun k hk hw=>SealS.val hk (hd k hw)
    rcases i with _|_|_|_|_|_|_|_|_|_|i
    rotate_right 1
    ·exact absurd hi (Nat.not_lt.2 (Nat.le_add_left 10 i))
    ·exact StepOK.move (x:=.tmp 0) (.free kr_) hc ((look_miss kr_ kr_).trans rfl) rfl
    ·refine StepOK.at (T:=22) (x:=.tmp 15) (y:=.const (.int .i64 0)) (k:=0) (.free kr_) hc kr_ kr_ ((look_hit (k:=0) kr_ kr_).trans (D 0 dc_ kr_)) (look_const kr_) ?_ rfl
     rw [len_ofB,Ha.out];decide
    ·exact StepOK.load (T:=5) (x:=.tmp 16) (.free kr_) hc rfl Tryz.underlying5 ((look_hit (k:=1) kr_ kr_).trans (D 1 dc_ kr_)) (cell_below hc HX0.out) rfl
    ·exact StepOK.move (x:=.tmp 0) (.free kr_) hc ((look_miss kr_ kr_).trans rfl) rfl
    ·refine StepOK.at (T:=22) (x:=.tmp 18) (y:=.const (.int .i64 511)) (k:=511) (.free kr_) hc kr_ kr_ ((look_hit (k:=3) kr_ kr_).trans (D 3 dc_ kr_)) (look_const kr_) ?_ rfl
     rw [len_ofB,Ha.out];decide
    ·exact StepOK.load (T:=5) (x:=.tmp 19) (.free kr_) hc rfl Tryz.underlying5 ((look_hit (k:=4) kr_ kr_).trans (D 4 dc_ kr_)) (cell_below hc HX1.out) rfl
    ·refine StepOK.call (f:=132) (xs:=#[.tmp 17,.tmp 20]) (ts:=#[5,5]) (fn:=Tryz.f132) (.free kr_) kr_ kr_ rfl (look2 ((look_hit (k:=2) kr_ kr_).trans (D 2 dc_ kr_)) ((look_hit (k:=5) kr_ kr_).trans (D 5 dc_ kr_))) (Calls.mono (turn_any w1 _ _) ?_)
     rintro _ _ ⟨rfl,rfl⟩
     exact ⟨_,rfl,Below.refl _ _,hc,rfl⟩
    ·exact StepOK.move (x:=.tmp 1) (.free kr_) hc ((look_miss kr_ kr_).trans rfl) rfl
    ·refine StepOK.call (f:=131) (xs:=#[.tmp 21,.tmp 22]) (ts:=#[5,22]) (fn:=Tryz.f131) (.free kr_) kr_ kr_ rfl (look2 ((look_hit (k:=6) kr_ kr_).trans (D 6 dc_ kr_)) ((look_hit (k:=7) kr_ kr_).trans (D 7 dc_ kr_))) (Calls.mono (lay_any w1 _ _ _ _ Hb.out (Kd.C_below HR1.out hc)) ?_)
     rintro _ w2 ⟨rfl,hb2⟩
     exact ⟨_,rfl,hb2,hc.trans (hb2.mono hc.size),rfl⟩
    ·refine StepOK.alloc (T:=169) (.free kr_) agg50 (fun g w' hB hg hw=>⟨hc.trans (hw.mono hc.size), ?_⟩)
     exact ⟨g,rfl,Nat.le_trans hc.size hg,hB⟩
   ·intro vals w1 hc hS
    obtain ⟨g,e9,hg,hB⟩:∃g,vals 9=.pointer (some ⟨g,0,none⟩)∧w.heap.size≤g∧Blk w1 g (bvs zeros512) 169:=hS 9 dc_
    have e8:vals 8=.agg (bvs (form (turnOf (a.getD 0 0) (a.getD 511 0)) b)):=SealS.val dc_ (hS 8 dc_)
    refine wl_store_row (T:=169) (x:=.tmp 6) (y:=.tmp 23) rfl rfl agg50 ((fill_hit (k:=9) kr_ (Nat.le_of_ble_eq_true kr_)).trans e9) ((fill_hit (k:=8) kr_ (Nat.le_of_ble_eq_true kr_)).trans e8) hB (by rw [size_bvs,size_bvs,length_form _ Hb.out];rfl) rfl (bvs_one _) ?_
    intro w2 hB2 hO2
    have HB2:=Aside0.mk hB2
    have HO2:=Aside0.mk hO2
    have HC:=Aside0.mk hc
    clear hB2 hO2 hB hc hS
    refine wl_frame ⟨#[.slice (some ad) (ofB a).length c0,.slice A1 (ofB b).length c1,undef,undef,.slice none 0 0,.int .i64 0,vals 9,.bool false,.slice (some ad) (ofB a).length c0,.int .i64 (ofB a).length,.bool false,.bool (decide (504<((ofB b).length:Int))),.slice A1 (ofB b).length c1,.int .i64 (ofB b).length,.bool (decide (504<((ofB b).length:Int))),vals 0,vals 1,vals 2,vals 3,vals 4,vals 5,vals 6,vals 7,vals 8,undef],[]⟩ kr_ ?_
    rw [e9]
    clear e9 e8
    go_wp2
    go_ret2
    refine ⟨_,rfl,V_of_blk HB2.out hg 0 512 512 ?_ dc_ (Nat.le_refl _) ?_,HC.out.trans (HO2.out.below hg)⟩
    ·rw [length_form _ Hb.out];decide
    ·rw [List.drop_zero,List.take_of_length_le (Nat.le_of_eq (length_form _ Hb.out))]
 ·have e:sealF a b=([],2):=by simp [sealF,ha]
  rw [e]
  have ha':((((ofB a).length:Nat):Int) !=512)=true:=by rw [len_ofB,bne_iff_ne];omega
  clear ha e
  go_enter Tryz.func109,Tryz.ntmps109
  go_wp2
  go_ret2
  exact ⟨_,rfl,V_nil,Below.refl _ _⟩
end Go.Proofs
end
