/- Part 3 of 6 of what the proof stands on: the words, the laws of the walk, the walks, the plain laws; each section is one text. -/
import Derived.Test.YtgelippmcflppaaGreatM2
section
open Go Go.RowKit Go.Proofs.YtgelippmcflppaaGreatW.PrintWords Go.Proofs.YtgelippmcflppaaGreatW.PrintMore
namespace Go.Proofs
open Go.Vel
section
def ListS (L:List Value)(i:Nat)(v:Value)(_:World):Prop:=v=L.getD i undef
theorem bits_or_bytes (x y:UInt8):bits .or .i64 (wrap64 (x.toNat:Int)) (wrap64 (wrap64 (y.toNat:Int)*256))=((x.toNat+256*y.toNat:Nat):Int):=by
 have hx:=x.toNat_lt
 have hy:=y.toNat_lt
 have e1:wrap64 (x.toNat:Int)=((x.toNat:Nat):Int):=by unfold wrap64;omega
 have e2:wrap64 (wrap64 (y.toNat:Int)*256)=((y.toNat*256:Nat):Int):=by unfold wrap64;omega
 rw [e1,e2]
 show IntKind.i64.wrap ((BitVec.ofInt 64 ((x.toNat:Nat):Int)|||BitVec.ofInt 64 ((y.toNat*256:Nat):Int)).toNat:Int)=_
 rw [BitVec.toNat_or]
 have f1:(BitVec.ofInt 64 ((x.toNat:Nat):Int)).toNat=x.toNat:=by simp
 have f2:(BitVec.ofInt 64 ((y.toNat*256:Nat):Int)).toNat=y.toNat*256:=by simp;omega
 rw [f1,f2,Nat.or_comm,Nat.mul_comm]
 have:=Nat.two_pow_add_eq_or_of_lt (i:=8) hx y.toNat
 rw [show (256:Nat)=2^8 from rfl,←this,IntKind.wrap_i64]
 omega
theorem openF_at {s:List UInt8}{x0:UInt8}{n:Nat}(hl:s.length=512)(h0:x0=s.getD 0 0)(hn:n=(s.getD 1 0).toNat+256*(s.getD 2 0).toNat):
  openF s=if 2<x0.toNat∨504<n then ([],30) else if s=form x0 ((s.drop 7).take n) then ((s.drop 7).take n,0) else ([],30):=by
 subst h0 hn
 unfold openF
 rw [if_neg (fun h=>h hl)]
theorem wl_slice3 {P:Program}{ops:Array Oper}{rest:List Oper}{o:Oper}{a:Act}{Q:Exit→Act→World→Prop}{w:World}(hg:o.guard=none){T E:TypeId}{N:Nat}{x p q r:Operand}(ho:o.op=.slice T x (some p) (some q) (some r))(hT:P.underlying T=some (.array N E))(hE:(P.info? E).map (·.size)=some 1)
  {g lo n:Nat} {v:Int} (hx:a.eval x=.pointer (some ⟨g,0,none⟩)) (hp:a.eval p=.int .i64 (lo:Int)) (hq:a.eval q=.int .i64 v) (hr:a.eval r=.int .i64 v) (hv:v=((lo+n:Nat):Int)) (hN:lo+n≤N)
  (h:∀f,(n=0∧f=0∨f=lo)→wpList P ops Q rest (a.put o.dst (.slice (some ⟨g,f,none⟩) n n)) w):wpList P ops Q (o::rest) a w:=by
 subst hv
 refine wl_val hg ?_ (h (if n=0 then 0 else lo) (by split<;>simp_all))
 cases hq2:P.info? E with
 |none=>rw [hq2] at hE;cases hE
 |some e2=>
  have he:e2.size=1:=by rw [hq2] at hE;simpa using hE
  simp only [execOp,ho,hx,hp,hq,hr,Option.map_some]
  have e1:∀code,(Instr.sliceBound (nI_ (lo+n)) N code).run P w=.ok (lo+n) w:=fun code=>by
   rw [run_sliceBound w .i64 _ N code om_ om_,Int.toNat_natCast]
  have e2:∀code,(Instr.sliceBound (nI_ (lo+n)) (lo+n) code).run P w=.ok (lo+n) w:=fun code=>by
   rw [run_sliceBound w .i64 _ (lo+n) code om_ om_,Int.toNat_natCast]
  have e3:∀code,(Instr.sliceBound (.int .i64 (lo:Int)) (lo+n) code).run P w=.ok lo w:=fun code=>by
   rw [run_sliceBound w .i64 _ (lo+n) code om_ om_,Int.toNat_natCast]
  simp only [Instr.sliceAt,Sem.run_bind,run_underlying hT,Result.andThen_ok,Instr.sureAddr,Sem.run_pure,Instr.sliceBounds,e1,e2,e3,sizeOf,typeInfo]
  simp [hq2,he]
  by_cases h0:n=0
  ·simp [h0]
  ·simp [h0,Addr.add_lit]
theorem cell_below' {w w1:World}{a:Addr}{v:Value}(h:Below w.heap.size w w1)(hc:w.cell? a=some v):w1.cell? a=some v:=cell_below h hc
section
variable {P:Program}{T:TypeId}{w:World}
theorem run_geq_u8 {x0:UInt8}{b:Bool}(h:Aside0 (decide (3≤x0.toNat)=b)):(binOp .geq T (.int .u8 (x0.toNat:Int)) (.int .u8 3)).run P w=.ok (.bool b) w:=by
 have:decide ((3:Int)≤(x0.toNat:Int))=b:=by rw [←h.out];congr 1;simp only [eq_iff_iff];omega
 simp [binOp,Op.intCmp,this]
theorem run_gtr_i64 {n:Nat}{b:Bool}(h:Aside0 (decide (504<n)=b)):(binOp .gtr T (.int .i64 (n:Int)) (.int .i64 504)).run P w=.ok (.bool b) w:=by
 have:decide ((504:Int)<(n:Int))=b:=by rw [←h.out];congr 1;simp only [eq_iff_iff];omega
 simp [binOp,Op.intCmp,this]
theorem run_add7 {n:Nat}(h:n≤504):(binOp .add T (.int .i64 7) (.int .i64 (n:Int))).run P w=.ok (.int .i64 ((7+n:Nat):Int)) w:=by
 have:IntKind.i64.wrap (7+(n:Int))=((7+n:Nat):Int):=by rw [IntKind.wrap_i64];omega
 simp [binOp,Op.intArith,this]
end
set_option maxHeartbeats 1000000 in
set_option maxRecDepth 100000 in
theorem open_any (w:World)(A0:Option Addr)(c0:Nat)(s:List UInt8)(hr0:Kd.C (Kd.int .u8) w A0 (ofB s).length (ofB s)):
  Calls Tryz.prog 111 #[.slice A0 (ofB s).length c0] w (Ret2 (ofB (openF s).1) (openF s).2 w):=by
 have HR0:=Aside0.mk hr0
 clear hr0
 by_cases ha:s.length=512
 ·have ha':((((ofB s).length:Nat):Int) !=512)=false:=by rw [len_ofB,ha];rfl
  have hlb:512≤(ofB s).length:=by rw [len_ofB,ha];exact Nat.le_refl _
  have Ha:=Aside0.mk ha
  clear ha
  obtain ⟨R,hR⟩:∃R,R=openF s:=⟨_,rfl⟩
  rw [←hR]
  obtain ⟨x0,hx0⟩:∃x,x=s.getD 0 0:=⟨_,rfl⟩
  obtain ⟨x1,hx1⟩:∃x,x=s.getD 1 0:=⟨_,rfl⟩
  obtain ⟨x2,hx2⟩:∃x,x=s.getD 2 0:=⟨_,rfl⟩
  go_enter Tryz.func111,Tryz.ntmps111
  go_wp2_with (first
   |(refine wl_arrayPtr rfl rfl Tryz.underlying169 rfl hlb ?_)
   |(refine wl_load_bytes rfl rfl agg50 rfl HR0.out (by rw [Ha.out];decide) (by rw [Ha.out];decide) ?_)
   |(refine wl_alloc rfl rfl agg50 ?_;intro g w1 hB hg hw;have HB:=Aside0.mk hB;have HW:=Aside0.mk hw;clear hB hw)
   |(refine wl_store_row rfl rfl agg50 rfl rfl HB.out (by rw [size_bvs,size_bvs,Ha.out];rfl) rfl (bvs_one _) ?_;intro w2 hB2 hO2;have HB2:=Aside0.mk hB2;have HO2:=Aside0.mk hO2;have hc0:w2.cell? ⟨g,0,none⟩=some (.int .u8 (x0.toNat:Int)):=hx0▸hB2.byte 0 (by rw [Ha.out];decide);have hc1:w2.cell? ⟨g,1,none⟩=some (.int .u8 (x1.toNat:Int)):=hx1▸hB2.byte 1 (by rw [Ha.out];decide);have hc2:w2.cell? ⟨g,2,none⟩=some (.int .u8 (x2.toNat:Int)):=hx2▸hB2.byte 2 (by rw [Ha.out];decide);clear hB2 hO2))
  have eor:=bits_or_bytes (s.getD 1 0) (s.getD 2 0)
  obtain ⟨n,hn⟩:∃n,n=(s.getD 1 0).toNat+256*(s.getD 2 0).toNat:=⟨_,rfl⟩
  have eF:=openF_at Ha.out hx0 hn
  rw [←hn,List.getD_eq_getElem?_getD,List.getD_eq_getElem?_getD] at eor
  rw [eor]
  generalize Value.int IntKind.u8 ((s[1]?.getD 0).toNat:Int)=t13
  generalize Value.int IntKind.i64 (wrap64 ((s[1]?.getD 0).toNat:Int))=t14
  generalize Value.pointer (some {block:=g,off:=2,spot:=none})=t15
  generalize Value.int IntKind.u8 ((s[2]?.getD 0).toNat:Int)=t16
  generalize Value.int IntKind.i64 (wrap64 ((s[2]?.getD 0).toNat:Int))=t17
  generalize Value.int IntKind.i64 (wrap64 (wrap64 ((s[2]?.getD 0).toNat:Int)*256))=t18
  have HBB:Aside0 (Below w.heap.size w w2):=⟨HW.out.trans (HO2.out.below hg)⟩
  clear eor hlb ha' hc1 hc2 hx1 hx2 HB hx0 hn
  rename Aside0 (Below w.heap.size w w2)=>HB
  by_cases hA:3≤x0.toNat
  ·rw [if_pos (Or.inl (show 2<x0.toNat from hA))] at eF
   have eR:=hR.trans eF
   clear hR
   subst eR
   have HB0:=Aside0.mk (decide_eq_true hA)
   clear hA eF
   refine wp_region_told 17 (fun w3=>Below w2.heap.size w2 w3) (ListS [.pointer (some ⟨g,0,none⟩),.int .u8 (x0.toNat:Int),.bool true,.bool true,undef,undef,.bool true,.bool true,undef,undef,undef,undef,undef,undef,undef,undef,.bool true]) kr_ kr_ kr_ (Below.refl _ _).drew (fun _ _ _ _ _ h=>h) ?_ ?_
   ·intro i vals w1 hi hc hd
    have D:∀k,waitsAt _ i k=true→vals k=_:=fun k hw=>hd k hw
    rcases i with _|_|_|_|_|_|_|_|_|_|_|_|_|_|_|_|_|i
    rotate_right 1
    ·exact absurd hi (Nat.not_lt.2 (Nat.le_add_left 17 i))
    ·exact StepOK.atArr (T:=169) (x:=.tmp 4) (y:=.const (.int .i64 0)) (k:=0) (.free kr_) hc kr_ kr_ ((look_miss kr_ kr_).trans rfl) (look_const kr_) kr_ rfl
    ·exact StepOK.load (T:=5) (x:=.tmp 20) (.free kr_) hc rfl Tryz.underlying5 ((look_hit (k:=0) kr_ kr_).trans (D 0 kr_)) (cell_below' hc hc0) rfl
    ·exact StepOK.bin (op:=.geq) (T:=5) (T2:=5) (x:=.tmp 21) (y:=.const (.int .u8 3)) (.free kr_) hc ((look_hit (k:=1) kr_ kr_).trans (D 1 kr_)) (look_const kr_) rfl (run_geq_u8 HB0) rfl
    ·exact StepOK.move (x:=.tmp 22) (.free kr_) hc ((look_hit (k:=2) kr_ kr_).trans (D 2 kr_)) rfl
    ·exact StepOK.not (g:=3) (t:=23) (gd:=some (3,false)) kr_ (b:=false) (b':=true) rfl kr_ kr_ kr_ (D 3 kr_) dc_ rfl
    ·exact StepOK.not (g:=3) (t:=23) (gd:=some (3,false)) kr_ (b:=false) (b':=true) rfl kr_ kr_ kr_ (D 3 kr_) dc_ rfl
    ·exact StepOK.pick (b:=true) (u:=.bool true) (v:=undef) (x:=.tmp 23) (y:=.const (.bool true)) (z:=.tmp 25) (.free kr_) hc ((look_hit (k:=3) kr_ kr_).trans (D 3 kr_)) (look_const kr_) ((look_hit (k:=5) kr_ kr_).trans (D 5 kr_)) rfl
    ·exact StepOK.move (x:=.tmp 26) (.free kr_) hc ((look_hit (k:=6) kr_ kr_).trans (D 6 kr_)) rfl
    ·exact StepOK.not (g:=7) (t:=27) (gd:=some (7,false)) kr_ (b:=false) (b':=true) rfl kr_ kr_ kr_ (D 7 kr_) dc_ rfl
    ·exact StepOK.not (g:=7) (t:=27) (gd:=some (7,false)) kr_ (b:=false) (b':=true) rfl kr_ kr_ kr_ (D 7 kr_) dc_ rfl
    ·exact StepOK.not (g:=7) (t:=27) (gd:=some (7,false)) kr_ (b:=false) (b':=true) rfl kr_ kr_ kr_ (D 7 kr_) dc_ rfl
    ·exact StepOK.not (g:=7) (t:=27) (gd:=some (7,false)) kr_ (b:=false) (b':=true) rfl kr_ kr_ kr_ (D 7 kr_) dc_ rfl
    ·exact StepOK.not (g:=7) (t:=27) (gd:=some (7,false)) kr_ (b:=false) (b':=true) rfl kr_ kr_ kr_ (D 7 kr_) dc_ rfl
    ·exact StepOK.not (g:=7) (t:=27) (gd:=some (7,false)) kr_ (b:=false) (b':=true) rfl kr_ kr_ kr_ (D 7 kr_) dc_ rfl
    ·exact StepOK.not (g:=7) (t:=27) (gd:=some (7,false)) kr_ (b:=false) (b':=true) rfl kr_ kr_ kr_ (D 7 kr_) dc_ rfl
    ·exact StepOK.not (g:=7) (t:=27) (gd:=some (7,false)) kr_ (b:=false) (b':=true) rfl kr_ kr_ kr_ (D 7 kr_) dc_ rfl
    ·exact StepOK.pick (b:=true) (u:=.bool true) (v:=undef) (x:=.tmp 27) (y:=.const (.bool true)) (z:=.tmp 35) (.free kr_) hc ((look_hit (k:=7) kr_ kr_).trans (D 7 kr_)) (look_const kr_) ((look_hit (k:=15) kr_ kr_).trans (D 15 kr_)) rfl
   ·intro vals w3 hc hS
    refine wl_frame ⟨#[.slice A0 (ofB s).length c0,undef,.slice none 0 0,.int .i64 0,.pointer (some ⟨g,0,none⟩),.int .i64 (n:Int),.slice A0 (ofB s).length c0,.int .i64 (ofB s).length,.bool false,.slice A0 (ofB s).length c0,.pointer A0,.agg (bvs s),.pointer (some ⟨g,1,none⟩),t13,t14,t15,t16,t17,t18,.int .i64 (n:Int),vals 0,vals 1,vals 2,vals 3,vals 4,vals 5,vals 6,vals 7,vals 8,vals 9,vals 10,vals 11,vals 12,vals 13,vals 14,vals 15,vals 16,undef,undef,undef,undef,undef],[]⟩ kr_ ?_
    have e16:vals 16=.bool true:=hS 16 dc_
    rw [e16]
    clear e16 hS
    go_wp2
    go_ret2
    exact ⟨_,rfl,V_nil,HB.out.trans (hc.mono HB.out.size)⟩
  ·by_cases hN:504<n
   ·rw [if_pos (Or.inr hN)] at eF
    have eR:=hR.trans eF
    clear hR
    subst eR
    have HB0:=Aside0.mk (decide_eq_false hA)
    have HB1:=Aside0.mk (decide_eq_true hN)
    clear hA hN eF
    refine wp_region_told 17 (fun w3=>Below w2.heap.size w2 w3) (ListS [.pointer (some ⟨g,0,none⟩),.int .u8 (x0.toNat:Int),.bool false,.bool false,.int .i64 (n:Int),.bool true,.bool true,.bool true,undef,undef,undef,undef,undef,undef,undef,undef,.bool true]) kr_ kr_ kr_ (Below.refl _ _).drew (fun _ _ _ _ _ h=>h) ?_ ?_
    ·intro i vals w1 hi hc hd
     have D:∀k,waitsAt _ i k=true→vals k=_:=fun k hw=>hd k hw
     rcases i with _|_|_|_|_|_|_|_|_|_|_|_|_|_|_|_|_|i
     rotate_right 1
     ·exact absurd hi (Nat.not_lt.2 (Nat.le_add_left 17 i))
     ·exact StepOK.atArr (T:=169) (x:=.tmp 4) (y:=.const (.int .i64 0)) (k:=0) (.free kr_) hc kr_ kr_ ((look_miss kr_ kr_).trans rfl) (look_const kr_) kr_ rfl
     ·exact StepOK.load (T:=5) (x:=.tmp 20) (.free kr_) hc rfl Tryz.underlying5 ((look_hit (k:=0) kr_ kr_).trans (D 0 kr_)) (cell_below' hc hc0) rfl
     ·exact StepOK.bin (op:=.geq) (T:=5) (T2:=5) (x:=.tmp 21) (y:=.const (.int .u8 3)) (.free kr_) hc ((look_hit (k:=1) kr_ kr_).trans (D 1 kr_)) (look_const kr_) rfl (run_geq_u8 HB0) rfl
     ·exact StepOK.move (x:=.tmp 22) (.free kr_) hc ((look_hit (k:=2) kr_ kr_).trans (D 2 kr_)) rfl
     ·exact StepOK.move (x:=.tmp 5) (.when (g:=3) (t:=23) (b:=false) kr_ kr_ kr_ kr_ (D 3 kr_)) hc ((look_miss kr_ kr_).trans rfl) rfl
     ·exact StepOK.bin (op:=.gtr) (T:=3) (T2:=3) (x:=.tmp 24) (y:=.const (.int .i64 504)) (.when (g:=3) (t:=23) (b:=false) kr_ kr_ kr_ kr_ (D 3 kr_)) hc ((look_hit (k:=4) kr_ kr_).trans (D 4 kr_)) (look_const kr_) rfl (run_gtr_i64 HB1) rfl
     ·exact StepOK.pick (b:=false) (u:=.bool true) (v:=.bool true) (x:=.tmp 23) (y:=.const (.bool true)) (z:=.tmp 25) (.free kr_) hc ((look_hit (k:=3) kr_ kr_).trans (D 3 kr_)) (look_const kr_) ((look_hit (k:=5) kr_ kr_).trans (D 5 kr_)) rfl
     ·exact StepOK.move (x:=.tmp 26) (.free kr_) hc ((look_hit (k:=6) kr_ kr_).trans (D 6 kr_)) rfl
     ·exact StepOK.not (g:=7) (t:=27) (gd:=some (7,false)) kr_ (b:=false) (b':=true) rfl kr_ kr_ kr_ (D 7 kr_) dc_ rfl
     ·exact StepOK.not (g:=7) (t:=27) (gd:=some (7,false)) kr_ (b:=false) (b':=true) rfl kr_ kr_ kr_ (D 7 kr_) dc_ rfl
     ·exact StepOK.not (g:=7) (t:=27) (gd:=some (7,false)) kr_ (b:=false) (b':=true) rfl kr_ kr_ kr_ (D 7 kr_) dc_ rfl
     ·exact StepOK.not (g:=7) (t:=27) (gd:=some (7,false)) kr_ (b:=false) (b':=true) rfl kr_ kr_ kr_ (D 7 kr_) dc_ rfl
     ·exact StepOK.not (g:=7) (t:=27) (gd:=some (7,false)) kr_ (b:=false) (b':=true) rfl kr_ kr_ kr_ (D 7 kr_) dc_ rfl
     ·exact StepOK.not (g:=7) (t:=27) (gd:=some (7,false)) kr_ (b:=false) (b':=true) rfl kr_ kr_ kr_ (D 7 kr_) dc_ rfl
     ·exact StepOK.not (g:=7) (t:=27) (gd:=some (7,false)) kr_ (b:=false) (b':=true) rfl kr_ kr_ kr_ (D 7 kr_) dc_ rfl
     ·exact StepOK.not (g:=7) (t:=27) (gd:=some (7,false)) kr_ (b:=false) (b':=true) rfl kr_ kr_ kr_ (D 7 kr_) dc_ rfl
     ·exact StepOK.pick (b:=true) (u:=.bool true) (v:=undef) (x:=.tmp 27) (y:=.const (.bool true)) (z:=.tmp 35) (.free kr_) hc ((look_hit (k:=7) kr_ kr_).trans (D 7 kr_)) (look_const kr_) ((look_hit (k:=15) kr_ kr_).trans (D 15 kr_)) rfl
    ·intro vals w3 hc hS
     refine wl_frame ⟨#[.slice A0 (ofB s).length c0,undef,.slice none 0 0,.int .i64 0,.pointer (some ⟨g,0,none⟩),.int .i64 (n:Int),.slice A0 (ofB s).length c0,.int .i64 (ofB s).length,.bool false,.slice A0 (ofB s).length c0,.pointer A0,.agg (bvs s),.pointer (some ⟨g,1,none⟩),t13,t14,t15,t16,t17,t18,.int .i64 (n:Int),vals 0,vals 1,vals 2,vals 3,vals 4,vals 5,vals 6,vals 7,vals 8,vals 9,vals 10,vals 11,vals 12,vals 13,vals 14,vals 15,vals 16,undef,undef,undef,undef,undef],[]⟩ kr_ ?_
     have e16:vals 16=.bool true:=hS 16 dc_
     rw [e16]
     clear e16 hS
     go_wp2
     go_ret2
     exact ⟨_,rfl,V_nil,HB.out.trans (hc.mono HB.out.size)⟩
   ·rw [if_neg (fun h=>h.elim hA hN)] at eF
    have HB0:=Aside0.mk (decide_eq_false hA)
    have HB1:=Aside0.mk (decide_eq_false hN)
    have HN:=Aside0.mk (Nat.le_of_not_lt hN)
    obtain ⟨d,hdd⟩:∃d,d=decide (s≠form x0 ((s.drop 7).take n)):=⟨_,rfl⟩
    have HF:=Aside0.mk (hR.trans eF)
    clear hA hN eF hR
    refine wp_region_told 17 (fun w3=>Below w2.heap.size w2 w3) (ListS [.pointer (some ⟨g,0,none⟩),.int .u8 (x0.toNat:Int),.bool false,.bool false,.int .i64 (n:Int),.bool false,.bool false,.bool false,.agg (bvs s),.pointer (some ⟨g,0,none⟩),.int .u8 (x0.toNat:Int),.int .i64 (n:Int),nI_ (7+n),.slice (some ⟨g,7,none⟩) n 505,.agg (bvs (form x0 ((s.drop 7).take n))),.bool d,.bool d]) kr_ kr_ kr_ (Below.refl _ _).drew (fun _ _ _ _ _ h=>h) ?_ ?_
    ·intro i vals w1 hi hc hd
     have D:∀k,waitsAt _ i k=true→vals k=_:=fun k hw=>hd k hw
     rcases i with _|_|_|_|_|_|_|_|_|_|_|_|_|_|_|_|_|i
     rotate_right 1
     ·exact absurd hi (Nat.not_lt.2 (Nat.le_add_left 17 i))
     ·exact StepOK.atArr (T:=169) (x:=.tmp 4) (y:=.const (.int .i64 0)) (k:=0) (.free kr_) hc kr_ kr_ ((look_miss kr_ kr_).trans rfl) (look_const kr_) kr_ rfl
     ·exact StepOK.load (T:=5) (x:=.tmp 20) (.free kr_) hc rfl Tryz.underlying5 ((look_hit (k:=0) kr_ kr_).trans (D 0 kr_)) (cell_below' hc hc0) rfl
     ·exact StepOK.bin (op:=.geq) (T:=5) (T2:=5) (x:=.tmp 21) (y:=.const (.int .u8 3)) (.free kr_) hc ((look_hit (k:=1) kr_ kr_).trans (D 1 kr_)) (look_const kr_) rfl (run_geq_u8 HB0) rfl
     ·exact StepOK.move (x:=.tmp 22) (.free kr_) hc ((look_hit (k:=2) kr_ kr_).trans (D 2 kr_)) rfl
     ·exact StepOK.move (x:=.tmp 5) (.when (g:=3) (t:=23) (b:=false) kr_ kr_ kr_ kr_ (D 3 kr_)) hc ((look_miss kr_ kr_).trans rfl) rfl
     ·exact StepOK.bin (op:=.gtr) (T:=3) (T2:=3) (x:=.tmp 24) (y:=.const (.int .i64 504)) (.when (g:=3) (t:=23) (b:=false) kr_ kr_ kr_ kr_ (D 3 kr_)) hc ((look_hit (k:=4) kr_ kr_).trans (D 4 kr_)) (look_const kr_) rfl (run_gtr_i64 HB1) rfl
     ·exact StepOK.pick (b:=false) (u:=.bool true) (v:=.bool false) (x:=.tmp 23) (y:=.const (.bool true)) (z:=.tmp 25) (.free kr_) hc ((look_hit (k:=3) kr_ kr_).trans (D 3 kr_)) (look_const kr_) ((look_hit (k:=5) kr_ kr_).trans (D 5 kr_)) rfl
     ·exact StepOK.move (x:=.tmp 26) (.free kr_) hc ((look_hit (k:=6) kr_ kr_).trans (D 6 kr_)) rfl
     ·exact StepOK.loadRow (T:=169) (x:=.tmp 4) (.when (g:=7) (t:=27) (b:=false) kr_ kr_ kr_ kr_ (D 7 kr_)) hc agg50 ((look_miss kr_ kr_).trans rfl) (HB2.out.below hc) (by rw [size_bvs,size_bvs,Ha.out];rfl) rfl
     ·exact StepOK.atArr (T:=169) (x:=.tmp 4) (y:=.const (.int .i64 0)) (k:=0) (.when (g:=7) (t:=27) (b:=false) kr_ kr_ kr_ kr_ (D 7 kr_)) hc kr_ kr_ ((look_miss kr_ kr_).trans rfl) (look_const kr_) kr_ rfl
     ·exact StepOK.load (T:=5) (x:=.tmp 29) (.when (g:=7) (t:=27) (b:=false) kr_ kr_ kr_ kr_ (D 7 kr_)) hc rfl Tryz.underlying5 ((look_hit (k:=9) kr_ kr_).trans (D 9 kr_)) (cell_below' hc hc0) rfl
     ·exact StepOK.move (x:=.tmp 5) (.when (g:=7) (t:=27) (b:=false) kr_ kr_ kr_ kr_ (D 7 kr_)) hc ((look_miss kr_ kr_).trans rfl) rfl
     ·exact StepOK.bin (op:=.add) (T:=3) (T2:=3) (x:=.const (.int .i64 7)) (y:=.tmp 31) (.when (g:=7) (t:=27) (b:=false) kr_ kr_ kr_ kr_ (D 7 kr_)) hc (look_const kr_) ((look_hit (k:=11) kr_ kr_).trans (D 11 kr_)) rfl (run_add7 HN.out) rfl
     ·exact StepOK.sliceArr (T:=169) (x:=.tmp 4) (p:=.const (.int .i64 7)) (q:=.tmp 32) (lo:=7) (hi:=7+n) (.when (g:=7) (t:=27) (b:=false) kr_ kr_ kr_ kr_ (D 7 kr_)) hc kr_ kr_ ((look_miss kr_ kr_).trans rfl) (look_const kr_) ((look_hit (k:=12) kr_ kr_).trans (D 12 kr_)) (Nat.le_add_right 7 n) (by have:=HN.out;show 7+n≤512;omega) kr_ (by show Value.slice _ _ _=_;rw [Nat.add_sub_cancel_left,Addr.add_lit];rfl)
     ·refine StepOK.call (f:=131) (xs:=#[.tmp 30,.tmp 33]) (ts:=#[5,22]) (fn:=Tryz.f131) (.when (g:=7) (t:=27) (b:=false) kr_ kr_ kr_ kr_ (D 7 kr_)) kr_ kr_ rfl (look2 ((look_hit (k:=10) kr_ kr_).trans (D 10 kr_)) ((look_hit (k:=13) kr_ kr_).trans (D 13 kr_))) ?_
      have hC:=(HB2.out.below hc).C 7 n (by have:=HN.out;rw [Ha.out];omega) (by have:=HN.out;omega)
      have hl:(ofB ((s.drop 7).take n)).length=n:=by have:=HN.out;rw [len_ofB,List.length_take,List.length_drop,Ha.out];omega
      have hL:=lay_any w1 (some ⟨g,7,none⟩) 505 x0 ((s.drop 7).take n) (by rw [len_ofB] at hl;have:=HN.out;omega) hC
      rw [hl] at hL
      refine Calls.mono hL ?_
      rintro _ w3 ⟨rfl,hb3⟩
      exact ⟨_,rfl,hb3,hc.trans (hb3.mono hc.size),rfl⟩
     ·exact StepOK.bin (op:=.neq) (T:=169) (T2:=169) (x:=.tmp 28) (y:=.tmp 34) (.when (g:=7) (t:=27) (b:=false) kr_ kr_ kr_ kr_ (D 7 kr_)) hc ((look_hit (k:=8) kr_ kr_).trans (D 8 kr_)) ((look_hit (k:=14) kr_ kr_).trans (D 14 kr_)) (run_eqGuard_bytes _ kr_ _ _ _ _) (run_neq_bytes _ Tryz.underlying169 Tryz.underlying5 size5 _ _ Ha.out (length_form _ (by have:=HN.out;rw [List.length_take];omega))) (by rw [←hdd];rfl)
     ·exact StepOK.pick (b:=false) (u:=.bool true) (v:=.bool d) (x:=.tmp 27) (y:=.const (.bool true)) (z:=.tmp 35) (.free kr_) hc ((look_hit (k:=7) kr_ kr_).trans (D 7 kr_)) (look_const kr_) ((look_hit (k:=15) kr_ kr_).trans (D 15 kr_)) rfl
    ·intro vals w3 hc hS
     refine wl_frame ⟨#[.slice A0 (ofB s).length c0,undef,.slice none 0 0,.int .i64 0,.pointer (some ⟨g,0,none⟩),.int .i64 (n:Int),.slice A0 (ofB s).length c0,.int .i64 (ofB s).length,.bool false,.slice A0 (ofB s).length c0,.pointer A0,.agg (bvs s),.pointer (some ⟨g,1,none⟩),t13,t14,t15,t16,t17,t18,.int .i64 (n:Int),vals 0,vals 1,vals 2,vals 3,vals 4,vals 5,vals 6,vals 7,vals 8,vals 9,vals 10,vals 11,vals 12,vals 13,vals 14,vals 15,vals 16,undef,undef,undef,undef,undef],[]⟩ kr_ ?_
     have e16:vals 16=.bool d:=hS 16 dc_
     rw [e16]
     clear e16 hS
     have hs:=@of_decide_eq_true (s≠form x0 ((s.drop 7).take n)) inferInstance
     have hs2:=@of_decide_eq_false (s≠form x0 ((s.drop 7).take n)) inferInstance
     have hR:=HF.out
     cases d
     ·rw [if_pos (Decidable.not_not.1 (hs2 hdd.symm))] at hR
      subst hR
      have hn5:(n:Int)≤504:=by have:=HN.out;omega
      clear hs hs2 hdd HB0 HB1 HF
      go_wp2_with (refine wl_slice3 (lo:=7) (n:=n) rfl rfl Tryz.underlying169 size5 rfl rfl rfl rfl om_ (by have:=HN.out;show 7+n≤512;omega) ?_;intro f hf;have HFo:=Aside0.mk hf;clear hf)
      go_ret2
      refine ⟨_,rfl, ?_,HB.out.trans (hc.mono HB.out.size)⟩
      refine V_of_blk (HB2.out.below hc) hg f n n ?_ (by have:=HN.out;omega) (Nat.le_refl _) ?_
      ·have:=HN.out;have:=HFo.out;rw [Ha.out];omega
      ·rcases HFo.out with ⟨h0,hf⟩|hf
       ·rw [h0,hf];rfl
       ·rw [hf]
     ·rw [if_neg (hs hdd.symm)] at hR
      subst hR
      clear hs hs2 hdd
      go_wp2
      go_ret2
      exact ⟨_,rfl,V_nil,HB.out.trans (hc.mono HB.out.size)⟩
 ·have e:openF s=([],2):=by simp [openF,ha]
  rw [e]
  have ha':((((ofB s).length:Nat):Int) !=512)=true:=by rw [len_ofB,bne_iff_ne];omega
  clear ha e
  go_enter Tryz.func111,Tryz.ntmps111
  go_wp2
  go_ret2
  exact ⟨_,rfl,V_nil,Below.refl _ _⟩
end
def leN:List UInt8→Nat
 |[]=>0
 |x::l=>x.toNat+256*leN l
def readF (s:List UInt8):Nat×List UInt8:=
 if (openF s).2≠0∨(openF s).1.length<8 then (0,[]) else
 if leN ((openF s).1.take 8)=0∨9223372036854775807<leN ((openF s).1.take 8) then (0,[]) else (leN ((openF s).1.take 8),(openF s).1.drop 8)
def zAnchor:Array Value:=#[.int .i64 0,.slice none 0 0]
theorem aggAnchor:Agg Tryz.prog 140 zAnchor:=⟨⟨_,Tryz.underlying140,rfl⟩,by kernel_rfl,by kernel_rfl⟩
theorem leN_lt:∀l:List UInt8,leN l<256^l.length
 |[]=>by simp [leN]
 |x::l=>by
  have:=leN_lt l
  have hx:=x.toNat_lt
  simp only [leN,List.length_cons,Nat.pow_succ]
  omega
theorem leN_drop (l:List UInt8)(j:Nat)(h:j<l.length):leN (l.drop j)=(l.getD j 0).toNat+256*leN (l.drop (j+1)):=by
 rw [List.drop_eq_getElem_cons h,List.getD_eq_getElem?_getD,List.getElem?_eq_getElem h];rfl
theorem bits_or_u64 (n:Nat)(x:UInt8)(hn:n<72057594037927936):bits .or .u64 (IntKind.u64.wrap ((n:Int)*256)) (IntKind.u64.wrap (x.toNat:Int))=((x.toNat+256*n:Nat):Int):=by
 have hx:=x.toNat_lt
 have e1:IntKind.u64.wrap (x.toNat:Int)=((x.toNat:Nat):Int):=by rw [IntKind.wrap_u64];omega
 have e2:IntKind.u64.wrap ((n:Int)*256)=((n*256:Nat):Int):=by rw [IntKind.wrap_u64];omega
 rw [e1,e2]
 show IntKind.u64.wrap ((BitVec.ofInt 64 ((n*256:Nat):Int)|||BitVec.ofInt 64 ((x.toNat:Nat):Int)).toNat:Int)=_
 rw [BitVec.toNat_or]
 have f1:(BitVec.ofInt 64 ((x.toNat:Nat):Int)).toNat=x.toNat:=by simp
 have f2:(BitVec.ofInt 64 ((n*256:Nat):Int)).toNat=n*256:=by
  rw [BitVec.toNat_ofInt];omega
 rw [f1,f2,Nat.mul_comm]
 have:=Nat.two_pow_add_eq_or_of_lt (i:=8) hx n
 rw [show (256:Nat)=2^8 from rfl,←this,IntKind.wrap_u64]
 omega
def RetAnchor (n:Int)(d:List Int)(w:World)(e:Ending)(w':World):Prop:=
 ∃v:Value,e=.returned (.agg #[.int .i64 n,v])∧Kd.V (Kd.int .u8) 5 w' w.heap.size (fun k_=>(w.heap.size≤k_)) v d∧Below w.heap.size w w'
theorem V_slice {w:World}{base e:Nat}{ok:Nat→Prop}{v:Value}{l:List Int}(h:Kd.V (Kd.int .u8) e w base ok v l):∃A c,v=.slice A l.length c∧l.length≤c∧Kd.F (Kd.int .u8) w ok A l.length l:=h
theorem F_now {w:World}{ok:Nat→Prop}{A:Option Addr}{l:List Int}(h:Kd.F (Kd.int .u8) w ok A l.length l):Kd.C (Kd.int .u8) w A l.length l:=h w (fun _ _ _=>rfl)
theorem addr_add_add (a:Addr)(i j:Nat):(a.add i).add j=a.add (i+j):=by
 unfold Addr.add
 by_cases h0:i=0
 ·subst h0;simp
 ·by_cases h1:j=0
  ·subst h1;simp
  ·have h2:¬(i+j=0):=by omega
   simp only [h0,h1,h2,if_false,Nat.add_assoc]
theorem C_drop {w:World}{ad:Addr}{l:List Int}(h:Kd.C (Kd.int .u8) w (some ad) l.length l)(k:Nat)(hk:k≤l.length):Kd.C (Kd.int .u8) w (some (ad.add k)) (l.drop k).length (l.drop k):=by
 obtain ⟨_,h2,h3⟩:=h
 refine ⟨rfl,by rw [List.length_drop];omega,fun hp=> ?_⟩
 obtain ⟨ad',e,hc⟩:=h3 (by rw [List.length_drop] at hp;omega)
 cases e
 refine ⟨_,rfl,fun j p hj=> ?_⟩
 rw [List.getElem?_drop] at hj
 obtain ⟨c,hc1,hc2,hc3⟩:=hc _ p hj
 refine ⟨c,hc1,hc2,fun i u hu=> ?_⟩
 have:=hc3 i u hu
 have e2:(ad.add k).add (j*(Kd.int .u8).sz+i)=ad.add ((k+j)*(Kd.int .u8).sz+i):=by
  show (ad.add k).add (j*1+i)=ad.add ((k+j)*1+i)
  rw [addr_add_add];congr 1;omega
 rw [e2];exact this
theorem V_drop {w:World}{base e:Nat}{ok:Nat→Prop}{ad:Addr}{c:Nat}{b:List UInt8}(h:Kd.F (Kd.int .u8) w ok (some ad) (ofB b).length (ofB b))(hc:(ofB b).length≤c)(k:Nat)(hk:k≤b.length)(A':Option Addr)(hA:A'=some (ad.add k)∨b.length=k):Kd.V (Kd.int .u8) e w base ok (.slice A' (b.length-k) (c-k)) (ofB (b.drop k)):=by
 have hl:(ofB (b.drop k)).length=b.length-k:=by rw [len_ofB,List.length_drop]
 rw [len_ofB] at hc
 refine ⟨A',c-k,by rw [hl],by rw [hl];omega,fun W' hW=> ?_⟩
 rcases hA with hA|hA
 ·subst hA
  have h1:=C_drop (h W' hW) k (by rw [len_ofB];exact hk)
  have e2:(ofB b).drop k=ofB (b.drop k):=by unfold ofB;rw [List.map_drop]
  rwa [e2] at h1
 ·have e0:b.drop k=[]:=List.drop_of_length_le om_
  rw [e0]
  exact ⟨rfl,Nat.zero_le _,fun h0=>absurd h0 (Nat.lt_irrefl 0)⟩
theorem V_move {w w':World}{base base' e e':Nat}{ok ok':Nat→Prop}{v:Value}{l:List Int}(h:Kd.V (Kd.int .u8) e w base ok v l)(hm:∀k,ok k→k<w.heap.size→ok' k∧k<w'.heap.size∧w'.heap[k]?=w.heap[k]?):Kd.V (Kd.int .u8) e' w' base' ok' v l:=by
 obtain ⟨A,c,h1,h2,h3⟩:=h
 refine ⟨A,c,h1,h2,fun W' hW=>h3 W' (fun k hk hlt=> ?_)⟩
 obtain ⟨a,b,c⟩:=hm k hk hlt
 exact (hW k a b).trans c
set_option maxHeartbeats 1000000 in
set_option maxRecDepth 100000 in
theorem read_any (w:World)(A0:Option Addr)(c0:Nat)(s:List UInt8)(hr0:Kd.C (Kd.int .u8) w A0 (ofB s).length (ofB s)):
  Calls Tryz.prog 133 #[.slice A0 (ofB s).length c0] w (RetAnchor (readF s).1 (ofB (readF s).2) w):=by
 have HR0:=Aside0.mk hr0
 clear hr0
 obtain ⟨R,hR⟩:∃R,R=readF s:=⟨_,rfl⟩
 rw [←hR]
 obtain ⟨O,hO⟩:∃O,O=openF s:=⟨_,rfl⟩
 have hR2:R=if O.2≠0∨O.1.length<8 then (0,[]) else if leN (O.1.take 8)=0∨9223372036854775807<leN (O.1.take 8) then (0,[]) else (leN (O.1.take 8),O.1.drop 8):=by rw [hR,hO];rfl
 have HOpen:Aside0 (∀(w:World) (A0:Option Addr) (c0:Nat),Kd.C (Kd.int .u8) w A0 (ofB s).length (ofB s)→Calls Tryz.prog 111 #[.slice A0 (ofB s).length c0] w (Ret2 (ofB O.1) O.2 w)):=⟨fun w A0 c0 h=>by rw [hO];exact open_any w A0 c0 s h⟩
 clear hR hO
 obtain ⟨b,en⟩:=O
 by_cases he:en≠0
 ·rw [if_pos (Or.inl he)] at hR2
  subst hR2
  have he':((en:Int) !=0)=true:=by rw [bne_iff_ne];omega
  clear he
  go_enter Tryz.func133,Tryz.ntmps133
  go_wp2_with (first
   |(refine wl_alloc rfl rfl aggAnchor ?_;intro g w1 hB hg hw;have HB:=Aside0.mk hB;have HW:=Aside0.mk hw;clear hB hw)
   |(go_at_call 111;refine (HOpen.out _ _ _ (Kd.C_below HR0.out HW.out)).mono ?_;rintro e w2 ⟨v,rfl,hv,hb⟩;have HV:=Aside0.mk hv;have HB2:=Aside0.mk hb;clear hv hb)
   |(refine wl_store_row rfl rfl aggAnchor rfl rfl (HB.out.below HB2.out) rfl rfl dc_ ?_;intro w3 hB3 hO3;have HB3:=Aside0.mk hB3;have HO3:=Aside0.mk hO3;clear hB3 hO3))
  exact bodyPost_ret (v:=.agg #[.int .i64 0,.slice none 0 0]) (results_cell_row (P:=Tryz.prog) rfl _ _ g 140 _ (0,0) _ rfl HB3.out.out Tryz.underlying140 rfl kr_) rfl ⟨_,rfl,V_nil,(HW.out.trans (HB2.out.mono HW.out.size)).trans (HO3.out.below hg)⟩
 ·have he0:en=0:=Decidable.not_not.1 he
  subst he0
  by_cases hl:b.length<8
  ·rw [if_pos (Or.inr hl)] at hR2
   subst hR2
   have hl':((ofB b).length:Int)<8:=by rw [len_ofB];omega
   clear he hl
   go_enter Tryz.func133,Tryz.ntmps133
   go_wp2_with (first
    |(refine wl_alloc rfl rfl aggAnchor ?_;intro g w1 hB hg hw;have HB:=Aside0.mk hB;have HW:=Aside0.mk hw;clear hB hw)
    |(go_at_call 111;refine (HOpen.out _ _ _ (Kd.C_below HR0.out HW.out)).mono ?_;rintro e w2 ⟨v,rfl,hv,hb⟩;obtain ⟨A1,c1,rfl,hle,hF⟩:=V_slice hv;have HV:=Aside0.mk hF;have HB2:=Aside0.mk hb;have HLE:=Aside0.mk hle;clear hv hb hF hle)
    |(refine wl_store_row rfl rfl aggAnchor rfl rfl (HB.out.below HB2.out) rfl rfl dc_ ?_;intro w3 hB3 hO3;have HB3:=Aside0.mk hB3;have HO3:=Aside0.mk hO3;clear hB3 hO3))
   exact bodyPost_ret (v:=.agg #[.int .i64 0,.slice none 0 0]) (results_cell_row (P:=Tryz.prog) rfl _ _ g 140 _ (0,0) _ rfl HB3.out.out Tryz.underlying140 rfl kr_) rfl ⟨_,rfl,V_nil,(HW.out.trans (HB2.out.mono HW.out.size)).trans (HO3.out.below hg)⟩
  ·rw [if_neg (fun h=>h.elim he hl)] at hR2
   have hl':¬((ofB b).length:Int)<8:=by rw [len_ofB];omega
   have HR2:=Aside0.mk hR2
   have HL:=Aside0.mk hl
   clear he hl hR2
   go_enter Tryz.func133,Tryz.ntmps133
   go_wp2_with (first
    |(refine wl_alloc rfl rfl aggAnchor ?_;intro g w1 hB hg hw;have HB:=Aside0.mk hB;have HW:=Aside0.mk hw;clear hB hw)
    |(go_at_call 111;refine (HOpen.out _ _ _ (Kd.C_below HR0.out HW.out)).mono ?_;rintro e w2 ⟨v,rfl,hv,hb⟩;obtain ⟨A1,c1,rfl,hle,hF⟩:=V_slice hv;have HV:=Aside0.mk hF;have HB2:=Aside0.mk hb;have HLE:=Aside0.mk hle;clear hv hb hF hle)
    |(refine wl_store_row rfl rfl aggAnchor rfl rfl (HB.out.below HB2.out) rfl rfl dc_ ?_;intro w3 hB3 hO3;have HB3:=Aside0.mk hB3;have HO3:=Aside0.mk hO3;clear hB3 hO3))
   obtain ⟨N,hN⟩:∃N,N=leN (b.take 8):=⟨_,rfl⟩
   rw [←hN] at HR2
   have HN:=Aside0.mk hN
   clear hN
   go_loop [5,6] (fun v5 v6=>∃k n:Nat,k≤8∧v6=.int .i64 ((k:Int)-1)∧v5=.int .u64 (n:Int)∧n=leN ((b.take 8).drop k)) (fun v5 v6=>(intOf v6+1).toNat)
   case atStart=>exact ⟨8,0,by omega,rfl,rfl,by rw [List.drop_of_length_le (by rw [List.length_take];omega)];rfl⟩
   case round=>
    obtain ⟨k,n,hk,rfl,rfl,hn⟩:=hrel
    have Hn:=Aside0.mk hn
    clear hn
    rcases k with _|j
    ·have hnN:n=N:=by rw [Hn.out,HN.out];rfl
     subst hnN
     have em:(((0:Nat):Int)-1)= -1:=rfl
     rw [em]
     clear em Hn
     by_cases hz:n=0
     ·have hRz:=HR2.out
      rw [if_pos (Or.inl hz)] at hRz
      subst hRz
      have hzb:((n:Int)==0)=true:=by rw [beq_iff_eq];omega
      clear hz
      go_wp2_with (refine wl_store_row rfl rfl aggAnchor rfl rfl (HB.out.below HB2.out) rfl rfl dc_ ?_;intro w3 hB3 hO3;have HB3:=Aside0.mk hB3;have HO3:=Aside0.mk hO3;clear hB3 hO3)
      exact bodyPost_ret (v:=.agg #[.int .i64 0,.slice none 0 0]) (results_cell_row (P:=Tryz.prog) rfl _ _ g 140 _ (0,0) _ rfl HB3.out.out Tryz.underlying140 rfl kr_) rfl ⟨_,rfl,V_nil,(HW.out.trans (HB2.out.mono HW.out.size)).trans (HO3.out.below hg)⟩
     ·by_cases hm:9223372036854775807<n
      ·have hRz:=HR2.out
       rw [if_pos (Or.inr hm)] at hRz
       subst hRz
       have hzb:((n:Int)==0)=false:=by rw [beq_eq_false_iff_ne];omega
       have hmb:decide ((9223372036854775807:Int)<(n:Int))=true:=decide_eq_true om_
       clear hz hm
       go_wp2_with (refine wl_store_row rfl rfl aggAnchor rfl rfl (HB.out.below HB2.out) rfl rfl dc_ ?_;intro w3 hB3 hO3;have HB3:=Aside0.mk hB3;have HO3:=Aside0.mk hO3;clear hB3 hO3)
       exact bodyPost_ret (v:=.agg #[.int .i64 0,.slice none 0 0]) (results_cell_row (P:=Tryz.prog) rfl _ _ g 140 _ (0,0) _ rfl HB3.out.out Tryz.underlying140 rfl kr_) rfl ⟨_,rfl,V_nil,(HW.out.trans (HB2.out.mono HW.out.size)).trans (HO3.out.below hg)⟩
      ·have hRz:=HR2.out
       rw [if_neg (fun h=>h.elim hz hm)] at hRz
       subst hRz
       have hzb:((n:Int)==0)=false:=by rw [beq_eq_false_iff_ne];omega
       have hmb:decide ((9223372036854775807:Int)<(n:Int))=false:=decide_eq_false om_
       have Hm:=Aside0.mk hm
       clear hz hm
       have hw64:wrap64 (n:Int)=(n:Int):=by have:=Hm.out;unfold wrap64;omega
       obtain ⟨ad,e,_⟩:=C_byte (F_now HV.out) (Below.refl _ _) 0 (by have:=HL.out;rw [len_ofB];omega)
       subst e
       by_cases hc8:c1=8
       ·have hb8:b.length=8:=by have:=HLE.out;rw [len_ofB] at this;have:=HL.out;omega
        go_wp2_with (refine wl_store_row rfl rfl aggAnchor rfl rfl (HB.out.below HB2.out) rfl rfl (by intro v hv;simp at hv;rcases hv with rfl|rfl<;>rfl) ?_;intro w3 hB3 hO3;have HB3:=Aside0.mk hB3;have HO3:=Aside0.mk hO3;clear hB3 hO3)
        subst hc8
        have hV:=V_drop (e:=5) (base:=w1.heap.size) HV.out HLE.out 8 (by have:=HL.out;omega) (some ad) (Or.inr hb8)
        rw [←len_ofB b] at hV
        exact bodyPost_ret (v:=.agg #[.int .i64 (n:Int),.slice (some ad) ((ofB b).length-8) (0)]) (results_cell_row (P:=Tryz.prog) rfl _ _ g 140 _ (0,0) _ rfl HB3.out.out Tryz.underlying140 rfl kr_) rfl ⟨_,rfl,V_move hV (fun k hk hlt=>⟨Nat.le_trans HW.out.size hk,by rw [HO3.out.size];exact hlt,HO3.out.block k (by have:=HB.out.lt;omega)⟩),(HW.out.trans (HB2.out.mono HW.out.size)).trans (HO3.out.below hg)⟩
       ·go_wp2_with (refine wl_store_row rfl rfl aggAnchor rfl rfl (HB.out.below HB2.out) rfl rfl (by intro v hv;simp at hv;rcases hv with rfl|rfl<;>rfl) ?_;intro w3 hB3 hO3;have HB3:=Aside0.mk hB3;have HO3:=Aside0.mk hO3;clear hB3 hO3)
        have hV:=V_drop (e:=5) (base:=w1.heap.size) HV.out HLE.out 8 (by have:=HL.out;omega) (some (ad.add 8)) (Or.inl rfl)
        rw [←len_ofB b] at hV
        exact bodyPost_ret (v:=.agg #[.int .i64 (n:Int),.slice (some (ad.add 8)) ((ofB b).length-8) (c1-8)]) (results_cell_row (P:=Tryz.prog) rfl _ _ g 140 _ (0,0) _ rfl HB3.out.out Tryz.underlying140 rfl kr_) rfl ⟨_,rfl,V_move hV (fun k hk hlt=>⟨Nat.le_trans HW.out.size hk,by rw [HO3.out.size];exact hlt,HO3.out.block k (by have:=HB.out.lt;omega)⟩),(HW.out.trans (HB2.out.mono HW.out.size)).trans (HO3.out.below hg)⟩
    ·have ej:(((j+1:Nat):Int)-1)=(j:Int):=by omega
     rw [ej]
     clear ej
     have hlen:=HL.out
     obtain ⟨ad,e,hx⟩:=C_byte (F_now HV.out) (Below.refl _ _) j (by rw [len_ofB];omega)
     subst e
     have hjl:(j:Int)<((ofB b).length:Int):=by rw [len_ofB];omega
     clear hlen hl'
     go_wp2
     have hd:=leN_drop (b.take 8) j (by rw [List.length_take];have:=HL.out;omega)
     have hlt:=leN_lt ((b.take 8).drop (j+1))
     rw [←Hn.out] at hd hlt
     have hp:256^((b.take 8).drop (j+1)).length≤256^7:=Nat.pow_le_pow_right dc_ (by rw [List.length_drop,List.length_take];omega)
     have hg2:(b.take 8).getD j 0=b.getD j 0:=by
      rw [List.getD_eq_getElem?_getD,List.getD_eq_getElem?_getD,List.getElem?_take_of_lt om_]
     rw [hg2] at hd
     refine ⟨⟨j,(b.getD j 0).toNat+256*n,by omega,rfl, ?_,hd.symm⟩,by simp only [intOf];omega⟩
     have h7:(256:Nat)^7=72057594037927936:=by decide
     have:=bits_or_u64 n (b.getD j 0) om_
     rw [List.getD_eq_getElem?_getD] at this ⊢
     rw [this]
def slotF (m n:Nat):Int:=if m=0∧n=0 then-1 else if m<n then 1 else 0
def zPair:Array Value:=#[.int .i64 0,.slice none 0 0,.int .i64 0,.slice none 0 0]
theorem aggPair:Agg Tryz.prog 141 zPair:=⟨⟨_,Tryz.underlying141,rfl⟩,by kernel_rfl,by kernel_rfl⟩
def isV (w:World)(w0:World)(v:Value)(l:List UInt8):Prop:=Kd.V (Kd.int .u8) 5 w w0.heap.size (fun k_=>(w0.heap.size≤k_)) v (ofB l)
def RetPair (l r:List UInt8)(w:World)(e:Ending)(w':World):Prop:=
 if l.length=512∧r.length=512 then
  ∃v0 v1:Value,e=.returned (.tuple #[.agg #[.int .i64 (readF l).1,v0,.int .i64 (readF r).1,v1],.int .i64 (slotF (readF l).1 (readF r).1),.int .i64 0])∧isV w' w v0 (readF l).2∧isV w' w v1 (readF r).2∧Below w.heap.size w w'
 else e=.returned (.tuple #[.agg zPair,.int .i64 (-1),.int .i64 2])∧Below w.heap.size w w'
theorem results_cell3 {P:Program}{fn:Func}{p:Tmp}{ty:TypeId}{q r:Tmp}(h:fn.results=#[.cell p ty,.tmp q,.tmp r])(tmps:Array Value)(w:World)(g:Nat)(t:TypeId)(cs:Array Value)(fr:Nat×Nat)(d:TypeDesc)
  (hp:tmps.getD p undef=.pointer (some ⟨g,0,none⟩)) (hg:w.heap[g]?=some (.cells cs t fr))
  (hu:P.underlying ty=some d) (hd:(match d with|.struct _|.array _ _=>true|_=>false)=true) (hi:(P.info? ty).map (·.size)=some cs.size) {x y:Value} (hx:tmps.getD q undef=x) (hy:tmps.getD r undef=y):
  (results fn tmps).run P w=.ok (.tuple #[.agg cs,x,y]) w:=by
 have hp':tmps[p]?.getD undef=.pointer (some ⟨g,0,none⟩):=by simpa using hp
 have hx':tmps[q]?.getD undef=x:=by simpa using hx
 have hy':tmps[r]?.getD undef=y:=by simpa using hy
 simp [results,h,hp',hx',hy',asAddr,run_loadVar_row w g t ty cs fr d hg hu hd hi]
theorem pair_end {l r:List UInt8}{w w1 w2 w3 w4 w5:World}{g:Nat}{v0 v1:Value}{m n:Nat}{sl:Int}{t:TypeId}{z:Array Value}(hl:l.length=512∧r.length=512)(hm:m=(readF l).1)(hn:n=(readF r).1)(hs:slotF m n=sl)
  (hg:w.heap.size≤g) (hB:Blk w1 g z t) (hW:Below w.heap.size w w1) (hB2:Below w1.heap.size w1 w2) (hB3:Below w2.heap.size w2 w3) (hO4:Only g w3 w4) (hO5:Only g w4 w5)
  (hv0:Kd.V (Kd.int .u8) 5 w2 w1.heap.size (fun k_=>w1.heap.size≤k_) v0 (ofB (readF l).2)) (hv1:Kd.V (Kd.int .u8) 5 w3 w2.heap.size (fun k_=>w2.heap.size≤k_) v1 (ofB (readF r).2)):
  RetPair l r w (.returned (.tuple #[.agg #[.int .i64 (m:Int),v0,.int .i64 (n:Int),v1],.int .i64 sl,.int .i64 0])) w5:=by
 have hO:=hO4.trans hO5
 have hgl:=hB.lt
 unfold RetPair
 rw [if_pos hl]
 refine ⟨v0,v1,by rw [←hm,←hn,hs], ?_, ?_, ?_⟩
 ·refine V_move hv0 (fun k hk hlt=>⟨Nat.le_trans hW.size hk, ?_, ?_⟩)
  ·rw [hO.size];exact Nat.lt_of_lt_of_le hlt hB3.size
  ·rw [hO.block k om_];exact hB3.block k hlt
 ·refine V_move hv1 (fun k hk hlt=>⟨Nat.le_trans (Nat.le_trans hW.size hB2.size) hk, ?_, ?_⟩)
  ·rw [hO.size];exact hlt
  ·have:=hB2.size
   exact hO.block k om_
 ·have b2:=hW.trans (hB2.mono hW.size)
  have b3:=b2.trans (hB3.mono b2.size)
  exact b3.trans (hO.below hg)
set_option maxHeartbeats 1000000 in
set_option maxRecDepth 100000 in
theorem pair_any (w:World)(A0:Option Addr)(c0:Nat)(l:List UInt8)(A1:Option Addr)(c1:Nat)(r:List UInt8)(hr0:Kd.C (Kd.int .u8) w A0 (ofB l).length (ofB l))(hr1:Kd.C (Kd.int .u8) w A1 (ofB r).length (ofB r)):
  Calls Tryz.prog 110 #[.slice A0 (ofB l).length c0,.slice A1 (ofB r).length c1] w (RetPair l r w):=by
 have HR0:=Aside0.mk hr0
 have HR1:=Aside0.mk hr1
 clear hr0 hr1
 by_cases h:l.length=512∧r.length=512
 ·obtain ⟨RP,hRP⟩:∃RP,RP=RetPair l r w:=⟨_,rfl⟩
  rw [←hRP]
  have HRP:=Aside0.mk hRP
  clear hRP
  have h0:((((ofB l).length:Nat):Int) !=512)=false:=by rw [len_ofB,h.1];rfl
  have h1:((((ofB r).length:Nat):Int) !=512)=false:=by rw [len_ofB,h.2];rfl
  have HL:=Aside0.mk h
  obtain ⟨m,hm⟩:∃m,m=(readF l).1:=⟨_,rfl⟩
  obtain ⟨n,hn⟩:∃n,n=(readF r).1:=⟨_,rfl⟩
  have Hm:=Aside0.mk hm
  have Hn:=Aside0.mk hn
  clear h hm hn
  have tok1:True:=trivial
  have tok2:True:=trivial
  by_cases hmz:m=0
  ·have b0:((m:Int)==0)=true:=by rw [beq_iff_eq];omega
   by_cases hnz:n=0
   ·have b1:((n:Int)==0)=true:=by rw [beq_iff_eq];omega
    have HS:Aside0 (slotF m n= -1):=⟨by simp [slotF,hmz,hnz]⟩
    clear hmz hnz
    go_enter Tryz.func110,Tryz.ntmps110
    go_wp2_with (first
     |(refine wl_alloc rfl rfl aggPair ?_;intro g w1 hB hg hw;have HB:=Aside0.mk hB;have HW:=Aside0.mk hw;clear hB hw)
     |(have _t:=tok1;go_at_call 133;refine (read_any _ _ _ _ (Kd.C_below HR0.out HW.out)).mono ?_;rintro e w2 ⟨v0,rfl,hv,hb⟩;rw [←Hm.out];have HV0:=Aside0.mk hv;obtain ⟨A2,c2,rfl,_,_⟩:=V_slice hv;have HB2:=Aside0.mk hb;clear hv hb tok1)
     |(go_at_call 133;refine (read_any _ _ _ _ (Kd.C_below HR1.out (HW.out.trans (HB2.out.mono HW.out.size)))).mono ?_;rintro e w3 ⟨v1,rfl,hv,hb⟩;rw [←Hn.out];have HV1:=Aside0.mk hv;obtain ⟨A3,c3,rfl,_,_⟩:=V_slice hv;have HB3:=Aside0.mk hb;clear hv hb)
     |(have _t:=tok2;refine wl_store_row rfl rfl aggPair rfl rfl ((HB.out.below HB2.out).below HB3.out) rfl rfl (by intro v hv;simp at hv;rcases hv with rfl|rfl|rfl|rfl<;>rfl) ?_;intro w4 hB4 hO4;have HB4:=Aside0.mk hB4;have HO4:=Aside0.mk hO4;have hc0:=hB4.cell 0;have hc2:=hB4.cell 2;simp at hc0 hc2;clear hB4 hO4 tok2)
     |(refine wl_load_row rfl rfl aggPair rfl HB4.out rfl ?_)
     |(refine wl_store_row rfl rfl aggPair rfl rfl HB4.out rfl rfl (by intro v hv;simp at hv;rcases hv with rfl|rfl|rfl|rfl<;>rfl) ?_;intro w5 hB5 hO5;have HB5:=Aside0.mk hB5;have HO5:=Aside0.mk hO5;clear hB5 hO5))
    refine bodyPost_ret (v:=.tuple #[.agg #[.int .i64 (m:Int),.slice A2 (ofB (readF l).2).length c2,.int .i64 (n:Int),.slice A3 (ofB (readF r).2).length c3],.int .i64 (-1),.int .i64 0]) (results_cell3 (P:=Tryz.prog) rfl _ _ g 141 _ (0,0) _ rfl HB5.out.out Tryz.underlying141 rfl kr_ rfl rfl) rfl ?_
    rw [HRP.out]
    exact pair_end HL.out Hm.out Hn.out HS.out hg HB.out HW.out HB2.out HB3.out HO4.out HO5.out HV0.out HV1.out
   ·have b1:((n:Int)==0)=false:=by rw [beq_eq_false_iff_ne];omega
    have hmn:m<n:=by omega
    have HS:Aside0 (slotF m n=1):=⟨by simp [slotF,hmz,hnz]⟩
    clear hmz hnz
    go_enter Tryz.func110,Tryz.ntmps110
    go_wp2_with (first
     |(refine wl_alloc rfl rfl aggPair ?_;intro g w1 hB hg hw;have HB:=Aside0.mk hB;have HW:=Aside0.mk hw;clear hB hw)
     |(have _t:=tok1;go_at_call 133;refine (read_any _ _ _ _ (Kd.C_below HR0.out HW.out)).mono ?_;rintro e w2 ⟨v0,rfl,hv,hb⟩;rw [←Hm.out];have HV0:=Aside0.mk hv;obtain ⟨A2,c2,rfl,_,_⟩:=V_slice hv;have HB2:=Aside0.mk hb;clear hv hb tok1)
     |(go_at_call 133;refine (read_any _ _ _ _ (Kd.C_below HR1.out (HW.out.trans (HB2.out.mono HW.out.size)))).mono ?_;rintro e w3 ⟨v1,rfl,hv,hb⟩;rw [←Hn.out];have HV1:=Aside0.mk hv;obtain ⟨A3,c3,rfl,_,_⟩:=V_slice hv;have HB3:=Aside0.mk hb;clear hv hb)
     |(have _t:=tok2;refine wl_store_row rfl rfl aggPair rfl rfl ((HB.out.below HB2.out).below HB3.out) rfl rfl (by intro v hv;simp at hv;rcases hv with rfl|rfl|rfl|rfl<;>rfl) ?_;intro w4 hB4 hO4;have HB4:=Aside0.mk hB4;have HO4:=Aside0.mk hO4;have hc0:=hB4.cell 0;have hc2:=hB4.cell 2;simp at hc0 hc2;clear hB4 hO4 tok2)
     |(refine wl_load_row rfl rfl aggPair rfl HB4.out rfl ?_)
     |(refine wl_store_row rfl rfl aggPair rfl rfl HB4.out rfl rfl (by intro v hv;simp at hv;rcases hv with rfl|rfl|rfl|rfl<;>rfl) ?_;intro w5 hB5 hO5;have HB5:=Aside0.mk hB5;have HO5:=Aside0.mk hO5;clear hB5 hO5))
    refine bodyPost_ret (v:=.tuple #[.agg #[.int .i64 (m:Int),.slice A2 (ofB (readF l).2).length c2,.int .i64 (n:Int),.slice A3 (ofB (readF r).2).length c3],.int .i64 1,.int .i64 0]) (results_cell3 (P:=Tryz.prog) rfl _ _ g 141 _ (0,0) _ rfl HB5.out.out Tryz.underlying141 rfl kr_ rfl rfl) rfl ?_
    rw [HRP.out]
    exact pair_end HL.out Hm.out Hn.out HS.out hg HB.out HW.out HB2.out HB3.out HO4.out HO5.out HV0.out HV1.out
  ·have b0:((m:Int)==0)=false:=by rw [beq_eq_false_iff_ne];omega
   by_cases hlt:m<n
   ·have HS:Aside0 (slotF m n=1):=⟨by simp [slotF,hmz,hlt]⟩
    clear hmz
    go_enter Tryz.func110,Tryz.ntmps110
    go_wp2_with (first
     |(refine wl_alloc rfl rfl aggPair ?_;intro g w1 hB hg hw;have HB:=Aside0.mk hB;have HW:=Aside0.mk hw;clear hB hw)
     |(have _t:=tok1;go_at_call 133;refine (read_any _ _ _ _ (Kd.C_below HR0.out HW.out)).mono ?_;rintro e w2 ⟨v0,rfl,hv,hb⟩;rw [←Hm.out];have HV0:=Aside0.mk hv;obtain ⟨A2,c2,rfl,_,_⟩:=V_slice hv;have HB2:=Aside0.mk hb;clear hv hb tok1)
     |(go_at_call 133;refine (read_any _ _ _ _ (Kd.C_below HR1.out (HW.out.trans (HB2.out.mono HW.out.size)))).mono ?_;rintro e w3 ⟨v1,rfl,hv,hb⟩;rw [←Hn.out];have HV1:=Aside0.mk hv;obtain ⟨A3,c3,rfl,_,_⟩:=V_slice hv;have HB3:=Aside0.mk hb;clear hv hb)
     |(have _t:=tok2;refine wl_store_row rfl rfl aggPair rfl rfl ((HB.out.below HB2.out).below HB3.out) rfl rfl (by intro v hv;simp at hv;rcases hv with rfl|rfl|rfl|rfl<;>rfl) ?_;intro w4 hB4 hO4;have HB4:=Aside0.mk hB4;have HO4:=Aside0.mk hO4;have hc0:=hB4.cell 0;have hc2:=hB4.cell 2;simp at hc0 hc2;clear hB4 hO4 tok2)
     |(refine wl_load_row rfl rfl aggPair rfl HB4.out rfl ?_)
     |(refine wl_store_row rfl rfl aggPair rfl rfl HB4.out rfl rfl (by intro v hv;simp at hv;rcases hv with rfl|rfl|rfl|rfl<;>rfl) ?_;intro w5 hB5 hO5;have HB5:=Aside0.mk hB5;have HO5:=Aside0.mk hO5;clear hB5 hO5))
    refine bodyPost_ret (v:=.tuple #[.agg #[.int .i64 (m:Int),.slice A2 (ofB (readF l).2).length c2,.int .i64 (n:Int),.slice A3 (ofB (readF r).2).length c3],.int .i64 1,.int .i64 0]) (results_cell3 (P:=Tryz.prog) rfl _ _ g 141 _ (0,0) _ rfl HB5.out.out Tryz.underlying141 rfl kr_ rfl rfl) rfl ?_
    rw [HRP.out]
    exact pair_end HL.out Hm.out Hn.out HS.out hg HB.out HW.out HB2.out HB3.out HO4.out HO5.out HV0.out HV1.out
   ·have HS:Aside0 (slotF m n=0):=⟨by simp [slotF,hmz,hlt]⟩
    clear hmz
    go_enter Tryz.func110,Tryz.ntmps110
    go_wp2_with (first
     |(refine wl_alloc rfl rfl aggPair ?_;intro g w1 hB hg hw;have HB:=Aside0.mk hB;have HW:=Aside0.mk hw;clear hB hw)
     |(have _t:=tok1;go_at_call 133;refine (read_any _ _ _ _ (Kd.C_below HR0.out HW.out)).mono ?_;rintro e w2 ⟨v0,rfl,hv,hb⟩;rw [←Hm.out];have HV0:=Aside0.mk hv;obtain ⟨A2,c2,rfl,_,_⟩:=V_slice hv;have HB2:=Aside0.mk hb;clear hv hb tok1)
     |(go_at_call 133;refine (read_any _ _ _ _ (Kd.C_below HR1.out (HW.out.trans (HB2.out.mono HW.out.size)))).mono ?_;rintro e w3 ⟨v1,rfl,hv,hb⟩;rw [←Hn.out];have HV1:=Aside0.mk hv;obtain ⟨A3,c3,rfl,_,_⟩:=V_slice hv;have HB3:=Aside0.mk hb;clear hv hb)
     |(have _t:=tok2;refine wl_store_row rfl rfl aggPair rfl rfl ((HB.out.below HB2.out).below HB3.out) rfl rfl (by intro v hv;simp at hv;rcases hv with rfl|rfl|rfl|rfl<;>rfl) ?_;intro w4 hB4 hO4;have HB4:=Aside0.mk hB4;have HO4:=Aside0.mk hO4;have hc0:=hB4.cell 0;have hc2:=hB4.cell 2;simp at hc0 hc2;clear hB4 hO4 tok2)
     |(refine wl_load_row rfl rfl aggPair rfl HB4.out rfl ?_)
     |(refine wl_store_row rfl rfl aggPair rfl rfl HB4.out rfl rfl (by intro v hv;simp at hv;rcases hv with rfl|rfl|rfl|rfl<;>rfl) ?_;intro w5 hB5 hO5;have HB5:=Aside0.mk hB5;have HO5:=Aside0.mk hO5;clear hB5 hO5))
    refine bodyPost_ret (v:=.tuple #[.agg #[.int .i64 (m:Int),.slice A2 (ofB (readF l).2).length c2,.int .i64 (n:Int),.slice A3 (ofB (readF r).2).length c3],.int .i64 0,.int .i64 0]) (results_cell3 (P:=Tryz.prog) rfl _ _ g 141 _ (0,0) _ rfl HB5.out.out Tryz.underlying141 rfl kr_ rfl rfl) rfl ?_
    rw [HRP.out]
    exact pair_end HL.out Hm.out Hn.out HS.out hg HB.out HW.out HB2.out HB3.out HO4.out HO5.out HV0.out HV1.out
 ·have HRP:Aside0 (RetPair l r w=fun e w'=>e=.returned (.tuple #[.agg zPair,.int .i64 (-1),.int .i64 2])∧Below w.heap.size w w'):=⟨by funext e w';unfold RetPair;rw [if_neg h]⟩
  obtain ⟨RP,hRP⟩:∃RP,RP=RetPair l r w:=⟨_,rfl⟩
  rw [←hRP] at HRP ⊢
  clear hRP
  by_cases hl:l.length=512
  ·have h0:((((ofB l).length:Nat):Int) !=512)=false:=by rw [len_ofB,hl];rfl
   have h1:((((ofB r).length:Nat):Int) !=512)=true:=by rw [len_ofB,bne_iff_ne];omega
   clear h hl
   go_enter Tryz.func110,Tryz.ntmps110
   go_wp2_with (first
    |(refine wl_alloc rfl rfl aggPair ?_;intro g w1 hB hg hw;have HB:=Aside0.mk hB;have HW:=Aside0.mk hw;clear hB hw)
    |(refine wl_load_row rfl rfl aggPair rfl HB.out rfl ?_)
    |(refine wl_store_row rfl rfl aggPair rfl rfl HB.out rfl rfl dc_ ?_;intro w5 hB5 hO5;have HB5:=Aside0.mk hB5;have HO5:=Aside0.mk hO5;clear hB5 hO5))
   refine bodyPost_ret (v:=.tuple #[.agg zPair,.int .i64 (-1),.int .i64 2]) (results_cell3 (P:=Tryz.prog) rfl _ _ g 141 _ (0,0) _ rfl HB5.out.out Tryz.underlying141 rfl kr_ rfl rfl) rfl ?_
   rw [HRP.out]
   exact ⟨rfl,HW.out.trans (HO5.out.below hg)⟩
  ·have h0:((((ofB l).length:Nat):Int) !=512)=true:=by rw [len_ofB,bne_iff_ne];omega
   clear h hl
   go_enter Tryz.func110,Tryz.ntmps110
   go_wp2_with (first
    |(refine wl_alloc rfl rfl aggPair ?_;intro g w1 hB hg hw;have HB:=Aside0.mk hB;have HW:=Aside0.mk hw;clear hB hw)
    |(refine wl_load_row rfl rfl aggPair rfl HB.out rfl ?_)
    |(refine wl_store_row rfl rfl aggPair rfl rfl HB.out rfl rfl dc_ ?_;intro w5 hB5 hO5;have HB5:=Aside0.mk hB5;have HO5:=Aside0.mk hO5;clear hB5 hO5))
   refine bodyPost_ret (v:=.tuple #[.agg zPair,.int .i64 (-1),.int .i64 2]) (results_cell3 (P:=Tryz.prog) rfl _ _ g 141 _ (0,0) _ rfl HB5.out.out Tryz.underlying141 rfl kr_ rfl rfl) rfl ?_
   rw [HRP.out]
   exact ⟨rfl,HW.out.trans (HO5.out.below hg)⟩
def newestF (l r:List UInt8):Nat×Nat×List UInt8×Nat:=
 if l.length=512∧r.length=512 then
  if (readF l).1=0∧(readF r).1=0 then (0,0,[],30) else if (readF l).1<(readF r).1 then (1,(readF r).1,(readF r).2,0) else (0,(readF l).1,(readF l).2,0)
 else (0,0,[],2)
def Ret4 (a b:Int)(d:List Int)(n:Int)(w:World)(e:Ending)(w':World):Prop:=
 ∃v:Value,e=.returned (.tuple #[.int .i64 a,.int .i64 b,v,.int .i64 n])∧Kd.V (Kd.int .u8) 5 w' w.heap.size (fun k_=>(w.heap.size≤k_)) v d∧Below w.heap.size w w'
theorem results_tmp4 {P:Program}{fn:Func}{p q r t:Tmp}(h:fn.results=#[.tmp p,.tmp q,.tmp r,.tmp t])(tmps:Array Value)(w:World){a b c d:Value}(ha:tmps.getD p undef=a)(hb:tmps.getD q undef=b)(hc:tmps.getD r undef=c)(hd:tmps.getD t undef=d):
  (results fn tmps).run P w=.ok (.tuple #[a,b,c,d]) w:=by
 have ha':tmps[p]?.getD undef=a:=by simpa using ha
 have hb':tmps[q]?.getD undef=b:=by simpa using hb
 have hc':tmps[r]?.getD undef=c:=by simpa using hc
 have hd':tmps[t]?.getD undef=d:=by simpa using hd
 simp [results,h,ha',hb',hc',hd']
theorem fld0 (g k:Nat)(w:World):((Instr.fieldAt 140 (.pointer (some ⟨g,k,none⟩)) 0).run Tryz.prog w).andThen (fun a w'=>.ok (.value a) w')=.ok (Next.value (.pointer (some ⟨g,k,none⟩))) w:=by
 simp [Instr.fieldAt,run_underlying Tryz.underlying140,Instr.sureAddr,fieldPlace,Addr.add_lit]
theorem fld1 (g k:Nat)(w:World):((Instr.fieldAt 140 (.pointer (some ⟨g,k,none⟩)) 1).run Tryz.prog w).andThen (fun a w'=>.ok (.value a) w')=.ok (Next.value (.pointer (some ⟨g,k+1,none⟩))) w:=by
 simp [Instr.fieldAt,run_underlying Tryz.underlying140,Instr.sureAddr,fieldPlace,Addr.add_lit]
set_option maxHeartbeats 1000000 in
set_option maxRecDepth 100000 in
theorem newest_any (w:World)(A0:Option Addr)(c0:Nat)(l:List UInt8)(A1:Option Addr)(c1:Nat)(r:List UInt8)(hr0:Kd.C (Kd.int .u8) w A0 (ofB l).length (ofB l))(hr1:Kd.C (Kd.int .u8) w A1 (ofB r).length (ofB r)):
  Calls Tryz.prog 91 #[.slice A0 (ofB l).length c0,.slice A1 (ofB r).length c1] w (Ret4 (newestF l r).1 (newestF l r).2.1 (ofB (newestF l r).2.2.1) (newestF l r).2.2.2 w):=by
 have HP:=Aside0.mk (pair_any w A0 c0 l A1 c1 r hr0 hr1)
 clear hr0 hr1
 by_cases h:l.length=512∧r.length=512
 ·have e0:RetPair l r w=fun e w'=>∃v0 v1:Value,e=.returned (.tuple #[.agg #[.int .i64 (readF l).1,v0,.int .i64 (readF r).1,v1],.int .i64 (slotF (readF l).1 (readF r).1),.int .i64 0])∧isV w' w v0 (readF l).2∧isV w' w v1 (readF r).2∧Below w.heap.size w w':=by
   funext e w';unfold RetPair;rw [if_pos h]
  rw [e0] at HP
  obtain ⟨m,hm⟩:∃m,m=(readF l).1:=⟨_,rfl⟩
  obtain ⟨n,hn⟩:∃n,n=(readF r).1:=⟨_,rfl⟩
  by_cases hz:m=0∧n=0
  ·have eF:newestF l r=(0,0,[],30):=by unfold newestF;rw [if_pos h,←hm,←hn,if_pos hz]
   have eS:slotF (readF l).1 (readF r).1= -1:=by rw [←hm,←hn];simp [slotF,hz]
   rw [eF]
   rw [eS] at HP
   clear eF eS hz hm hn e0
   go_enter Tryz.func91,Tryz.ntmps91
   go_wp2_with (first
    |(go_at_call 110;refine HP.out.mono ?_;rintro e w1 ⟨v0,v1,rfl,hv0,hv1,hb⟩;have HV0:=Aside0.mk hv0;have HV1:=Aside0.mk hv1;obtain ⟨A2,c2,rfl,_,_⟩:=V_slice hv0;obtain ⟨A3,c3,rfl,_,_⟩:=V_slice hv1;have HB1:=Aside0.mk hb;clear hv0 hv1 hb)
    |(refine wl_alloc rfl rfl aggPair ?_;intro g w2 hB hg hw;have HB:=Aside0.mk hB;have HW:=Aside0.mk hw;clear hB hw)
    |(refine wl_store_row rfl rfl aggPair rfl rfl HB.out rfl rfl (by intro v hv;simp at hv;rcases hv with rfl|rfl|rfl|rfl<;>rfl) ?_;intro w4 hB4 hO4;have HB4:=Aside0.mk hB4;have HO4:=Aside0.mk hO4;have hc0:=hB4.cell 0;have hc1:=hB4.cell 1;have hc2:=hB4.cell 2;have hc3:=hB4.cell 3;simp at hc0 hc1 hc2 hc3;clear hB4 hO4))
   exact bodyPost_ret (v:=.tuple #[.int .i64 0,.int .i64 0,.slice none 0 0,.int .i64 30]) (results_tmp4 rfl _ _ rfl rfl rfl rfl) rfl ⟨_,rfl,V_nil,(HB1.out.trans (HW.out.mono HB1.out.size)).trans (HO4.out.below (Nat.le_trans HB1.out.size hg))⟩
  ·by_cases hlt:m<n
   ·have eF:newestF l r=(1,n,(readF r).2,0):=by unfold newestF;rw [if_pos h,←hm,←hn,if_neg hz,if_pos hlt]
    have eS:slotF (readF l).1 (readF r).1=1:=by rw [←hm,←hn];simp only [slotF];rw [if_neg hz,if_pos hlt]
    rw [eF]
    rw [eS,←hm,←hn] at HP
    clear eF eS hz hm hn e0 hlt
    go_enter Tryz.func91,Tryz.ntmps91
    go_wp2_with (first
     |(go_at_call 110;refine HP.out.mono ?_;rintro e w1 ⟨v0,v1,rfl,hv0,hv1,hb⟩;have HV0:=Aside0.mk hv0;have HV1:=Aside0.mk hv1;obtain ⟨A2,c2,rfl,_,_⟩:=V_slice hv0;obtain ⟨A3,c3,rfl,_,_⟩:=V_slice hv1;have HB1:=Aside0.mk hb;clear hv0 hv1 hb)
     |(refine wl_alloc rfl rfl aggPair ?_;intro g w2 hB hg hw;have HB:=Aside0.mk hB;have HW:=Aside0.mk hw;clear hB hw)
     |(refine wl_store_row rfl rfl aggPair rfl rfl HB.out rfl rfl (by intro v hv;simp at hv;rcases hv with rfl|rfl|rfl|rfl<;>rfl) ?_;intro w4 hB4 hO4;have HB4:=Aside0.mk hB4;have HO4:=Aside0.mk hO4;have hc0:=hB4.cell 0;have hc1:=hB4.cell 1;have hc2:=hB4.cell 2;have hc3:=hB4.cell 3;simp at hc0 hc1 hc2 hc3;clear hB4 hO4))
    refine wp_region_told 13 (fun w3=>Below w4.heap.size w4 w3) (ListS [.int .i64 1,.int .i64 1,.pointer (some ⟨g,2,none⟩),.pointer (some ⟨g,2,none⟩),.int .i64 (n:Int),.int .i64 1,.pointer (some ⟨g,2,none⟩),.pointer (some ⟨g,3,none⟩),.slice A3 (ofB (readF r).2).length c3,.int .i64 1,.int .i64 (n:Int),.slice A3 (ofB (readF r).2).length c3,.int .i64 0]) kr_ kr_ kr_ (Below.refl _ _).drew (fun _ _ _ _ _ h=>h) ?_ ?_
    ·intro i vals w1 hi hc hd
     have D:∀k,waitsAt _ i k=true→vals k=_:=fun k hw=>hd k hw
     rcases i with _|_|_|_|_|_|_|_|_|_|_|_|_|i
     rotate_right 1
     ·exact absurd hi (Nat.not_lt.2 (Nat.le_add_left 13 i))
     ·exact StepOK.move (x:=.tmp 9) (.free kr_) hc ((look_miss kr_ kr_).trans rfl) rfl
     ·exact StepOK.move (x:=.tmp 9) (.free kr_) hc ((look_miss kr_ kr_).trans rfl) rfl
     ·exact StepOK.atArrN (T:=141) (x:=.tmp 8) (y:=.tmp 26) (k:=1) (sz:=2) (g:=g) (.free kr_) hc kr_ kr_ ((look_miss kr_ kr_).trans rfl) ((look_hit (k:=1) kr_ kr_).trans (D 1 kr_)) kr_ rfl
     ·exact StepOK.fieldP (T:=140) (x:=.tmp 27) (f:=0) (g:=g) (k:=2) (k':=2) (.free kr_) hc ((look_hit (k:=2) kr_ kr_).trans (D 2 kr_)) (fld0 g 2 w1) rfl
     ·exact StepOK.load (T:=3) (x:=.tmp 28) (.free kr_) hc rfl Tryz.underlying3 ((look_hit (k:=3) kr_ kr_).trans (D 3 kr_)) (cell_below hc hc2) rfl
     ·exact StepOK.move (x:=.tmp 9) (.free kr_) hc ((look_miss kr_ kr_).trans rfl) rfl
     ·exact StepOK.atArrN (T:=141) (x:=.tmp 8) (y:=.tmp 30) (k:=1) (sz:=2) (g:=g) (.free kr_) hc kr_ kr_ ((look_miss kr_ kr_).trans rfl) ((look_hit (k:=5) kr_ kr_).trans (D 5 kr_)) kr_ rfl
     ·exact StepOK.fieldP (T:=140) (x:=.tmp 31) (f:=1) (g:=g) (k:=2) (k':=3) (.free kr_) hc ((look_hit (k:=6) kr_ kr_).trans (D 6 kr_)) (fld1 g 2 w1) rfl
     ·exact StepOK.load (T:=22) (x:=.tmp 32) (.free kr_) hc rfl Tryz.underlying22 ((look_hit (k:=7) kr_ kr_).trans (D 7 kr_)) (cell_below hc hc3) rfl
     ·exact StepOK.assign (x:=.tmp 25) (.free kr_) hc ((look_hit (k:=0) kr_ kr_).trans (D 0 kr_)) rfl
     ·exact StepOK.assign (x:=.tmp 29) (.free kr_) hc ((look_hit (k:=4) kr_ kr_).trans (D 4 kr_)) rfl
     ·exact StepOK.assign (x:=.tmp 33) (.free kr_) hc ((look_hit (k:=8) kr_ kr_).trans (D 8 kr_)) rfl
     ·exact StepOK.assign (x:=.const (.int .i64 0)) (.free kr_) hc (look_const kr_) rfl
    ·intro vals w3 hc hS
     have f4:vals 9=.int .i64 1:=hS 9 dc_
     have f5:vals 10=.int .i64 (n:Int):=hS 10 dc_
     have f6:vals 11=.slice A3 (ofB (readF r).2).length c3:=hS 11 dc_
     have f7:vals 12=.int .i64 0:=hS 12 dc_
     refine wl_frame ⟨#[.slice A0 (ofB l).length c0,.slice A1 (ofB r).length c1,undef,undef,vals 9,vals 10,vals 11,vals 12,.pointer (some ⟨g,0,none⟩),.int .i64 1,.int .i64 0,.tuple #[.agg #[.int .i64 (m:Int),.slice A2 (ofB (readF l).2).length c2,.int .i64 (n:Int),.slice A3 (ofB (readF r).2).length c3],.int .i64 1,.int .i64 0],.slice A0 (ofB l).length c0,.slice A1 (ofB r).length c1,.tuple #[.agg #[.int .i64 (m:Int),.slice A2 (ofB (readF l).2).length c2,.int .i64 (n:Int),.slice A3 (ofB (readF r).2).length c3],.int .i64 1,.int .i64 0],.agg #[.int .i64 (m:Int),.slice A2 (ofB (readF l).2).length c2,.int .i64 (n:Int),.slice A3 (ofB (readF r).2).length c3],.int .i64 1,.int .i64 0,.bool false,.int .i64 0,.bool false,undef,.bool false,.int .i64 1,.bool false,vals 0,vals 1,vals 2,vals 3,vals 4,vals 5,vals 6,vals 7,vals 8],[]⟩ kr_ ?_
     rw [f4,f5,f6,f7]
     go_wp2
     refine bodyPost_ret (v:=.tuple #[.int .i64 1,.int .i64 (n:Int),.slice A3 (ofB (readF r).2).length c3,.int .i64 0]) (results_tmp4 rfl _ _ rfl rfl rfl rfl) rfl ?_
     ·exact ⟨_,rfl,V_move HV1.out (fun k hk hlt=>⟨hk,by have h1:=HW.out.size;have h2:=HO4.out.size;have h3:=hc.size;omega,by rw [hc.block k (by have h1:=HW.out.size;have h2:=HO4.out.size;omega),HO4.out.block k om_,HW.out.block k hlt]⟩),((HB1.out.trans (HW.out.mono HB1.out.size)).trans (HO4.out.below (Nat.le_trans HB1.out.size hg))).trans (hc.mono (by have h0:=HB1.out.size;have h1:=HW.out.size;have h2:=HO4.out.size;omega))⟩
   ·have eF:newestF l r=(0,m,(readF l).2,0):=by unfold newestF;rw [if_pos h,←hm,←hn,if_neg hz,if_neg hlt]
    have eS:slotF (readF l).1 (readF r).1=0:=by rw [←hm,←hn];simp only [slotF];rw [if_neg hz,if_neg hlt]
    rw [eF]
    rw [eS,←hm,←hn] at HP
    clear eF eS hz hm hn e0 hlt
    go_enter Tryz.func91,Tryz.ntmps91
    go_wp2_with (first
     |(go_at_call 110;refine HP.out.mono ?_;rintro e w1 ⟨v0,v1,rfl,hv0,hv1,hb⟩;have HV0:=Aside0.mk hv0;have HV1:=Aside0.mk hv1;obtain ⟨A2,c2,rfl,_,_⟩:=V_slice hv0;obtain ⟨A3,c3,rfl,_,_⟩:=V_slice hv1;have HB1:=Aside0.mk hb;clear hv0 hv1 hb)
     |(refine wl_alloc rfl rfl aggPair ?_;intro g w2 hB hg hw;have HB:=Aside0.mk hB;have HW:=Aside0.mk hw;clear hB hw)
     |(refine wl_store_row rfl rfl aggPair rfl rfl HB.out rfl rfl (by intro v hv;simp at hv;rcases hv with rfl|rfl|rfl|rfl<;>rfl) ?_;intro w4 hB4 hO4;have HB4:=Aside0.mk hB4;have HO4:=Aside0.mk hO4;have hc0:=hB4.cell 0;have hc1:=hB4.cell 1;have hc2:=hB4.cell 2;have hc3:=hB4.cell 3;simp at hc0 hc1 hc2 hc3;clear hB4 hO4))
    refine wp_region_told 13 (fun w3=>Below w4.heap.size w4 w3) (ListS [.int .i64 0,.int .i64 0,.pointer (some ⟨g,0,none⟩),.pointer (some ⟨g,0,none⟩),.int .i64 (m:Int),.int .i64 0,.pointer (some ⟨g,0,none⟩),.pointer (some ⟨g,1,none⟩),.slice A2 (ofB (readF l).2).length c2,.int .i64 0,.int .i64 (m:Int),.slice A2 (ofB (readF l).2).length c2,.int .i64 0]) kr_ kr_ kr_ (Below.refl _ _).drew (fun _ _ _ _ _ h=>h) ?_ ?_
    ·intro i vals w1 hi hc hd
     have D:∀k,waitsAt _ i k=true→vals k=_:=fun k hw=>hd k hw
     rcases i with _|_|_|_|_|_|_|_|_|_|_|_|_|i
     rotate_right 1
     ·exact absurd hi (Nat.not_lt.2 (Nat.le_add_left 13 i))
     ·exact StepOK.move (x:=.tmp 9) (.free kr_) hc ((look_miss kr_ kr_).trans rfl) rfl
     ·exact StepOK.move (x:=.tmp 9) (.free kr_) hc ((look_miss kr_ kr_).trans rfl) rfl
     ·exact StepOK.atArrN (T:=141) (x:=.tmp 8) (y:=.tmp 26) (k:=0) (sz:=2) (g:=g) (.free kr_) hc kr_ kr_ ((look_miss kr_ kr_).trans rfl) ((look_hit (k:=1) kr_ kr_).trans (D 1 kr_)) kr_ rfl
     ·exact StepOK.fieldP (T:=140) (x:=.tmp 27) (f:=0) (g:=g) (k:=0) (k':=0) (.free kr_) hc ((look_hit (k:=2) kr_ kr_).trans (D 2 kr_)) (fld0 g 0 w1) rfl
     ·exact StepOK.load (T:=3) (x:=.tmp 28) (.free kr_) hc rfl Tryz.underlying3 ((look_hit (k:=3) kr_ kr_).trans (D 3 kr_)) (cell_below hc hc0) rfl
     ·exact StepOK.move (x:=.tmp 9) (.free kr_) hc ((look_miss kr_ kr_).trans rfl) rfl
     ·exact StepOK.atArrN (T:=141) (x:=.tmp 8) (y:=.tmp 30) (k:=0) (sz:=2) (g:=g) (.free kr_) hc kr_ kr_ ((look_miss kr_ kr_).trans rfl) ((look_hit (k:=5) kr_ kr_).trans (D 5 kr_)) kr_ rfl
     ·exact StepOK.fieldP (T:=140) (x:=.tmp 31) (f:=1) (g:=g) (k:=0) (k':=1) (.free kr_) hc ((look_hit (k:=6) kr_ kr_).trans (D 6 kr_)) (fld1 g 0 w1) rfl
     ·exact StepOK.load (T:=22) (x:=.tmp 32) (.free kr_) hc rfl Tryz.underlying22 ((look_hit (k:=7) kr_ kr_).trans (D 7 kr_)) (cell_below hc hc1) rfl
     ·exact StepOK.assign (x:=.tmp 25) (.free kr_) hc ((look_hit (k:=0) kr_ kr_).trans (D 0 kr_)) rfl
     ·exact StepOK.assign (x:=.tmp 29) (.free kr_) hc ((look_hit (k:=4) kr_ kr_).trans (D 4 kr_)) rfl
     ·exact StepOK.assign (x:=.tmp 33) (.free kr_) hc ((look_hit (k:=8) kr_ kr_).trans (D 8 kr_)) rfl
     ·exact StepOK.assign (x:=.const (.int .i64 0)) (.free kr_) hc (look_const kr_) rfl
    ·intro vals w3 hc hS
     have f4:vals 9=.int .i64 0:=hS 9 dc_
     have f5:vals 10=.int .i64 (m:Int):=hS 10 dc_
     have f6:vals 11=.slice A2 (ofB (readF l).2).length c2:=hS 11 dc_
     have f7:vals 12=.int .i64 0:=hS 12 dc_
     refine wl_frame ⟨#[.slice A0 (ofB l).length c0,.slice A1 (ofB r).length c1,undef,undef,vals 9,vals 10,vals 11,vals 12,.pointer (some ⟨g,0,none⟩),.int .i64 0,.int .i64 0,.tuple #[.agg #[.int .i64 (m:Int),.slice A2 (ofB (readF l).2).length c2,.int .i64 (n:Int),.slice A3 (ofB (readF r).2).length c3],.int .i64 0,.int .i64 0],.slice A0 (ofB l).length c0,.slice A1 (ofB r).length c1,.tuple #[.agg #[.int .i64 (m:Int),.slice A2 (ofB (readF l).2).length c2,.int .i64 (n:Int),.slice A3 (ofB (readF r).2).length c3],.int .i64 0,.int .i64 0],.agg #[.int .i64 (m:Int),.slice A2 (ofB (readF l).2).length c2,.int .i64 (n:Int),.slice A3 (ofB (readF r).2).length c3],.int .i64 0,.int .i64 0,.bool false,.int .i64 0,.bool false,undef,.bool false,.int .i64 0,.bool false,vals 0,vals 1,vals 2,vals 3,vals 4,vals 5,vals 6,vals 7,vals 8],[]⟩ kr_ ?_
     rw [f4,f5,f6,f7]
     go_wp2
     refine bodyPost_ret (v:=.tuple #[.int .i64 0,.int .i64 (m:Int),.slice A2 (ofB (readF l).2).length c2,.int .i64 0]) (results_tmp4 rfl _ _ rfl rfl rfl rfl) rfl ?_
     ·exact ⟨_,rfl,V_move HV0.out (fun k hk hlt=>⟨hk,by have h1:=HW.out.size;have h2:=HO4.out.size;have h3:=hc.size;omega,by rw [hc.block k (by have h1:=HW.out.size;have h2:=HO4.out.size;omega),HO4.out.block k om_,HW.out.block k hlt]⟩),((HB1.out.trans (HW.out.mono HB1.out.size)).trans (HO4.out.below (Nat.le_trans HB1.out.size hg))).trans (hc.mono (by have h0:=HB1.out.size;have h1:=HW.out.size;have h2:=HO4.out.size;omega))⟩
 ·have e0:RetPair l r w=fun e w'=>e=.returned (.tuple #[.agg zPair,.int .i64 (-1),.int .i64 2])∧Below w.heap.size w w':=by
   funext e w';unfold RetPair;rw [if_neg h]
  rw [e0] at HP
  have eF:newestF l r=(0,0,[],2):=by unfold newestF;rw [if_neg h]
  rw [eF]
  clear eF e0 h
  go_enter Tryz.func91,Tryz.ntmps91
  go_wp2_with (first
   |(go_at_call 110;refine HP.out.mono ?_;rintro e w1 ⟨rfl,hb⟩;have HB1:=Aside0.mk hb;clear hb)
   |(refine wl_alloc rfl rfl aggPair ?_;intro g w2 hB hg hw;have HB:=Aside0.mk hB;have HW:=Aside0.mk hw;clear hB hw)
   |(refine wl_store_row rfl rfl aggPair rfl rfl HB.out rfl rfl dc_ ?_;intro w4 hB4 hO4;have HB4:=Aside0.mk hB4;have HO4:=Aside0.mk hO4;clear hB4 hO4))
  exact bodyPost_ret (v:=.tuple #[.int .i64 0,.int .i64 0,.slice none 0 0,.int .i64 2]) (results_tmp4 rfl _ _ rfl rfl rfl rfl) rfl ⟨_,rfl,V_nil,(HB1.out.trans (HW.out.mono HB1.out.size)).trans (HO4.out.below (Nat.le_trans HB1.out.size hg))⟩
def le8 (no:Int):List UInt8:=(List.range 8).map fun i=>UInt8.ofNat ((no/2^(8*i))%256).toNat
def renewF (l r:List UInt8)(no:Int)(data:List UInt8):Nat×List UInt8×Nat:=
 if¬(l.length=512∧r.length=512) then (0,[],2)
 else if no<1 then (0,[],1)
 else if 496<data.length then (0,[],7)
 else if (newestF l r).2.2.2=0∧no≤((newestF l r).2.1:Int) then (0,[],31)
 else if (newestF l r).2.2.2=0∧(newestF l r).1=0 then (1,(sealF r (le8 no++data)).1,(sealF r (le8 no++data)).2)
 else (0,(sealF l (le8 no++data)).1,(sealF l (le8 no++data)).2)
theorem results_tmp3 {P:Program}{fn:Func}{p q r:Tmp}(h:fn.results=#[.tmp p,.tmp q,.tmp r])(tmps:Array Value)(w:World){a b c:Value}(ha:tmps.getD p undef=a)(hb:tmps.getD q undef=b)(hc:tmps.getD r undef=c):
  (results fn tmps).run P w=.ok (.tuple #[a,b,c]) w:=by
 have ha':tmps[p]?.getD undef=a:=by simpa using ha
 have hb':tmps[q]?.getD undef=b:=by simpa using hb
 have hc':tmps[r]?.getD undef=c:=by simpa using hc
 simp [results,h,ha',hb',hc']
structure PairOK (l r:List UInt8)(m n:Nat)(sl:Int):Prop where
 len:l.length=512∧r.length=512
 hm:m=(readF l).1
 hn:n=(readF r).1
 hsl:slotF m n=sl
theorem pair_told {l r:List UInt8}{m n:Nat}{sl:Int}(h:PairOK l r m n sl)(w:World):RetPair l r w=fun e w'=>∃v0 v1:Value,e=.returned (.tuple #[.agg #[.int .i64 (m:Int),v0,.int .i64 (n:Int),v1],.int .i64 sl,.int .i64 0])∧isV w' w v0 (readF l).2∧isV w' w v1 (readF r).2∧Below w.heap.size w w':=by
 funext e w';unfold RetPair;rw [if_pos h.len,←h.hm,←h.hn,h.hsl]
theorem slot_three (m n:Nat):slotF m n= -1∨slotF m n=0∨slotF m n=1:=by
 unfold slotF
 split
 ·exact .inl rfl
 ·split
  ·exact .inr (.inr rfl)
  ·exact .inr (.inl rfl)
theorem newest_none {l r:List UInt8}{m n:Nat}(h:PairOK l r m n (-1)):newestF l r=(0,0,[],30):=by
 have hs:=h.hsl
 unfold slotF at hs
 unfold newestF
 rw [if_pos h.len,←h.hm,←h.hn]
 split at hs
 ·rename_i hz;rw [if_pos hz]
 ·split at hs<;>cases hs
theorem newest_left {l r:List UInt8}{m n:Nat}(h:PairOK l r m n 0):newestF l r=(0,m,(readF l).2,0):=by
 have hs:=h.hsl
 unfold slotF at hs
 unfold newestF
 rw [if_pos h.len,←h.hm,←h.hn]
 split at hs
 ·cases hs
 ·rename_i hz
  split at hs
  ·cases hs
  ·rename_i hlt;rw [if_neg hz,if_neg hlt]
theorem newest_right {l r:List UInt8}{m n:Nat}(h:PairOK l r m n 1):newestF l r=(1,n,(readF r).2,0):=by
 have hs:=h.hsl
 unfold slotF at hs
 unfold newestF
 rw [if_pos h.len,←h.hm,←h.hn]
 split at hs
 ·cases hs
 ·rename_i hz
  split at hs
  ·rename_i hlt;rw [if_neg hz,if_pos hlt]
  ·cases hs
theorem renew_mid {l r:List UInt8}{no:Int}{d:List UInt8}(h:l.length=512∧r.length=512)(h1:¬no<1)(h2:¬496<d.length):renewF l r no d=if (newestF l r).2.2.2=0∧no≤((newestF l r).2.1:Int) then (0,[],31)
 else if (newestF l r).2.2.2=0∧(newestF l r).1=0 then (1,(sealF r (le8 no++d)).1,(sealF r (le8 no++d)).2)
 else (0,(sealF l (le8 no++d)).1,(sealF l (le8 no++d)).2):=by
 unfold renewF
 rw [if_neg (fun hh=>hh h),if_neg h1,if_neg h2]
section
section
variable {F:Nat→Prop}{w0 w:World}{L:List Ast}
theorem ps_seal {A B:Option Addr}{a b:List UInt8}{ca cb:Nat}(S:St F w0 w L)(ha:RoT F w0 L A a)(hb:RoT F w0 L B b)(hma:a.length≤9223372036854775807)(hmb:b.length≤9223372036854775807):Calls Tryz.prog 109 #[.slice A a.length ca,.slice B b.length cb] w fun e w'=>∃v,e=.returned (.tuple #[v,.int .i64 ((sealF a b).2:Int)])∧St F w0 w' (bytesX v (sealF a b).1::L):=by
 have h:=seal_any w A ca a B cb b (ha.to_C S hma) (hb.to_C S hmb)
 rw [len_ofB,len_ofB] at h
 exact h.mono fun e w' ⟨v,h1,h2,h3⟩=>⟨v,h1,S.lift h3 h2⟩
theorem ps_open {A:Option Addr}{a:List UInt8}{ca:Nat}(S:St F w0 w L)(ha:RoT F w0 L A a)(hma:a.length≤9223372036854775807):Calls Tryz.prog 111 #[.slice A a.length ca] w fun e w'=>∃v,e=.returned (.tuple #[v,.int .i64 ((openF a).2:Int)])∧St F w0 w' (bytesX v (openF a).1::L):=by
 have h:=open_any w A ca a (ha.to_C S hma)
 rw [len_ofB] at h
 exact h.mono fun e w' ⟨v,h1,h2,h3⟩=>⟨v,h1,S.lift h3 h2⟩
theorem ps_newest {A B:Option Addr}{a b:List UInt8}{ca cb:Nat}(S:St F w0 w L)(ha:RoT F w0 L A a)(hb:RoT F w0 L B b)(hma:a.length≤9223372036854775807)(hmb:b.length≤9223372036854775807):Calls Tryz.prog 91 #[.slice A a.length ca,.slice B b.length cb] w fun e w'=>∃v,e=.returned (.tuple #[.int .i64 ((newestF a b).1:Int),.int .i64 ((newestF a b).2.1:Int),v,.int .i64 ((newestF a b).2.2.2:Int)])∧St F w0 w' (bytesX v (newestF a b).2.2.1::L):=by
 have h:=newest_any w A ca a B cb b (ha.to_C S hma) (hb.to_C S hmb)
 rw [len_ofB,len_ofB] at h
 exact h.mono fun e w' ⟨v,h1,h2,h3⟩=>⟨v,h1,S.lift h3 h2⟩
theorem ps_pair {A B:Option Addr}{a b:List UInt8}{ca cb:Nat}{m n:Nat}{sl:Int}(S:St F w0 w L)(ha:RoT F w0 L A a)(hb:RoT F w0 L B b)(hl:a.length=512∧b.length=512)(hm:m=(readF a).1)(hn:n=(readF b).1)(hs:slotF m n=sl):Calls Tryz.prog 110 #[.slice A a.length ca,.slice B b.length cb] w fun e w'=>∃v0 v1:Value,e=.returned (.tuple #[.agg #[.int .i64 (m:Int),v0,.int .i64 (n:Int),v1],.int .i64 sl,.int .i64 0])∧v0.oneCell'=true∧v1.oneCell'=true∧St F w0 w' L:=by
 have h:=pair_any w A ca a B cb b (ha.to_C S om_) (hb.to_C S om_)
 rw [len_ofB,len_ofB] at h
 refine h.mono fun e w' h=> ?_
 rw [pair_told ⟨hl,hm,hn,hs⟩] at h
 obtain ⟨v0,v1,h1,h2,h3,h4⟩:=h
 refine ⟨v0,v1,h1, ?_, ?_,S.below h4⟩
 ·obtain ⟨A',c',e,_⟩:=V_slice h2;rw [e];rfl
 ·obtain ⟨A',c',e,_⟩:=V_slice h3;rw [e];rfl
end
end
end Go.Proofs
end
section
open Go Go.RowKit Go.Proofs.YtgelippmcflppaaGreatW.PrintWords Go.Proofs.YtgelippmcflppaaGreatW.PrintMore
namespace Go.Proofs
open Go.Vel
set_option linter.unusedVariables false
structure Pc where
 epoch:Nat
 pos:Nat
 idx:Nat
 cnt:Nat
 data:List UInt8
def numN (b:List UInt8)(at_ n:Nat):Nat:=leN ((b.drop at_).take n)
def pcOf (b:List UInt8):Pc:=⟨numN b 0 4,numN b 4 4,numN b 8 2,numN b 10 2,b.drop 12⟩
def pcNo:Pc:=⟨0,0,0,0,[]⟩
def pcF (sec:List UInt8):Pc:=if (openF sec).2=0∧12≤(openF sec).1.length then pcOf (openF sec).1 else pcNo
theorem openF_len (s:List UInt8):(openF s).1.length≤504:=by
 unfold openF
 split
 ·exact Nat.zero_le _
 ·split
  ·exact Nat.zero_le _
  ·split
   ·rw [List.length_take];omega
   ·exact Nat.zero_le _
theorem pcF_data (s:List UInt8):(pcF s).data.length≤492:=by
 have h:=openF_len s
 unfold pcF
 split
 ·show ((openF s).1.drop 12).length≤492;rw [List.length_drop];omega
 ·exact Nat.zero_le _
structure Pc.Part (q:Pc)(epoch p i c:Nat):Prop where
 data:q.data≠[]
 epoch:q.epoch=epoch
 pos:q.pos=p
 idx:q.idx=i
 cnt:q.cnt=c
 full:i+1=c∨q.data.length=492
def catF (pc:Nat→Pc)(p c:Nat):List UInt8:=((List.range c).map fun j=>(pc (p+j)).data).flatten
theorem catF_succ (pc:Nat→Pc)(p c:Nat):catF pc p (c+1)=catF pc p c++(pc (p+c)).data:=by
 unfold catF
 rw [List.range_succ,List.map_append,List.flatten_append];simp
structure IsRec (pc:Nat→Pc)(epoch p c:Nat):Prop where
 c1:1≤c
 c17:c≤17
 cnt:(pc p).cnt=c
 part:∀j,j<c→(pc (p+j)).Part epoch (p+j) j c
inductive Recs (pc:Nat→Pc)(epoch a:Nat):List (List UInt8)→Nat→Prop where
 |nil:Recs pc epoch a [] a
 |step {R:List (List UInt8)} {h c:Nat}:Recs pc epoch a R h→IsRec pc epoch h c→Recs pc epoch a (R++[catF pc h c]) (h+c)
def NoRec (pc:Nat→Pc)(epoch h:Nat):Prop:=∀c,¬IsRec pc epoch h c
theorem Recs.le {pc:Nat→Pc}{epoch a:Nat}{R:List (List UInt8)}{h:Nat}(r:Recs pc epoch a R h):a≤h:=by
 induction r with
 |nil=>exact Nat.le_refl _
 |step _ _ ih=>omega
theorem Recs.at {pc:Nat→Pc}{epoch a:Nat}{R:List (List UInt8)}{h:Nat}(r:Recs pc epoch a R h):∀p,a≤p→p<h→(pc p).pos=p∧(pc p).epoch=epoch:=by
 induction r with
 |nil=>intro p h1 h2;omega
 |@step R h c r hr ih=>
  intro p h1 h2
  by_cases hp:p<h
  ·exact ih p h1 hp
  ·have h3:=hr.part (p-h) om_
   rw [show h+(p-h)=p from by omega] at h3
   exact ⟨h3.pos,h3.epoch⟩
theorem Recs.room {pc:Nat→Pc}{epoch a n:Nat}{R:List (List UInt8)}{h:Nat}(r:Recs pc epoch a R h)(hn:∀p,pc (p+n)=pc p)(h0:0<n):h≤a+n:=by
 refine Nat.not_lt.1 fun hlt=> ?_
 have h1:=(r.at a (Nat.le_refl _) om_).1
 have h2:=(r.at (a+n) om_ hlt).1
 rw [hn] at h2
 omega
theorem Recs.count {pc:Nat→Pc}{epoch a:Nat}{R:List (List UInt8)}{h:Nat}(r:Recs pc epoch a R h):a+R.length≤h:=by
 induction r with
 |nil=>exact Nat.le_refl _
 |step _ hr ih=>have:=hr.c1;rw [List.length_append,List.length_singleton];omega
theorem IsRec.det {pc:Nat→Pc}{epoch p c c':Nat}(h:IsRec pc epoch p c)(h':IsRec pc epoch p c'):c=c':=h.cnt.symm.trans h'.cnt
theorem Recs.cons {pc:Nat→Pc}{epoch a c:Nat}(hr:IsRec pc epoch a c):∀{R:List (List UInt8)} {h:Nat},Recs pc epoch (a+c) R h→Recs pc epoch a (catF pc a c::R) h:=by
 intro R h r
 induction r with
 |nil=>exact Recs.step (R:=[]) Recs.nil hr
 |step _ hr2 ih=>exact Recs.step ih hr2
theorem Recs.uncons {pc:Nat→Pc}{epoch a c:Nat}(hr:IsRec pc epoch a c){R:List (List UInt8)}{h:Nat}(r:Recs pc epoch a R h):(R=[]∧h=a)∨∃R',R=catF pc a c::R'∧Recs pc epoch (a+c) R' h:=by
 induction r with
 |nil=>exact .inl ⟨rfl,rfl⟩
 |@step R h c' r hr2 ih=>
  rcases ih with ⟨rfl,rfl⟩|⟨R',rfl,r'⟩
  ·have:=hr.det hr2
   subst this
   exact .inr ⟨[],rfl,Recs.nil⟩
  ·exact .inr ⟨R'++[catF pc h c'],rfl,Recs.step r' hr2⟩
theorem Recs.det {pc:Nat→Pc}{epoch:Nat}:∀(k:Nat) {a:Nat} {R R':List (List UInt8)} {h h':Nat},R.length≤k→Recs pc epoch a R h→NoRec pc epoch h→Recs pc epoch a R' h'→NoRec pc epoch h'→R=R'∧h=h'
 |k,a,R,R',h,h',hk,r,e,r',e'=>by
  by_cases hx:∃c,IsRec pc epoch a c
  ·obtain ⟨c,hc⟩:=hx
   rcases r.uncons hc with ⟨rfl,rfl⟩|⟨R1,rfl,r1⟩
   ·exact absurd hc (e c)
   ·rcases r'.uncons hc with ⟨rfl,rfl⟩|⟨R2,rfl,r2⟩
    ·exact absurd hc (e' c)
    ·cases k with
     |zero=>exact absurd hk (by simp)
     |succ k=>
      obtain ⟨rfl,rfl⟩:=Recs.det k (by simpa using hk) r1 e r2 e'
      exact ⟨rfl,rfl⟩
  ·have hno:∀{R h},Recs pc epoch a R h→R=[]∧h=a:=fun {R h} r=>by
    have h1:R=[]∧h=a∨False:=by
     induction r with
     |nil=>exact .inl ⟨rfl,rfl⟩
     |step _ hr ih=>
      rcases ih with ⟨rfl,rfl⟩|h
      ·exact .inr (hx ⟨_,hr⟩)
      ·exact .inr h
    exact h1.elim id False.elim
   obtain ⟨rfl,rfl⟩:=hno r
   obtain ⟨rfl,rfl⟩:=hno r'
   exact ⟨rfl,rfl⟩
structure Lg where
 first:Nat
 n:Nat
 life:Int
 epoch:Nat
 top:Nat
 tail:Nat
 head:Nat
 begun:Bool
abbrev kC_ (g:Nat)(l:Lg)(h:Nat):Array Value:=#[pq g,iv l.life,nI_ l.first,nI_ l.n,nI_ l.epoch,nI_ l.tail,nI_ h,nI_ l.top,.bool l.begun]
abbrev wC_ (g:Nat)(l:Lg)(h:Nat):Array Value:=#[pq g,nI_ l.first,nI_ l.n,iv l.life,nI_ l.epoch,nI_ l.top,nI_ l.tail,nI_ h,.bool l.begun]
abbrev eC_ (g r:Nat)(A:Option Addr)(c:Nat)(B:Option Addr)(d n:Nat):Array Value:=#[pq g,pq r,.slice A n c,.slice B n d]
abbrev oC_ (k a b:Int)(A:Option Addr)(n c:Nat)(B:Option Addr)(m d:Nat):Array Value:=#[iv k,iv a,iv b,.slice A n c,.slice B m d]
abbrev pC_ (q:Pc)(A:Option Addr)(c:Nat):Array Value:=#[nI_ q.epoch,nI_ q.pos,nI_ q.idx,nI_ q.cnt,.slice A q.data.length c]
def argsR (s:Dsk)(first n:Int):Int:=
 if s.left=0 then 3 else if first<0∨(s.last.length:Int)≤first then 11 else if n<18∨256<n then 1 else if (s.last.length:Int)<first+2+n then 11 else 0
theorem argsR_ok {s:Dsk}{first n:Int}(h:argsR s first n=0):s.left≠0∧0≤first∧18≤n∧n≤256∧first+2+n≤s.last.length:=by
 unfold argsR at h
 split at h
 ·exact absurd h dc_
 ·rename_i h1
  split at h
  ·exact absurd h dc_
  ·rename_i h2
   split at h
   ·exact absurd h dc_
   ·split at h
    ·exact absurd h dc_
    ·exact ⟨h1,by omega,by omega,by omega,by omega⟩
def renewR (s:Dsk)(first no:Nat):Dsk×Int:=
 let r:=renewF (s.now first) (s.now (first+1)) (no:Int) []
 let w:=s.writeR ((first+r.1:Nat):Int) r.2.1
 if w.2≠0 then (w.1,3) else w.1.flushR
def zerosR (s:Dsk)(at_:Nat):Nat→Dsk×Int
 |0=>(s,0)
 |k+1=>if (s.writeR (at_:Int) zsec).2≠0 then s.writeR (at_:Int) zsec else zerosR (s.writeR (at_:Int) zsec).1 (at_+1) k
def formatR (s:Dsk)(first n:Int):Dsk×Int:=
 if argsR s first n≠0 then (s,argsR s first n) else
 let z:=zerosR s.take first.toNat (n.toNat+2)
 if z.2≠0 then z else
 if z.1.flushR.2≠0 then z.1.flushR else renewR z.1.flushR.1 first.toNat (1*4294967296+0)
def pcAt (s:Dsk)(first n p:Nat):Pc:=pcF (s.now (first+2+p%n))
theorem pcAt_round (s:Dsk)(first n p:Nat):pcAt s first n (p+n)=pcAt s first n p:=by unfold pcAt;rw [Nat.add_mod_right]
def topTo (pc:Nat→Pc)(epoch:Nat):Nat→Nat
 |0=>epoch
 |k+1=>if (pc k).epoch≤1073741824 then max (topTo pc epoch k) (pc k).epoch else topTo pc epoch k
theorem topTo_ge (pc:Nat→Pc)(epoch:Nat):∀k,epoch≤topTo pc epoch k
 |0=>Nat.le_refl _
 |k+1=>by
  have:=topTo_ge pc epoch k
  unfold topTo
  split
  ·exact Nat.le_trans this (Nat.le_max_left _ _)
  ·exact this
theorem topTo_le (pc:Nat→Pc)(epoch:Nat)(he:epoch≤1073741824):∀k,topTo pc epoch k≤1073741824
 |0=>he
 |k+1=>by
  have:=topTo_le pc epoch he k
  unfold topTo
  split
  ·rename_i h;exact Nat.max_le.2 ⟨this,h⟩
  ·exact this
def newR (s:Dsk)(first:Nat):Option (Nat×Nat):=
 let q:=newestF (s.now first) (s.now (first+1))
 if q.2.2.2≠0∨q.2.2.1≠[]∨q.2.1/4294967296<1∨1073741824<q.2.1/4294967296∨1073741824<q.2.1%4294967296 then none else some (q.2.1/4294967296,q.2.1%4294967296)
def aliveR (s:Dsk)(l:Lg):Bool:=decide (s.left≠0)&&decide (s.life=l.life)
def readyR (s:Dsk)(l:Lg):Int:=if aliveR s l=false then 3 else if l.begun=false then 4 else 0
def startR (s:Dsk)(l:Lg):Dsk×Lg×Int:=
 if aliveR s l=false then (s,l,3) else if l.begun=true then (s,l,5) else
 let r:=renewR s l.first ((l.top+1)*4294967296+0)
 if r.2≠0 then (r.1,l,r.2) else (r.1,{l with epoch:=l.top+1,tail:=0,head:=0,begun:=true},0)
def leB (v n:Nat):List UInt8:=(List.range n).map fun i=>UInt8.ofNat (v/256^i%256)
def bodyR (epoch p i c:Nat)(part:List UInt8):List UInt8:=leB epoch 4++leB p 4++leB i 2++leB c 2++part
def partR (data:List UInt8)(i:Nat):List UInt8:=(data.drop (i*492)).take 492
def layR (s:Dsk)(l:Lg)(data:List UInt8)(i c:Nat):Dsk×Int:=
 let at_:=l.first+2+(l.head+i)%l.n
 s.writeR (at_:Int) (sealF (s.now at_) (bodyR l.epoch (l.head+i) i c (partR data i))).1
def laysR (l:Lg)(data:List UInt8)(c:Nat):Dsk→Nat→Nat→Dsk×Int
 |s,_,0=>(s,0)
 |s,i,k+1=>if (layR s l data i c).2≠0 then layR s l data i c else laysR l data c (layR s l data i c).1 (i+1) k
def countR (m:Nat):Nat:=(m+491)/492
def appendR (s:Dsk)(l:Lg)(data:List UInt8):Dsk×Lg×Int:=
 if readyR s l≠0 then (s,l,readyR s l) else if data.length=0 then (s,l,2) else if 8364<data.length then (s,l,7)
 else if 1073741824<l.head+countR data.length then (s,l,41) else if l.n<l.head-l.tail+countR data.length then (s,l,40) else
 let r:=laysR l data (countR data.length) s 0 (countR data.length)
 if r.2≠0 then (r.1,l,r.2) else (r.1,{l with head:=l.head+countR data.length},0)
def syncR (s:Dsk)(l:Lg):Dsk×Int:=if readyR s l≠0 then (s,readyR s l) else s.flushR
def trimR (s:Dsk)(l:Lg):Dsk×Lg×Int:=
 if readyR s l≠0 then (s,l,readyR s l) else
 if s.flushR.2≠0∨l.tail=l.head then (s.flushR.1,l,s.flushR.2) else
 let r:=renewR s.flushR.1 l.first (l.epoch*4294967296+l.head)
 if r.2≠0 then (r.1,l,r.2) else (r.1,{l with tail:=l.head},0)
end Go.Proofs
end
section
open Go Go.RowKit Go.Proofs.YtgelippmcflppaaGreatW.PrintWords Go.Proofs.YtgelippmcflppaaGreatW.PrintMore
namespace Go.Proofs
open Go.Vel
set_option linter.unusedVariables false
set_option maxRecDepth 100000
set_option maxHeartbeats 4000000
attribute [local irreducible] gives wpList Code.wp
section
variable {F:Nat→Prop} {w0 w:World} {L:List Ast}
theorem gv_shl {P:Program}{o:Oper}{w:World}{ρ:Operand→Value}{K:Value→World→Prop}{x y:Operand}{T U:TypeId}{k yk:IntKind}{z i:Int}{j:Nat}{z':Int}(ho:o.op=.binOp .shl T x y U)(hx:ρ x=.int k z)(hy:ρ y=.int yk i)(hi:i=(j:Int))(hj:j≤k.bits)(hz:k.wrap (z*2^j)=z')(h:K (.int k z') w):gives P K ((execOp ρ o).run P w):=by
 subst hi hz
 refine gv_val (w':=w) ?_ h
 have hn:¬((j:Int)<0):=by omega
 have hm:min j k.bits=j:=Nat.min_eq_left hj
 simp only [execOp,ho,hx,hy]
 simp [binOp,eqGuard,Op.shift,hn,hm]
def lgc (gd:Nat)(l:Lg):Array Value:=#[.pointer (some ⟨gd,0,none⟩),.int .i64 (l.first:Nat),.int .i64 (l.n:Nat),.int .i64 l.life,.int .i64 (l.epoch:Nat),.int .i64 (l.top:Nat),.int .i64 (l.tail:Nat),.int .i64 (l.head:Nat),.bool l.begun]
def PLog (g gd:Nat)(l:Lg):Ast:=row g (lgc gd l) 83
structure LOk (l:Lg):Prop where
 first:l.first≤2048
 n0:18≤l.n
 n:l.n≤256
 epoch:l.epoch≤1073741824
 top:l.top<1073741824
 tail:l.tail≤1073741824
structure LHd (l:Lg):Prop where
 th:l.tail≤l.head
 ht:l.head≤l.tail+l.n
def aliveE (s:Dsk)(l:Lg):Int:=if aliveR s l=true then 0 else 3
theorem alive_burnt {s:Dsk}{l:Lg}(h:s.left=0):aliveR s l=false:=by simp [aliveR,h]
theorem pw_burntT {g:Nat}{s:Dsk}(hz:s.left=0)(S:St F w0 w L)(i:Nat)(hi:L[i]?=some (PW g s)):Calls Tryz.prog 35 #[.pointer (some ⟨g,0,none⟩)] w fun e w'=>e=.returned (.bool true)∧w=w':=by
 have h:=pw_burnt S i hi
 rwa [decide_eq_true hz] at h
theorem pw_burntF {g:Nat}{s:Dsk}(hz:¬s.left=0)(S:St F w0 w L)(i:Nat)(hi:L[i]?=some (PW g s)):Calls Tryz.prog 35 #[.pointer (some ⟨g,0,none⟩)] w fun e w'=>e=.returned (.bool false)∧w=w':=by
 have h:=pw_burnt S i hi
 rwa [decide_eq_false hz] at h
theorem w_place {gd:Nat}{s:Dsk}{first n:Int}(S:St F w0 w L)(i:Nat)(hi:L[i]?=some (PW gd s)):Calls Tryz.prog 50 #[.pointer (some ⟨gd,0,none⟩),.int .i64 first,.int .i64 n] w fun e w'=>e=.returned (.int .i64 (argsR s first n))∧w=w':=by
 have hn2:=(St.pw_ok (S.mem i hi)).n2
 by_cases hz:s.left=0
 ·refine eN (fr [pq gd,iv first,iv n] 32) Tryz.func50 rfl (sR (pv (iv 0) (wE (nS (sR (pv (pq gd) (sO Tryz.func85 #[pq gd] (pw_sectors S i hi) (pv (iv (s.last.length:Int)) (wE (then_n (wp_block (sR (pv (pq gd) ?_)))))))))))))
  refine sO Tryz.func35 #[pq gd] (pw_burntT hz S i hi) (pv tv (wE (nCT (sR (pv (iv 3) (wE (then_n (wp_ret (inb_r (then_r (bA (iv 3) ?_)))))))))))
  have e:argsR s first n=3:=by unfold argsR;(repeat' split)<;>first|rfl|omega
  rw [e];exact ⟨rfl,rfl⟩
 refine eN (fr [pq gd,iv first,iv n] 32) Tryz.func50 rfl (sR (pv (iv 0) (wE (nS (sR (pv (pq gd) (sO Tryz.func85 #[pq gd] (pw_sectors S i hi) (pv (iv (s.last.length:Int)) (wE (then_n (wp_block (sR (pv (pq gd) ?_)))))))))))))
 refine sO Tryz.func35 #[pq gd] (pw_burntF hz S i hi) (pv fv (wE (nCF (sR (pv (iv first) (dC ((first:Int)<0) (fun hb1=> ?_) fun hb1=> ?_))))))
 ·refine pv tv (wN (wN (wN (pv tv (pv tv (wE (nCT (sR (pv (iv 11) (wE (then_n (wp_ret (inb_r ?_)))))))))))))
  refine then_r (bA (iv 11) ?_)
  have e:argsR s first n=11:=by unfold argsR;(repeat' split)<;>first|rfl|omega
  rw [e];exact ⟨rfl,rfl⟩
 ·refine pv fv (pW (iv first) (pW (iv (s.last.length:Int)) (wl_when kr_ (gv_dec (p:=(first:Int)≥(s.last.length:Int)) kr_ (fun hb2=> ?_) (fun hb2=> ?_)))))
  ·refine pv tv (pv tv (wE (nCT (sR (pv (iv 11) (wE (then_n (wp_ret (inb_r (then_r (bA (iv 11) ?_)))))))))))
   have e:argsR s first n=11:=by unfold argsR;(repeat' split)<;>first|rfl|omega
   rw [e];exact ⟨rfl,rfl⟩
  ·refine pv fv (pv fv (wE (nCF (sR (pv (iv n) (dC ((n:Int)<18) (fun hb3=> ?_) fun hb3=> ?_))))))
   ·refine pv tv (wN (wN (pv tv (pv tv (wE (nCT (sR (pv (iv 1) (wE (then_n (wp_ret (inb_r (then_r ?_)))))))))))))
    refine bA (iv 1) ?_
    have e:argsR s first n=1:=by unfold argsR;(repeat' split)<;>first|rfl|omega
    rw [e];exact ⟨rfl,rfl⟩
   ·refine pv fv (pW (iv n) (wl_when kr_ (gv_dec (p:=(n:Int)>256) kr_ (fun hb4=> ?_) (fun hb4=> ?_))))
    ·refine pv tv (pv tv (wE (nCT (sR (pv (iv 1) (wE (then_n (wp_ret (inb_r (then_r (bA (iv 1) ?_)))))))))))
     have e:argsR s first n=1:=by unfold argsR;(repeat' split)<;>first|rfl|omega
     rw [e];exact ⟨rfl,rfl⟩
    ·refine pv fv (pv fv (wE (nCF (sR (pv (iv first) (gI .i64 (IntKind.i64.wrap (first+2)) (first+2) (wr_ok om_ om_) (pv (iv n) (gI .i64 (IntKind.i64.wrap ((first+2)+n)) ((first+2)+n) (wr_ok om_ om_) (pv (iv (s.last.length:Int)) (dC (((first+2)+n:Int)>(s.last.length:Int)) (fun hb5=> ?_) fun hb5=> ?_))))))))))
     ·refine pv tv (wE (nCT (sR (pv (iv 11) (wE (then_n (wp_ret (inb_r (then_r (bA (iv 11) ?_))))))))))
      have e:argsR s first n=11:=by unfold argsR;(repeat' split)<;>first|rfl|omega
      rw [e];exact ⟨rfl,rfl⟩
     ·refine pv fv (wE (nCF (wp_skip (inb_n (nSR (pv (iv 0) (wE (then_n (wp_ret (bA (iv 0) ?_))))))))))
      have e:argsR s first n=0:=by unfold argsR;(repeat' split)<;>first|rfl|omega
      rw [e];exact ⟨rfl,rfl⟩
theorem w_alive {g gd:Nat}{l:Lg}{s:Dsk}(S:St F w0 w (PLog g gd l::PW gd s::L)):Calls Tryz.prog 83 #[.pointer (some ⟨g,0,none⟩)] w fun e w'=>e=.returned (.int .i64 (aliveE s l))∧St F w0 w' (PLog g gd l::PW gd s::L):=by
 by_cases hz:s.left=0
 ·change St F w0 w (row g (wC_ gd l l.head) 83::PW gd s::L) at S
  refine eN (fr [pq g] 19) Tryz.func83 rfl (sR (pv (iv 0) (wE (nS (wp_seq (wp_region_phu (γ:=Unit) 17 [] (fun (c_:Unit) (i_:Nat)=>(match i_ with|0=>pq g|1=>pq g|2=>pq g|3=>pq gd|4=>.bool true|5=>.bool true|6=>undef|7=>undef|8=>undef|9=>undef|10=>undef|11=>undef|12=>undef|13=>undef|14=>undef|15=>undef|16=>.bool true|_=>undef:Value)) (fun (c_:Unit) (p_:Nat) (w_:World)=>(match p_ with|_=>St F w0 w_ (row g (wC_ gd l l.head) 83::PW gd s::L):Prop)) () kr_ kr_ kr_ kr_ (S.drew) ?_ ?_ ?_))))))
  ·intro i_ c_ p_ vals_ w1 hi_ hiE_ hp_ hk_ hu_ hPh_ hd_
   rcases i_ with _|_|_|_|_|_|_|_|_|_|_|_|_|_|_|_|_|i_
   ·exact tG_ rfl hd_ (gV (pq g) ⟨rfl,rfl⟩)
   ·exact tG_ rfl hd_ (gV (pq g) ⟨rfl,rfl⟩)
   ·exact tG_ rfl hd_ (gV (pq g) ⟨rfl,rfl⟩)
   ·have S4:=St.id hPh_
    exact tG_ rfl hd_ (gL (pq gd) rfl (((S4.blk 0 rfl).cell 0).trans rfl) ⟨rfl,rfl⟩)
   ·have S5:=St.id hPh_
    refine tG_ rfl hd_ (gv_call (args:=#[pq gd]) rfl Tryz.func35 kr_ rfl rfl kr_ (Calls.mono (pw_burntT hz S5 1 rfl) ?_))
    rintro _ _ ⟨rfl,rfl⟩
    exact ⟨_,rfl,⟨rfl,rfl⟩⟩
   ·exact tG_ rfl hd_ (gV (.bool true) ⟨rfl,rfl⟩)
   ·exact tO_ 5 8 5 false true rfl hd_ ⟨rfl,rfl⟩
   ·exact tO_ 5 8 5 false true rfl hd_ ⟨rfl,rfl⟩
   ·exact tO_ 5 8 5 false true rfl hd_ ⟨rfl,rfl⟩
   ·exact tO_ 5 8 5 false true rfl hd_ ⟨rfl,rfl⟩
   ·exact tO_ 5 8 5 false true rfl hd_ ⟨rfl,rfl⟩
   ·exact tO_ 5 8 5 false true rfl hd_ ⟨rfl,rfl⟩
   ·exact tO_ 5 8 5 false true rfl hd_ ⟨rfl,rfl⟩
   ·exact tO_ 5 8 5 false true rfl hd_ ⟨rfl,rfl⟩
   ·exact tO_ 5 8 5 false true rfl hd_ ⟨rfl,rfl⟩
   ·exact tO_ 5 8 5 false true rfl hd_ ⟨rfl,rfl⟩
   ·exact tG_ rfl hd_ (gV (.bool true) ⟨rfl,rfl⟩)
   ·exact absurd hi_ om_
  ·intro k_ c_ vals_ w1 hk_ hPh_ hd_
   exact absurd hk_ (Nat.not_lt_zero _)
  ·intro c_ w1 hPh_
   have S18:=St.id hPh_
   refine (wE (nCT (sR (pv (iv 3) (wE (then_n (rR (bA (iv 3) ?_))))))))
   have e:aliveE s l=3:=by unfold aliveE;rw [alive_burnt hz];rfl
   rw [e]
   exact ⟨rfl,S18⟩
 change St F w0 w (row g (wC_ gd l l.head) 83::PW gd s::L) at S
 refine eN (fr [pq g] 19) Tryz.func83 rfl (sR (pv (iv 0) (wE (nS (wp_seq (wp_region_phu (γ:=Unit) 17 [] (fun (c_:Unit) (i_:Nat)=>(match i_ with|0=>pq g|1=>pq g|2=>pq g|3=>pq gd|4=>.bool false|5=>.bool false|6=>pq g|7=>pq g|8=>pq g|9=>pq gd|10=>iv s.life|11=>pq g|12=>pq g|13=>po g 3|14=>iv l.life|15=>.bool (s.life !=l.life)|16=>.bool (s.life !=l.life)|_=>undef:Value)) (fun (c_:Unit) (p_:Nat) (w_:World)=>(match p_ with|_=>St F w0 w_ (row g (wC_ gd l l.head) 83::PW gd s::L):Prop)) () kr_ kr_ kr_ kr_ (S.drew) ?_ ?_ ?_))))))
 ·intro i_ c_ p_ vals_ w1 hi_ hiE_ hp_ hk_ hu_ hPh_ hd_
  rcases i_ with _|_|_|_|_|_|_|_|_|_|_|_|_|_|_|_|_|i_
  ·exact tG_ rfl hd_ (gV (pq g) ⟨rfl,rfl⟩)
  ·exact tG_ rfl hd_ (gV (pq g) ⟨rfl,rfl⟩)
  ·exact tG_ rfl hd_ (gV (pq g) ⟨rfl,rfl⟩)
  ·have S4:=St.id hPh_
   exact tG_ rfl hd_ (gL (pq gd) rfl (((S4.blk 0 rfl).cell 0).trans rfl) ⟨rfl,rfl⟩)
  ·have S5:=St.id hPh_
   refine tG_ rfl hd_ (gv_call (args:=#[pq gd]) rfl Tryz.func35 kr_ rfl rfl kr_ (Calls.mono (pw_burntF hz S5 1 rfl) ?_))
   rintro _ _ ⟨rfl,rfl⟩
   exact ⟨_,rfl,⟨rfl,rfl⟩⟩
  ·exact tG_ rfl hd_ (gV (.bool false) ⟨rfl,rfl⟩)
  ·exact tW_ 5 8 5 false rfl hd_ (gv_val (v:=pq g) (w':=w1) kr_ ⟨rfl,rfl⟩)
  ·exact tW_ 5 8 5 false rfl hd_ (gv_val (v:=pq g) (w':=w1) kr_ ⟨rfl,rfl⟩)
  ·exact tW_ 5 8 5 false rfl hd_ (gv_val (v:=pq g) (w':=w1) kr_ ⟨rfl,rfl⟩)
  ·have S10:=St.id hPh_
   exact tW_ 5 8 5 false rfl hd_ (gv_ldR (v:=pq gd) rfl kr_ kr_ (((S10.blk 0 rfl).cell 0).trans rfl) ⟨rfl,rfl⟩)
  ·have S11:=St.id hPh_
   refine tW_ 5 8 5 false rfl hd_ (gv_call (args:=#[pq gd]) rfl Tryz.func18 kr_ rfl rfl kr_ (Calls.mono (pw_life S11 1 rfl) ?_))
   rintro _ _ ⟨rfl,rfl⟩
   exact ⟨_,rfl,⟨rfl,rfl⟩⟩
  ·exact tW_ 5 8 5 false rfl hd_ (gv_val (v:=pq g) (w':=w1) kr_ ⟨rfl,rfl⟩)
  ·exact tW_ 5 8 5 false rfl hd_ (gv_val (v:=pq g) (w':=w1) kr_ ⟨rfl,rfl⟩)
  ·exact tW_ 5 8 5 false rfl hd_ (gv_val (v:=po g 3) (w':=w1) kr_ ⟨rfl,rfl⟩)
  ·have S15:=St.id hPh_
   exact tW_ 5 8 5 false rfl hd_ (gv_ldR (v:=iv l.life) rfl kr_ kr_ (((S15.blk 0 rfl).cell 3).trans rfl) ⟨rfl,rfl⟩)
  ·exact tW_ 5 8 5 false rfl hd_ (gv_val (v:=.bool (s.life !=l.life)) (w':=w1) kr_ ⟨rfl,rfl⟩)
  ·exact tG_ rfl hd_ (gV (.bool (s.life !=l.life)) ⟨rfl,rfl⟩)
  ·exact absurd hi_ om_
 ·intro k_ c_ vals_ w1 hk_ hPh_ hd_
  exact absurd hk_ (Nat.not_lt_zero _)
 ·intro c_ w1 hPh_
  have S18:=St.id hPh_
  refine (wE (then_n (wp_cond_split (t:=s.life !=l.life) kr_ (fun hc19=> ?_) (fun hc19=> ?_))))
  ·have ha:aliveR s l=false:=by simp [aliveR,hz] at hc19 ⊢;exact hc19
   refine sR (pv (iv 3) (wE (then_n (rR (bA (iv 3) ?_)))))
   have e:aliveE s l=3:=by unfold aliveE;rw [show aliveR s l=false from ha];rfl
   rw [e]
   exact ⟨rfl,S18⟩
  ·have ha:aliveR s l=true:=by simp [aliveR,hz] at hc19 ⊢;exact hc19
   refine wp_skip (nSR (pv (iv 0) (wE (then_n (wp_ret (bA (iv 0) ?_))))))
   have e:aliveE s l=0:=by unfold aliveE;rw [show aliveR s l=true from ha];rfl
   rw [e]
   exact ⟨rfl,S18⟩
theorem w_ready {g gd:Nat}{l:Lg}{s:Dsk}(S:St F w0 w (PLog g gd l::PW gd s::L)):Calls Tryz.prog 80 #[.pointer (some ⟨g,0,none⟩)] w fun e w'=>e=.returned (.int .i64 (readyR s l))∧St F w0 w' (PLog g gd l::PW gd s::L):=by
 obtain ⟨b,hb⟩:∃b,l.begun=b:=⟨_,rfl⟩
 have er:readyR s l=if aliveE s l=3 then 3 else if l.begun=false then 4 else 0:=by unfold readyR aliveE;cases aliveR s l<;>simp
 change St F w0 w (row g (wC_ gd l l.head) 83::PW gd s::L) at S
 refine eN (fr [pq g] 13) Tryz.func80 rfl (sR (pv (iv 0) (wE (nS (sR (pv (pq g) (sP Tryz.func83 #[pq g] (w_alive S) fun w1 S2=>pv (iv (aliveE s l)) (wER (pv (iv (aliveE s l)) (dN (aliveE s l) 0 (fun hb3=> ?_) fun hb3=> ?_))))))))))
 ·have ha:aliveE s l=3:=by unfold aliveE at hb3 ⊢;split at hb3<;>simp_all
  refine wE (nCT (sR (pv (iv (aliveE s l)) (pv (iv (aliveE s l)) (wE (then_n (rR (bA (iv (aliveE s l)) ?_))))))))
  have e:readyR s l=aliveE s l:=by rw [er];simp_all
  rw [e]
  exact ⟨rfl,S2⟩
 ·refine wE (nCF (wp_skip (nS (sR (pv (pq g) (pv (pq g) (pv (po g 8) (lR (.bool l.begun) S2 0 8 (pv (.bool (!l.begun)) (wE (then_n (wp_cond_split (t:= !l.begun) kr_ (fun hc4=> ?_) (fun hc4=> ?_)))))))))))))
  ·have hbg:l.begun=false:=by simpa using hc4
   refine sR (pv (iv 4) (wE (then_n (rR (bA (iv 4) ?_)))))
   have e:readyR s l=4:=by rw [er];simp_all
   rw [e]
   exact ⟨rfl,S2⟩
  ·have hbg:l.begun=true:=by simpa using hc4
   refine wp_skip (nSR (pv (iv 0) (wE (then_n (wp_ret (bA (iv 0) ?_))))))
   have e:readyR s l=0:=by rw [er];simp_all
   rw [e]
   exact ⟨rfl,S2⟩
theorem w_free {g gd:Nat}{l:Lg}{s:Dsk}(S:St F w0 w (PLog g gd l::PW gd s::L))(hl:LOk l)(hh:LHd l):Calls Tryz.prog 81 #[.pointer (some ⟨g,0,none⟩)] w fun e w'=>e=.returned (.int .i64 ((l.n:Int)-((l.head:Int)-(l.tail:Int))))∧St F w0 w' (PLog g gd l::PW gd s::L):=by
 obtain ⟨h1,h2,h3,h4,h5,h6⟩:=hl
 obtain ⟨h7,h8⟩:=hh
 change St F w0 w (row g (wC_ gd l l.head) 83::PW gd s::L) at S
 refine eN (fr [pq g] 16) Tryz.func81 rfl (sR (pv (iv 0) (wE (nS (wp_region_phu (γ:=Unit) 14 [] (fun (c_:Unit) (i_:Nat)=>(match i_ with|0=>pq g|1=>pq g|2=>po g 2|3=>nI_ l.n|4=>pq g|5=>pq g|6=>po g 7|7=>nI_ l.head|8=>pq g|9=>pq g|10=>po g 6|11=>nI_ l.tail|12=>iv (((l.head:Nat):Int)-((l.tail:Nat):Int))|13=>iv (((l.n:Nat):Int)-(((l.head:Nat):Int)-((l.tail:Nat):Int)))|_=>undef:Value)) (fun (c_:Unit) (p_:Nat) (w_:World)=>(match p_ with|_=>St F w0 w_ (row g (wC_ gd l l.head) 83::PW gd s::L):Prop)) () kr_ kr_ kr_ kr_ (S.drew) ?_ ?_ ?_)))))
 ·intro i_ c_ p_ vals_ w1 hi_ hiE_ hp_ hk_ hu_ hPh_ hd_
  rcases i_ with _|_|_|_|_|_|_|_|_|_|_|_|_|_|i_
  ·exact tG_ rfl hd_ (gV (pq g) ⟨rfl,rfl⟩)
  ·exact tG_ rfl hd_ (gV (pq g) ⟨rfl,rfl⟩)
  ·exact tG_ rfl hd_ (gV (po g 2) ⟨rfl,rfl⟩)
  ·have S4:=St.id hPh_
   exact tG_ rfl hd_ (gL (nI_ l.n) rfl (((S4.blk 0 rfl).cell 2).trans rfl) ⟨rfl,rfl⟩)
  ·exact tG_ rfl hd_ (gV (pq g) ⟨rfl,rfl⟩)
  ·exact tG_ rfl hd_ (gV (pq g) ⟨rfl,rfl⟩)
  ·exact tG_ rfl hd_ (gV (po g 7) ⟨rfl,rfl⟩)
  ·have S8:=St.id hPh_
   exact tG_ rfl hd_ (gL (nI_ l.head) rfl (((S8.blk 0 rfl).cell 7).trans rfl) ⟨rfl,rfl⟩)
  ·exact tG_ rfl hd_ (gV (pq g) ⟨rfl,rfl⟩)
  ·exact tG_ rfl hd_ (gV (pq g) ⟨rfl,rfl⟩)
  ·exact tG_ rfl hd_ (gV (po g 6) ⟨rfl,rfl⟩)
  ·have S12:=St.id hPh_
   exact tG_ rfl hd_ (gL (nI_ l.tail) rfl (((S12.blk 0 rfl).cell 6).trans rfl) ⟨rfl,rfl⟩)
  ·exact tG_ rfl hd_ (gv_int (k:=.i64) (z:=IntKind.i64.wrap (((l.head:Nat):Int)-((l.tail:Nat):Int))) (z':=((l.head:Nat):Int)-((l.tail:Nat):Int)) kr_ (wr_ok om_ om_) ⟨rfl,rfl⟩)
  ·exact tG_ rfl hd_ (gv_int (k:=.i64) (z:=IntKind.i64.wrap (((l.n:Nat):Int)-(((l.head:Nat):Int)-((l.tail:Nat):Int)))) (z':=((l.n:Nat):Int)-(((l.head:Nat):Int)-((l.tail:Nat):Int))) kr_ (wr_ok om_ om_) ⟨rfl,rfl⟩)
  ·exact absurd hi_ om_
 ·intro k_ c_ vals_ w1 hk_ hPh_ hd_
  exact absurd hk_ (Nat.not_lt_zero _)
 ·intro c_ w1 hPh_
  have S15:=St.id hPh_
  exact (pv (iv (((l.n:Nat):Int)-(((l.head:Nat):Int)-((l.tail:Nat):Int)))) (wE (then_n (wp_ret (bA (iv (((l.n:Nat):Int)-(((l.head:Nat):Int)-((l.tail:Nat):Int)))) ⟨rfl,S15⟩)))))
theorem w_at {g gd:Nat}{l:Lg}{s:Dsk}(S:St F w0 w (PLog g gd l::PW gd s::L))(hl:LOk l){p:Nat}(hp:p≤9223372036854775807):Calls Tryz.prog 108 #[.pointer (some ⟨g,0,none⟩),.int .i64 (p:Nat)] w fun e w'=>e=.returned (.int .i64 ((l.first+2+p%l.n:Nat):Int))∧St F w0 w' (PLog g gd l::PW gd s::L):=by
 obtain ⟨h1,h2,h3,h4,h5,h6⟩:=hl
 obtain ⟨m,hm⟩:∃m,l.n=m+1:=⟨l.n-1,by omega⟩
 have hpm:p%l.n<l.n:=Nat.mod_lt _ om_
 change St F w0 w (row g (wC_ gd l l.head) 83::PW gd s::L) at S
 refine eN (fr [pq g,nI_ p] 15) Tryz.func108 rfl (sR (pv (iv 0) (wE (nS (wp_region_phu (γ:=Unit) 12 [] (fun (c_:Unit) (i_:Nat)=>(match i_ with|0=>pq g|1=>pq g|2=>po g 1|3=>nI_ l.first|4=>nI_ (l.first+2)|5=>nI_ p|6=>pq g|7=>pq g|8=>po g 2|9=>nI_ l.n|10=>nI_ (p%l.n)|11=>nI_ (l.first+2+p%l.n)|_=>undef:Value)) (fun (c_:Unit) (p_:Nat) (w_:World)=>(match p_ with|_=>St F w0 w_ (row g (wC_ gd l l.head) 83::PW gd s::L):Prop)) () kr_ kr_ kr_ kr_ (S.drew) ?_ ?_ ?_)))))
 ·intro i_ c_ p_ vals_ w1 hi_ hiE_ hp_ hk_ hu_ hPh_ hd_
  rcases i_ with _|_|_|_|_|_|_|_|_|_|_|_|i_
  ·exact tG_ rfl hd_ (gV (pq g) ⟨rfl,rfl⟩)
  ·exact tG_ rfl hd_ (gV (pq g) ⟨rfl,rfl⟩)
  ·exact tG_ rfl hd_ (gV (po g 1) ⟨rfl,rfl⟩)
  ·have S4:=St.id hPh_
   exact tG_ rfl hd_ (gL (nI_ l.first) rfl (((S4.blk 0 rfl).cell 1).trans rfl) ⟨rfl,rfl⟩)
  ·exact tG_ rfl hd_ (gv_int (k:=.i64) (z:=IntKind.i64.wrap (((l.first:Nat):Int)+2)) (z':=((l.first+2:Nat):Int)) kr_ wq_ ⟨rfl,rfl⟩)
  ·exact tG_ rfl hd_ (gV (nI_ p) ⟨rfl,rfl⟩)
  ·exact tG_ rfl hd_ (gV (pq g) ⟨rfl,rfl⟩)
  ·exact tG_ rfl hd_ (gV (pq g) ⟨rfl,rfl⟩)
  ·exact tG_ rfl hd_ (gV (po g 2) ⟨rfl,rfl⟩)
  ·have S10:=St.id hPh_
   exact tG_ rfl hd_ (gL (nI_ l.n) rfl (((S10.blk 0 rfl).cell 2).trans rfl) ⟨rfl,rfl⟩)
  ·exact tG_ rfl hd_ (gv_int (k:=.i64) (z:=Int.tmod ((p:Nat):Int) ((l.n:Nat):Int)) (z':=((p%l.n:Nat):Int)) (by rw [hm];kernel_rfl) (tmod_nat rfl rfl) ⟨rfl,rfl⟩)
  ·exact tG_ rfl hd_ (gv_int (k:=.i64) (z:=IntKind.i64.wrap (((l.first+2:Nat):Int)+((p%l.n:Nat):Int))) (z':=((l.first+2+p%l.n:Nat):Int)) kr_ wq_ ⟨rfl,rfl⟩)
  ·exact absurd hi_ om_
 ·intro k_ c_ vals_ w1 hk_ hPh_ hd_
  exact absurd hk_ (Nat.not_lt_zero _)
 ·intro c_ w1 hPh_
  have S13:=St.id hPh_
  exact (pv (nI_ (l.first+2+p%l.n)) (wE (then_n (wp_ret (bA (nI_ (l.first+2+p%l.n)) ⟨rfl,S13⟩)))))
end
end Go.Proofs
end
section
open Go Go.RowKit Go.Proofs.YtgelippmcflppaaGreatW.PrintWords Go.Proofs.YtgelippmcflppaaGreatW.PrintMore
namespace Go.Vel
set_option linter.unusedVariables false
section
section
variable {P:Program}{ops:Array Oper}{rest:List Oper}{o:Oper}{a:Act}{w w0:World}{F:Nat→Prop}{L:List Ast}{ρ:Operand→Value}{K:Value→World→Prop}{e:TypeId}{sz n:Nat}{v:Value}{vals:List Value}
theorem gv_ixArr {T:TypeId}{x y:Operand}{g off N:Nat}{k:IntKind}{i:Int}{j off':Nat}(ho:o.op=.indexAddr T x y)(hT:P.underlying T=some (.array (P.arrayLen T) (P.elem T)))(hN:P.arrayLen T=N)(hs:(P.info? (P.elem T)).map (·.size)=some sz)(hx:ρ x=.pointer (some ⟨g,off,none⟩))(hy:ρ y=.int k i)(hi:i=(j:Int))(hj:j<N)(hf:off'=off+j*sz)(h:K (.pointer (some ⟨g,off',none⟩)) w):gives P K ((execOp ρ o).run P w):=by
 subst hi hf hN
 refine gv_val (w':=w) ?_ h
 cases hq:P.info? (P.elem T) with
 |none=>simp [hq] at hs
 |some ie=>
  have he:ie.size=sz:=by simpa [hq] using hs
  simp only [execOp,ho,hx,hy]
  simp [run_indexAt_array _ _ _ _ _ hT,sizeOf,typeInfo,hq,he,hj,Addr.add_lit]
theorem gv_appendB {s x:Operand}{t:TypeId}{g n c m c':Nat}{A:Option Addr}{X l:List UInt8}(S:St F w0 w L)(i:Nat)(hi:L[i]?=some (row g (bvs X) e))(ho:o.op=.call {callee:=.builtin .append,args:=#[s,x],argTypes:=#[t,t]})(ht:P.underlying t=some (.slice e))(hinfo:(P.info? e).map (·.size)=some 1)
  (hs:ρ s=.slice (some ⟨g,0,none⟩) n c) (hx:ρ x=.slice A m c') (hm:m=l.length) (hr:RdB w A l) (hroom:n+l.length≤c) (hL:X.length=c) {n':Nat} (hn':n'=n+l.length)
  {L':List Ast} (hL':L.set i (row g (bvs (splice X n l)) e)=L') (h:∀w',St F w0 w' L'→K (.slice (some ⟨g,0,none⟩) n' c) w'):gives P K ((execOp ρ o).run P w):=by
 subst hm hn'
 obtain ⟨ie,hie,hz⟩:=Option.map_eq_some_iff.1 hinfo
 have hB:=S.blk i hi
 by_cases h0:l.length=0
 ·have hl0:l=[]:=List.eq_nil_of_length_eq_zero h0
  subst hl0
  have hsp:splice X n []=X:=by simp [splice]
  rw [hsp] at hL'
  have hset:L.set i (row g (bvs X) e)=L:=by
   apply List.ext_getElem?
   intro k
   rw [List.getElem?_set]
   split
   ·rename_i hk
    subst hk
    rw [hi,if_pos (List.getElem?_eq_some_iff.1 hi).1]
   ·rfl
  rw [hset] at hL'
  subst hL'
  refine gv_val (w':=w) (v:=.slice (some ⟨g,0,none⟩) n c) ?_ (by simpa using h w S)
  have hroom':n≤c:=by simpa using hroom
  cases A with
  |none=>simp [execOp,ho,resolve,invoke,builtin,hs,hx,Builtin.append_,run_underlying ht,sizeOf,typeInfo,hie,Builtin.lenOf,hroom',Builtin.firstCells,storeCells]
  |some ad=>
   have hrun:=run_append_room_cells (P:=P) w t o.type e ie ht hie g 0 n c ad 0 c' [] (by simp) (by simp) (by simp) om_ (by simp) (by simp)
   simp [execOp,ho,resolve,invoke,builtin,hs,hx,hrun,World.setCells]
 ·obtain ⟨ad,rfl,hcs⟩:=hr om_
  have hrun:=run_append_room_cells (P:=P) w t o.type e ie ht hie g 0 n c ad l.length c' (l.map bv) (by simp [hz]) hcs (map_bv_one l) hroom
   (fun j hj=>by
    rw [hz,Nat.mul_one,Nat.zero_add,hB.cell,Array.getElem?_eq_getElem (by rw [size_bvs];simp at hj;omega)];rfl)
   (fun j hj=>hB.frozen _)
  rw [hz,Nat.mul_one,Nat.zero_add] at hrun
  obtain ⟨cur',h3,h4,h5⟩:=setCells_row (l.map bv) n w (bvs X) hB.out (by rw [size_bvs];simp;omega)
  have hcur:cur'=bvs (splice X n l):=by
   apply Array.ext'
   rw [h5]
   simp [bvs,splice,List.map_take,List.map_drop]
  rw [hcur] at h3
  obtain ⟨q1,q2,q3,q4⟩:=setCells_same g (l.map bv) n w
  subst hL'
  refine gv_val (w':=w.setCells g n (l.map bv)) (v:=.slice (some ⟨g,0,none⟩) (n+l.length) c) ?_ (h _ (S.upd i hi ⟨q1,q2,q3,q4,fun k hk=>setCells_far _ _ k hk⟩ h3))
  simp [execOp,ho,resolve,invoke,builtin,hs,hx,hrun]
theorem gv_shr {x y:Operand}{T U:TypeId}{k yk:IntKind}{z i:Int}{j:Nat}{z':Int}(ho:o.op=.binOp .shr T x y U)(hx:ρ x=.int k z)(hy:ρ y=.int yk i)(hi:i=(j:Int))(hj:j≤k.bits)(hz:z'=z/2^j)(h:K (.int k z') w):gives P K ((execOp ρ o).run P w):=by
 subst hi hz
 refine gv_val (w':=w) ?_ h
 have hf:z.fdiv (2^j)=z/2^j:=Int.fdiv_eq_ediv_of_nonneg _ (Int.pow_nonneg dc_)
 have hn:¬((j:Int)<0):=by omega
 have hm:min j k.bits=j:=Nat.min_eq_left hj
 simp only [execOp,ho,hx,hy]
 simp [binOp,eqGuard,Op.shift,hn,hm,hf]
theorem RoT.ofVec {t:TypeId}{A:Option Addr}{l:List UInt8}{n c:Nat}(i:Nat)(hi:L[i]?=some (vec t 1 (.slice A n c) n (l.map bv))):RoT F w0 L A l:=⟨fun w' L' S=>by
 have h1:(L'++L)[L'.length+i]?=some (vec t 1 (.slice A n c) n (l.map bv)):=by rw [List.getElem?_append_right om_];simpa using hi
 have S1:=S.mem _ h1
 intro h0
 have hl:=S1.vec_len
 rw [List.length_map] at hl
 obtain ⟨g,c2,junk,hv,_,h3,_,S2⟩:=S1.vec_open om_
 have hB:=S2.blk 0 rfl
 simp at hv
 refine ⟨⟨g,0,none⟩,hv.1,fun j u hu=> ?_⟩
 rw [Addr.add_lit,Nat.zero_add,hB.cell,List.getElem?_toArray,List.getElem?_append_left (List.getElem?_eq_some_iff.1 hu).1];exact hu⟩
theorem St.vecV {t:TypeId}{sz n:Nat}{v:Value}{vals:List Value}(S:St F w0 w L)(i:Nat)(hi:L[i]?=some (vec t sz v n vals)):∃A c,v=.slice A n c:=(S.mem i hi).vec_val
end
def pre (l:List UInt8)(i:Nat):List UInt8:=(List.range i).map fun j=>l.getD j 0
theorem pre_succ (l:List UInt8)(i:Nat):(pre l i).map bv++[Value.int .u8 ((l.getD i 0).toNat:Int)]=(pre l (i+1)).map bv:=by
 unfold pre
 rw [List.range_succ,List.map_append,List.map_append];rfl
theorem pre_take {l:List UInt8}{i:Nat}(h:i≤l.length):pre l i=l.take i:=by
 apply List.ext_getElem?
 intro k
 unfold pre
 rw [List.getElem?_map,List.getElem?_take]
 by_cases hk:k<i
 ·rw [List.getElem?_range hk,if_pos hk,List.getElem?_eq_getElem om_,Option.map_some,List.getD_eq_getElem?_getD,List.getElem?_eq_getElem om_];rfl
 ·rw [List.getElem?_eq_none (by simpa using hk),if_neg hk];rfl
theorem pre_all (l:List UInt8):pre l l.length=l:=by rw [pre_take (Nat.le_refl _),List.take_length]
theorem bv_snoc (l:List UInt8)(b:UInt8):l.map bv++[Value.int .u8 (b.toNat:Int)]=(l++[b]).map bv:=by rw [List.map_append];rfl
theorem wr_u8 (b:UInt8):IntKind.i64.wrap (b.toNat:Int)=(b.toNat:Int):=by
 have:=b.toNat_lt
 rw [IntKind.wrap_i64];omega
theorem wrap_u8 (z:Int):IntKind.u8.wrap z=((UInt8.ofNat (z%256).toNat).toNat:Int):=by
 rw [UInt8.toNat_ofNat',IntKind.wrap_u8]
 have h1:=Int.emod_nonneg z (show (256:Int)≠0 by decide)
 have h2:=Int.emod_lt_of_pos z (show (0:Int)<256 by decide)
 omega
end
end Go.Vel
end
section
open Go Go.RowKit Go.Proofs.YtgelippmcflppaaGreatW.PrintWords Go.Proofs.YtgelippmcflppaaGreatW.PrintMore
namespace Go.Proofs
open Go.Vel
set_option linter.unusedVariables false
set_option maxRecDepth 100000
set_option maxHeartbeats 4000000
attribute [local irreducible] gives wpList Code.wp
section
variable {F:Nat→Prop} {w0 w:World} {L:List Ast}
theorem byte_eq3 {a b:List UInt8}{k:Nat}(h:¬((a.getD k 0).toNat:Int)=((b.getD k 0).toNat:Int)):a≠b:=fun e=>h (by rw [e])
theorem bytes_ext3 {a b:List UInt8}(hl:a.length=b.length)(h:∀m,m<a.length→((a.getD m 0).toNat:Int)=((b.getD m 0).toNat:Int)):a=b:=by
 apply List.ext_getElem hl
 intro m h1 h2
 have:=h m h1
 rw [List.getD_eq_getElem?_getD,List.getD_eq_getElem?_getD,List.getElem?_eq_getElem h1,List.getElem?_eq_getElem h2] at this
 simp only [Option.getD_some] at this
 exact UInt8.toNat_inj.1 om_
theorem rsame_ {A B:Option Addr}{a b:List UInt8}{ca cb:Nat}(S:St F w0 w L)(hx:RoT F w0 L A a)(hy:RoT F w0 L B b)(hm:a.length≤9223372036854775807)(hm2:b.length≤9223372036854775807):
  Calls Tryz.prog 135 #[.slice A a.length ca,.slice B b.length cb] w fun e w'=>e=.returned (.bool (decide (a=b)))∧St F w0 w' L:=by
 refine eN (fr [.slice A a.length ca,.slice B b.length cb] 24) Tryz.func135 rfl (sR (pv fv (wE (nS (sR (pv (.slice A a.length ca) (pv (iv (a.length:Nat)) (pv (.slice B b.length cb) (pv (iv (b.length:Nat)) (dN (a.length:Nat) (b.length:Nat) (fun hb1=> ?_) fun hb1=> ?_))))))))))
 ·have hlen:¬a.length=b.length:=fun e=>hb1 (by rw [e])
  exact wE (nCT (sR (pv fv (wE (then_n (rR (bA (.bool false) ⟨by rw [decide_eq_false (fun e=>hlen (by rw [e]))],S⟩)))))))
 ·have hlen:a.length=b.length:=Int.ofNat.inj hb1
  refine wE (nCF (wp_skip (nS (sR (pv (iv 0) (wE (then_n (wp_block (wp_loop_g (G:=Nat) (fun (g_:Nat) (a_:Act) (w_:World)=>∃J:Nat→Value,a_=(fr ([.slice A a.length ca,.slice B b.length cb,ud,ud,J 4,nI_ g_,.slice A a.length ca,iv (a.length:Nat),.slice B b.length cb,iv (b.length:Nat),fv]++jR J 11 15) 0)∧St F w0 w_ (L)∧(g_≤a.length∧∀m,m<g_→((a.getD m 0).toNat:Int)=((b.getD m 0).toNat:Int))) (fun g_=>a.length-g_) 0 (jE_ ⟨S,⟨Nat.zero_le _,fun m h=>absurd h (Nat.not_lt_zero _)⟩⟩) ?_)))))))))
  rintro k a_ w2 ⟨J,rfl,S3,hI4⟩
  skip
  have S3:St F w0 w2 (L):=S3
  have hI4:(k≤a.length∧∀m,m<k→((a.getD m 0).toNat:Int)=((b.getD m 0).toNat:Int)):=hI4
  refine wp_seq (sR (pv (nI_ k) (pv (.slice A a.length ca) (pv (iv (a.length:Nat)) (dC ((((k:Nat):Int):Int)<(a.length:Nat)) (fun hb5=> ?_) fun hb5=> ?_)))))
  ·have hk:k<a.length:=by omega
   obtain ⟨ada,rfl⟩:=(hx.now S3).at hk
   obtain ⟨adb,rfl⟩:=(hy.now S3).at (hlen▸hk)
   refine wE (nCT (wp_skip (nS (wp_block (wp_seq (wp_region_phu (γ:=Unit) 9 [] (fun (c_:Unit) (i_:Nat)=>(match i_ with|0=>.slice (some ada) a.length ca|1=>nI_ k|2=>.pointer (some (ada.add k))|3=>.int .u8 ((a.getD k 0).toNat:Int)|4=>.slice (some adb) b.length cb|5=>nI_ k|6=>.pointer (some (adb.add k))|7=>.int .u8 ((b.getD k 0).toNat:Int)|8=>.bool (((a.getD k 0).toNat:Int) !=((b.getD k 0).toNat:Int))|_=>undef:Value)) (fun (c_:Unit) (p_:Nat) (w_:World)=>(match p_ with|_=>St F w0 w_ (L):Prop)) () kr_ kr_ kr_ kr_ (S3.drew) ?_ ?_ ?_))))))
   ·intro i_ c_ p_ vals_ w1 hi_ hiE_ hp_ hk_ hu_ hPh_ hd_
    rcases i_ with _|_|_|_|_|_|_|_|_|i_
    ·exact tG_ rfl hd_ (gV (.slice (some ada) a.length ca) ⟨rfl,rfl⟩)
    ·exact tG_ rfl hd_ (gV (nI_ k) ⟨rfl,rfl⟩)
    ·exact tG_ rfl hd_ (gv_ixB (e:=5) (sz:=1) (n:=a.length) (c:=ca) (i:=((k:Nat):Int)) (k:=.i64) (ad:=ada) (ad':=(ada.add k)) (j:=k) rfl kr_ kr_ kr_ kr_ rfl hk (by rw [Nat.mul_one]) ⟨rfl,rfl⟩)
    ·have S9:=St.id hPh_
     exact tG_ rfl hd_ (gL (.int .u8 ((a.getD k 0).toNat:Int)) rfl ((hx.now S9).cell hk) ⟨rfl,rfl⟩)
    ·exact tG_ rfl hd_ (gV (.slice (some adb) b.length cb) ⟨rfl,rfl⟩)
    ·exact tG_ rfl hd_ (gV (nI_ k) ⟨rfl,rfl⟩)
    ·exact tG_ rfl hd_ (gv_ixB (e:=5) (sz:=1) (n:=b.length) (c:=cb) (i:=((k:Nat):Int)) (k:=.i64) (ad:=adb) (ad':=(adb.add k)) (j:=k) rfl kr_ kr_ kr_ kr_ rfl (hlen▸hk) (by rw [Nat.mul_one]) ⟨rfl,rfl⟩)
    ·have S13:=St.id hPh_
     exact tG_ rfl hd_ (gL (.int .u8 ((b.getD k 0).toNat:Int)) rfl ((hy.now S13).cell (hlen▸hk)) ⟨rfl,rfl⟩)
    ·exact tG_ rfl hd_ (gV (.bool (((a.getD k 0).toNat:Int) !=((b.getD k 0).toNat:Int))) ⟨rfl,rfl⟩)
    ·exact absurd hi_ om_
   ·intro k_ c_ vals_ w1 hk_ hPh_ hd_
    exact absurd hk_ (Nat.not_lt_zero _)
   ·intro c_ w1 hPh_
    have S15:=St.id hPh_
    refine (wE (then_n (wp_cond_split (t:=((a.getD k 0).toNat:Int) !=((b.getD k 0).toNat:Int)) kr_ (fun hc16=> ?_) (fun hc16=> ?_))))
    ·exact sR (pv fv (wE (then_n (wp_ret (inb_r (then_r (then_r (inb_r (then_r (bA (.bool false) ⟨by rw [decide_eq_false (byte_eq3 (by simpa using hc16))],S15⟩))))))))))
    ·have heqk:((a.getD k 0).toNat:Int)=((b.getD k 0).toNat:Int):=by simpa using hc16
     exact wp_skip (inb_n (nR (pv (nI_ k) (gI .i64 (IntKind.i64.wrap (((k:Nat):Int)+1)) ((k+1:Nat):Int) wq_ (pv (nI_ (k+1)) (wE (then_n ⟨k+1,(jE_ ⟨S15,⟨by omega,fun m hm=>(Nat.lt_succ_iff_lt_or_eq.1 hm).elim (hI4.2 m) (fun e=>e▸heqk)⟩⟩),(by show a.length-(k+1)<a.length-k;omega)⟩)))))))
  ·have hke:k=a.length:=by omega
   exact wE (nCF (wp_exit (then_x (then_x (inb_x (nSR (pv tv (wE (then_n (wp_ret (bA (.bool true) ⟨by rw [decide_eq_true (bytes_ext3 hlen (fun m hm=>hI4.2 m om_))],S3⟩)))))))))))
theorem rsame {A B:Option Addr}{a b:List UInt8}{ca cb:Nat}{t:Bool}(ht:decide (a=b)=t)(S:St F w0 w L)(hx:RoT F w0 L A a)(hy:RoT F w0 L B b)(hm:a.length≤9223372036854775807)(hm2:b.length≤9223372036854775807):
  Calls Tryz.prog 135 #[.slice A a.length ca,.slice B b.length cb] w fun e w'=>e=.returned (.bool t)∧St F w0 w' L:=ht▸rsame_ S hx hy hm hm2
theorem bits_xor64' (a b:BitVec 32):bits .xor .i64 (a.toNat:Int) (b.toNat:Int)=((a^^^b).toNat:Int):=by
 have ha:=a.isLt
 have hb:=b.isLt
 have hc:=(a^^^b).isLt
 show IntKind.i64.wrap ((BitVec.ofInt 64 (a.toNat:Int)^^^BitVec.ofInt 64 (b.toNat:Int)).toNat:Int)=_
 rw [BitVec.toNat_xor]
 have f1:(BitVec.ofInt 64 (a.toNat:Int)).toNat=a.toNat:=by simp;omega
 have f2:(BitVec.ofInt 64 (b.toNat:Int)).toNat=b.toNat:=by simp;omega
 rw [f1,f2,←BitVec.toNat_xor,IntKind.wrap_i64]
 omega
theorem bits_and1' (r:BitVec 32):bits .and .i64 (r.toNat:Int) 1=((r.toNat%2:Nat):Int):=by
 have hr:=r.isLt
 show IntKind.i64.wrap ((BitVec.ofInt 64 (r.toNat:Int)&&&BitVec.ofInt 64 1).toNat:Int)=_
 rw [BitVec.toNat_and]
 have f1:(BitVec.ofInt 64 (r.toNat:Int)).toNat=r.toNat:=by simp;omega
 have f2:(BitVec.ofInt 64 (1:Int)).toNat=1:=rfl
 rw [f1,f2,Nat.and_one_is_mod,IntKind.wrap_i64]
 omega
theorem lsb_mod' (r:BitVec 32):r.getLsbD 0=true↔r.toNat%2=1:=by
 rw [BitVec.getLsbD,Nat.testBit_zero];simp
theorem m1_num' (r:BitVec 32):(r.toNat%2=1→bits .xor .i64 ((r.toNat:Int)/2) 2197175160=((m1 r).toNat:Int))∧(r.toNat%2≠1→(r.toNat:Int)/2=((m1 r).toNat:Int)):=by
 have e1:((r.toNat:Int)/2:Int)=((r>>>1).toNat:Int):=by
  rw [BitVec.toNat_ushiftRight,Nat.shiftRight_eq_div_pow];omega
 have e2:(2197175160:Int)=((BitVec.ofNat 32 2197175160).toNat:Int):=by decide
 constructor
 ·intro h
  rw [e1,e2,bits_xor64']
  unfold m1
  rw [if_pos ((lsb_mod' r).2 h)]
 ·intro h
  rw [e1]
  unfold m1
  rw [if_neg (fun h2=>h ((lsb_mod' r).1 h2))]
  simp
theorem raw_pre (l:List UInt8)(i:Nat):raw (BitVec.ofNat 32 4294967295) (pre l (i+1))=upd (raw (BitVec.ofNat 32 4294967295) (pre l i)) (l.getD i 0):=by
 unfold pre
 rw [List.range_succ,List.map_append,raw_append];rfl
theorem crc_end (r:BitVec 32):bits .xor .i64 (r.toNat:Int) 4294967295=((~~~ r).toNat:Int):=by
 have e:(4294967295:Int)=((BitVec.ofNat 32 4294967295).toNat:Int):=by decide
 rw [e,bits_xor64',show BitVec.ofNat 32 4294967295=BitVec.allOnes 32 from by decide,BitVec.xor_allOnes]
theorem rsum (S:St F w0 w L){A:Option Addr}{l:List UInt8}{ca:Nat}(hr:RoT F w0 L A l)(hlm:l.length≤140737488355328):Calls Tryz.prog 142 #[.slice A l.length ca] w fun e w'=>e=.returned (.int .i64 ((crc l).toNat:Int))∧St F w0 w' L:=by
 refine eN (fr [.slice A l.length ca] 33) Tryz.func142 rfl (sR (pv (iv 0) (wER (pv (iv 4294967295) (wE (nS (sR (pv (iv 0) (wE (then_n (wp_block (wp_loop_g (G:=Nat×BitVec 32) (fun (g_:Nat×BitVec 32) (a_:Act) (w_:World)=>∃J:Nat→Value,a_=(fr ([.slice A l.length ca,ud,iv 0,iv (g_.2.toNat:Int),nI_ g_.1]++jR J 5 27) 2)∧St F w0 w_ (L)∧(g_.1≤l.length∧g_.2=raw (BitVec.ofNat 32 4294967295) (pre l g_.1))) (fun g_=>l.length-g_.1) (0,BitVec.ofNat 32 4294967295) (jE_ ⟨S,⟨Nat.zero_le _,rfl⟩⟩) ?_))))))))))))
 rintro ⟨i,r⟩ a_ w1 ⟨J,rfl,S2,hI3⟩
 skip
 have S2:St F w0 w1 (L):=S2
 have hI3:(i≤l.length∧r=raw (BitVec.ofNat 32 4294967295) (pre l i)):=hI3
 refine wp_seq (sR (pv (nI_ i) (pv (.slice A l.length ca) (pv (iv (l.length:Nat)) (dC ((((i:Nat):Int):Int)<(l.length:Nat)) (fun hb4=> ?_) fun hb4=> ?_)))))
 ·have hi:i<l.length:=by omega
  obtain ⟨ad,had⟩:=(hr.now S2).at hi
  refine wE (nCT (wp_skip (nS (wp_block (sR (pv (iv (r.toNat:Int)) (pv (.slice A l.length ca) (pv (nI_ i) (g_ (gv_ixB (e:=5) (sz:=1) (n:=l.length) (c:=ca) (i:=((i:Nat):Int)) (k:=.i64) (ad:=ad) (ad':=(ad.add i)) (j:=i) rfl kr_ kr_ (by rw [←had];kernel_rfl) kr_ rfl hi (by rw [Nat.mul_one]) (lQ (.int .u8 ((l.getD i 0).toNat:Int)) ((had▸hr.now S2:RdB _ (some ad) l).cell hi) (gI .i64 (IntKind.i64.wrap ((l.getD i 0).toNat:Int)) ((l.getD i 0).toNat:Int) (wr_u8 _) (gI .i64 (bits .xor .i64 (r.toNat:Int) ((l.getD i 0).toNat:Int)) ((r^^^ex (l.getD i 0)).toNat:Int) (by rw [←ex_toNat,bits_xor64']) (pv (iv ((r^^^ex (l.getD i 0)).toNat:Int)) ?_))))))))))))))
  refine wER (pv (iv 0) (wE (then_n (wp_block (wp_loop_g (G:=Nat×BitVec 32) (fun (g_:Nat×BitVec 32) (a_:Act) (w_:World)=>∃J:Nat→Value,a_=(fr ([.slice A l.length ca,ud,iv 0,iv (g_.2.toNat:Int),nI_ i,nI_ g_.1,J 6,nI_ i,.slice A l.length ca,iv (l.length:Nat),tv,J 11,J 12,iv (r.toNat:Int),.slice A l.length ca,nI_ i,.pointer (some (ad.add i)),.int .u8 ((l.getD i 0).toNat:Int),iv ((l.getD i 0).toNat:Int),iv ((r^^^ex (l.getD i 0)).toNat:Int)]++jR J 20 12) 2)∧St F w0 w_ (L)∧(g_.1≤8∧g_.2=mk g_.1 (r^^^ex (l.getD i 0)))) (fun g_=>8-g_.1) (0,r^^^ex (l.getD i 0)) (jE_ ⟨S2,⟨Nat.zero_le _,rfl⟩⟩) ?_)))))
  rintro ⟨k,q⟩ a_ w5 ⟨J,rfl,S6,hI7⟩
  skip
  have S6:St F w0 w5 (L):=S6
  have hI7:(k≤8∧q=mk k (r^^^ex (l.getD i 0))):=hI7
  refine wp_seq (sR (pv (nI_ k) (dC ((((k:Nat):Int):Int)<8) (fun hb8=> ?_) fun hb8=> ?_)))
  ·refine wE (nCT (wp_skip (nS (wp_block (sR ?_)))))
   by_cases hpar:q.toNat%2=1
   ·refine pv (iv (q.toNat:Int)) (gI .i64 (bits .and .i64 (q.toNat:Int) 1) ((q.toNat%2:Nat):Int) (bits_and1' q) (pv (nI_ (q.toNat%2)) (wER (pv (iv (q.toNat:Int)) (g_ (gv_shr (k:=.i64) (yk:=.u64) (z:=(q.toNat:Int)) (i:=1) (j:=1) (z':=((q.toNat:Int)/2)) rfl kr_ kr_ rfl dc_ (by simp) (pv (iv ((q.toNat:Int)/2)) (wER (pv (nI_ (q.toNat%2)) (dE ((q.toNat%2:Nat):Int) 1 (fun _=>wE (nCT (wp_region_lit (pv (iv ((q.toNat:Int)/2)) ?_)))) fun hd9=>False.elim om_))))))))))
    exact gI .i64 (bits .xor .i64 ((q.toNat:Int)/2) 2197175160) ((m1 q).toNat:Int) ((m1_num' q).1 hpar) (pv (iv ((m1 q).toNat:Int)) (wE (inb_n (nR (pv (nI_ k) (gI .i64 (IntKind.i64.wrap (((k:Nat):Int)+1)) ((k+1:Nat):Int) (wr_eq om_ om_ om_) (pv (nI_ (k+1)) (wE (then_n ⟨(k+1,m1 q),(jE_ ⟨S6,⟨by omega,by rw [mk_succ',←hI7.2]⟩⟩),(by show 8-(k+1)<8-k;omega)⟩)))))))))
   ·refine pv (iv (q.toNat:Int)) (gI .i64 (bits .and .i64 (q.toNat:Int) 1) ((q.toNat%2:Nat):Int) (bits_and1' q) (pv (nI_ (q.toNat%2)) (wER (pv (iv (q.toNat:Int)) (g_ (gv_shr (k:=.i64) (yk:=.u64) (z:=(q.toNat:Int)) (i:=1) (j:=1) (z':=((m1 q).toNat:Int)) rfl kr_ kr_ rfl dc_ (by rw [←(m1_num' q).2 hpar];simp) (pv (iv ((m1 q).toNat:Int)) (wER (pv (nI_ (q.toNat%2)) (dE ((q.toNat%2:Nat):Int) 1 (fun hd10=>False.elim om_) fun _=>wE (nCF (wp_skip (inb_n ?_)))))))))))))
    exact nR (pv (nI_ k) (gI .i64 (IntKind.i64.wrap (((k:Nat):Int)+1)) ((k+1:Nat):Int) (wr_eq om_ om_ om_) (pv (nI_ (k+1)) (wE (then_n ⟨(k+1,m1 q),(jE_ ⟨S6,⟨by omega,by rw [mk_succ',←hI7.2]⟩⟩),(by show 8-(k+1)<8-k;omega)⟩)))))
  ·have hk8:k=8:=by omega
   have hq8:=hI7.2
   exact wE (nCF (wp_exit (then_x (then_x (inb_x (inb_n (nR (pv (nI_ i) (gI .i64 (IntKind.i64.wrap (((i:Nat):Int)+1)) ((i+1:Nat):Int) (wr_eq om_ om_ om_) (pv (nI_ (i+1)) (wE (then_n ⟨(i+1,q),(jE_ ⟨S6,⟨by omega,by rw [raw_pre,←hI3.2,hq8,hk8];rfl⟩⟩),(by show l.length-(i+1)<l.length-i;omega)⟩))))))))))))
 ·have hie:i=l.length:=by omega
  have hre:crc l= ~~~ r:=by unfold crc;rw [hI3.2,hie,pre_all]
  exact wE (nCF (wp_exit (then_x (then_x (inb_x (nSR (pv (iv (r.toNat:Int)) (gI .i64 (bits .xor .i64 (r.toNat:Int) 4294967295) ((~~~ r).toNat:Int) (crc_end r) (pv (iv ((~~~ r).toNat:Int)) (wE (then_n (wp_ret (bA (iv ((~~~ r).toNat:Int)) ⟨by rw [hre],S2⟩)))))))))))))
end
theorem pre_app (X l:List UInt8)(i:Nat):(X++pre l i).map bv++[Value.int .u8 ((l.getD i 0).toNat:Int)]=(X++pre l (i+1)).map bv:=by rw [List.map_append,List.append_assoc,pre_succ,List.map_append]
theorem rep_app (X:List UInt8)(j:Nat):(X++List.replicate j 0).map bv++[Value.int .u8 0]=(X++List.replicate (j+1) 0).map bv:=by
 rw [List.replicate_succ',←List.append_assoc,List.map_append (l₂:=[0])];rfl
theorem take_app (X l:List UInt8)(k:Nat)(h:k<l.length):(X++l.take k).map bv++[Value.int .u8 ((l.getD k 0).toNat:Int)]=(X++l.take (k+1)).map bv:=by
 rw [List.take_succ_eq_append_getElem h,List.getD_eq_getElem?_getD,List.getElem?_eq_getElem h,←List.append_assoc,List.map_append (l₂:=[_])];rfl
theorem getD_drop (l:List UInt8)(a i:Nat):(l.drop a).getD i 0=l.getD (a+i) 0:=by
 rw [List.getD_eq_getElem?_getD,List.getElem?_drop,List.getD_eq_getElem?_getD]
theorem pre_drop {l:List UInt8}{a i:Nat}(h:a+i≤l.length):pre (l.drop a) i=(l.drop a).take i:=pre_take (by rw [List.length_drop];omega)
theorem byte_of (n:Nat):IntKind.u8.wrap ((n%256:Nat):Int)=((UInt8.ofNat (n%256)).toNat:Int):=by
 rw [wrap_u8];congr 2;congr 1;omega
theorem byte_of' {z:Int}{n:Nat}(h:z=(n:Int))(hn:n<256):IntKind.u8.wrap z=((UInt8.ofNat n).toNat:Int):=by
 subst h;rw [show (n:Int)=((n%256:Nat):Int) from by omega,byte_of,Nat.mod_eq_of_lt hn]
theorem byte_self (t:UInt8):IntKind.u8.wrap (t.toNat:Int)=(t.toNat:Int):=by
 have:=t.toNat_lt
 rw [IntKind.wrap_u8];omega
theorem le4_get (r:BitVec 32){k:Nat}(hk:k<4):(le4 r).getD k 0=UInt8.ofNat (r.toNat/256^k%256):=by
 rcases k with _|_|_|_|k
 ·simp [le4]
 ·simp [le4]
 ·simp [le4]
 ·simp [le4]
 ·omega
theorem rform {F:Nat→Prop}{w0 w:World}{L:List Ast}(S:St F w0 w L){z:Int}{t:UInt8}(hz:z=(t.toNat:Int)){A:Option Addr}{b:List UInt8}{cb:Nat}(hr:RoT F w0 L A b)(hb:b.length≤504):Calls Tryz.prog 130 #[.int .i64 z,.slice A b.length cb] w fun e w'=>∃A c,e=.returned (.slice A 512 c)∧St F w0 w' (vec 5 1 (.slice A 512 c) 512 ((form t b).map bv)::L):=by
 subst hz
 have hlt:=length_text hb
 have S1:St F w0 w (vec 5 1 (nS_) 0 ([].map bv)::L):=St.vec_nil S
 refine eN (fr [iv (t.toNat:Int),.slice A b.length cb] 92) Tryz.func130 rfl (sR (pv (.slice none 0 0) (wER (pv (.slice none 0 0) (wER (pv (.slice none 0 0) (pv (.slice A b.length cb) (pv (iv (b.length:Nat)) (gI .i64 (Int.tmod (b.length:Nat) 256) ((b.length%256:Nat):Int) (by rw [Int.tmod_eq_emod_of_nonneg om_];omega) (gI .u8 (IntKind.u8.wrap ((b.length%256:Nat):Int)) ((UInt8.ofNat (b.length%256)).toNat:Int) (byte_of b.length) (g_ (gv_slit (e:=5) (sz:=1) (z:=.int .u8 0) (by_:=1) (vs:=#[(0,.int .u8 ((UInt8.ofNat (b.length%256)).toNat:Int))]) (cells:=#[.int .u8 ((UInt8.ofNat (b.length%256)).toNat:Int)]) S1 rfl kr_ ⟨by kernel_rfl⟩ kr_ kr_ kr_ kr_ (fun g2 w3 hg4 S5=> ?_)))))))))))))
 have S6:St F w0 w3 (row g2 #[.int .u8 ((UInt8.ofNat (b.length%256)).toNat:Int)] 5::vec 5 1 (nS_) 0 ([].map bv)::L):=St.pm 2 [0,1] S5
 refine g_ (gv_append (e:=5) (sz:=1) (n:=0) (v:=(nS_)) (vals:=([].map bv)) (z:=.int .u8 0) (by_:=1) (m:=1) (c':=1) (ad:=⟨g2,0,none⟩) (news:=[.int .u8 ((UInt8.ofNat (b.length%256)).toNat:Int)]) (St.swap S6) rfl kr_ ⟨by kernel_rfl⟩ rfl kr_ kr_ dc_ rfl (row_news (S6.blk 0 rfl)) (by intro u hu;simp at hu;subst hu;rfl) om_ om_ (fun v8 w7 S9=> ?_))
 have S10:St F w0 w7 (vec 5 1 v8 1 ([].map bv++[.int .u8 ((UInt8.ofNat (b.length%256)).toNat:Int)])::L):=St.pm 2 [0] S9
 obtain ⟨A11,c12,rfl⟩:=St.vecV S10 0 rfl
 change St F w0 w7 (vec 5 1 (.slice A11 1 c12) 1 ([UInt8.ofNat (b.length%256)].map bv)::L) at S10
 refine pv (.slice A11 1 c12) (wER (pv (.slice A11 1 c12) (pv (.slice A b.length cb) (pv (iv (b.length:Nat)) (gI .i64 (IntKind.i64.wrap (Int.tdiv (b.length:Nat) 256)) ((b.length/256:Nat):Int) (wr_eq (by rw [Int.tdiv_eq_ediv_of_nonneg om_];omega) om_ om_) (gI .u8 (IntKind.u8.wrap ((b.length/256:Nat):Int)) ((UInt8.ofNat (b.length/256)).toNat:Int) (byte_of' rfl om_) (g_ (gv_slit (e:=5) (sz:=1) (z:=.int .u8 0) (by_:=1) (vs:=#[(0,.int .u8 ((UInt8.ofNat (b.length/256)).toNat:Int))]) (cells:=#[.int .u8 ((UInt8.ofNat (b.length/256)).toNat:Int)]) S10 rfl kr_ ⟨by kernel_rfl⟩ kr_ kr_ kr_ kr_ (fun g13 w14 hg15 S16=> ?_)))))))))
 have S17:St F w0 w14 (row g13 #[.int .u8 ((UInt8.ofNat (b.length/256)).toNat:Int)] 5::vec 5 1 (.slice A11 1 c12) 1 ([UInt8.ofNat (b.length%256)].map bv)::L):=St.pm 2 [0,1] S16
 refine g_ (gv_append (e:=5) (sz:=1) (n:=1) (v:=(.slice A11 1 c12)) (vals:=([UInt8.ofNat (b.length%256)].map bv)) (z:=.int .u8 0) (by_:=1) (m:=1) (c':=1) (ad:=⟨g13,0,none⟩) (news:=[.int .u8 ((UInt8.ofNat (b.length/256)).toNat:Int)]) (St.swap S17) rfl kr_ ⟨by kernel_rfl⟩ rfl kr_ kr_ dc_ rfl (row_news (S17.blk 0 rfl)) (by intro u hu;simp at hu;subst hu;rfl) om_ om_ (fun v19 w18 S20=> ?_))
 have S21:St F w0 w18 (vec 5 1 v19 2 ([UInt8.ofNat (b.length%256)].map bv++[.int .u8 ((UInt8.ofNat (b.length/256)).toNat:Int)])::L):=St.pm 2 [0] S20
 obtain ⟨A22,c23,rfl⟩:=St.vecV S21 0 rfl
 change St F w0 w18 (vec 5 1 (.slice A22 2 c23) 2 ([UInt8.ofNat (b.length%256),UInt8.ofNat (b.length/256)].map bv)::L) at S21
 refine pv (.slice A22 2 c23) (wE (nS (sR (pv (iv 0) (wE (then_n (wp_block ?_)))))))
 have S24:St F w0 w18 (vec 5 1 (.slice A22 (2+0) c23) (2+0) (([UInt8.ofNat (b.length%256),UInt8.ofNat (b.length/256)]++pre b 0).map bv)::L):=S21
 refine wp_loop_g (G:=Nat×Option Addr×Nat) (fun (g_:Nat×Option Addr×Nat) (a_:Act) (w_:World)=>∃J:Nat→Value,a_=(fr [iv (t.toNat:Int),.slice A b.length cb,ud,ud,nS_,.slice g_.2.1 (2+g_.1) g_.2.2,nI_ g_.1,ud,ud,ud,ud,nS_,.slice A b.length cb,iv (b.length:Nat),nI_ (b.length%256),.int .u8 ((UInt8.ofNat (b.length%256)).toNat:Int),sl g2 0 1 1,.slice A11 1 c12,.slice A11 1 c12,.slice A b.length cb,iv (b.length:Nat),nI_ (b.length/256),.int .u8 ((UInt8.ofNat (b.length/256)).toNat:Int),sl g13 0 1 1,.slice A22 2 c23,J 25,J 26,J 27,J 28,J 29,J 30,J 31,J 32,J 33,J 34,J 35,J 36,J 37] 56)∧St F w0 w_ (vec 5 1 (.slice g_.2.1 (2+g_.1) g_.2.2) (2+g_.1) (([UInt8.ofNat (b.length%256),UInt8.ofNat (b.length/256)]++pre b g_.1).map bv)::L)∧(g_.1≤b.length)) (fun g_=>b.length-g_.1) (0,A22,c23) (jE_ ⟨S24,Nat.zero_le _⟩) ?_
 rintro ⟨i,A5,c5⟩ a_ w25 ⟨J,rfl,S26,hI27⟩
 skip
 have S26:St F w0 w25 (vec 5 1 (.slice A5 (2+i) c5) (2+i) (([UInt8.ofNat (b.length%256),UInt8.ofNat (b.length/256)]++pre b i).map bv)::L):=S26
 have hI27:(i≤b.length):=hI27
 refine wp_seq (sR (pv (nI_ i) (pv (.slice A b.length cb) (pv (iv (b.length:Nat)) (dC ((((i:Nat):Int):Int)<(b.length:Nat)) (fun hb28=> ?_) fun hb28=> ?_)))))
 ·have hi:i<b.length:=by omega
  obtain ⟨ad,had⟩:=(hr.out _ [vec 5 1 (.slice A5 (2+i) c5) (2+i) (([UInt8.ofNat (b.length%256),UInt8.ofNat (b.length/256)]++pre b i).map bv)] S26).at hi
  refine wE (nCT (wp_skip (nS (wp_block (wp_region_lit (pv (.slice A5 (2+i) c5) (pv (.slice A b.length cb) (pv (nI_ i) (g_ (gv_ixB (e:=5) (sz:=1) (n:=b.length) (c:=cb) (i:=((i:Nat):Int)) (k:=.i64) (ad:=ad) (ad':=(ad.add i)) (j:=i) rfl kr_ kr_ (by rw [←had];kernel_rfl) kr_ rfl hi (by rw [Nat.mul_one]) (lQ (.int .u8 ((b.getD i 0).toNat:Int)) ((had▸hr.out _ [vec 5 1 (.slice A5 (2+i) c5) (2+i) (([UInt8.ofNat (b.length%256),UInt8.ofNat (b.length/256)]++pre b i).map bv)] S26:RdB _ (some ad) b).cell hi) (g_ (gv_slit (e:=5) (sz:=1) (z:=.int .u8 0) (by_:=1) (vs:=#[(0,.int .u8 ((b.getD i 0).toNat:Int))]) (cells:=#[.int .u8 ((b.getD i 0).toNat:Int)]) S26 rfl kr_ ⟨by kernel_rfl⟩ kr_ kr_ kr_ kr_ (fun g29 w30 hg31 S32=> ?_))))))))))))))
  have S33:St F w0 w30 (row g29 #[.int .u8 ((b.getD i 0).toNat:Int)] 5::vec 5 1 (.slice A5 (2+i) c5) (2+i) (([UInt8.ofNat (b.length%256),UInt8.ofNat (b.length/256)]++pre b i).map bv)::L):=St.pm 2 [0,1] S32
  refine g_ (gv_append (e:=5) (sz:=1) (n:=(2+i)) (v:=(.slice A5 (2+i) c5)) (vals:=(([UInt8.ofNat (b.length%256),UInt8.ofNat (b.length/256)]++pre b i).map bv)) (z:=.int .u8 0) (by_:=1) (m:=1) (c':=1) (ad:=⟨g29,0,none⟩) (news:=[.int .u8 ((b.getD i 0).toNat:Int)]) (St.swap S33) rfl kr_ ⟨by kernel_rfl⟩ rfl kr_ kr_ dc_ rfl (row_news (S33.blk 0 rfl)) (by intro u hu;simp at hu;subst hu;rfl) om_ om_ (fun v35 w34 S36=> ?_))
  have S37:St F w0 w34 (vec 5 1 v35 (2+i+1) (([UInt8.ofNat (b.length%256),UInt8.ofNat (b.length/256)]++pre b i).map bv++[.int .u8 ((b.getD i 0).toNat:Int)])::L):=St.pm 2 [0] S36
  rw [pre_app] at S37
  obtain ⟨A38,c39,rfl⟩:=St.vecV S37 0 rfl
  change St F w0 w34 (vec 5 1 (.slice A38 (2+i+1) c39) (2+i+1) (([UInt8.ofNat (b.length%256),UInt8.ofNat (b.length/256)]++pre b (i+1)).map bv)::L) at S37
  exact pv (.slice A38 (2+i+1) c39) (wE (inb_n (nR (pv (nI_ i) (gI .i64 (IntKind.i64.wrap (((i:Nat):Int)+1)) ((i+1:Nat):Int) wq_ (pv (nI_ (i+1)) (wE (then_n ⟨(i+1,A38,c39),(jE_ ⟨S37,om_⟩),(by show b.length-(i+1)<b.length-i;omega)⟩))))))))
 ·have hib:i=b.length:=by omega
  rw [hib,pre_all] at S26
  skip
  refine wE (nCF (wp_exit (then_x (then_x (inb_x (nS (wp_block ?_)))))))
  have S40:St F w0 w25 (vec 5 1 (.slice A5 (2+b.length+0) c5) (2+b.length+0) (([UInt8.ofNat (b.length%256),UInt8.ofNat (b.length/256)]++b++List.replicate 0 0).map bv)::L):=(by rw [List.replicate_zero,List.append_nil];exact S26)
  have hfr:2+i=2+b.length+0:=by omega
  rw [hfr]
  refine wp_loop_g (G:=Nat×Option Addr×Nat) (fun (g_:Nat×Option Addr×Nat) (a_:Act) (w_:World)=>∃J:Nat→Value,a_=(fr [iv (t.toNat:Int),.slice A b.length cb,ud,ud,nS_,.slice g_.2.1 (2+b.length+g_.1) g_.2.2,nI_ i,ud,ud,ud,ud,nS_,.slice A b.length cb,iv (b.length:Nat),nI_ (b.length%256),.int .u8 ((UInt8.ofNat (b.length%256)).toNat:Int),sl g2 0 1 1,.slice A11 1 c12,.slice A11 1 c12,.slice A b.length cb,iv (b.length:Nat),nI_ (b.length/256),.int .u8 ((UInt8.ofNat (b.length/256)).toNat:Int),sl g13 0 1 1,.slice A22 2 c23,nI_ i,.slice A b.length cb,iv (b.length:Nat),fv,J 29,J 30,J 31,J 32,J 33,J 34,J 35,J 36,J 37,J 38,J 39,J 40,J 41,J 42,J 43] 50)∧St F w0 w_ (vec 5 1 (.slice g_.2.1 (2+b.length+g_.1) g_.2.2) (2+b.length+g_.1) (([UInt8.ofNat (b.length%256),UInt8.ofNat (b.length/256)]++b++List.replicate g_.1 0).map bv)::L)∧(b.length+g_.1≤504)) (fun g_=>504-g_.1) (0,A5,c5) (jE_ ⟨S40,(by show b.length+0≤504;omega)⟩) ?_
  rintro ⟨j,A6,c6⟩ a_ w41 ⟨J,rfl,S42,hI43⟩
  skip
  have S42:St F w0 w41 (vec 5 1 (.slice A6 (2+b.length+j) c6) (2+b.length+j) (([UInt8.ofNat (b.length%256),UInt8.ofNat (b.length/256)]++b++List.replicate j 0).map bv)::L):=S42
  have hI43:(b.length+j≤504):=hI43
  refine wp_seq (sR (pv (.slice A6 (2+b.length+j) c6) (pv (iv (2+b.length+j:Nat)) (dC (((2+b.length+j:Nat):Int)<506) (fun hb44=> ?_) fun hb44=> ?_))))
  ·refine wE (nCT (kN (wp_block (wp_region_lit (pv (.slice A6 (2+b.length+j) c6) (g_ (gv_slit (e:=5) (sz:=1) (z:=.int .u8 0) (by_:=1) (vs:=#[(0,.int .u8 0)]) (cells:=#[.int .u8 0]) S42 rfl kr_ ⟨by kernel_rfl⟩ kr_ kr_ kr_ kr_ (fun g45 w46 hg47 S48=> ?_))))))))
   have S49:St F w0 w46 (row g45 #[.int .u8 0] 5::vec 5 1 (.slice A6 (2+b.length+j) c6) (2+b.length+j) (([UInt8.ofNat (b.length%256),UInt8.ofNat (b.length/256)]++b++List.replicate j 0).map bv)::L):=St.pm 2 [0,1] S48
   refine g_ (gv_append (e:=5) (sz:=1) (n:=(2+b.length+j)) (v:=(.slice A6 (2+b.length+j) c6)) (vals:=(([UInt8.ofNat (b.length%256),UInt8.ofNat (b.length/256)]++b++List.replicate j 0).map bv)) (z:=.int .u8 0) (by_:=1) (m:=1) (c':=1) (ad:=⟨g45,0,none⟩) (news:=[.int .u8 0]) (St.swap S49) rfl kr_ ⟨by kernel_rfl⟩ rfl kr_ kr_ dc_ rfl (row_news (S49.blk 0 rfl)) (by intro u hu;simp at hu;subst hu;rfl) om_ om_ (fun v51 w50 S52=> ?_))
   have S53:St F w0 w50 (vec 5 1 v51 (2+b.length+j+1) (([UInt8.ofNat (b.length%256),UInt8.ofNat (b.length/256)]++b++List.replicate j 0).map bv++[.int .u8 0])::L):=St.pm 2 [0] S52
   rw [rep_app] at S53
   obtain ⟨A54,c55,rfl⟩:=St.vecV S53 0 rfl
   change St F w0 w50 (vec 5 1 (.slice A54 (2+b.length+j+1) c55) (2+b.length+j+1) (([UInt8.ofNat (b.length%256),UInt8.ofNat (b.length/256)]++b++List.replicate (j+1) 0).map bv)::L) at S53
   exact pv (.slice A54 (2+b.length+j+1) c55) (wE (iN ⟨(j+1,A54,c55),(jE_ ⟨S53,om_⟩),(by show 504-(j+1)<504-j;omega)⟩))
  ·have hj:b.length+j=504:=by omega
   have htx:[UInt8.ofNat (b.length%256),UInt8.ofNat (b.length/256)]++b++List.replicate j 0=text b:=by unfold text;rw [show j=504-b.length from by omega];rfl
   have hn5:2+b.length+j=(text b).length:=by omega
   rw [htx,hn5] at S42
   rw [hn5]
   refine wE (nCF (wp_exit (then_x (then_x (inb_x (nSR (pv (.slice A6 ((text b).length) c6) (sP Tryz.func142 #[.slice A6 ((text b).length) c6] (rsum (l:=text b) S42 (RoT.ofVec 0 rfl) om_) fun w56 S57=>pv (iv ((crc (text b)).toNat:Int)) (wER (pv (nS_) ?_))))))))))
   have S58:St F w0 w56 (vec 5 1 (nS_) 0 ([].map bv)::vec 5 1 (.slice A6 ((text b).length) c6) ((text b).length) ((text b).map bv)::L):=St.vec_nil S57
   refine wER (pv (nS_) (pv (iv (t.toNat:Int)) (gI .u8 (IntKind.u8.wrap (t.toNat:Int)) (t.toNat:Int) (byte_self t) (g_ (gv_slit (e:=5) (sz:=1) (z:=.int .u8 0) (by_:=1) (vs:=#[(0,.int .u8 (t.toNat:Int))]) (cells:=#[.int .u8 (t.toNat:Int)]) S58 rfl kr_ ⟨by kernel_rfl⟩ kr_ kr_ kr_ kr_ (fun g59 w60 hg61 S62=> ?_))))))
   have S63:St F w0 w60 (row g59 #[.int .u8 (t.toNat:Int)] 5::vec 5 1 (nS_) 0 ([].map bv)::vec 5 1 (.slice A6 ((text b).length) c6) ((text b).length) ((text b).map bv)::L):=St.pm 3 [0,1,2] S62
   refine g_ (gv_append (e:=5) (sz:=1) (n:=0) (v:=(nS_)) (vals:=([].map bv)) (z:=.int .u8 0) (by_:=1) (m:=1) (c':=1) (ad:=⟨g59,0,none⟩) (news:=[.int .u8 (t.toNat:Int)]) (St.swap S63) rfl kr_ ⟨by kernel_rfl⟩ rfl kr_ kr_ dc_ rfl (row_news (S63.blk 0 rfl)) (by intro u hu;simp at hu;subst hu;rfl) om_ om_ (fun v65 w64 S66=> ?_))
   have S67:St F w0 w64 (vec 5 1 v65 1 ([].map bv++[.int .u8 (t.toNat:Int)])::vec 5 1 (.slice A6 ((text b).length) c6) ((text b).length) ((text b).map bv)::L):=St.pm 3 [0,2] S66
   obtain ⟨A68,c69,rfl⟩:=St.vecV S67 0 rfl
   change St F w0 w64 (vec 5 1 (.slice A68 1 c69) 1 ([t].map bv)::vec 5 1 (.slice A6 ((text b).length) c6) ((text b).length) ((text b).map bv)::L) at S67
   refine pv (.slice A68 1 c69) (wER (pv (.slice A68 1 c69) (pv (.slice A6 ((text b).length) c6) ?_)))
   obtain ⟨ad13,had13⟩:=((RoT.ofVec 1 rfl:RoT F w0 (vec 5 1 (.slice A68 1 c69) 1 ([t].map bv)::vec 5 1 (.slice A6 ((text b).length) c6) ((text b).length) ((text b).map bv)::L) A6 (text b)).now S67).at (k:=0) om_
   refine g_ (gv_ixB (e:=5) (sz:=1) (n:=((text b).length)) (c:=c6) (i:=0) (k:=.i64) (ad:=ad13) (ad':=(ad13.add 0)) (j:=0) rfl kr_ kr_ (by rw [←had13];kernel_rfl) kr_ rfl om_ (by rw [Nat.mul_one]) (lQ (.int .u8 (((text b).getD 0 0).toNat:Int)) ((had13▸(RoT.ofVec 1 rfl:RoT F w0 (vec 5 1 (.slice A68 1 c69) 1 ([t].map bv)::vec 5 1 (.slice A6 ((text b).length) c6) ((text b).length) ((text b).map bv)::L) A6 (text b)).now S67:RdB _ (some ad13) (text b)).cell om_) (g_ (gv_slit (e:=5) (sz:=1) (z:=.int .u8 0) (by_:=1) (vs:=#[(0,.int .u8 (((text b).getD 0 0).toNat:Int))]) (cells:=#[.int .u8 (((text b).getD 0 0).toNat:Int)]) S67 rfl kr_ ⟨by kernel_rfl⟩ kr_ kr_ kr_ kr_ (fun g70 w71 hg72 S73=> ?_)))))
   have S74:St F w0 w71 (row g70 #[.int .u8 (((text b).getD 0 0).toNat:Int)] 5::vec 5 1 (.slice A68 1 c69) 1 ([t].map bv)::vec 5 1 (.slice A6 ((text b).length) c6) ((text b).length) ((text b).map bv)::L):=St.pm 3 [0,1,2] S73
   refine g_ (gv_append (e:=5) (sz:=1) (n:=1) (v:=(.slice A68 1 c69)) (vals:=([t].map bv)) (z:=.int .u8 0) (by_:=1) (m:=1) (c':=1) (ad:=⟨g70,0,none⟩) (news:=[.int .u8 (((text b).getD 0 0).toNat:Int)]) (St.swap S74) rfl kr_ ⟨by kernel_rfl⟩ rfl kr_ kr_ dc_ rfl (row_news (S74.blk 0 rfl)) (by intro u hu;simp at hu;subst hu;rfl) om_ om_ (fun v76 w75 S77=> ?_))
   have S78:St F w0 w75 (vec 5 1 v76 2 ([t].map bv++[.int .u8 (((text b).getD 0 0).toNat:Int)])::vec 5 1 (.slice A6 ((text b).length) c6) ((text b).length) ((text b).map bv)::L):=St.pm 3 [0,2] S77
   obtain ⟨A79,c80,rfl⟩:=St.vecV S78 0 rfl
   change St F w0 w75 (vec 5 1 (.slice A79 2 c80) 2 ([t,(text b).getD 0 0].map bv)::vec 5 1 (.slice A6 ((text b).length) c6) ((text b).length) ((text b).map bv)::L) at S78
   refine pv (.slice A79 2 c80) (wE (nSR (pv (.slice A79 2 c80) (pv (.slice A6 ((text b).length) c6) ?_))))
   obtain ⟨ad14,had14⟩:=((RoT.ofVec 1 rfl:RoT F w0 (vec 5 1 (.slice A79 2 c80) 2 ([t,(text b).getD 0 0].map bv)::vec 5 1 (.slice A6 ((text b).length) c6) ((text b).length) ((text b).map bv)::L) A6 (text b)).now S78).at (k:=0) om_
   refine g_ (gv_ixB (e:=5) (sz:=1) (n:=((text b).length)) (c:=c6) (i:=1) (k:=.i64) (ad:=ad14) (ad':=(ad14.add 1)) (j:=1) rfl kr_ kr_ (by rw [←had14];kernel_rfl) kr_ rfl om_ (by rw [Nat.mul_one]) (lQ (.int .u8 (((text b).getD 1 0).toNat:Int)) ((had14▸(RoT.ofVec 1 rfl:RoT F w0 (vec 5 1 (.slice A79 2 c80) 2 ([t,(text b).getD 0 0].map bv)::vec 5 1 (.slice A6 ((text b).length) c6) ((text b).length) ((text b).map bv)::L) A6 (text b)).now S78:RdB _ (some ad14) (text b)).cell om_) (g_ (gv_slit (e:=5) (sz:=1) (z:=.int .u8 0) (by_:=1) (vs:=#[(0,.int .u8 (((text b).getD 1 0).toNat:Int))]) (cells:=#[.int .u8 (((text b).getD 1 0).toNat:Int)]) S78 rfl kr_ ⟨by kernel_rfl⟩ kr_ kr_ kr_ kr_ (fun g81 w82 hg83 S84=> ?_)))))
   have S85:St F w0 w82 (row g81 #[.int .u8 (((text b).getD 1 0).toNat:Int)] 5::vec 5 1 (.slice A79 2 c80) 2 ([t,(text b).getD 0 0].map bv)::vec 5 1 (.slice A6 ((text b).length) c6) ((text b).length) ((text b).map bv)::L):=St.pm 3 [0,1,2] S84
   refine g_ (gv_append (e:=5) (sz:=1) (n:=2) (v:=(.slice A79 2 c80)) (vals:=([t,(text b).getD 0 0].map bv)) (z:=.int .u8 0) (by_:=1) (m:=1) (c':=1) (ad:=⟨g81,0,none⟩) (news:=[.int .u8 (((text b).getD 1 0).toNat:Int)]) (St.swap S85) rfl kr_ ⟨by kernel_rfl⟩ rfl kr_ kr_ dc_ rfl (row_news (S85.blk 0 rfl)) (by intro u hu;simp at hu;subst hu;rfl) om_ om_ (fun v87 w86 S88=> ?_))
   have S89:St F w0 w86 (vec 5 1 v87 3 ([t,(text b).getD 0 0].map bv++[.int .u8 (((text b).getD 1 0).toNat:Int)])::vec 5 1 (.slice A6 ((text b).length) c6) ((text b).length) ((text b).map bv)::L):=St.pm 3 [0,2] S88
   obtain ⟨A90,c91,rfl⟩:=St.vecV S89 0 rfl
   change St F w0 w86 (vec 5 1 (.slice A90 3 c91) 3 ([t,(text b).getD 0 0,(text b).getD 1 0].map bv)::vec 5 1 (.slice A6 ((text b).length) c6) ((text b).length) ((text b).map bv)::L) at S89
   refine pv (.slice A90 3 c91) (wE (nS (sR (pv (iv 0) (wE (then_n (wp_block ?_)))))))
   have S92:St F w0 w86 (vec 5 1 (.slice A90 (3+0) c91) (3+0) (([t,(text b).getD 0 0,(text b).getD 1 0]++(le4 (crc (text b))).take 0).map bv)::vec 5 1 (.slice A6 ((text b).length) c6) ((text b).length) ((text b).map bv)::L):=S89
   refine wp_loop_g (G:=Nat×Nat×Option Addr×Nat) (fun (g_:Nat×Nat×Option Addr×Nat) (a_:Act) (w_:World)=>∃J:Nat→Value,a_=(fr [iv (t.toNat:Int),.slice A b.length cb,ud,ud,nS_,.slice A6 ((text b).length) c6,nI_ i,nI_ g_.2.1,.slice g_.2.2.1 (3+g_.1) g_.2.2.2,nI_ g_.1,ud,nS_,.slice A b.length cb,iv (b.length:Nat),nI_ (b.length%256),.int .u8 ((UInt8.ofNat (b.length%256)).toNat:Int),sl g2 0 1 1,.slice A11 1 c12,.slice A11 1 c12,.slice A b.length cb,iv (b.length:Nat),nI_ (b.length/256),.int .u8 ((UInt8.ofNat (b.length/256)).toNat:Int),sl g13 0 1 1,.slice A22 2 c23,nI_ i,.slice A b.length cb,iv (b.length:Nat),fv,J 29,J 30,J 31,J 32,J 33,J 34,J 35,J 36,J 37,.slice A6 ((text b).length) c6,iv ((text b).length:Nat),fv,J 41,J 42,J 43,.slice A6 ((text b).length) c6,iv ((crc (text b)).toNat:Int),nS_,iv (t.toNat:Int),.int .u8 (t.toNat:Int),sl g59 0 1 1,.slice A68 1 c69,.slice A68 1 c69,.slice A6 ((text b).length) c6,.pointer (some (ad13.add 0)),.int .u8 (((text b).getD 0 0).toNat:Int),sl g70 0 1 1,.slice A79 2 c80,.slice A79 2 c80,.slice A6 ((text b).length) c6,.pointer (some (ad14.add 1)),.int .u8 (((text b).getD 1 0).toNat:Int),sl g81 0 1 1,.slice A90 3 c91,J 63,J 64,J 65,J 66,J 67,J 68,J 69,J 70,J 71,J 72,J 73,J 74] 19)∧St F w0 w_ (vec 5 1 (.slice g_.2.2.1 (3+g_.1) g_.2.2.2) (3+g_.1) (([t,(text b).getD 0 0,(text b).getD 1 0]++(le4 (crc (text b))).take g_.1).map bv)::vec 5 1 (.slice A6 ((text b).length) c6) ((text b).length) ((text b).map bv)::L)∧(g_.1≤4∧g_.2.1=(crc (text b)).toNat/256^g_.1)) (fun g_=>4-g_.1) (0,(crc (text b)).toNat,A90,c91) (jE_ ⟨S92,⟨Nat.zero_le _,(Nat.div_one _).symm⟩⟩) ?_
   rintro ⟨k,c,A7,c7⟩ a_ w93 ⟨J,rfl,S94,hI95⟩
   skip
   have S94:St F w0 w93 (vec 5 1 (.slice A7 (3+k) c7) (3+k) (([t,(text b).getD 0 0,(text b).getD 1 0]++(le4 (crc (text b))).take k).map bv)::vec 5 1 (.slice A6 ((text b).length) c6) ((text b).length) ((text b).map bv)::L):=S94
   have hI95:(k≤4∧c=(crc (text b)).toNat/256^k):=hI95
   refine wp_seq (sR (pv (nI_ k) (dC ((((k:Nat):Int):Int)<4) (fun hb96=> ?_) fun hb96=> ?_)))
   ·have hk4:k<4:=by omega
    have hcl:c<4294967296:=by rw [hI95.2];exact Nat.lt_of_le_of_lt (Nat.div_le_self _ _) (crc (text b)).isLt
    have hbk:UInt8.ofNat (c%256)=(le4 (crc (text b))).getD k 0:=by rw [le4_get _ hk4,←hI95.2]
    refine wE (nCT (wp_skip (nS (wp_block (sR (pv (.slice A7 (3+k) c7) (pv (nI_ c) (gI .i64 (Int.tmod ((c:Nat):Int) 256) ((c%256:Nat):Int) (by rw [Int.tmod_eq_emod_of_nonneg om_];omega) (gI .u8 (IntKind.u8.wrap ((c%256:Nat):Int)) (((le4 (crc (text b))).getD k 0).toNat:Int) (by rw [byte_of,hbk]) (g_ (gv_slit (e:=5) (sz:=1) (z:=.int .u8 0) (by_:=1) (vs:=#[(0,.int .u8 (((le4 (crc (text b))).getD k 0).toNat:Int))]) (cells:=#[.int .u8 (((le4 (crc (text b))).getD k 0).toNat:Int)]) S94 rfl kr_ ⟨by kernel_rfl⟩ kr_ kr_ kr_ kr_ (fun g97 w98 hg99 S100=> ?_))))))))))))
    have S101:St F w0 w98 (row g97 #[.int .u8 (((le4 (crc (text b))).getD k 0).toNat:Int)] 5::vec 5 1 (.slice A7 (3+k) c7) (3+k) (([t,(text b).getD 0 0,(text b).getD 1 0]++(le4 (crc (text b))).take k).map bv)::vec 5 1 (.slice A6 ((text b).length) c6) ((text b).length) ((text b).map bv)::L):=St.pm 3 [0,1,2] S100
    refine g_ (gv_append (e:=5) (sz:=1) (n:=(3+k)) (v:=(.slice A7 (3+k) c7)) (vals:=(([t,(text b).getD 0 0,(text b).getD 1 0]++(le4 (crc (text b))).take k).map bv)) (z:=.int .u8 0) (by_:=1) (m:=1) (c':=1) (ad:=⟨g97,0,none⟩) (news:=[.int .u8 (((le4 (crc (text b))).getD k 0).toNat:Int)]) (St.swap S101) rfl kr_ ⟨by kernel_rfl⟩ rfl kr_ kr_ dc_ rfl (row_news (S101.blk 0 rfl)) (by intro u hu;simp at hu;subst hu;rfl) om_ om_ (fun v103 w102 S104=> ?_))
    have S105:St F w0 w102 (vec 5 1 v103 (3+k+1) (([t,(text b).getD 0 0,(text b).getD 1 0]++(le4 (crc (text b))).take k).map bv++[.int .u8 (((le4 (crc (text b))).getD k 0).toNat:Int)])::vec 5 1 (.slice A6 ((text b).length) c6) ((text b).length) ((text b).map bv)::L):=St.pm 3 [0,2] S104
    rw [take_app _ _ _ hk4] at S105
    obtain ⟨A106,c107,rfl⟩:=St.vecV S105 0 rfl
    change St F w0 w102 (vec 5 1 (.slice A106 (3+k+1) c107) (3+k+1) (([t,(text b).getD 0 0,(text b).getD 1 0]++(le4 (crc (text b))).take (k+1)).map bv)::vec 5 1 (.slice A6 ((text b).length) c6) ((text b).length) ((text b).map bv)::L) at S105
    exact pv (.slice A106 (3+k+1) c107) (wE (nR (pv (nI_ c) (gI .i64 (IntKind.i64.wrap (Int.tdiv ((c:Nat):Int) 256)) ((c/256:Nat):Int) (wr_eq (by rw [Int.tdiv_eq_ediv_of_nonneg om_];omega) om_ om_) (pv (nI_ (c/256)) (wE (inb_n (nR (pv (nI_ k) (gI .i64 (IntKind.i64.wrap (((k:Nat):Int)+1)) ((k+1:Nat):Int) (wr_eq om_ om_ om_) (pv (nI_ (k+1)) (wE (then_n ⟨(k+1,c/256,A106,c107),(jE_ ⟨S105,⟨by omega,by rw [hI95.2,Nat.div_div_eq_div_mul,←Nat.pow_succ]⟩⟩),(by show 4-(k+1)<4-k;omega)⟩)))))))))))))
   ·have hk4:k=4:=by omega
    have hl4:(le4 (crc (text b))).take 4=le4 (crc (text b)):=rfl
    rw [hk4,hl4] at S94
    refine wE (nCF (wp_exit (then_x (then_x (inb_x (nS (sR (pv (iv 2) (wE (then_n (wp_block ?_)))))))))))
    rw [show 3+k=7+0 from by omega]
    have S108:St F w0 w93 (vec 5 1 (.slice A7 (7+0) c7) (7+0) (([t,(text b).getD 0 0,(text b).getD 1 0]++le4 (crc (text b))++pre ((text b).drop 2) 0).map bv)::vec 5 1 (.slice A6 ((text b).length) c6) ((text b).length) ((text b).map bv)::L):=(by rw [show pre ((text b).drop 2) 0=[] from rfl,List.append_nil];exact S94)
    refine wp_loop_g (G:=Nat×Option Addr×Nat) (fun (g_:Nat×Option Addr×Nat) (a_:Act) (w_:World)=>∃J:Nat→Value,a_=(fr [iv (t.toNat:Int),.slice A b.length cb,ud,ud,nS_,.slice A6 ((text b).length) c6,nI_ i,nI_ c,.slice g_.2.1 (7+g_.1) g_.2.2,nI_ k,nI_ (2+g_.1),nS_,.slice A b.length cb,iv (b.length:Nat),nI_ (b.length%256),.int .u8 ((UInt8.ofNat (b.length%256)).toNat:Int),sl g2 0 1 1,.slice A11 1 c12,.slice A11 1 c12,.slice A b.length cb,iv (b.length:Nat),nI_ (b.length/256),.int .u8 ((UInt8.ofNat (b.length/256)).toNat:Int),sl g13 0 1 1,.slice A22 2 c23,nI_ i,.slice A b.length cb,iv (b.length:Nat),fv,J 29,J 30,J 31,J 32,J 33,J 34,J 35,J 36,J 37,.slice A6 ((text b).length) c6,iv ((text b).length:Nat),fv,J 41,J 42,J 43,.slice A6 ((text b).length) c6,iv ((crc (text b)).toNat:Int),nS_,iv (t.toNat:Int),.int .u8 (t.toNat:Int),sl g59 0 1 1,.slice A68 1 c69,.slice A68 1 c69,.slice A6 ((text b).length) c6,.pointer (some (ad13.add 0)),.int .u8 (((text b).getD 0 0).toNat:Int),sl g70 0 1 1,.slice A79 2 c80,.slice A79 2 c80,.slice A6 ((text b).length) c6,.pointer (some (ad14.add 1)),.int .u8 (((text b).getD 1 0).toNat:Int),sl g81 0 1 1,.slice A90 3 c91,nI_ k,fv,J 65,J 66,J 67,J 68,J 69,J 70,J 71,J 72,J 73,J 74,J 75,J 76,J 77,J 78,J 79,J 80,J 81,J 82,J 83,J 84,J 85,J 86,J 87] 6)∧St F w0 w_ (vec 5 1 (.slice g_.2.1 (7+g_.1) g_.2.2) (7+g_.1) (([t,(text b).getD 0 0,(text b).getD 1 0]++le4 (crc (text b))++pre ((text b).drop 2) g_.1).map bv)::vec 5 1 (.slice A6 ((text b).length) c6) ((text b).length) ((text b).map bv)::L)∧(g_.1≤504)) (fun g_=>504-g_.1) (0,A7,c7) (jE_ ⟨S108,Nat.zero_le _⟩) ?_
    rintro ⟨i7,A8,c8⟩ a_ w109 ⟨J,rfl,S110,hI111⟩
    skip
    have S110:St F w0 w109 (vec 5 1 (.slice A8 (7+i7) c8) (7+i7) (([t,(text b).getD 0 0,(text b).getD 1 0]++le4 (crc (text b))++pre ((text b).drop 2) i7).map bv)::vec 5 1 (.slice A6 ((text b).length) c6) ((text b).length) ((text b).map bv)::L):=S110
    have hI111:(i7≤504):=hI111
    refine wp_seq (sR (pv (nI_ (2+i7)) (pv (.slice A6 ((text b).length) c6) (pv (iv ((text b).length:Nat)) (dC ((((2+i7:Nat):Int):Int)<((text b).length:Nat)) (fun hb112=> ?_) fun hb112=> ?_)))))
    ·have hi7:i7<504:=by omega
     refine wE (nCT (wp_skip (nS (wp_block (wp_region_lit (pv (.slice A8 (7+i7) c8) (pv (.slice A6 ((text b).length) c6) (pv (nI_ (2+i7)) ?_))))))))
     obtain ⟨ad23,had23⟩:=((RoT.ofVec 1 rfl:RoT F w0 (vec 5 1 (.slice A8 (7+i7) c8) (7+i7) (([t,(text b).getD 0 0,(text b).getD 1 0]++le4 (crc (text b))++pre ((text b).drop 2) i7).map bv)::vec 5 1 (.slice A6 ((text b).length) c6) ((text b).length) ((text b).map bv)::L) A6 (text b)).now S110).at (k:=0) om_
     refine g_ (gv_ixB (e:=5) (sz:=1) (n:=((text b).length)) (c:=c6) (i:=((2+i7:Nat):Int)) (k:=.i64) (ad:=ad23) (ad':=(ad23.add (2+i7))) (j:=(2+i7)) rfl kr_ kr_ (by rw [←had23];kernel_rfl) kr_ rfl om_ (by rw [Nat.mul_one]) (lQ (.int .u8 ((((text b).drop 2).getD i7 0).toNat:Int)) (by rw [getD_drop];exact ((had23▸(RoT.ofVec 1 rfl:RoT F w0 (vec 5 1 (.slice A8 (7+i7) c8) (7+i7) (([t,(text b).getD 0 0,(text b).getD 1 0]++le4 (crc (text b))++pre ((text b).drop 2) i7).map bv)::vec 5 1 (.slice A6 ((text b).length) c6) ((text b).length) ((text b).map bv)::L) A6 (text b)).now S110:RdB _ (some ad23) (text b)).cell om_)) (g_ (gv_slit (e:=5) (sz:=1) (z:=.int .u8 0) (by_:=1) (vs:=#[(0,.int .u8 ((((text b).drop 2).getD i7 0).toNat:Int))]) (cells:=#[.int .u8 ((((text b).drop 2).getD i7 0).toNat:Int)]) S110 rfl kr_ ⟨by kernel_rfl⟩ kr_ kr_ kr_ kr_ (fun g113 w114 hg115 S116=> ?_)))))
     have S117:St F w0 w114 (row g113 #[.int .u8 ((((text b).drop 2).getD i7 0).toNat:Int)] 5::vec 5 1 (.slice A8 (7+i7) c8) (7+i7) (([t,(text b).getD 0 0,(text b).getD 1 0]++le4 (crc (text b))++pre ((text b).drop 2) i7).map bv)::vec 5 1 (.slice A6 ((text b).length) c6) ((text b).length) ((text b).map bv)::L):=St.pm 3 [0,1,2] S116
     refine g_ (gv_append (e:=5) (sz:=1) (n:=(7+i7)) (v:=(.slice A8 (7+i7) c8)) (vals:=(([t,(text b).getD 0 0,(text b).getD 1 0]++le4 (crc (text b))++pre ((text b).drop 2) i7).map bv)) (z:=.int .u8 0) (by_:=1) (m:=1) (c':=1) (ad:=⟨g113,0,none⟩) (news:=[.int .u8 ((((text b).drop 2).getD i7 0).toNat:Int)]) (St.swap S117) rfl kr_ ⟨by kernel_rfl⟩ rfl kr_ kr_ dc_ rfl (row_news (S117.blk 0 rfl)) (by intro u hu;simp at hu;subst hu;rfl) om_ om_ (fun v119 w118 S120=> ?_))
     have S121:St F w0 w118 (vec 5 1 v119 (7+i7+1) (([t,(text b).getD 0 0,(text b).getD 1 0]++le4 (crc (text b))++pre ((text b).drop 2) i7).map bv++[.int .u8 ((((text b).drop 2).getD i7 0).toNat:Int)])::vec 5 1 (.slice A6 ((text b).length) c6) ((text b).length) ((text b).map bv)::L):=St.pm 3 [0,2] S120
     rw [pre_app] at S121
     obtain ⟨A122,c123,rfl⟩:=St.vecV S121 0 rfl
     change St F w0 w118 (vec 5 1 (.slice A122 (7+i7+1) c123) (7+i7+1) (([t,(text b).getD 0 0,(text b).getD 1 0]++le4 (crc (text b))++pre ((text b).drop 2) (i7+1)).map bv)::vec 5 1 (.slice A6 ((text b).length) c6) ((text b).length) ((text b).map bv)::L) at S121
     exact pv (.slice A122 (7+i7+1) c123) (wE (inb_n (nR (pv (nI_ (2+i7)) (gI .i64 (IntKind.i64.wrap (((2+i7:Nat):Int)+1)) ((2+(i7+1):Nat):Int) wq_ (pv (nI_ (2+(i7+1))) (wE (then_n ⟨(i7+1,A122,c123),(jE_ ⟨S121,om_⟩),(by show 504-(i7+1)<504-i7;omega)⟩))))))))
    ·have hi7:i7=504:=by omega
     have hp7:pre ((text b).drop 2) 504=(text b).drop 2:=by rw [pre_drop om_,List.take_of_length_le (by rw [List.length_drop];omega)]
     rw [hi7,hp7] at S110
     rw [show 7+i7=511 from by omega]
     have S124:St F w0 w109 (vec 5 1 (.slice A8 511 c8) 511 (([t,(text b).getD 0 0,(text b).getD 1 0]++le4 (crc (text b))++(text b).drop 2).map bv)::vec 5 1 (.slice A6 ((text b).length) c6) ((text b).length) ((text b).map bv)::L):=S110
     refine wE (nCF (wp_exit (then_x (then_x (inb_x (nSR (pv (.slice A8 511 c8) (pv (iv (t.toNat:Int)) (gI .u8 (IntKind.u8.wrap (t.toNat:Int)) (t.toNat:Int) (byte_self t) (g_ (gv_slit (e:=5) (sz:=1) (z:=.int .u8 0) (by_:=1) (vs:=#[(0,.int .u8 (t.toNat:Int))]) (cells:=#[.int .u8 (t.toNat:Int)]) S124 rfl kr_ ⟨by kernel_rfl⟩ kr_ kr_ kr_ kr_ (fun g125 w126 hg127 S128=> ?_))))))))))))
     have S129:St F w0 w126 (row g125 #[.int .u8 (t.toNat:Int)] 5::vec 5 1 (.slice A8 511 c8) 511 (([t,(text b).getD 0 0,(text b).getD 1 0]++le4 (crc (text b))++(text b).drop 2).map bv)::vec 5 1 (.slice A6 ((text b).length) c6) ((text b).length) ((text b).map bv)::L):=St.pm 3 [0,1,2] S128
     refine g_ (gv_append (e:=5) (sz:=1) (n:=511) (v:=(.slice A8 511 c8)) (vals:=(([t,(text b).getD 0 0,(text b).getD 1 0]++le4 (crc (text b))++(text b).drop 2).map bv)) (z:=.int .u8 0) (by_:=1) (m:=1) (c':=1) (ad:=⟨g125,0,none⟩) (news:=[.int .u8 (t.toNat:Int)]) (St.swap S129) rfl kr_ ⟨by kernel_rfl⟩ rfl kr_ kr_ dc_ rfl (row_news (S129.blk 0 rfl)) (by intro u hu;simp at hu;subst hu;rfl) om_ om_ (fun v131 w130 S132=> ?_))
     have S133:St F w0 w130 (vec 5 1 v131 512 (([t,(text b).getD 0 0,(text b).getD 1 0]++le4 (crc (text b))++(text b).drop 2).map bv++[.int .u8 (t.toNat:Int)])::vec 5 1 (.slice A6 ((text b).length) c6) ((text b).length) ((text b).map bv)::L):=St.pm 3 [0,2] S132
     rw [bv_snoc] at S133
     obtain ⟨A134,c135,rfl⟩:=St.vecV S133 0 rfl
     change St F w0 w130 (vec 5 1 (.slice A134 512 c135) 512 (([t,(text b).getD 0 0,(text b).getD 1 0]++le4 (crc (text b))++(text b).drop 2++[t]).map bv)::vec 5 1 (.slice A6 ((text b).length) c6) ((text b).length) ((text b).map bv)::L) at S133
     refine pv (.slice A134 512 c135) (wER (pv (.slice A134 512 c135) (pv (.slice A134 512 c135) (wE (then_n (wp_ret (bA (.slice A134 512 c135) ?_)))))))
     have hff:[t,(text b).getD 0 0,(text b).getD 1 0]++le4 (crc (text b))++(text b).drop 2++[t]=form t b:=by
      obtain ⟨x0,x1,r,hx⟩:∃x0 x1 r,text b=x0::x1::r:=⟨_,_,_,rfl⟩
      unfold form;rw [hx];simp
     rw [hff] at S133
     have S136:=St.pm 2 [0] S133
     exact ⟨_,_,rfl,S136⟩
section
variable {F:Nat→Prop} {w0 w:World} {L:List Ast}
theorem rform' (S:St F w0 w L){z:Int}{t:UInt8}(hz:z=(t.toNat:Int)){A:Option Addr}{b:List UInt8}{m cb:Nat}(hm:m=b.length)(hr:RoT F w0 L A b)(hb:b.length≤504):Calls Tryz.prog 130 #[.int .i64 z,.slice A m cb] w fun e w'=>∃A c,e=.returned (.slice A 512 c)∧St F w0 w' (vec 5 1 (.slice A 512 c) 512 ((form t b).map bv)::L):=by
 subst hm;exact rform S hz hr hb
theorem rsame' {A B:Option Addr}{a b:List UInt8}{m n ca cb:Nat}{t:Bool}(hm0:m=a.length)(hn0:n=b.length)(ht:decide (a=b)=t)(S:St F w0 w L)(hx:RoT F w0 L A a)(hy:RoT F w0 L B b)(hm:a.length≤9223372036854775807)(hm2:b.length≤9223372036854775807):
  Calls Tryz.prog 135 #[.slice A m ca,.slice B n cb] w fun e w'=>e=.returned (.bool t)∧St F w0 w' L:=by
 subst hm0 hn0;exact rsame ht S hx hy hm hm2
theorem leN_take_drop:∀(l:List UInt8) (k:Nat),k≤l.length→leN l=leN (l.take k)+256^k*leN (l.drop k)
 |l,0,_=>by simp [leN]
 |[],k+1,h=>by simp at h
 |x::l,k+1,h=>by
  have ih:=leN_take_drop l k (by simpa using h)
  simp only [List.take_succ_cons,List.drop_succ_cons,leN]
  rw [ih,Nat.pow_succ,Nat.mul_add,←Nat.add_assoc,←Nat.mul_assoc,Nat.mul_comm 256 (256^k)]
theorem leN_drop_le (l:List UInt8)(k:Nat)(h:k≤l.length):leN (l.drop k)≤leN l:=by
 rw [leN_take_drop l k h]
 have:=Nat.mul_le_mul_right (leN (l.drop k)) (Nat.one_le_pow k 256 dc_)
 omega
theorem anchor_lt {B:List UInt8}(h8:8≤B.length):leN (B.take 8)=leN (B.take 7)+72057594037927936*(B.getD 7 0).toNat∧leN (B.take 7)<72057594037927936:=by
 have hl:(B.take 8).length=8:=by rw [List.length_take];omega
 have h1:=leN_take_drop (B.take 8) 7 om_
 rw [List.take_take,show min 7 8=7 from rfl] at h1
 have h2:=leN_drop (B.take 8) 7 om_
 have h3:(B.take 8).drop (7+1)=[]:=List.drop_of_length_le om_
 rw [h3] at h2
 have h4:(B.take 8).getD 7 0=B.getD 7 0:=by rw [List.getD_eq_getElem?_getD,List.getElem?_take,if_pos dc_,List.getD_eq_getElem?_getD]
 rw [h4] at h2
 have h5:=leN_lt (B.take 7)
 have h6:(B.take 7).length=7:=by rw [List.length_take];omega
 rw [h6] at h5
 rw [h1,h2]
 simp only [leN,Nat.mul_zero,Nat.add_zero]
 exact ⟨trivial,h5⟩
theorem anchor_step {B:List UInt8}(h8:8≤B.length){j:Nat}(hj:j<8):leN ((B.take 8).drop (8-(j+1)))=leN ((B.take 8).drop (8-j))*256+(B.getD (7-j) 0).toNat:=by
 have hl:(B.take 8).length=8:=by rw [List.length_take];omega
 rw [show 8-(j+1)=7-j from by omega,leN_drop (B.take 8) (7-j) om_,show 7-j+1=8-j from by omega]
 have h4:(B.take 8).getD (7-j) 0=B.getD (7-j) 0:=by rw [List.getD_eq_getElem?_getD,List.getElem?_take,if_pos om_,List.getD_eq_getElem?_getD]
 rw [h4];omega
theorem rseal (S:St F w0 w L){A B:Option Addr}{a b:List UInt8}{ca cb:Nat}(ha:RoT F w0 L A a)(hb:RoT F w0 L B b)(hma:a.length≤9223372036854775807)(hmb:b.length≤9223372036854775807):Calls Tryz.prog 106 #[.slice A a.length ca,.slice B b.length cb] w fun e w'=>∃A c,e=.returned (.tuple #[.slice A ((sealF a b).1).length c,.int .i64 ((sealF a b).2:Int)])∧St F w0 w' (vec 5 1 (.slice A ((sealF a b).1).length c) ((sealF a b).1).length (((sealF a b).1).map bv)::L):=by
 by_cases h5:a.length≠512
 ·have e:sealF a b=([],2):=by unfold sealF;rw [if_pos h5]
  rw [e]
  refine eN (fr [.slice A a.length ca,.slice B b.length cb] 32) Tryz.func106 rfl (sR (pv (nS_) (pv (iv 0) (wE (nS (sR (pv (.slice A a.length ca) (pv (iv (a.length:Nat)) (dN (a.length:Nat) 512 (fun _=>wE (nCT (sR (pv (nS_) ?_)))) fun hd1=>False.elim om_)))))))))
  exact pv (iv 2) (wE (then_n (rR (bB (nS_) (iv 2) ⟨none,0,rfl,St.vec_nil S⟩))))
 by_cases h4:504<b.length
 ·have e:sealF a b=([],7):=by unfold sealF;rw [if_neg h5,if_pos h4]
  rw [e]
  refine eN (fr [.slice A a.length ca,.slice B b.length cb] 32) Tryz.func106 rfl (sR (pv (nS_) (pv (iv 0) (wE (nS (sR (pv (.slice A a.length ca) (pv (iv (a.length:Nat)) (dN (a.length:Nat) 512 (fun hd1=>False.elim om_) fun _=>wE (nCF (wp_skip (nS ?_))))))))))))
  exact sR (pv (.slice B b.length cb) (pv (iv (b.length:Nat)) (dC (((b.length:Nat):Int)>504) (fun _=>wE (nCT (sR (pv (nS_) (pv (iv 7) (wE (then_n (rR (bB (nS_) (iv 7) ⟨none,0,rfl,St.vec_nil S⟩))))))))) fun hd2=>False.elim om_)))
 have e:sealF a b=(form (turnOf (a.getD 0 0) (a.getD 511 0)) b,0):=by unfold sealF;rw [if_neg h5,if_neg h4]
 rw [e]
 have hfl:=length_form (turnOf (a.getD 0 0) (a.getD 511 0)) (body:=b) om_
 obtain ⟨ad,had⟩:=(ha.now S).at (k:=0) om_
 refine eN (fr [.slice A a.length ca,.slice B b.length cb] 32) Tryz.func106 rfl (sR (pv (nS_) (pv (iv 0) (wE (nS (sR (pv (.slice A a.length ca) (pv (iv (a.length:Nat)) (dN (a.length:Nat) 512 (fun hd1=>False.elim om_) fun _=>wE (nCF (wp_skip (nS ?_))))))))))))
 refine sR (pv (.slice B b.length cb) (pv (iv (b.length:Nat)) (dC (((b.length:Nat):Int)>504) (fun hd2=>False.elim om_) fun _=>wE (nCF (wp_skip (nSR (pv (iv 0) (wE (nS (wp_block (wp_loop_g (G:=Nat) (fun (g_:Nat) (a_:Act) (w_:World)=>∃J:Nat→Value,a_=(fr ([.slice A a.length ca,.slice B b.length cb,ud,ud,nS_,iv 0,nI_ g_,ud,.slice A a.length ca,iv (a.length:Nat),fv,.slice B b.length cb,iv (b.length:Nat),fv]++jR J 14 16) 4)∧St F w0 w_ (L)∧(g_≤2∧(1≤g_→((a.getD 0 0).toNat:Int)=0∨((a.getD 511 0).toNat:Int)=0)∧(2≤g_→((a.getD 0 0).toNat:Int)=1∨((a.getD 511 0).toNat:Int)=1))) (fun g_=>3-g_) 0 (jE_ ⟨S,⟨by decide,fun h=>absurd h dc_,fun h=>absurd h dc_⟩⟩) ?_)))))))))))
 rintro k a_ w3 ⟨J,rfl,S4,hI5⟩
 skip
 have S4:St F w0 w3 (L):=S4
 have hI5:(k≤2∧(1≤k→((a.getD 0 0).toNat:Int)=0∨((a.getD 511 0).toNat:Int)=0)∧(2≤k→((a.getD 0 0).toNat:Int)=1∨((a.getD 511 0).toNat:Int)=1)):=hI5
 refine wp_seq (sR ?_)
 obtain ⟨hk2,hk0,hk1⟩:=hI5
 refine pv (.slice A a.length ca) (g_ (gv_ixB (e:=5) (sz:=1) (n:=a.length) (c:=ca) (i:=0) (k:=.i64) (ad:=ad) (ad':=(ad.add 0)) (j:=0) rfl kr_ kr_ (by rw [←had];kernel_rfl) kr_ rfl om_ (by rw [Nat.mul_one]) (lQ (.int .u8 ((a.getD 0 0).toNat:Int)) ((had▸ha.now S4:RdB _ (some ad) a).cell om_) (gI .i64 (IntKind.i64.wrap ((a.getD 0 0).toNat:Int)) ((a.getD 0 0).toNat:Int) (wr_u8 _) (pv (nI_ k) (dE ((a.getD 0 0).toNat:Int) ((k:Nat):Int) (fun hb6=> ?_) fun hb6=> ?_))))))
 ·refine pv tv (wN (wN (wN (wN (wN (wN (pv tv (wE (nCT (kN (wp_block (wp_region_lit (pv (nI_ k) ?_)))))))))))))
  exact gI .i64 (IntKind.i64.wrap (((k:Nat):Int)+1)) ((k+1:Nat):Int) wq_ (pv (nI_ (k+1)) (wE (iN ⟨k+1,(jE_ ⟨S4,⟨by omega,fun h=>by omega,fun h=>by omega⟩⟩),(by show 3-(k+1)<3-k;omega)⟩)))
 ·refine pv fv (pW (.slice A a.length ca) (wl_when kr_ (gv_ixB (e:=5) (sz:=1) (n:=a.length) (c:=ca) (i:=511) (k:=.i64) (ad:=ad) (ad':=(ad.add 511)) (j:=511) rfl kr_ kr_ (by rw [←had];kernel_rfl) kr_ rfl om_ (by rw [Nat.mul_one]) (wl_when kr_ (gv_ldR (v:=.int .u8 ((a.getD 511 0).toNat:Int)) rfl kr_ kr_ ((had▸ha.now S4:RdB _ (some ad) a).cell om_) (wl_when kr_ (gv_int (k:=.i64) (z:=IntKind.i64.wrap ((a.getD 511 0).toNat:Int)) (z':=((a.getD 511 0).toNat:Int)) kr_ (wr_u8 _) (pW (nI_ k) (wl_when kr_ (gv_eq (x:=((a.getD 511 0).toNat:Int)) (y:=((k:Nat):Int)) kr_ (fun hb7=> ?_) (fun hb7=> ?_)))))))))))
  ·exact pv tv (wE (nCT (kN (wp_block (wp_region_lit (pv (nI_ k) (gI .i64 (IntKind.i64.wrap (((k:Nat):Int)+1)) ((k+1:Nat):Int) wq_ (pv (nI_ (k+1)) (wE (iN ⟨k+1,(jE_ ⟨S4,⟨by omega,fun h=>by omega,fun h=>by omega⟩⟩),(by show 3-(k+1)<3-k;omega)⟩))))))))))
  ·have htu:((k:Nat):Int)=((turnOf (a.getD 0 0) (a.getD 511 0)).toNat:Int):=turn_found om_ om_ om_ hk0 hk1
   refine pv fv (wE (nCF (wp_exit (then_x (then_x (inb_x (nSR (pv (nI_ k) (pv (.slice B b.length cb) (sP2 Tryz.func130 #[nI_ k,.slice B b.length cb] (rform' S4 (t:=turnOf (a.getD 0 0) (a.getD 511 0)) htu (b:=b) rfl hb om_) fun A10 c11 w8 S9=>pv (.slice A10 512 c11) (wER (pv (.slice A10 512 c11) ?_))))))))))))
   exact pv (.slice A10 512 c11) (pv (iv 0) (wE (then_n (wp_ret (bB (.slice A10 512 c11) (iv 0) ⟨A10,c11,by rw [hfl];rfl,by rw [hfl];exact S9⟩)))))
theorem ropen (S:St F w0 w L){A:Option Addr}{s:List UInt8}{ca:Nat}(hr:RoT F w0 L A s)(hm:s.length≤9223372036854775807):Calls Tryz.prog 115 #[.slice A s.length ca] w fun e w'=>∃A c,e=.returned (.tuple #[.slice A ((openF s).1).length c,.int .i64 ((openF s).2:Int)])∧St F w0 w' (vec 5 1 (.slice A ((openF s).1).length c) ((openF s).1).length (((openF s).1).map bv)::L):=by
 by_cases h5:s.length≠512
 ·have e:openF s=([],2):=by unfold openF;rw [if_pos h5]
  rw [e]
  refine eN (fr [.slice A s.length ca] 52) Tryz.func115 rfl (sR (pv (nS_) (pv (iv 0) (wE (nS (sR (pv (.slice A s.length ca) (pv (iv (s.length:Nat)) (dN (s.length:Nat) 512 (fun _=>wE (nCT (sR (pv (nS_) ?_)))) fun hd1=>False.elim om_)))))))))
  exact pv (iv 2) (wE (then_n (rR (bB (nS_) (iv 2) ⟨none,0,rfl,St.vec_nil S⟩))))
 have hl5:s.length=512:=by omega
 obtain ⟨n,hn⟩:∃n,n=(s.getD 1 0).toNat+256*(s.getD 2 0).toNat:=⟨_,rfl⟩
 have e0:=openF_at (x0:=s.getD 0 0) hl5 rfl hn
 have hx1:=(s.getD 1 0).toNat_lt
 have hx2:=(s.getD 2 0).toNat_lt
 obtain ⟨ad,had⟩:=(hr.now S).at (k:=0) om_
 by_cases h4:504<n
 ·have e:openF s=([],30):=e0.trans (if_pos (.inr h4))
  rw [e]
  refine eN (fr [.slice A s.length ca] 52) Tryz.func115 rfl (sR (pv (nS_) (pv (iv 0) (wE (nS (sR (pv (.slice A s.length ca) (pv (iv (s.length:Nat)) (dN (s.length:Nat) 512 (fun hd1=>False.elim om_) fun _=>wE (nCF (wp_skip (nS (wp_region_phu (γ:=Unit) 10 [] (fun (c_:Unit) (i_:Nat)=>(match i_ with|0=>.slice A s.length ca|1=>.pointer (some (ad.add 1))|2=>.int .u8 ((s.getD 1 0).toNat:Int)|3=>iv ((s.getD 1 0).toNat:Int)|4=>.slice A s.length ca|5=>.pointer (some (ad.add 2))|6=>.int .u8 ((s.getD 2 0).toNat:Int)|7=>iv ((s.getD 2 0).toNat:Int)|8=>iv (256*((s.getD 2 0).toNat:Int))|9=>nI_ n|_=>undef:Value)) (fun (c_:Unit) (p_:Nat) (w_:World)=>(match p_ with|_=>St F w0 w_ (L):Prop)) () kr_ kr_ kr_ kr_ (S.drew) ?_ ?_ ?_)))))))))))))
  ·intro i_ c_ p_ vals_ w1 hi_ hiE_ hp_ hk_ hu_ hPh_ hd_
   rcases i_ with _|_|_|_|_|_|_|_|_|_|i_
   ·exact tG_ rfl hd_ (gV (.slice A s.length ca) ⟨rfl,rfl⟩)
   ·exact tG_ rfl hd_ (gv_ixB (e:=5) (sz:=1) (n:=s.length) (c:=ca) (i:=1) (k:=.i64) (ad:=ad) (ad':=(ad.add 1)) (j:=1) rfl kr_ kr_ (by rw [←had];kernel_rfl) kr_ rfl om_ (by rw [Nat.mul_one]) ⟨rfl,rfl⟩)
   ·have S4:=St.id hPh_
    exact tG_ rfl hd_ (gL (.int .u8 ((s.getD 1 0).toNat:Int)) rfl ((had▸hr.now S4:RdB _ (some ad) s).cell om_) ⟨rfl,rfl⟩)
   ·exact tG_ rfl hd_ (gv_int (k:=.i64) (z:=IntKind.i64.wrap ((s.getD 1 0).toNat:Int)) (z':=((s.getD 1 0).toNat:Int)) kr_ (wr_u8 _) ⟨rfl,rfl⟩)
   ·exact tG_ rfl hd_ (gV (.slice A s.length ca) ⟨rfl,rfl⟩)
   ·exact tG_ rfl hd_ (gv_ixB (e:=5) (sz:=1) (n:=s.length) (c:=ca) (i:=2) (k:=.i64) (ad:=ad) (ad':=(ad.add 2)) (j:=2) rfl kr_ kr_ (by rw [←had];kernel_rfl) kr_ rfl om_ (by rw [Nat.mul_one]) ⟨rfl,rfl⟩)
   ·have S8:=St.id hPh_
    exact tG_ rfl hd_ (gL (.int .u8 ((s.getD 2 0).toNat:Int)) rfl ((had▸hr.now S8:RdB _ (some ad) s).cell om_) ⟨rfl,rfl⟩)
   ·exact tG_ rfl hd_ (gv_int (k:=.i64) (z:=IntKind.i64.wrap ((s.getD 2 0).toNat:Int)) (z':=((s.getD 2 0).toNat:Int)) kr_ (wr_u8 _) ⟨rfl,rfl⟩)
   ·exact tG_ rfl hd_ (gv_int (k:=.i64) (z:=IntKind.i64.wrap (256*((s.getD 2 0).toNat:Int))) (z':=256*((s.getD 2 0).toNat:Int)) kr_ (wr_ok om_ om_) ⟨rfl,rfl⟩)
   ·exact tG_ rfl hd_ (gv_int (k:=.i64) (z:=IntKind.i64.wrap (((s.getD 1 0).toNat:Int)+(256*((s.getD 2 0).toNat:Int)))) (z':=((n:Nat):Int)) kr_ wq_ ⟨rfl,rfl⟩)
   ·exact absurd hi_ om_
  ·intro k_ c_ vals_ w1 hk_ hPh_ hd_
   exact absurd hk_ (Nat.not_lt_zero _)
  ·intro c_ w1 hPh_
   have S12:=St.id hPh_
   refine (pv (nI_ n) (wE (nS (sR (pv (nI_ n) (dC ((((n:Nat):Int):Int)>504) (fun _=>pv tv (wN (wN (wN (wN (pv tv (wE ?_))))))) fun hd13=>False.elim om_))))))
   exact nCT (sR (pv (nS_) (pv (iv 30) (wE (then_n (rR (bB (nS_) (iv 30) ⟨none,0,rfl,St.vec_nil S12⟩)))))))
 by_cases h2:2<(s.getD 0 0).toNat
 ·have e:openF s=([],30):=e0.trans (if_pos (.inl h2))
  rw [e]
  refine eN (fr [.slice A s.length ca] 52) Tryz.func115 rfl (sR (pv (nS_) (pv (iv 0) (wE (nS (sR (pv (.slice A s.length ca) (pv (iv (s.length:Nat)) (dN (s.length:Nat) 512 (fun hd1=>False.elim om_) fun _=>wE (nCF (wp_skip (nS (wp_region_phu (γ:=Unit) 10 [] (fun (c_:Unit) (i_:Nat)=>(match i_ with|0=>.slice A s.length ca|1=>.pointer (some (ad.add 1))|2=>.int .u8 ((s.getD 1 0).toNat:Int)|3=>iv ((s.getD 1 0).toNat:Int)|4=>.slice A s.length ca|5=>.pointer (some (ad.add 2))|6=>.int .u8 ((s.getD 2 0).toNat:Int)|7=>iv ((s.getD 2 0).toNat:Int)|8=>iv (256*((s.getD 2 0).toNat:Int))|9=>nI_ n|_=>undef:Value)) (fun (c_:Unit) (p_:Nat) (w_:World)=>(match p_ with|_=>St F w0 w_ (L):Prop)) () kr_ kr_ kr_ kr_ (S.drew) ?_ ?_ ?_)))))))))))))
  ·intro i_ c_ p_ vals_ w1 hi_ hiE_ hp_ hk_ hu_ hPh_ hd_
   rcases i_ with _|_|_|_|_|_|_|_|_|_|i_
   ·exact tG_ rfl hd_ (gV (.slice A s.length ca) ⟨rfl,rfl⟩)
   ·exact tG_ rfl hd_ (gv_ixB (e:=5) (sz:=1) (n:=s.length) (c:=ca) (i:=1) (k:=.i64) (ad:=ad) (ad':=(ad.add 1)) (j:=1) rfl kr_ kr_ (by rw [←had];kernel_rfl) kr_ rfl om_ (by rw [Nat.mul_one]) ⟨rfl,rfl⟩)
   ·have S4:=St.id hPh_
    exact tG_ rfl hd_ (gL (.int .u8 ((s.getD 1 0).toNat:Int)) rfl ((had▸hr.now S4:RdB _ (some ad) s).cell om_) ⟨rfl,rfl⟩)
   ·exact tG_ rfl hd_ (gv_int (k:=.i64) (z:=IntKind.i64.wrap ((s.getD 1 0).toNat:Int)) (z':=((s.getD 1 0).toNat:Int)) kr_ (wr_u8 _) ⟨rfl,rfl⟩)
   ·exact tG_ rfl hd_ (gV (.slice A s.length ca) ⟨rfl,rfl⟩)
   ·exact tG_ rfl hd_ (gv_ixB (e:=5) (sz:=1) (n:=s.length) (c:=ca) (i:=2) (k:=.i64) (ad:=ad) (ad':=(ad.add 2)) (j:=2) rfl kr_ kr_ (by rw [←had];kernel_rfl) kr_ rfl om_ (by rw [Nat.mul_one]) ⟨rfl,rfl⟩)
   ·have S8:=St.id hPh_
    exact tG_ rfl hd_ (gL (.int .u8 ((s.getD 2 0).toNat:Int)) rfl ((had▸hr.now S8:RdB _ (some ad) s).cell om_) ⟨rfl,rfl⟩)
   ·exact tG_ rfl hd_ (gv_int (k:=.i64) (z:=IntKind.i64.wrap ((s.getD 2 0).toNat:Int)) (z':=((s.getD 2 0).toNat:Int)) kr_ (wr_u8 _) ⟨rfl,rfl⟩)
   ·exact tG_ rfl hd_ (gv_int (k:=.i64) (z:=IntKind.i64.wrap (256*((s.getD 2 0).toNat:Int))) (z':=256*((s.getD 2 0).toNat:Int)) kr_ (wr_ok om_ om_) ⟨rfl,rfl⟩)
   ·exact tG_ rfl hd_ (gv_int (k:=.i64) (z:=IntKind.i64.wrap (((s.getD 1 0).toNat:Int)+(256*((s.getD 2 0).toNat:Int)))) (z':=((n:Nat):Int)) kr_ wq_ ⟨rfl,rfl⟩)
   ·exact absurd hi_ om_
  ·intro k_ c_ vals_ w1 hk_ hPh_ hd_
   exact absurd hk_ (Nat.not_lt_zero _)
  ·intro c_ w1 hPh_
   have S12:=St.id hPh_
   refine (pv (nI_ n) (wE (nS (sR (pv (nI_ n) (dC ((((n:Nat):Int):Int)>504) (fun hd13=>False.elim om_) fun _=>pv fv (pW (.slice A s.length ca) (wl_when kr_ (gv_ixB (e:=5) (sz:=1) (n:=s.length) (c:=ca) (i:=0) (k:=.i64) (ad:=ad) (ad':=(ad.add 0)) (j:=0) rfl kr_ kr_ (by rw [←had];kernel_rfl) kr_ rfl om_ (by rw [Nat.mul_one]) (wl_when kr_ (gv_ldR (v:=.int .u8 ((s.getD 0 0).toNat:Int)) rfl kr_ kr_ ((had▸hr.now S12:RdB _ (some ad) s).cell om_) (wl_when kr_ (gv_dec (p:=(((s.getD 0 0).toNat:Int):Int)>2) kr_ (fun _=> ?_) (fun hd14=>False.elim om_))))))))))))))
   exact pv tv (wE (nCT (sR (pv (nS_) (pv (iv 30) (wE (then_n (rR (bB (nS_) (iv 30) ⟨none,0,rfl,St.vec_nil S12⟩)))))))))
 rw [if_neg om_] at e0
 have hbl:((s.drop 7).take n).length=n:=by rw [List.length_take,List.length_drop];omega
 have hfl:=length_form (s.getD 0 0) (body:=(s.drop 7).take n) om_
 refine eN (fr [.slice A s.length ca] 52) Tryz.func115 rfl (sR (pv (nS_) (pv (iv 0) (wE (nS (sR (pv (.slice A s.length ca) (pv (iv (s.length:Nat)) (dN (s.length:Nat) 512 (fun hd1=>False.elim om_) fun _=>wE (nCF (wp_skip (nS (wp_region_phu (γ:=Unit) 10 [] (fun (c_:Unit) (i_:Nat)=>(match i_ with|0=>.slice A s.length ca|1=>.pointer (some (ad.add 1))|2=>.int .u8 ((s.getD 1 0).toNat:Int)|3=>iv ((s.getD 1 0).toNat:Int)|4=>.slice A s.length ca|5=>.pointer (some (ad.add 2))|6=>.int .u8 ((s.getD 2 0).toNat:Int)|7=>iv ((s.getD 2 0).toNat:Int)|8=>iv (256*((s.getD 2 0).toNat:Int))|9=>nI_ n|_=>undef:Value)) (fun (c_:Unit) (p_:Nat) (w_:World)=>(match p_ with|_=>St F w0 w_ (L):Prop)) () kr_ kr_ kr_ kr_ (S.drew) ?_ ?_ ?_)))))))))))))
 ·intro i_ c_ p_ vals_ w1 hi_ hiE_ hp_ hk_ hu_ hPh_ hd_
  rcases i_ with _|_|_|_|_|_|_|_|_|_|i_
  ·exact tG_ rfl hd_ (gV (.slice A s.length ca) ⟨rfl,rfl⟩)
  ·exact tG_ rfl hd_ (gv_ixB (e:=5) (sz:=1) (n:=s.length) (c:=ca) (i:=1) (k:=.i64) (ad:=ad) (ad':=(ad.add 1)) (j:=1) rfl kr_ kr_ (by rw [←had];kernel_rfl) kr_ rfl om_ (by rw [Nat.mul_one]) ⟨rfl,rfl⟩)
  ·have S4:=St.id hPh_
   exact tG_ rfl hd_ (gL (.int .u8 ((s.getD 1 0).toNat:Int)) rfl ((had▸hr.now S4:RdB _ (some ad) s).cell om_) ⟨rfl,rfl⟩)
  ·exact tG_ rfl hd_ (gv_int (k:=.i64) (z:=IntKind.i64.wrap ((s.getD 1 0).toNat:Int)) (z':=((s.getD 1 0).toNat:Int)) kr_ (wr_u8 _) ⟨rfl,rfl⟩)
  ·exact tG_ rfl hd_ (gV (.slice A s.length ca) ⟨rfl,rfl⟩)
  ·exact tG_ rfl hd_ (gv_ixB (e:=5) (sz:=1) (n:=s.length) (c:=ca) (i:=2) (k:=.i64) (ad:=ad) (ad':=(ad.add 2)) (j:=2) rfl kr_ kr_ (by rw [←had];kernel_rfl) kr_ rfl om_ (by rw [Nat.mul_one]) ⟨rfl,rfl⟩)
  ·have S8:=St.id hPh_
   exact tG_ rfl hd_ (gL (.int .u8 ((s.getD 2 0).toNat:Int)) rfl ((had▸hr.now S8:RdB _ (some ad) s).cell om_) ⟨rfl,rfl⟩)
  ·exact tG_ rfl hd_ (gv_int (k:=.i64) (z:=IntKind.i64.wrap ((s.getD 2 0).toNat:Int)) (z':=((s.getD 2 0).toNat:Int)) kr_ (wr_u8 _) ⟨rfl,rfl⟩)
  ·exact tG_ rfl hd_ (gv_int (k:=.i64) (z:=IntKind.i64.wrap (256*((s.getD 2 0).toNat:Int))) (z':=256*((s.getD 2 0).toNat:Int)) kr_ (wr_ok om_ om_) ⟨rfl,rfl⟩)
  ·exact tG_ rfl hd_ (gv_int (k:=.i64) (z:=IntKind.i64.wrap (((s.getD 1 0).toNat:Int)+(256*((s.getD 2 0).toNat:Int)))) (z':=((n:Nat):Int)) kr_ wq_ ⟨rfl,rfl⟩)
  ·exact absurd hi_ om_
 ·intro k_ c_ vals_ w1 hk_ hPh_ hd_
  exact absurd hk_ (Nat.not_lt_zero _)
 ·intro c_ w1 hPh_
  have S12:=St.id hPh_
  refine (pv (nI_ n) (wE (nS (sR (pv (nI_ n) (dC ((((n:Nat):Int):Int)>504) (fun hd13=>False.elim om_) fun _=>pv fv (pW (.slice A s.length ca) (wl_when kr_ (gv_ixB (e:=5) (sz:=1) (n:=s.length) (c:=ca) (i:=0) (k:=.i64) (ad:=ad) (ad':=(ad.add 0)) (j:=0) rfl kr_ kr_ (by rw [←had];kernel_rfl) kr_ rfl om_ (by rw [Nat.mul_one]) (wl_when kr_ (gv_ldR (v:=.int .u8 ((s.getD 0 0).toNat:Int)) rfl kr_ kr_ ((had▸hr.now S12:RdB _ (some ad) s).cell om_) (wl_when kr_ (gv_dec (p:=(((s.getD 0 0).toNat:Int):Int)>2) kr_ (fun hd14=>False.elim om_) (fun _=> ?_))))))))))))))
  refine pv fv (wE (nCF (wp_skip (nSR (pv (nS_) (wE (nS (sR (pv (iv 0) (wE (then_n (wp_block ?_))))))))))))
  have S15:St F w0 w1 (vec 5 1 (nS_) 0 ([].map bv)::L):=St.vec_nil S12
  refine wp_loop_g (G:=Nat×Option Addr×Nat) (fun (g_:Nat×Option Addr×Nat) (a_:Act) (w_:World)=>∃J:Nat→Value,a_=(fr ([.slice A s.length ca,ud,nS_,iv 0,nI_ n,.slice g_.2.1 g_.1 g_.2.2,nI_ g_.1,ud,.slice A s.length ca,iv (s.length:Nat),fv,.slice A s.length ca,.pointer (some (ad.add 1)),.int .u8 ((s.getD 1 0).toNat:Int),iv ((s.getD 1 0).toNat:Int),.slice A s.length ca,.pointer (some (ad.add 2)),.int .u8 ((s.getD 2 0).toNat:Int),iv ((s.getD 2 0).toNat:Int),iv (256*((s.getD 2 0).toNat:Int)),nI_ n,nI_ n,fv,fv,.slice A s.length ca,.pointer (some (ad.add 0)),.int .u8 ((s.getD 0 0).toNat:Int),fv,fv]++jR J 29 13) 11)∧St F w0 w_ (vec 5 1 (.slice g_.2.1 g_.1 g_.2.2) g_.1 ((pre (s.drop 7) g_.1).map bv)::L)∧(g_.1≤n)) (fun g_=>n-g_.1) (0,none,0) (jE_ ⟨S15,Nat.zero_le _⟩) ?_
  rintro ⟨i,A5,c5⟩ a_ w16 ⟨J,rfl,S17,hI18⟩
  skip
  have S17:St F w0 w16 (vec 5 1 (.slice A5 i c5) i ((pre (s.drop 7) i).map bv)::L):=S17
  have hI18:(i≤n):=hI18
  refine wp_seq (sR (pv (nI_ i) (pv (nI_ n) (dC ((((i:Nat):Int):Int)<((n:Nat):Int)) (fun hb19=> ?_) fun hb19=> ?_))))
  ·have hi:i<n:=by omega
   refine wE (nCT (wp_skip (nS (wp_block (wp_region_lit (pv (.slice A5 i c5) (pv (.slice A s.length ca) (pv (nI_ i) (gI .i64 (IntKind.i64.wrap (7+((i:Nat):Int))) ((7+i:Nat):Int) (wr_eq om_ om_ om_) (g_ (gv_ixB (e:=5) (sz:=1) (n:=s.length) (c:=ca) (i:=((7+i:Nat):Int)) (k:=.i64) (ad:=ad) (ad':=(ad.add (7+i))) (j:=(7+i)) rfl kr_ kr_ (by rw [←had];kernel_rfl) kr_ rfl om_ (by rw [Nat.mul_one]) (lQ (.int .u8 (((s.drop 7).getD i 0).toNat:Int)) (by rw [getD_drop];exact (had▸hr.more.now S17:RdB _ (some ad) s).cell om_) (g_ (gv_slit (e:=5) (sz:=1) (z:=.int .u8 0) (by_:=1) (vs:=#[(0,.int .u8 (((s.drop 7).getD i 0).toNat:Int))]) (cells:=#[.int .u8 (((s.drop 7).getD i 0).toNat:Int)]) S17 rfl kr_ ⟨by kernel_rfl⟩ kr_ kr_ kr_ kr_ (fun g20 w21 hg22 S23=> ?_)))))))))))))))
   have S24:St F w0 w21 (row g20 #[.int .u8 (((s.drop 7).getD i 0).toNat:Int)] 5::vec 5 1 (.slice A5 i c5) i ((pre (s.drop 7) i).map bv)::L):=St.pm 2 [0,1] S23
   refine g_ (gv_append (e:=5) (sz:=1) (n:=i) (v:=(.slice A5 i c5)) (vals:=((pre (s.drop 7) i).map bv)) (z:=.int .u8 0) (by_:=1) (m:=1) (c':=1) (ad:=⟨g20,0,none⟩) (news:=[.int .u8 (((s.drop 7).getD i 0).toNat:Int)]) (St.swap S24) rfl kr_ ⟨by kernel_rfl⟩ rfl kr_ kr_ dc_ rfl (row_news (S24.blk 0 rfl)) (by intro u hu;simp at hu;subst hu;rfl) om_ om_ (fun v26 w25 S27=> ?_))
   have S28:St F w0 w25 (vec 5 1 v26 (i+1) ((pre (s.drop 7) i).map bv++[.int .u8 (((s.drop 7).getD i 0).toNat:Int)])::L):=St.pm 2 [0] S27
   rw [pre_succ] at S28
   obtain ⟨A29,c30,rfl⟩:=St.vecV S28 0 rfl
   change St F w0 w25 (vec 5 1 (.slice A29 (i+1) c30) (i+1) ((pre (s.drop 7) (i+1)).map bv)::L) at S28
   exact pv (.slice A29 (i+1) c30) (wE (inb_n (nR (pv (nI_ i) (gI .i64 (IntKind.i64.wrap (((i:Nat):Int)+1)) ((i+1:Nat):Int) wq_ (pv (nI_ (i+1)) (wE (then_n ⟨(i+1,A29,c30),(jE_ ⟨S28,om_⟩),(by show n-(i+1)<n-i;omega)⟩))))))))
  ·have hie:i=n:=by omega
   have hpi:pre (s.drop 7) n=(s.drop 7).take n:=pre_drop om_
   rw [hie,hpi] at S17
   rw [hie]
   refine wE (nCF (wp_exit (then_x (then_x (inb_x (nSR (pv (.slice A s.length ca) (g_ (gv_ixB (e:=5) (sz:=1) (n:=s.length) (c:=ca) (i:=0) (k:=.i64) (ad:=ad) (ad':=(ad.add 0)) (j:=0) rfl kr_ kr_ (by rw [←had];kernel_rfl) kr_ rfl om_ (by rw [Nat.mul_one]) (lQ (.int .u8 ((s.getD 0 0).toNat:Int)) ((had▸hr.more.now S17:RdB _ (some ad) s).cell om_) (gI .i64 (IntKind.i64.wrap ((s.getD 0 0).toNat:Int)) ((s.getD 0 0).toNat:Int) (wr_u8 _) (pv (.slice A5 n c5) (sP2 Tryz.func130 #[iv ((s.getD 0 0).toNat:Int),.slice A5 n c5] (rform' S17 (t:=s.getD 0 0) rfl (b:=(s.drop 7).take n) hbl.symm (RoT.ofVec 0 rfl) om_) fun A33 c34 w31 S32=>pv (.slice A33 512 c34) ?_)))))))))))))
   refine wE (nS (sR (pv (.slice A33 512 c34) (pv (.slice A s.length ca) (g_ (gv_call (args:=#[.slice A33 512 c34,.slice A s.length ca]) rfl Tryz.func135 kr_ rfl rfl kr_ ?_))))))
   by_cases hq:s=form (s.getD 0 0) ((s.drop 7).take n)
   ·refine Calls.mono (rsame' (t:=true) hfl.symm rfl (decide_eq_true hq.symm) S32 (RoT.ofVec 0 rfl) hr.more.more om_ hm) ?_
    rintro _ w35 ⟨rfl,S36⟩
    refine ⟨_,rfl, ?_⟩
    have e:openF s=((s.drop 7).take n,0):=e0.trans (if_pos hq)
    refine pv fv (wE (nCF (wp_skip (nSR (pv (.slice A5 n c5) (pv (.slice A5 n c5) (pv (iv 0) (wE (then_n (wp_ret (bB (.slice A5 n c5) (iv 0) ?_)))))))))))
    rw [e]
    have S37:=St.pm 2 [1] S36
    exact ⟨A5,c5,by rw [hbl];rfl,by rw [hbl];exact S37⟩
   ·refine Calls.mono (rsame' (t:=false) hfl.symm rfl (decide_eq_false (fun h=>hq h.symm)) S32 (RoT.ofVec 0 rfl) hr.more.more om_ hm) ?_
    rintro _ w38 ⟨rfl,S39⟩
    refine ⟨_,rfl, ?_⟩
    have e:openF s=([],30):=e0.trans (if_neg hq)
    refine pv tv (wE (nCT (sR (pv (nS_) (pv (iv 30) (wE (then_n (rR (bB (nS_) (iv 30) ?_)))))))))
    rw [e]
    have S40:=St.pm 2 [] S39
    exact ⟨none,0,rfl,St.vec_nil S40⟩
theorem openF_len' (s:List UInt8):(openF s).1.length≤504:=by
 unfold openF
 split
 ·exact Nat.zero_le _
 ·split
  ·exact Nat.zero_le _
  ·split
   ·rw [List.length_take];omega
   ·exact Nat.zero_le _
theorem ranchor (S:St F w0 w L){A:Option Addr}{s:List UInt8}{ca:Nat}(hr:RoT F w0 L A s)(hm:s.length≤9223372036854775807):Calls Tryz.prog 114 #[.slice A s.length ca] w fun e w'=>∃(A:Option Addr) (c:Nat) (d:List UInt8),e=.returned (.tuple #[.int .i64 ((readF s).1:Int),.slice A d.length c])∧((readF s).1≠0→d=(readF s).2)∧d.length≤504∧St F w0 w' (vec 5 1 (.slice A d.length c) d.length (d.map bv)::L):=by
 have hol:=openF_len' s
 obtain ⟨B,hB⟩:∃B,B=(openF s).1:=⟨_,rfl⟩
 refine eN (fr [.slice A s.length ca] 54) Tryz.func114 rfl (sR (pv (iv 0) (pv (nS_) (wER (pv (.slice A s.length ca) (g_ (gv_call (args:=#[.slice A s.length ca]) rfl Tryz.func115 kr_ rfl rfl kr_ (Calls.mono (ropen S hr hm) ?_))))))))
 rintro _ w1 ⟨AB,cB,rfl,S2⟩
 rw [←hB] at S2 hol
 refine ⟨_,rfl, ?_⟩
 rw [←hB]
 refine pv (.tuple #[.slice AB B.length cB,iv ((openF s).2:Int)]) (pv (.slice AB B.length cB) (pv (iv ((openF s).2:Int)) (pv (.slice AB B.length cB) (pv (iv ((openF s).2:Int)) (wE (nS (sR (pv (iv ((openF s).2:Int)) (dN ((openF s).2:Int) 0 (fun hb3=> ?_) fun hb3=> ?_)))))))))
 ·have hz:readF s=(0,[]):=by unfold readF;rw [←hB];rw [if_pos (.inl om_)]
  refine pv tv (wN (wN (wN (pv tv (pv tv (wN (wN (wN (wN (pv tv (wE (nCT (sR ?_)))))))))))))
  refine pv (iv 0) (pv (nS_) (wE (then_n (rR (bB (iv 0) (nS_) ?_)))))
  have S4:=St.pm 1 [] S2
  rw [hz]
  exact ⟨none,0,[],rfl,fun h=>absurd rfl h,Nat.zero_le _,St.vec_nil S4⟩
 ·refine pv fv (pW (.slice AB B.length cB) (pW (iv (B.length:Nat)) (wl_when kr_ (gv_dec (p:=((B.length:Nat):Int)<8) kr_ (fun hb5=> ?_) (fun hb5=> ?_)))))
  ·have hz:readF s=(0,[]):=by unfold readF;rw [←hB];rw [if_pos (.inr om_)]
   refine pv tv (pv tv (wN (wN (wN (wN (pv tv (wE (nCT (sR (pv (iv 0) (pv (nS_) (wE (then_n ?_)))))))))))))
   refine rR (bB (iv 0) (nS_) ?_)
   have S6:=St.pm 1 [] S2
   rw [hz]
   exact ⟨none,0,[],rfl,fun h=>absurd rfl h,Nat.zero_le _,St.vec_nil S6⟩
  ·have h8:8≤B.length:=by omega
   obtain ⟨hT,hT7⟩:=anchor_lt h8
   have hcode:(openF s).2=0:=by omega
   obtain ⟨adB,hadB⟩:=((RoT.ofVec 0 rfl:RoT F w0 (vec 5 1 (.slice AB B.length cB) B.length (B.map bv)::L) AB B).now S2).at (k:=0) om_
   refine pv fv (pv fv (pW (.slice AB B.length cB) (wl_when kr_ (gv_ixB (e:=5) (sz:=1) (n:=B.length) (c:=cB) (i:=7) (k:=.i64) (ad:=adB) (ad':=(adB.add 7)) (j:=7) rfl kr_ kr_ (by rw [←hadB];kernel_rfl) kr_ rfl om_ (by rw [Nat.mul_one]) (wl_when kr_ (gv_ldR (v:=.int .u8 ((B.getD 7 0).toNat:Int)) rfl kr_ kr_ ((hadB▸(RoT.ofVec 0 rfl:RoT F w0 (vec 5 1 (.slice AB B.length cB) B.length (B.map bv)::L) AB B).now S2:RdB _ (some adB) B).cell om_) (wl_when kr_ (gv_dec (p:=(((B.getD 7 0).toNat:Int):Int)>127) kr_ (fun hb7=> ?_) (fun hb7=> ?_)))))))))
   ·have hz:readF s=(0,[]):=by unfold readF;rw [←hB];rw [if_neg om_,if_pos (.inr om_)]
    refine pv tv (wE (nCT (sR (pv (iv 0) (pv (nS_) (wE (then_n (rR (bB (iv 0) (nS_) ?_)))))))))
    have S8:=St.pm 1 [] S2
    rw [hz]
    exact ⟨none,0,[],rfl,fun h=>absurd rfl h,Nat.zero_le _,St.vec_nil S8⟩
   ·have hT63:leN (B.take 8)<9223372036854775808:=by omega
    have hl8:(B.take 8).length=8:=by rw [List.length_take];omega
    refine pv fv (wE (nCF (wp_skip (nSR (pv (iv 0) (wE (nS (sR (pv (iv 7) (wE (then_n (wp_block (wp_loop_g (G:=Nat×Nat) (fun (g_:Nat×Nat) (a_:Act) (w_:World)=>∃J:Nat→Value,a_=(fr ([.slice A s.length ca,ud,iv 0,.slice none 0 0,.slice AB B.length cB,iv ((openF s).2:Int),nI_ g_.2,iv (7-((g_.1:Nat):Int)),ud,ud,.tuple #[.slice AB B.length cB,iv ((openF s).2:Int)],.slice A s.length ca,.tuple #[.slice AB B.length cB,iv ((openF s).2:Int)],.slice AB B.length cB,iv ((openF s).2:Int),iv ((openF s).2:Int),fv,fv,.slice AB B.length cB,iv (B.length:Nat),fv,fv,fv,.slice AB B.length cB,.pointer (some (adB.add 7)),.int .u8 ((B.getD 7 0).toNat:Int),fv,fv]++jR J 28 12) 15)∧St F w0 w_ (vec 5 1 (.slice AB B.length cB) B.length (B.map bv)::L)∧(g_.1≤8∧g_.2=leN ((B.take 8).drop (8-g_.1)))) (fun g_=>8-g_.1) (0,0) (jE_ ⟨S2,⟨Nat.zero_le _,by rw [Nat.sub_zero,List.drop_of_length_le om_];rfl⟩⟩) ?_)))))))))))))
    rintro ⟨j,m⟩ a_ w9 ⟨J,rfl,S10,hI11⟩
    skip
    have S10:St F w0 w9 (vec 5 1 (.slice AB B.length cB) B.length (B.map bv)::L):=S10
    have hI11:(j≤8∧m=leN ((B.take 8).drop (8-j))):=hI11
    refine wp_seq (sR (pv (iv (7-((j:Nat):Int))) (dC (((7-((j:Nat):Int)):Int)≥0) (fun hb12=> ?_) fun hb12=> ?_)))
    ·have hj:j<8:=by omega
     have hstep:=anchor_step h8 hj
     rw [←hI11.2] at hstep
     have hle:=leN_drop_le (B.take 8) (8-(j+1)) om_
     refine wE (nCT (wp_skip (nS (wp_block (wp_region_lit (pv (nI_ m) (gI .i64 (IntKind.i64.wrap (((m:Nat):Int)*256)) ((m*256:Nat):Int) (wr_eq om_ om_ om_) (pv (.slice AB B.length cB) (pv (iv (7-((j:Nat):Int))) (g_ (gv_ixB (e:=5) (sz:=1) (n:=B.length) (c:=cB) (i:=(7-((j:Nat):Int))) (k:=.i64) (ad:=adB) (ad':=(adB.add (7-j))) (j:=(7-j)) rfl kr_ kr_ (by rw [←hadB];kernel_rfl) kr_ om_ om_ (by rw [Nat.mul_one]) (lQ (.int .u8 ((B.getD (7-j) 0).toNat:Int)) ((hadB▸(RoT.ofVec 0 rfl:RoT F w0 (vec 5 1 (.slice AB B.length cB) B.length (B.map bv)::L) AB B).now S10:RdB _ (some adB) B).cell om_) (gI .i64 (IntKind.i64.wrap ((B.getD (7-j) 0).toNat:Int)) ((B.getD (7-j) 0).toNat:Int) (wr_u8 _) (gI .i64 (IntKind.i64.wrap (((m*256:Nat):Int)+((B.getD (7-j) 0).toNat:Int))) ((m*256+(B.getD (7-j) 0).toNat:Nat):Int) (wr_eq om_ om_ om_) ?_))))))))))))))
     exact pv (nI_ (m*256+(B.getD (7-j) 0).toNat)) (wE (inb_n (nR (pv (iv (7-((j:Nat):Int))) (gI .i64 (IntKind.i64.wrap ((7-((j:Nat):Int))-1)) (7-((j+1:Nat):Int)) wq_ (pv (iv (7-((j+1:Nat):Int))) (wE (then_n ⟨(j+1,m*256+(B.getD (7-j) 0).toNat),(jE_ ⟨S10,⟨by omega,hstep.symm⟩⟩),(by show 8-(j+1)<8-j;omega)⟩))))))))
    ·have hj8:j=8:=by omega
     have hm8:m=leN (B.take 8):=by rw [hI11.2,hj8];rfl
     refine wE (nCF (wp_exit (then_x (then_x (inb_x (nSR (pv (nS_) (wE (nS (sR (pv (iv 8) (wE (then_n ?_)))))))))))))
     refine wp_block ?_
     have S13:St F w0 w9 (vec 5 1 (nS_) 0 ([].map bv)::vec 5 1 (.slice AB B.length cB) B.length (B.map bv)::L):=St.vec_nil S10
     refine wp_loop_g (G:=Nat×Option Addr×Nat) (fun (g_:Nat×Option Addr×Nat) (a_:Act) (w_:World)=>∃J:Nat→Value,a_=(fr ([.slice A s.length ca,ud,iv 0,nS_,.slice AB B.length cB,iv ((openF s).2:Int),nI_ m,iv (7-((j:Nat):Int)),.slice g_.2.1 g_.1 g_.2.2,nI_ (8+g_.1),.tuple #[.slice AB B.length cB,iv ((openF s).2:Int)],.slice A s.length ca,.tuple #[.slice AB B.length cB,iv ((openF s).2:Int)],.slice AB B.length cB,iv ((openF s).2:Int),iv ((openF s).2:Int),fv,fv,.slice AB B.length cB,iv (B.length:Nat),fv,fv,fv,.slice AB B.length cB,.pointer (some (adB.add 7)),.int .u8 ((B.getD 7 0).toNat:Int),fv,fv,iv (7-((j:Nat):Int)),fv]++jR J 30 23) 2)∧St F w0 w_ (vec 5 1 (.slice g_.2.1 g_.1 g_.2.2) g_.1 ((pre (B.drop 8) g_.1).map bv)::vec 5 1 (.slice AB B.length cB) B.length (B.map bv)::L)∧(8+g_.1≤B.length)) (fun g_=>B.length-8-g_.1) (0,none,0) (jE_ ⟨S13,om_⟩) ?_
     rintro ⟨i,A5,c5⟩ a_ w14 ⟨J,rfl,S15,hI16⟩
     skip
     have S15:St F w0 w14 (vec 5 1 (.slice A5 i c5) i ((pre (B.drop 8) i).map bv)::vec 5 1 (.slice AB B.length cB) B.length (B.map bv)::L):=S15
     have hI16:(8+i≤B.length):=hI16
     refine wp_seq (sR (pv (nI_ (8+i)) (pv (.slice AB B.length cB) (pv (iv (B.length:Nat)) (dC ((((8+i:Nat):Int):Int)<(B.length:Nat)) (fun hb17=> ?_) fun hb17=> ?_)))))
     ·have hi:8+i<B.length:=by omega
      refine wE (nCT (wp_skip (nS (wp_block (wp_region_lit (pv (.slice A5 i c5) (pv (.slice AB B.length cB) (pv (nI_ (8+i)) (g_ (gv_ixB (e:=5) (sz:=1) (n:=B.length) (c:=cB) (i:=((8+i:Nat):Int)) (k:=.i64) (ad:=adB) (ad':=(adB.add (8+i))) (j:=(8+i)) rfl kr_ kr_ (by rw [←hadB];kernel_rfl) kr_ rfl om_ (by rw [Nat.mul_one]) (lQ (.int .u8 (((B.drop 8).getD i 0).toNat:Int)) (by rw [getD_drop];exact ((hadB▸(RoT.ofVec 1 rfl:RoT F w0 (vec 5 1 (.slice A5 i c5) i ((pre (B.drop 8) i).map bv)::vec 5 1 (.slice AB B.length cB) B.length (B.map bv)::L) AB B).now S15:RdB _ (some adB) B).cell om_)) (g_ (gv_slit (e:=5) (sz:=1) (z:=.int .u8 0) (by_:=1) (vs:=#[(0,.int .u8 (((B.drop 8).getD i 0).toNat:Int))]) (cells:=#[.int .u8 (((B.drop 8).getD i 0).toNat:Int)]) S15 rfl kr_ ⟨by kernel_rfl⟩ kr_ kr_ kr_ kr_ (fun g18 w19 hg20 S21=> ?_))))))))))))))
      have S22:St F w0 w19 (row g18 #[.int .u8 (((B.drop 8).getD i 0).toNat:Int)] 5::vec 5 1 (.slice A5 i c5) i ((pre (B.drop 8) i).map bv)::vec 5 1 (.slice AB B.length cB) B.length (B.map bv)::L):=St.pm 3 [0,1,2] S21
      refine g_ (gv_append (e:=5) (sz:=1) (n:=i) (v:=(.slice A5 i c5)) (vals:=((pre (B.drop 8) i).map bv)) (z:=.int .u8 0) (by_:=1) (m:=1) (c':=1) (ad:=⟨g18,0,none⟩) (news:=[.int .u8 (((B.drop 8).getD i 0).toNat:Int)]) (St.swap S22) rfl kr_ ⟨by kernel_rfl⟩ rfl kr_ kr_ dc_ rfl (row_news (S22.blk 0 rfl)) (by intro u hu;simp at hu;subst hu;rfl) om_ om_ (fun v24 w23 S25=> ?_))
      have S26:St F w0 w23 (vec 5 1 v24 (i+1) ((pre (B.drop 8) i).map bv++[.int .u8 (((B.drop 8).getD i 0).toNat:Int)])::vec 5 1 (.slice AB B.length cB) B.length (B.map bv)::L):=St.pm 3 [0,2] S25
      rw [pre_succ] at S26
      obtain ⟨A27,c28,rfl⟩:=St.vecV S26 0 rfl
      change St F w0 w23 (vec 5 1 (.slice A27 (i+1) c28) (i+1) ((pre (B.drop 8) (i+1)).map bv)::vec 5 1 (.slice AB B.length cB) B.length (B.map bv)::L) at S26
      exact pv (.slice A27 (i+1) c28) (wE (inb_n (nR (pv (nI_ (8+i)) (gI .i64 (IntKind.i64.wrap (((8+i:Nat):Int)+1)) ((8+(i+1):Nat):Int) wq_ (pv (nI_ (8+(i+1))) (wE (then_n ⟨(i+1,A27,c28),(jE_ ⟨S26,om_⟩),(by show B.length-8-(i+1)<B.length-8-i;omega)⟩))))))))
     ·refine wE (nCF (wp_exit (then_x (then_x (inb_x (nSR (pv (nI_ m) (pv (.slice A5 i c5) (pv (nI_ m) (pv (.slice A5 i c5) (wE (then_n (wp_ret ?_)))))))))))))
      refine bB (nI_ m) (.slice A5 i c5) ?_
      have S29:St F w0 w14 (vec 5 1 (.slice A5 i c5) i ((pre (B.drop 8) i).map bv)::L):=St.pm 2 [0] S15
      have hie:i=(B.drop 8).length:=by rw [List.length_drop];omega
      have hpi:pre (B.drop 8) i=B.drop 8:=by rw [hie,pre_all]
      rw [hpi,hie] at S29
      have hR:(readF s).1=m∧((readF s).1≠0→B.drop 8=(readF s).2):=by
       unfold readF;rw [←hB,if_neg om_]
       by_cases hz:leN (B.take 8)=0∨9223372036854775807<leN (B.take 8)
       ·rw [if_pos hz];exact ⟨by show 0=m;omega,fun h=>absurd rfl h⟩
       ·rw [if_neg hz];exact ⟨hm8.symm,fun _=>rfl⟩
      exact ⟨_,_,B.drop 8,by rw [hR.1,hie],hR.2,by rw [List.length_drop];omega,S29⟩
theorem rnewest (S:St F w0 w L){A B:Option Addr}{a b:List UInt8}{ca cb:Nat}(ha:RoT F w0 L A a)(hb:RoT F w0 L B b)(hma:a.length≤9223372036854775807)(hmb:b.length≤9223372036854775807):Calls Tryz.prog 95 #[.slice A a.length ca,.slice B b.length cb] w fun e w'=>∃A c,e=.returned (.tuple #[.int .i64 ((newestF a b).1:Int),.int .i64 ((newestF a b).2.1:Int),.slice A (newestF a b).2.2.1.length c,.int .i64 ((newestF a b).2.2.2:Int)])∧St F w0 w' (vec 5 1 (.slice A (newestF a b).2.2.1.length c) (newestF a b).2.2.1.length ((newestF a b).2.2.1.map bv)::L):=by
 refine eN (fr [.slice A a.length ca,.slice B b.length cb] 41) Tryz.func95 rfl (sR (pv (iv 0) (pv (iv 0) (pv (nS_) (pv (iv 0) (wE (nS (sR (pv (.slice A a.length ca) (pv (iv (a.length:Nat)) (dN (a.length:Nat) 512 (fun hb1=> ?_) fun hb1=> ?_)))))))))))
 ·refine pv tv (wN (wN (wN (pv tv (wE (nCT (sR (pv (iv 0) (pv (iv 0) (pv (nS_) (pv (iv 2) (wE (then_n ?_)))))))))))))
  refine rR (bodyPost_ret (v:=.tuple #[iv 0,iv 0,nS_,iv 2]) (Go.Proofs.results_tmp4 rfl _ _ kr_ kr_ kr_ kr_) rfl ?_)
  have e:newestF a b=(0,0,[],2):=by unfold newestF;rw [if_neg om_]
  rw [e]
  exact ⟨none,0,rfl,St.vec_nil S⟩
 ·refine pv fv (pW (.slice B b.length cb) (pW (iv (b.length:Nat)) (wl_when kr_ (gv_ne (x:=(b.length:Nat)) (y:=512) kr_ (fun hb2=> ?_) (fun hb2=> ?_)))))
  ·refine pv tv (wE (nCT (sR (pv (iv 0) (pv (iv 0) (pv (nS_) (pv (iv 2) (wE (then_n (rR (bodyPost_ret (v:=.tuple #[iv 0,iv 0,nS_,iv 2]) (Go.Proofs.results_tmp4 rfl _ _ kr_ kr_ kr_ kr_) rfl ?_)))))))))))
   have e:newestF a b=(0,0,[],2):=by unfold newestF;rw [if_neg om_]
   rw [e]
   exact ⟨none,0,rfl,St.vec_nil S⟩
  ·refine pv fv (wE (nCF (wp_skip (nSR (pv (.slice A a.length ca) (g_ (gv_call (args:=#[.slice A a.length ca]) rfl Tryz.func114 kr_ rfl rfl kr_ (Calls.mono (ranchor S ha hma) ?_))))))))
   rintro _ w3 ⟨Aa,cc,da,rfl,hda,hdal,S4⟩
   refine ⟨_,rfl,(pv (.tuple #[iv ((readF a).1:Int),.slice Aa da.length cc]) (pv (iv ((readF a).1:Int)) (pv (.slice Aa da.length cc) (pv (iv ((readF a).1:Int)) (pv (.slice Aa da.length cc) (wER (pv (.slice B b.length cb) (g_ (gv_call (args:=#[.slice B b.length cb]) rfl Tryz.func114 kr_ rfl rfl kr_ (Calls.mono (ranchor S4 hb.more hmb) ?_))))))))))⟩
   rintro _ w5 ⟨Ab,cd,db,rfl,hdb,hdbl,S6⟩
   refine ⟨_,rfl,(pv (.tuple #[iv ((readF b).1:Int),.slice Ab db.length cd]) (pv (iv ((readF b).1:Int)) (pv (.slice Ab db.length cd) (pv (iv ((readF b).1:Int)) (pv (.slice Ab db.length cd) (wE (nS (sR (pv (iv ((readF a).1:Int)) (dE ((readF a).1:Int) 0 (fun hb7=> ?_) fun hb7=> ?_))))))))))⟩
   ·refine pv tv (pW (iv ((readF b).1:Int)) (wl_when kr_ (gv_eq (x:=((readF b).1:Int)) (y:=0) kr_ (fun hb8=> ?_) (fun hb8=> ?_))))
    ·refine pv tv (wE (nCT (sR (pv (iv 0) (pv (iv 0) (pv (nS_) (pv (iv 30) (wE (then_n (rR (bodyPost_ret (v:=.tuple #[iv 0,iv 0,nS_,iv 30]) (Go.Proofs.results_tmp4 rfl _ _ kr_ kr_ kr_ kr_) rfl ?_)))))))))))
     have e:newestF a b=(0,0,[],30):=by unfold newestF;rw [if_pos om_,if_pos om_]
     rw [e]
     have S9:=St.pm 2 [] S6
     exact ⟨none,0,rfl,St.vec_nil S9⟩
    ·refine pv fv (wE (nCF (wp_skip (nS (sR (pv (iv ((readF b).1:Int)) (pv (iv ((readF a).1:Int)) (dC ((((readF b).1:Int):Int)>((readF a).1:Int)) (fun hb10=> ?_) fun hb10=> ?_))))))))
     ·refine wE (nCT (sR (pv (iv ((readF b).1:Int)) (pv (.slice Ab db.length cd) (pv (iv 1) (pv (iv ((readF b).1:Int)) (pv (.slice Ab db.length cd) (pv (iv 0) (wE (then_n (rR (bodyPost_ret (v:=.tuple #[iv 1,iv ((readF b).1:Int),.slice Ab db.length cd,iv 0]) (Go.Proofs.results_tmp4 rfl _ _ kr_ kr_ kr_ kr_) rfl ?_))))))))))))
      have e:newestF a b=(1,(readF b).1,db,0):=by unfold newestF;rw [if_pos om_,if_neg om_,if_pos om_,←hdb om_]
      rw [e]
      have S11:=St.pm 2 [0] S6
      exact ⟨_,_,rfl,S11⟩
     ·refine wE (nCF (wp_skip (nSR (pv (iv ((readF a).1:Int)) (pv (.slice Aa da.length cc) (pv (iv 0) (pv (iv ((readF a).1:Int)) (pv (.slice Aa da.length cc) (pv (iv 0) (wE (then_n (wp_ret (bodyPost_ret (v:=.tuple #[iv 0,iv ((readF a).1:Int),.slice Aa da.length cc,iv 0]) (Go.Proofs.results_tmp4 rfl _ _ kr_ kr_ kr_ kr_) rfl ?_)))))))))))))
      have e:newestF a b=(0,(readF a).1,da,0):=by unfold newestF;rw [if_pos om_,if_neg om_,if_neg om_,←hda om_]
      rw [e]
      have S12:=St.pm 2 [1] S6
      exact ⟨_,_,rfl,S12⟩
   ·refine pv fv (wN (wN (pv fv (wE (nCF (wp_skip (nS (sR (pv (iv ((readF b).1:Int)) (pv (iv ((readF a).1:Int)) (dC ((((readF b).1:Int):Int)>((readF a).1:Int)) (fun hb13=> ?_) fun hb13=> ?_)))))))))))
    ·refine wE (nCT (sR (pv (iv ((readF b).1:Int)) (pv (.slice Ab db.length cd) (pv (iv 1) (pv (iv ((readF b).1:Int)) (pv (.slice Ab db.length cd) (pv (iv 0) (wE (then_n (rR (bodyPost_ret (v:=.tuple #[iv 1,iv ((readF b).1:Int),.slice Ab db.length cd,iv 0]) (Go.Proofs.results_tmp4 rfl _ _ kr_ kr_ kr_ kr_) rfl ?_))))))))))))
     have e:newestF a b=(1,(readF b).1,db,0):=by unfold newestF;rw [if_pos om_,if_neg om_,if_pos om_,←hdb om_]
     rw [e]
     have S14:=St.pm 2 [0] S6
     exact ⟨_,_,rfl,S14⟩
    ·refine wE (nCF (wp_skip (nSR (pv (iv ((readF a).1:Int)) (pv (.slice Aa da.length cc) (pv (iv 0) (pv (iv ((readF a).1:Int)) (pv (.slice Aa da.length cc) (pv (iv 0) (wE (then_n (wp_ret (bodyPost_ret (v:=.tuple #[iv 0,iv ((readF a).1:Int),.slice Aa da.length cc,iv 0]) (Go.Proofs.results_tmp4 rfl _ _ kr_ kr_ kr_ kr_) rfl ?_)))))))))))))
     have e:newestF a b=(0,(readF a).1,da,0):=by unfold newestF;rw [if_pos om_,if_neg om_,if_neg om_,←hda om_]
     rw [e]
     have S15:=St.pm 2 [1] S6
     exact ⟨_,_,rfl,S15⟩
end
section
variable {F:Nat→Prop} {w0 w:World} {L:List Ast}
theorem rseal' (S:St F w0 w L){A B:Option Addr}{a b:List UInt8}{m n ca cb:Nat}(hm0:m=a.length)(hn0:n=b.length)(ha:RoT F w0 L A a)(hb:RoT F w0 L B b)(hma:a.length≤9223372036854775807)(hmb:b.length≤9223372036854775807):Calls Tryz.prog 106 #[.slice A m ca,.slice B n cb] w fun e w'=>∃A c,e=.returned (.tuple #[.slice A (sealF a b).1.length c,.int .i64 ((sealF a b).2:Int)])∧St F w0 w' (vec 5 1 (.slice A (sealF a b).1.length c) (sealF a b).1.length ((sealF a b).1.map bv)::L):=by
 subst hm0 hn0;exact rseal S ha hb hma hmb
theorem ps_seal' (S:St F w0 w L){A B:Option Addr}{a b:List UInt8}{m n ca cb:Nat}(hm0:m=a.length)(hn0:n=b.length)(ha:RoT F w0 L A a)(hb:RoT F w0 L B b)(hma:a.length≤9223372036854775807)(hmb:b.length≤9223372036854775807):Calls Tryz.prog 109 #[.slice A m ca,.slice B n cb] w fun e w'=>∃A c,e=.returned (.tuple #[.slice A (sealF a b).1.length c,.int .i64 ((sealF a b).2:Int)])∧St F w0 w' (bytesX (.slice A (sealF a b).1.length c) (sealF a b).1::L):=by
 subst hm0 hn0
 refine (ps_seal S ha hb hma hmb).mono fun e w' h=> ?_
 obtain ⟨v,rfl,S2⟩:=h
 obtain ⟨A',c',rfl,_⟩:=St.bytesX_v S2
 exact ⟨A',c',rfl,S2⟩
theorem _root_.Go.Vel.St.bytesX_nil (S:St F w0 w L):St F w0 w (bytesX (.slice none 0 0) []::L):=
 (St.vec_nil (e:=0) (sz:=0) S).map1 fun p _=>⟨none,0,rfl,Nat.le_refl _,fun w _=>RdB.nil⟩
theorem length_le8 (no:Int):(le8 no).length=8:=by simp [le8]
theorem le8_get (no:Int){k:Nat}(hk:k<8):(le8 no).getD k 0=UInt8.ofNat ((no/2^(8*k))%256).toNat:=by
 unfold le8
 rw [List.getD_eq_getElem?_getD,List.getElem?_map,List.getElem?_range hk];rfl
theorem le8_nat {no:Int}(h:0≤no){k:Nat}(hk:k<8):(le8 no).getD k 0=UInt8.ofNat (no.toNat/256^k%256):=by
 rw [le8_get no hk]
 obtain ⟨m,rfl⟩:∃m:Nat,no=(m:Int):=⟨no.toNat,by omega⟩
 have e:((2:Int)^(8*k))=((256^k:Nat):Int):=by
  rw [show (256:Nat)=2^8 from rfl,←Nat.pow_mul];simp
 rw [e,←Int.natCast_ediv,Int.toNat_natCast]
 congr 1
theorem take_snoc (l:List UInt8)(k:Nat)(h:k<l.length):(l.take k).map bv++[Value.int .u8 ((l.getD k 0).toNat:Int)]=(l.take (k+1)).map bv:=by
 have:=take_app [] l k h
 simpa using this
theorem bvs_set (X:List UInt8)(k:Nat)(b:UInt8):(bvs X).setIfInBounds k (.int .u8 (b.toNat:Int))=bvs (X.set k b):=by
 unfold bvs
 rw [List.setIfInBounds_toArray,List.map_set];rfl
theorem fill_set {l:List UInt8}{k m:Nat}(h:k<l.length)(hm:l.length=8):(l.take k++List.replicate (8-k+m) 0).set k (l.getD k 0)=l.take (k+1)++List.replicate (8-(k+1)+m) 0:=by
 have hl:(l.take k).length=k:=by rw [List.length_take];omega
 rw [List.set_append_right _ _ om_,hl,Nat.sub_self,show 8-k+m=(8-(k+1)+m)+1 from by omega,List.replicate_succ,List.set_cons_zero,show l.take (k+1)=l.take k++[l[k]] from List.take_succ_eq_append_getElem h,List.getD_eq_getElem?_getD,List.getElem?_eq_getElem h]
 show l.take k++l[k]::_=(l.take k++[l[k]])++_
 rw [List.append_assoc];rfl
theorem newest_err (a b:List UInt8):((newestF a b).2.2.2=2∧¬(a.length=512∧b.length=512))∨((newestF a b).2.2.2≠2∧a.length=512∧b.length=512):=by
 unfold newestF
 split
 ·rename_i h
  refine .inr ⟨?_,h⟩
  split
  ·simp
  ·split<;>simp
 ·rename_i h;exact .inl ⟨rfl,h⟩
theorem readF_lt (s:List UInt8):(readF s).1≤9223372036854775807:=by
 unfold readF
 split
 ·exact Nat.zero_le _
 ·split
  ·exact Nat.zero_le _
  ·show leN _≤_;omega
theorem newest_lt (a b:List UInt8):(newestF a b).2.1≤9223372036854775807:=by
 unfold newestF
 split
 ·split
  ·exact Nat.zero_le _
  ·split
   ·exact readF_lt _
   ·exact readF_lt _
 ·exact Nat.zero_le _
theorem renew_end {a b:List UInt8}{no:Int}{d:List UInt8}(h:a.length=512∧b.length=512)(h1:¬no<1)(h2:¬496<d.length)(h3:¬((newestF a b).2.2.2=0∧no≤((newestF a b).2.1:Int))):renewF a b no d=if (newestF a b).2.2.2=0∧(newestF a b).1=0 then (1,(sealF b (le8 no++d)).1,(sealF b (le8 no++d)).2) else (0,(sealF a (le8 no++d)).1,(sealF a (le8 no++d)).2):=by
 rw [renew_mid h h1 h2,if_neg h3]
theorem rrenew (S:St F w0 w L){A B D:Option Addr}{a b d:List UInt8}{ca cb cd:Nat}{no:Int}(ha:RoT F w0 L A a)(hb:RoT F w0 L B b)(hd:RoT F w0 L D d)(hma:a.length≤9223372036854775807)(hmb:b.length≤9223372036854775807)(hmd:d.length≤140737488355328)(hno:no≤9223372036854775807):Calls Tryz.prog 90 #[.slice A a.length ca,.slice B b.length cb,.int .i64 no,.slice D d.length cd] w fun e w'=>∃A c,e=.returned (.tuple #[.int .i64 ((renewF a b no d).1:Int),.slice A (renewF a b no d).2.1.length c,.int .i64 ((renewF a b no d).2.2:Int)])∧St F w0 w' (vec 5 1 (.slice A (renewF a b no d).2.1.length c) (renewF a b no d).2.1.length ((renewF a b no d).2.1.map bv)::L):=by
 obtain ⟨q,hq⟩:∃q,q=newestF a b:=⟨_,rfl⟩
 have hqe:=newest_err a b
 have hql:=newest_lt a b
 rw [←hq] at hqe hql
 have h8:=length_le8 no
 refine eN (fr [.slice A a.length ca,.slice B b.length cb,iv no,.slice D d.length cd] 87) Tryz.func90 rfl (sR (pv (iv 0) (pv (nS_) (pv (iv 0) (wER (pv (.slice A a.length ca) (pv (.slice B b.length cb) (g_ (gv_call (args:=#[.slice A a.length ca,.slice B b.length cb]) rfl Tryz.func95 kr_ rfl rfl kr_ (Calls.mono (rnewest S ha hb hma hmb) ?_))))))))))
 rintro _ w1 ⟨Aq,cq,rfl,S2⟩
 rw [←hq] at S2
 refine ⟨_,rfl, ?_⟩
 rw [←hq]
 have S3:St F w0 w1 L:=St.tail S2
 refine pv (.tuple #[iv (q.1:Int),iv (q.2.1:Int),.slice Aq q.2.2.1.length cq,iv (q.2.2.2:Int)]) (pv (iv (q.1:Int)) (pv (iv (q.2.1:Int)) (pv (.slice Aq q.2.2.1.length cq) (pv (iv (q.2.2.2:Int)) (pv (iv (q.1:Int)) (pv (iv (q.2.1:Int)) (pv (.slice Aq q.2.2.1.length cq) (pv (iv (q.2.2.2:Int)) (wE (nS (sR (pv (iv (q.2.2.2:Int)) (dE (q.2.2.2:Int) 2 (fun hb4=> ?_) fun hb4=> ?_)))))))))))))
 ·refine wE (nCT (sR (pv (iv 0) (pv (nS_) (pv (iv 2) (wE (then_n (rR (bodyPost_ret (v:=.tuple #[iv 0,nS_,iv 2]) (Go.Vel.results_tmp3 rfl _ _ kr_ kr_ kr_) rfl ?_)))))))))
  have e:renewF a b no d=(0,[],2):=by unfold renewF;rw [if_pos om_]
  rw [e]
  exact ⟨none,0,rfl,St.vec_nil S3⟩
 ·refine wE (nCF (wp_skip (nS (sR (pv (iv no) (dC ((no:Int)<1) (fun hb5=> ?_) fun hb5=> ?_))))))
  ·refine wE (nCT (sR (pv (iv 0) (pv (nS_) (pv (iv 1) (wE (then_n (rR (bodyPost_ret (v:=.tuple #[iv 0,nS_,iv 1]) (Go.Vel.results_tmp3 rfl _ _ kr_ kr_ kr_) rfl ?_)))))))))
   have e:renewF a b no d=(0,[],1):=by unfold renewF;rw [if_neg om_,if_pos om_]
   rw [e]
   exact ⟨none,0,rfl,St.vec_nil S3⟩
  ·refine wE (nCF (wp_skip (nS (sR (pv (.slice D d.length cd) (pv (iv (d.length:Nat)) (dC (((d.length:Nat):Int)>496) (fun hb6=> ?_) fun hb6=> ?_)))))))
   ·refine wE (nCT (sR (pv (iv 0) (pv (nS_) (pv (iv 7) (wE (then_n (rR (bodyPost_ret (v:=.tuple #[iv 0,nS_,iv 7]) (Go.Vel.results_tmp3 rfl _ _ kr_ kr_ kr_) rfl ?_)))))))))
    have e:renewF a b no d=(0,[],7):=by unfold renewF;rw [if_neg om_,if_neg om_,if_pos om_]
    rw [e]
    exact ⟨none,0,rfl,St.vec_nil S3⟩
   ·refine wE (nCF (wp_skip (nS (sR (pv (iv (q.2.2.2:Int)) (dE (q.2.2.2:Int) 0 (fun hb7=> ?_) fun hb7=> ?_))))))
    ·refine pv tv (pW (iv no) (pW (iv (q.2.1:Int)) (wl_when kr_ (gv_dec (p:=(no:Int)≤(q.2.1:Int)) kr_ (fun hb8=> ?_) (fun hb8=> ?_)))))
     ·refine pv tv (wE (nCT (sR (pv (iv 0) (pv (nS_) (pv (iv 31) (wE (then_n (rR (bodyPost_ret (v:=.tuple #[iv 0,nS_,iv 31]) (Go.Vel.results_tmp3 rfl _ _ kr_ kr_ kr_) rfl ?_))))))))))
      have e:renewF a b no d=(0,[],31):=by unfold renewF;rw [if_neg om_,if_neg om_,if_neg om_,←hq,if_pos om_]
      rw [e]
      exact ⟨none,0,rfl,St.vec_nil S3⟩
     ·refine pv fv (wE (nCF (wp_skip (nSR (pv (nS_) (wER (pv (iv no) (pv (iv no) (wE (nS (sR (pv (iv 0) (wE ?_)))))))))))))
      refine then_n (wp_block ?_)
      have S9:St F w0 w1 (vec 5 1 (nS_) 0 (((le8 no).take 0).map bv)::L):=(St.vec_nil S3)
      refine wp_loop_g (G:=Nat×Int×Option Addr×Nat) (fun (g_:Nat×Int×Option Addr×Nat) (a_:Act) (w_:World)=>∃J:Nat→Value,a_=(fr ([.slice A a.length ca,.slice B b.length cb,iv no,.slice D d.length cd,ud,ud,ud,ud,iv 0,.slice none 0 0,iv 0,iv (q.1:Int),iv (q.2.1:Int),.slice Aq q.2.2.1.length cq,iv (q.2.2.2:Int),.slice g_.2.2.1 g_.1 g_.2.2.2,iv g_.2.1,nI_ g_.1,ud,ud,ud,ud,ud,.tuple #[iv (q.1:Int),iv (q.2.1:Int),.slice Aq q.2.2.1.length cq,iv (q.2.2.2:Int)],.slice A a.length ca,.slice B b.length cb,.tuple #[iv (q.1:Int),iv (q.2.1:Int),.slice Aq q.2.2.1.length cq,iv (q.2.2.2:Int)],iv (q.1:Int),iv (q.2.1:Int),.slice Aq q.2.2.1.length cq,iv (q.2.2.2:Int),iv (q.2.2.2:Int),fv,iv no,fv,.slice D d.length cd,iv (d.length:Nat),fv,iv (q.2.2.2:Int),tv,tv,iv no,iv (q.2.1:Int),fv,fv,iv no]++jR J 46 12) 33)∧St F w0 w_ (vec 5 1 (.slice g_.2.2.1 g_.1 g_.2.2.2) g_.1 (((le8 no).take g_.1).map bv)::L)∧(g_.1≤8∧g_.2.1=((no.toNat/256^g_.1:Nat):Int))) (fun g_=>8-g_.1) (0,no,none,0) (jE_ ⟨S9,⟨Nat.zero_le _,by show no=((no.toNat/256^0:Nat):Int);rw [Nat.pow_zero,Nat.div_one];omega⟩⟩) ?_
      rintro ⟨k,z,A5,c5⟩ a_ w10 ⟨J,rfl,S11,hI12⟩
      skip
      have S11:St F w0 w10 (vec 5 1 (.slice A5 k c5) k (((le8 no).take k).map bv)::L):=S11
      have hI12:(k≤8∧z=((no.toNat/256^k:Nat):Int)):=hI12
      refine wp_seq (sR (pv (nI_ k) (dC ((((k:Nat):Int):Int)<8) (fun hb13=> ?_) fun hb13=> ?_)))
      ·have hk8:k<8:=by omega
       have hz:=hI12.2
       have hz2:z/256=((no.toNat/256^(k+1):Nat):Int):=by rw [hz,Nat.pow_succ,←Nat.div_div_eq_div_mul];rfl
       have hzl:z≤no:=by rw [hz];have:=Nat.div_le_self no.toNat (256^k);omega
       have hz0:0≤z:=by rw [hz];exact Int.natCast_nonneg _
       have hby:IntKind.u8.wrap (z%256)=(((le8 no).getD k 0).toNat:Int):=by rw [le8_nat om_ hk8,hz];exact byte_of' om_ (Nat.mod_lt _ dc_)
       refine wE (nCT (wp_skip (nS (wp_block (sR (pv (.slice A5 k c5) (pv (iv z) (gI .i64 (Int.tmod z 256) (z%256) (Int.tmod_eq_emod_of_nonneg om_) (gI .u8 (IntKind.u8.wrap (z%256)) (((le8 no).getD k 0).toNat:Int) hby (g_ (gv_slit (e:=5) (sz:=1) (z:=.int .u8 0) (by_:=1) (vs:=#[(0,.int .u8 (((le8 no).getD k 0).toNat:Int))]) (cells:=#[.int .u8 (((le8 no).getD k 0).toNat:Int)]) S11 rfl kr_ ⟨by kernel_rfl⟩ kr_ kr_ kr_ kr_ (fun g14 w15 hg16 S17=> ?_))))))))))))
       have S18:St F w0 w15 (row g14 #[.int .u8 (((le8 no).getD k 0).toNat:Int)] 5::vec 5 1 (.slice A5 k c5) k (((le8 no).take k).map bv)::L):=St.pm 2 [0,1] S17
       refine g_ (gv_append (e:=5) (sz:=1) (n:=k) (v:=(.slice A5 k c5)) (vals:=(((le8 no).take k).map bv)) (z:=.int .u8 0) (by_:=1) (m:=1) (c':=1) (ad:=⟨g14,0,none⟩) (news:=[.int .u8 (((le8 no).getD k 0).toNat:Int)]) (St.swap S18) rfl kr_ ⟨by kernel_rfl⟩ rfl kr_ kr_ dc_ rfl (row_news (S18.blk 0 rfl)) (by intro u hu;simp at hu;subst hu;rfl) om_ om_ (fun v20 w19 S21=> ?_))
       have S22:St F w0 w19 (vec 5 1 v20 (k+1) (((le8 no).take k).map bv++[.int .u8 (((le8 no).getD k 0).toNat:Int)])::L):=St.pm 2 [0] S21
       rw [take_snoc _ _ om_] at S22
       obtain ⟨A23,c24,rfl⟩:=St.vecV S22 0 rfl
       change St F w0 w19 (vec 5 1 (.slice A23 (k+1) c24) (k+1) (((le8 no).take (k+1)).map bv)::L) at S22
       exact pv (.slice A23 (k+1) c24) (wE (nR (pv (iv z) (gI .i64 (IntKind.i64.wrap (Int.tdiv z 256)) (z/256) (wr_eq (Int.tdiv_eq_ediv_of_nonneg om_) om_ om_) (pv (iv (z/256)) (wE (inb_n (nR (pv (nI_ k) (gI .i64 (IntKind.i64.wrap (((k:Nat):Int)+1)) ((k+1:Nat):Int) wq_ (pv (nI_ (k+1)) (wE (then_n ⟨(k+1,z/256,A23,c24),(jE_ ⟨S22,⟨by omega,hz2⟩⟩),(by show 8-(k+1)<8-k;omega)⟩)))))))))))))
      ·have hk8:k=8:=by omega
       have ht8:(le8 no).take 8=le8 no:=List.take_of_length_le om_
       rw [hk8,ht8] at S11
       rw [hk8]
       refine wE (nCF (wp_exit (then_x (then_x (inb_x (nS (sR (pv (iv 0) (wE (then_n (wp_block ?_)))))))))))
       have S25:St F w0 w10 (vec 5 1 (.slice A5 (8+0) c5) (8+0) ((le8 no++pre d 0).map bv)::L):=(by rw [show pre d 0=[] from rfl,List.append_nil];exact S11)
       refine wp_loop_g (G:=Nat×Option Addr×Nat) (fun (g_:Nat×Option Addr×Nat) (a_:Act) (w_:World)=>∃J:Nat→Value,a_=(fr ([.slice A a.length ca,.slice B b.length cb,iv no,.slice D d.length cd,ud,ud,ud,ud,iv 0,nS_,iv 0,iv (q.1:Int),iv (q.2.1:Int),.slice Aq q.2.2.1.length cq,iv (q.2.2.2:Int),.slice g_.2.1 (8+g_.1) g_.2.2,iv z,nI_ 8,nI_ g_.1,ud,ud,ud,ud,.tuple #[iv (q.1:Int),iv (q.2.1:Int),.slice Aq q.2.2.1.length cq,iv (q.2.2.2:Int)],.slice A a.length ca,.slice B b.length cb,.tuple #[iv (q.1:Int),iv (q.2.1:Int),.slice Aq q.2.2.1.length cq,iv (q.2.2.2:Int)],iv (q.1:Int),iv (q.2.1:Int),.slice Aq q.2.2.1.length cq,iv (q.2.2.2:Int),iv (q.2.2.2:Int),fv,iv no,fv,.slice D d.length cd,iv (d.length:Nat),fv,iv (q.2.2.2:Int),tv,tv,iv no,iv (q.2.1:Int),fv,fv,iv no,nI_ 8,fv]++jR J 48 23) 20)∧St F w0 w_ (vec 5 1 (.slice g_.2.1 (8+g_.1) g_.2.2) (8+g_.1) ((le8 no++pre d g_.1).map bv)::L)∧(g_.1≤d.length)) (fun g_=>d.length-g_.1) (0,A5,c5) (jE_ ⟨S25,Nat.zero_le _⟩) ?_
       rintro ⟨i,A6,c6⟩ a_ w26 ⟨J,rfl,S27,hI28⟩
       skip
       have S27:St F w0 w26 (vec 5 1 (.slice A6 (8+i) c6) (8+i) ((le8 no++pre d i).map bv)::L):=S27
       have hI28:(i≤d.length):=hI28
       refine wp_seq (sR (pv (nI_ i) (pv (.slice D d.length cd) (pv (iv (d.length:Nat)) (dC ((((i:Nat):Int):Int)<(d.length:Nat)) (fun hb29=> ?_) fun hb29=> ?_)))))
       ·have hi:i<d.length:=by omega
        obtain ⟨ad,had⟩:=(hd.out _ [vec 5 1 (.slice A6 (8+i) c6) (8+i) ((le8 no++pre d i).map bv)] S27).at hi
        refine wE (nCT (wp_skip (nS (wp_block (wp_region_lit (pv (.slice A6 (8+i) c6) (pv (.slice D d.length cd) (pv (nI_ i) (g_ (gv_ixB (e:=5) (sz:=1) (n:=d.length) (c:=cd) (i:=((i:Nat):Int)) (k:=.i64) (ad:=ad) (ad':=(ad.add i)) (j:=i) rfl kr_ kr_ (by rw [←had];kernel_rfl) kr_ rfl hi (by rw [Nat.mul_one]) (lQ (.int .u8 ((d.getD i 0).toNat:Int)) ((had▸hd.out _ [vec 5 1 (.slice A6 (8+i) c6) (8+i) ((le8 no++pre d i).map bv)] S27:RdB _ (some ad) d).cell hi) (g_ (gv_slit (e:=5) (sz:=1) (z:=.int .u8 0) (by_:=1) (vs:=#[(0,.int .u8 ((d.getD i 0).toNat:Int))]) (cells:=#[.int .u8 ((d.getD i 0).toNat:Int)]) S27 rfl kr_ ⟨by kernel_rfl⟩ kr_ kr_ kr_ kr_ (fun g30 w31 hg32 S33=> ?_))))))))))))))
        have S34:St F w0 w31 (row g30 #[.int .u8 ((d.getD i 0).toNat:Int)] 5::vec 5 1 (.slice A6 (8+i) c6) (8+i) ((le8 no++pre d i).map bv)::L):=St.pm 2 [0,1] S33
        refine g_ (gv_append (e:=5) (sz:=1) (n:=(8+i)) (v:=(.slice A6 (8+i) c6)) (vals:=((le8 no++pre d i).map bv)) (z:=.int .u8 0) (by_:=1) (m:=1) (c':=1) (ad:=⟨g30,0,none⟩) (news:=[.int .u8 ((d.getD i 0).toNat:Int)]) (St.swap S34) rfl kr_ ⟨by kernel_rfl⟩ rfl kr_ kr_ dc_ rfl (row_news (S34.blk 0 rfl)) (by intro u hu;simp at hu;subst hu;rfl) om_ om_ (fun v36 w35 S37=> ?_))
        have S38:St F w0 w35 (vec 5 1 v36 (8+i+1) ((le8 no++pre d i).map bv++[.int .u8 ((d.getD i 0).toNat:Int)])::L):=St.pm 2 [0] S37
        rw [pre_app] at S38
        obtain ⟨A39,c40,rfl⟩:=St.vecV S38 0 rfl
        change St F w0 w35 (vec 5 1 (.slice A39 (8+i+1) c40) (8+i+1) ((le8 no++pre d (i+1)).map bv)::L) at S38
        exact pv (.slice A39 (8+i+1) c40) (wE (inb_n (nR (pv (nI_ i) (gI .i64 (IntKind.i64.wrap (((i:Nat):Int)+1)) ((i+1:Nat):Int) wq_ (pv (nI_ (i+1)) (wE (then_n ⟨(i+1,A39,c40),(jE_ ⟨S38,om_⟩),(by show d.length-(i+1)<d.length-i;omega)⟩))))))))
       ·have hie:i=d.length:=by omega
        rw [hie,pre_all] at S27
        rw [hie]
        have hln:8+d.length=(le8 no++d).length:=by rw [List.length_append];omega
        refine wE (nCF (wp_exit (then_x (then_x (inb_x (nS (sR (pv (iv (q.2.2.2:Int)) (dE (q.2.2.2:Int) 0 (fun hb41=> ?_) fun hb41=> ?_)))))))))
        ·refine pv tv (pW (iv (q.1:Int)) (wl_when kr_ (gv_eq (x:=(q.1:Int)) (y:=0) kr_ (fun hb42=> ?_) (fun hb42=> ?_))))
         ·refine pv tv (wE (nCT (sR (pv (.slice B b.length cb) (pv (.slice A6 (8+d.length) c6) (sP2 Tryz.func106 #[.slice B b.length cb,.slice A6 (8+d.length) c6] (rseal' (a:=b) (b:=le8 no++d) S27 rfl hln hb.more (RoT.ofVec 0 (by rw [hln];rfl)) om_ om_) fun A45 c46 w43 S44=>pv (.tuple #[.slice A45 ((sealF b (le8 no++d)).1.length) c46,iv ((sealF b (le8 no++d)).2:Int)]) (pv (.slice A45 ((sealF b (le8 no++d)).1.length) c46) (pv (iv ((sealF b (le8 no++d)).2:Int)) (pv (.slice A45 ((sealF b (le8 no++d)).1.length) c46) ?_)))))))))
          refine pv (iv ((sealF b (le8 no++d)).2:Int)) (wER (pv (.slice A45 ((sealF b (le8 no++d)).1.length) c46) (pv (iv 1) (pv (.slice A45 ((sealF b (le8 no++d)).1.length) c46) (pv (iv 0) (wE (then_n (rR (bodyPost_ret (v:=.tuple #[iv 1,.slice A45 ((sealF b (le8 no++d)).1.length) c46,iv 0]) (Go.Vel.results_tmp3 rfl _ _ kr_ kr_ kr_) rfl ?_)))))))))
          have e:=renew_end (a:=a) (b:=b) (no:=no) (d:=d) om_ om_ om_ (by rw [←hq];omega)
          rw [←hq,if_pos om_] at e
          rw [e]
          have hs0:(sealF b (le8 no++d)).2=0:=by unfold sealF;rw [if_neg om_,if_neg (by rw [List.length_append];omega)]
          have S47:=St.pm 2 [0] S44
          exact ⟨A45,c46,by rw [hs0];rfl,S47⟩
         ·refine pv fv (wE (nCF (wp_skip (nSR (pv (.slice A a.length ca) (pv (.slice A6 (8+d.length) c6) (sP2 Tryz.func106 #[.slice A a.length ca,.slice A6 (8+d.length) c6] (rseal' (a:=a) (b:=le8 no++d) S27 rfl hln ha.more (RoT.ofVec 0 (by rw [hln];rfl)) om_ om_) fun A50 c51 w48 S49=>pv (.tuple #[.slice A50 ((sealF a (le8 no++d)).1.length) c51,iv ((sealF a (le8 no++d)).2:Int)]) (pv (.slice A50 ((sealF a (le8 no++d)).1.length) c51) (pv (iv ((sealF a (le8 no++d)).2:Int)) ?_)))))))))
          refine pv (.slice A50 ((sealF a (le8 no++d)).1.length) c51) (pv (iv ((sealF a (le8 no++d)).2:Int)) (wER (pv (.slice A50 ((sealF a (le8 no++d)).1.length) c51) (pv (iv 0) (pv (.slice A50 ((sealF a (le8 no++d)).1.length) c51) (pv (iv 0) (wE (then_n (wp_ret (bodyPost_ret (v:=.tuple #[iv 0,.slice A50 ((sealF a (le8 no++d)).1.length) c51,iv 0]) (Go.Vel.results_tmp3 rfl _ _ kr_ kr_ kr_) rfl ?_))))))))))
          have e:=renew_end (a:=a) (b:=b) (no:=no) (d:=d) om_ om_ om_ (by rw [←hq];omega)
          rw [←hq,if_neg om_] at e
          rw [e]
          have hs0:(sealF a (le8 no++d)).2=0:=by unfold sealF;rw [if_neg om_,if_neg (by rw [List.length_append];omega)]
          have S52:=St.pm 2 [0] S49
          exact ⟨A50,c51,by rw [hs0];rfl,S52⟩
        ·refine pv fv (wN (wN (pv fv (wE (nCF (wp_skip (nSR (pv (.slice A a.length ca) (pv (.slice A6 (8+d.length) c6) (sP2 Tryz.func106 #[.slice A a.length ca,.slice A6 (8+d.length) c6] (rseal' (a:=a) (b:=le8 no++d) S27 rfl hln ha.more (RoT.ofVec 0 (by rw [hln];rfl)) om_ om_) fun A55 c56 w53 S54=>pv (.tuple #[.slice A55 ((sealF a (le8 no++d)).1.length) c56,iv ((sealF a (le8 no++d)).2:Int)]) (pv (.slice A55 ((sealF a (le8 no++d)).1.length) c56) (pv (iv ((sealF a (le8 no++d)).2:Int)) ?_))))))))))))
         refine pv (.slice A55 ((sealF a (le8 no++d)).1.length) c56) (pv (iv ((sealF a (le8 no++d)).2:Int)) (wER (pv (.slice A55 ((sealF a (le8 no++d)).1.length) c56) (pv (iv 0) (pv (.slice A55 ((sealF a (le8 no++d)).1.length) c56) (pv (iv 0) (wE (then_n (wp_ret (bodyPost_ret (v:=.tuple #[iv 0,.slice A55 ((sealF a (le8 no++d)).1.length) c56,iv 0]) (Go.Vel.results_tmp3 rfl _ _ kr_ kr_ kr_) rfl ?_))))))))))
         have e:=renew_end (a:=a) (b:=b) (no:=no) (d:=d) om_ om_ om_ (by rw [←hq];omega)
         rw [←hq,if_neg om_] at e
         rw [e]
         have hs0:(sealF a (le8 no++d)).2=0:=by unfold sealF;rw [if_neg om_,if_neg (by rw [List.length_append];omega)]
         have S57:=St.pm 2 [0] S54
         exact ⟨A55,c56,by rw [hs0];rfl,S57⟩
    ·refine pv fv (wN (wN (wN (pv fv (wE (nCF (wp_skip (nSR (pv (nS_) (wER (pv (iv no) (pv (iv no) (wE ?_)))))))))))))
     refine nS (sR (pv (iv 0) (wE (then_n (wp_block ?_)))))
     have S58:St F w0 w1 (vec 5 1 (nS_) 0 (((le8 no).take 0).map bv)::L):=(St.vec_nil S3)
     refine wp_loop_g (G:=Nat×Int×Option Addr×Nat) (fun (g_:Nat×Int×Option Addr×Nat) (a_:Act) (w_:World)=>∃J:Nat→Value,a_=(fr ([.slice A a.length ca,.slice B b.length cb,iv no,.slice D d.length cd,ud,ud,ud,ud,iv 0,.slice none 0 0,iv 0,iv (q.1:Int),iv (q.2.1:Int),.slice Aq q.2.2.1.length cq,iv (q.2.2.2:Int),.slice g_.2.2.1 g_.1 g_.2.2.2,iv g_.2.1,nI_ g_.1,ud,ud,ud,ud,ud,.tuple #[iv (q.1:Int),iv (q.2.1:Int),.slice Aq q.2.2.1.length cq,iv (q.2.2.2:Int)],.slice A a.length ca,.slice B b.length cb,.tuple #[iv (q.1:Int),iv (q.2.1:Int),.slice Aq q.2.2.1.length cq,iv (q.2.2.2:Int)],iv (q.1:Int),iv (q.2.1:Int),.slice Aq q.2.2.1.length cq,iv (q.2.2.2:Int),iv (q.2.2.2:Int),fv,iv no,fv,.slice D d.length cd,iv (d.length:Nat),fv,iv (q.2.2.2:Int),fv,fv,ud,ud,ud,fv,iv no]++jR J 46 12) 33)∧St F w0 w_ (vec 5 1 (.slice g_.2.2.1 g_.1 g_.2.2.2) g_.1 (((le8 no).take g_.1).map bv)::L)∧(g_.1≤8∧g_.2.1=((no.toNat/256^g_.1:Nat):Int))) (fun g_=>8-g_.1) (0,no,none,0) (jE_ ⟨S58,⟨Nat.zero_le _,by show no=((no.toNat/256^0:Nat):Int);rw [Nat.pow_zero,Nat.div_one];omega⟩⟩) ?_
     rintro ⟨k,z,A5,c5⟩ a_ w59 ⟨J,rfl,S60,hI61⟩
     skip
     have S60:St F w0 w59 (vec 5 1 (.slice A5 k c5) k (((le8 no).take k).map bv)::L):=S60
     have hI61:(k≤8∧z=((no.toNat/256^k:Nat):Int)):=hI61
     refine wp_seq (sR (pv (nI_ k) (dC ((((k:Nat):Int):Int)<8) (fun hb62=> ?_) fun hb62=> ?_)))
     ·have hk8:k<8:=by omega
      have hz:=hI61.2
      have hz2:z/256=((no.toNat/256^(k+1):Nat):Int):=by rw [hz,Nat.pow_succ,←Nat.div_div_eq_div_mul];rfl
      have hzl:z≤no:=by rw [hz];have:=Nat.div_le_self no.toNat (256^k);omega
      have hz0:0≤z:=by rw [hz];exact Int.natCast_nonneg _
      have hby:IntKind.u8.wrap (z%256)=(((le8 no).getD k 0).toNat:Int):=by rw [le8_nat om_ hk8,hz];exact byte_of' om_ (Nat.mod_lt _ dc_)
      refine wE (nCT (wp_skip (nS (wp_block (sR (pv (.slice A5 k c5) (pv (iv z) (gI .i64 (Int.tmod z 256) (z%256) (Int.tmod_eq_emod_of_nonneg om_) (gI .u8 (IntKind.u8.wrap (z%256)) (((le8 no).getD k 0).toNat:Int) hby (g_ (gv_slit (e:=5) (sz:=1) (z:=.int .u8 0) (by_:=1) (vs:=#[(0,.int .u8 (((le8 no).getD k 0).toNat:Int))]) (cells:=#[.int .u8 (((le8 no).getD k 0).toNat:Int)]) S60 rfl kr_ ⟨by kernel_rfl⟩ kr_ kr_ kr_ kr_ (fun g63 w64 hg65 S66=> ?_))))))))))))
      have S67:St F w0 w64 (row g63 #[.int .u8 (((le8 no).getD k 0).toNat:Int)] 5::vec 5 1 (.slice A5 k c5) k (((le8 no).take k).map bv)::L):=St.pm 2 [0,1] S66
      refine g_ (gv_append (e:=5) (sz:=1) (n:=k) (v:=(.slice A5 k c5)) (vals:=(((le8 no).take k).map bv)) (z:=.int .u8 0) (by_:=1) (m:=1) (c':=1) (ad:=⟨g63,0,none⟩) (news:=[.int .u8 (((le8 no).getD k 0).toNat:Int)]) (St.swap S67) rfl kr_ ⟨by kernel_rfl⟩ rfl kr_ kr_ dc_ rfl (row_news (S67.blk 0 rfl)) (by intro u hu;simp at hu;subst hu;rfl) om_ om_ (fun v69 w68 S70=> ?_))
      have S71:St F w0 w68 (vec 5 1 v69 (k+1) (((le8 no).take k).map bv++[.int .u8 (((le8 no).getD k 0).toNat:Int)])::L):=St.pm 2 [0] S70
      rw [take_snoc _ _ om_] at S71
      obtain ⟨A72,c73,rfl⟩:=St.vecV S71 0 rfl
      change St F w0 w68 (vec 5 1 (.slice A72 (k+1) c73) (k+1) (((le8 no).take (k+1)).map bv)::L) at S71
      exact pv (.slice A72 (k+1) c73) (wE (nR (pv (iv z) (gI .i64 (IntKind.i64.wrap (Int.tdiv z 256)) (z/256) (wr_eq (Int.tdiv_eq_ediv_of_nonneg om_) om_ om_) (pv (iv (z/256)) (wE (inb_n (nR (pv (nI_ k) (gI .i64 (IntKind.i64.wrap (((k:Nat):Int)+1)) ((k+1:Nat):Int) wq_ (pv (nI_ (k+1)) (wE (then_n ⟨(k+1,z/256,A72,c73),(jE_ ⟨S71,⟨by omega,hz2⟩⟩),(by show 8-(k+1)<8-k;omega)⟩)))))))))))))
     ·have hk8:k=8:=by omega
      have ht8:(le8 no).take 8=le8 no:=List.take_of_length_le om_
      rw [hk8,ht8] at S60
      rw [hk8]
      refine wE (nCF (wp_exit (then_x (then_x (inb_x (nS (sR (pv (iv 0) (wE (then_n (wp_block ?_)))))))))))
      have S74:St F w0 w59 (vec 5 1 (.slice A5 (8+0) c5) (8+0) ((le8 no++pre d 0).map bv)::L):=(by rw [show pre d 0=[] from rfl,List.append_nil];exact S60)
      refine wp_loop_g (G:=Nat×Option Addr×Nat) (fun (g_:Nat×Option Addr×Nat) (a_:Act) (w_:World)=>∃J:Nat→Value,a_=(fr ([.slice A a.length ca,.slice B b.length cb,iv no,.slice D d.length cd,ud,ud,ud,ud,iv 0,nS_,iv 0,iv (q.1:Int),iv (q.2.1:Int),.slice Aq q.2.2.1.length cq,iv (q.2.2.2:Int),.slice g_.2.1 (8+g_.1) g_.2.2,iv z,nI_ 8,nI_ g_.1,ud,ud,ud,ud,.tuple #[iv (q.1:Int),iv (q.2.1:Int),.slice Aq q.2.2.1.length cq,iv (q.2.2.2:Int)],.slice A a.length ca,.slice B b.length cb,.tuple #[iv (q.1:Int),iv (q.2.1:Int),.slice Aq q.2.2.1.length cq,iv (q.2.2.2:Int)],iv (q.1:Int),iv (q.2.1:Int),.slice Aq q.2.2.1.length cq,iv (q.2.2.2:Int),iv (q.2.2.2:Int),fv,iv no,fv,.slice D d.length cd,iv (d.length:Nat),fv,iv (q.2.2.2:Int),fv,fv,ud,ud,ud,fv,iv no,nI_ 8,fv]++jR J 48 23) 20)∧St F w0 w_ (vec 5 1 (.slice g_.2.1 (8+g_.1) g_.2.2) (8+g_.1) ((le8 no++pre d g_.1).map bv)::L)∧(g_.1≤d.length)) (fun g_=>d.length-g_.1) (0,A5,c5) (jE_ ⟨S74,Nat.zero_le _⟩) ?_
      rintro ⟨i,A6,c6⟩ a_ w75 ⟨J,rfl,S76,hI77⟩
      skip
      have S76:St F w0 w75 (vec 5 1 (.slice A6 (8+i) c6) (8+i) ((le8 no++pre d i).map bv)::L):=S76
      have hI77:(i≤d.length):=hI77
      refine wp_seq (sR (pv (nI_ i) (pv (.slice D d.length cd) (pv (iv (d.length:Nat)) (dC ((((i:Nat):Int):Int)<(d.length:Nat)) (fun hb78=> ?_) fun hb78=> ?_)))))
      ·have hi:i<d.length:=by omega
       obtain ⟨ad,had⟩:=(hd.out _ [vec 5 1 (.slice A6 (8+i) c6) (8+i) ((le8 no++pre d i).map bv)] S76).at hi
       refine wE (nCT (wp_skip (nS (wp_block (wp_region_lit (pv (.slice A6 (8+i) c6) (pv (.slice D d.length cd) (pv (nI_ i) (g_ (gv_ixB (e:=5) (sz:=1) (n:=d.length) (c:=cd) (i:=((i:Nat):Int)) (k:=.i64) (ad:=ad) (ad':=(ad.add i)) (j:=i) rfl kr_ kr_ (by rw [←had];kernel_rfl) kr_ rfl hi (by rw [Nat.mul_one]) (lQ (.int .u8 ((d.getD i 0).toNat:Int)) ((had▸hd.out _ [vec 5 1 (.slice A6 (8+i) c6) (8+i) ((le8 no++pre d i).map bv)] S76:RdB _ (some ad) d).cell hi) (g_ (gv_slit (e:=5) (sz:=1) (z:=.int .u8 0) (by_:=1) (vs:=#[(0,.int .u8 ((d.getD i 0).toNat:Int))]) (cells:=#[.int .u8 ((d.getD i 0).toNat:Int)]) S76 rfl kr_ ⟨by kernel_rfl⟩ kr_ kr_ kr_ kr_ (fun g79 w80 hg81 S82=> ?_))))))))))))))
       have S83:St F w0 w80 (row g79 #[.int .u8 ((d.getD i 0).toNat:Int)] 5::vec 5 1 (.slice A6 (8+i) c6) (8+i) ((le8 no++pre d i).map bv)::L):=St.pm 2 [0,1] S82
       refine g_ (gv_append (e:=5) (sz:=1) (n:=(8+i)) (v:=(.slice A6 (8+i) c6)) (vals:=((le8 no++pre d i).map bv)) (z:=.int .u8 0) (by_:=1) (m:=1) (c':=1) (ad:=⟨g79,0,none⟩) (news:=[.int .u8 ((d.getD i 0).toNat:Int)]) (St.swap S83) rfl kr_ ⟨by kernel_rfl⟩ rfl kr_ kr_ dc_ rfl (row_news (S83.blk 0 rfl)) (by intro u hu;simp at hu;subst hu;rfl) om_ om_ (fun v85 w84 S86=> ?_))
       have S87:St F w0 w84 (vec 5 1 v85 (8+i+1) ((le8 no++pre d i).map bv++[.int .u8 ((d.getD i 0).toNat:Int)])::L):=St.pm 2 [0] S86
       rw [pre_app] at S87
       obtain ⟨A88,c89,rfl⟩:=St.vecV S87 0 rfl
       change St F w0 w84 (vec 5 1 (.slice A88 (8+i+1) c89) (8+i+1) ((le8 no++pre d (i+1)).map bv)::L) at S87
       exact pv (.slice A88 (8+i+1) c89) (wE (inb_n (nR (pv (nI_ i) (gI .i64 (IntKind.i64.wrap (((i:Nat):Int)+1)) ((i+1:Nat):Int) wq_ (pv (nI_ (i+1)) (wE (then_n ⟨(i+1,A88,c89),(jE_ ⟨S87,om_⟩),(by show d.length-(i+1)<d.length-i;omega)⟩))))))))
      ·have hie:i=d.length:=by omega
       rw [hie,pre_all] at S76
       rw [hie]
       have hln:8+d.length=(le8 no++d).length:=by rw [List.length_append];omega
       refine wE (nCF (wp_exit (then_x (then_x (inb_x (nS (sR (pv (iv (q.2.2.2:Int)) (dE (q.2.2.2:Int) 0 (fun hb90=> ?_) fun hb90=> ?_)))))))))
       ·refine pv tv (pW (iv (q.1:Int)) (wl_when kr_ (gv_eq (x:=(q.1:Int)) (y:=0) kr_ (fun hb91=> ?_) (fun hb91=> ?_))))
        ·refine pv tv (wE (nCT (sR (pv (.slice B b.length cb) (pv (.slice A6 (8+d.length) c6) (sP2 Tryz.func106 #[.slice B b.length cb,.slice A6 (8+d.length) c6] (rseal' (a:=b) (b:=le8 no++d) S76 rfl hln hb.more (RoT.ofVec 0 (by rw [hln];rfl)) om_ om_) fun A94 c95 w92 S93=>pv (.tuple #[.slice A94 ((sealF b (le8 no++d)).1.length) c95,iv ((sealF b (le8 no++d)).2:Int)]) (pv (.slice A94 ((sealF b (le8 no++d)).1.length) c95) (pv (iv ((sealF b (le8 no++d)).2:Int)) (pv (.slice A94 ((sealF b (le8 no++d)).1.length) c95) ?_)))))))))
         refine pv (iv ((sealF b (le8 no++d)).2:Int)) (wER (pv (.slice A94 ((sealF b (le8 no++d)).1.length) c95) (pv (iv 1) (pv (.slice A94 ((sealF b (le8 no++d)).1.length) c95) (pv (iv 0) (wE (then_n (rR (bodyPost_ret (v:=.tuple #[iv 1,.slice A94 ((sealF b (le8 no++d)).1.length) c95,iv 0]) (Go.Vel.results_tmp3 rfl _ _ kr_ kr_ kr_) rfl ?_)))))))))
         have e:=renew_end (a:=a) (b:=b) (no:=no) (d:=d) om_ om_ om_ (by rw [←hq];omega)
         rw [←hq,if_pos om_] at e
         rw [e]
         have hs0:(sealF b (le8 no++d)).2=0:=by unfold sealF;rw [if_neg om_,if_neg (by rw [List.length_append];omega)]
         have S96:=St.pm 2 [0] S93
         exact ⟨A94,c95,by rw [hs0];rfl,S96⟩
        ·refine pv fv (wE (nCF (wp_skip (nSR (pv (.slice A a.length ca) (pv (.slice A6 (8+d.length) c6) (sP2 Tryz.func106 #[.slice A a.length ca,.slice A6 (8+d.length) c6] (rseal' (a:=a) (b:=le8 no++d) S76 rfl hln ha.more (RoT.ofVec 0 (by rw [hln];rfl)) om_ om_) fun A99 c100 w97 S98=>pv (.tuple #[.slice A99 ((sealF a (le8 no++d)).1.length) c100,iv ((sealF a (le8 no++d)).2:Int)]) (pv (.slice A99 ((sealF a (le8 no++d)).1.length) c100) (pv (iv ((sealF a (le8 no++d)).2:Int)) (pv (.slice A99 ((sealF a (le8 no++d)).1.length) c100) ?_))))))))))
         refine pv (iv ((sealF a (le8 no++d)).2:Int)) (wER (pv (.slice A99 ((sealF a (le8 no++d)).1.length) c100) (pv (iv 0) (pv (.slice A99 ((sealF a (le8 no++d)).1.length) c100) (pv (iv 0) (wE (then_n (wp_ret (bodyPost_ret (v:=.tuple #[iv 0,.slice A99 ((sealF a (le8 no++d)).1.length) c100,iv 0]) (Go.Vel.results_tmp3 rfl _ _ kr_ kr_ kr_) rfl ?_)))))))))
         have e:=renew_end (a:=a) (b:=b) (no:=no) (d:=d) om_ om_ om_ (by rw [←hq];omega)
         rw [←hq,if_neg om_] at e
         rw [e]
         have hs0:(sealF a (le8 no++d)).2=0:=by unfold sealF;rw [if_neg om_,if_neg (by rw [List.length_append];omega)]
         have S101:=St.pm 2 [0] S98
         exact ⟨A99,c100,by rw [hs0];rfl,S101⟩
       ·refine pv fv (wN (wN (pv fv (wE (nCF (wp_skip (nSR (pv (.slice A a.length ca) (pv (.slice A6 (8+d.length) c6) (sP2 Tryz.func106 #[.slice A a.length ca,.slice A6 (8+d.length) c6] (rseal' (a:=a) (b:=le8 no++d) S76 rfl hln ha.more (RoT.ofVec 0 (by rw [hln];rfl)) om_ om_) fun A104 c105 w102 S103=>pv (.tuple #[.slice A104 ((sealF a (le8 no++d)).1.length) c105,iv ((sealF a (le8 no++d)).2:Int)]) (pv (.slice A104 ((sealF a (le8 no++d)).1.length) c105) (pv (iv ((sealF a (le8 no++d)).2:Int)) ?_))))))))))))
        refine pv (.slice A104 ((sealF a (le8 no++d)).1.length) c105) (pv (iv ((sealF a (le8 no++d)).2:Int)) (wER (pv (.slice A104 ((sealF a (le8 no++d)).1.length) c105) (pv (iv 0) (pv (.slice A104 ((sealF a (le8 no++d)).1.length) c105) (pv (iv 0) (wE (then_n (wp_ret (bodyPost_ret (v:=.tuple #[iv 0,.slice A104 ((sealF a (le8 no++d)).1.length) c105,iv 0]) (Go.Vel.results_tmp3 rfl _ _ kr_ kr_ kr_) rfl ?_))))))))))
        have e:=renew_end (a:=a) (b:=b) (no:=no) (d:=d) om_ om_ om_ (by rw [←hq];omega)
        rw [←hq,if_neg om_] at e
        rw [e]
        have hs0:(sealF a (le8 no++d)).2=0:=by unfold sealF;rw [if_neg om_,if_neg (by rw [List.length_append];omega)]
        have S106:=St.pm 2 [0] S103
        exact ⟨A104,c105,by rw [hs0];rfl,S106⟩
theorem ps_pair_bad (S:St F w0 w L){A B:Option Addr}{a b:List UInt8}{ca cb:Nat}(ha:RoT F w0 L A a)(hb:RoT F w0 L B b)(hma:a.length≤9223372036854775807)(hmb:b.length≤9223372036854775807)(hl:¬(a.length=512∧b.length=512)):Calls Tryz.prog 110 #[.slice A a.length ca,.slice B b.length cb] w fun e w'=>e=.returned (.tuple #[.agg #[.int .i64 0,.slice none 0 0,.int .i64 0,.slice none 0 0],.int .i64 (-1),.int .i64 2])∧St F w0 w' L:=by
 have h:=pair_any w A ca a B cb b (ha.to_C S hma) (hb.to_C S hmb)
 rw [len_ofB,len_ofB] at h
 refine h.mono fun e w' h=> ?_
 unfold RetPair at h
 rw [if_neg hl] at h
 exact ⟨h.1,S.below h.2⟩
theorem ps_renew (S:St F w0 w L){A B D:Option Addr}{a b d:List UInt8}{ca cb cd:Nat}{no:Int}(ha:RoT F w0 L A a)(hb:RoT F w0 L B b)(hd:RoT F w0 L D d)(hma:a.length≤9223372036854775807)(hmb:b.length≤9223372036854775807)(hmd:d.length≤140737488355328)(hno:no≤9223372036854775807):Calls Tryz.prog 88 #[.slice A a.length ca,.slice B b.length cb,.int .i64 no,.slice D d.length cd] w fun e w'=>∃A c,e=.returned (.tuple #[.int .i64 ((renewF a b no d).1:Int),.slice A (renewF a b no d).2.1.length c,.int .i64 ((renewF a b no d).2.2:Int)])∧St F w0 w' (bytesX (.slice A (renewF a b no d).2.1.length c) (renewF a b no d).2.1::L):=by
 have h8:=length_le8 no
 by_cases hl:¬(a.length=512∧b.length=512)
 ·refine eN (fr [.slice A a.length ca,.slice B b.length cb,iv no,.slice D d.length cd] 77) Tryz.func88 rfl (sR (pv (iv 0) (pv (nS_) (pv (iv 0) (wER (pv (.slice A a.length ca) (pv (.slice B b.length cb) (sP Tryz.func110 #[.slice A a.length ca,.slice B b.length cb] (ps_pair_bad S ha hb hma hmb hl) fun w1 S2=>pv (.tuple #[.agg #[iv 0,nS_,iv 0,nS_],iv (-1),iv 2]) (pv (.agg #[iv 0,nS_,iv 0,nS_]) (pv (iv (-1)) (pv (iv 2) (nW rfl (.agg #[iv 0,nS_,iv 0,nS_]) S2 fun g3 w4 hg5 S6=> ?_))))))))))))
  refine g_ (gv_stA (k:=0) (vs:=[iv 0,nS_,iv 0,nS_]) S6 0 rfl rfl kr_ kr_ kr_ rfl (by simp [Value.oneCell']) (Nat.le_of_ble_eq_true kr_) (L':=(row g3 #[iv 0,nS_,iv 0,nS_] 141::L)) rfl (fun w7 S8=>pv (iv (-1)) (pv (iv 2) (wE (nS (wp_block (sR (pv (iv 2) (dN 2 0 (fun _=>pv tv (wE (nCT (sR (pv (iv 2) ?_))))) fun hd9=>False.elim (absurd hd9 dc_))))))))))
  refine pv (iv 0) (pv (nS_) (pv (iv 2) (wE (then_n (wp_ret (inb_r (then_r (bodyPost_ret (v:=.tuple #[iv 0,nS_,iv 2]) (Go.Vel.results_tmp3 rfl _ _ kr_ kr_ kr_) rfl ?_))))))))
  have e:renewF a b no d=(0,[],2):=by unfold renewF;rw [if_pos hl]
  rw [e]
  have S10:=St.pm 1 [] S8
  exact ⟨none,0,rfl,St.bytesX_nil S10⟩
 have hl:a.length=512∧b.length=512:=by omega
 obtain ⟨m,hm⟩:∃m,m=(readF a).1:=⟨_,rfl⟩
 obtain ⟨n,hn⟩:∃n,n=(readF b).1:=⟨_,rfl⟩
 have hml:=readF_lt a
 have hnl:=readF_lt b
 rw [←hm] at hml
 rw [←hn] at hnl
 rcases slot_three m n with hs|hs|hs
 ·have hnw:=newest_none ⟨hl,hm,hn,hs⟩
  refine eN (fr [.slice A a.length ca,.slice B b.length cb,iv no,.slice D d.length cd] 77) Tryz.func88 rfl (sR (pv (iv 0) (pv (nS_) (pv (iv 0) (wER (pv (.slice A a.length ca) (pv (.slice B b.length cb) (g_ (gv_call (args:=#[.slice A a.length ca,.slice B b.length cb]) rfl Tryz.func110 kr_ rfl rfl kr_ (Calls.mono (ps_pair (sl:=(-1)) S ha hb hl hm hn hs) ?_))))))))))
  rintro _ w1 ⟨v0,v1,rfl,ho0,ho1,S2⟩
  refine ⟨_,rfl,(pv (.tuple #[.agg #[nI_ m,v0,nI_ n,v1],iv (-1),iv 0]) (pv (.agg #[nI_ m,v0,nI_ n,v1]) (pv (iv (-1)) (pv (iv 0) (nW rfl (.agg #[iv 0,nS_,iv 0,nS_]) S2 fun g3 w4 hg5 S6=>g_ (gv_stA (k:=0) (vs:=[nI_ m,v0,nI_ n,v1]) S6 0 rfl rfl kr_ kr_ kr_ rfl (by intro u hu;simp only [List.mem_cons,List.not_mem_nil,or_false] at hu;rcases hu with rfl|rfl|rfl|rfl<;>first|rfl|assumption) (Nat.le_of_ble_eq_true kr_) (L':=(row g3 #[nI_ m,v0,nI_ n,v1] 141::L)) rfl (fun w7 S8=>pv (iv (-1)) (pv (iv 0) (wE (nS (wp_block (sR (pv (iv 0) ?_)))))))))))))⟩
  refine dN 0 0 (fun hd9=>False.elim (hd9 dc_)) fun _=>pv fv (wE (nCF (sR (pv (iv no) (dC ((no:Int)<1) (fun hb10=> ?_) fun hb10=> ?_)))))
  ·refine pv tv (wE (nCT (sR (pv (iv 0) (pv (nS_) (pv (iv 1) (wE (then_n (wp_ret (inb_r (then_r (bodyPost_ret (v:=.tuple #[iv 0,nS_,iv 1]) (Go.Vel.results_tmp3 rfl _ _ kr_ kr_ kr_) rfl ?_))))))))))))
   have e:renewF a b no d=(0,[],1):=by unfold renewF;rw [if_neg (fun h=>h hl),if_pos om_]
   rw [e]
   have S11:=St.pm 1 [] S8
   exact ⟨none,0,rfl,St.bytesX_nil S11⟩
  ·refine pv fv (wE (nCF (sR (pv (.slice D d.length cd) (pv (iv (d.length:Nat)) (dC (((d.length:Nat):Int)>496) (fun hb12=> ?_) fun hb12=> ?_))))))
   ·refine pv tv (wE (nCT (sR (pv (iv 0) (pv (nS_) (pv (iv 7) (wE (then_n (wp_ret (inb_r (then_r (bodyPost_ret (v:=.tuple #[iv 0,nS_,iv 7]) (Go.Vel.results_tmp3 rfl _ _ kr_ kr_ kr_) rfl ?_))))))))))))
    have e:renewF a b no d=(0,[],7):=by unfold renewF;rw [if_neg (fun h=>h hl),if_neg om_,if_pos om_]
    rw [e]
    have S13:=St.pm 1 [] S8
    exact ⟨none,0,rfl,St.bytesX_nil S13⟩
   ·refine pv fv (wE (nCF (sR (pv (iv (-1)) (dC (((-1):Int)≥0) (fun hd14=>False.elim (om_)) fun _=>pv fv (wN (wN (wN (wN (wN (wN (pv fv ?_))))))))))))
    refine pv fv (wE (nCF (wp_skip (inb_n (nSR (pv (.slice D d.length cd) (pv (iv (d.length:Nat)) (gI .i64 (IntKind.i64.wrap (8+(d.length:Nat))) ((8+d.length:Nat):Int) wq_ ?_))))))))
    have hd9:d.length≤496:=by omega
    refine g_ (gv_make (e:=5) (u:=8) (v:=((8+d.length:Nat):Int)) (z:=.int .u8 0) (sz:=1) (by_:=1) (n:=8) (c:=8+d.length) (cs:=bvs (List.replicate (8+d.length) 0)) S8 rfl kr_ ⟨by kernel_rfl⟩ kr_ kr_ rfl rfl om_ om_ om_ (mk_bytes _) (fun g15 w16 hg17 S18=> ?_))
    change St F w0 w16 (row g15 (bvs ((le8 no).take 0++List.replicate (8-0+d.length) 0)) 5::row g3 #[nI_ m,v0,nI_ n,v1] 141::L) at S18
    refine pv (sl g15 0 8 (8+d.length)) (wE (nS (sR (pv (sl g15 0 8 (8+d.length)) (pv (iv 8) (pv (iv 0) (wE (then_n (wp_block ?_)))))))))
    have S19:St F w0 w16 (row g15 (bvs ((le8 no).take 0++List.replicate (8-0+d.length) 0)) 5::L):=St.pm 2 [0] S18
    refine wp_loop_g (G:=Nat) (fun (g_:Nat) (a_:Act) (w_:World)=>∃J:Nat→Value,a_=(fr ([.slice A a.length ca,.slice B b.length cb,iv no,.slice D d.length cd,ud,ud,ud,ud,iv 0,nS_,iv 0,pq g3,iv (-1),iv 0,sl g15 0 8 (8+d.length),J 15,ud,ud,ud,.tuple #[.agg #[nI_ m,v0,nI_ n,v1],iv (-1),iv 0],.slice A a.length ca,.slice B b.length cb,.tuple #[.agg #[nI_ m,v0,nI_ n,v1],iv (-1),iv 0],.agg #[nI_ m,v0,nI_ n,v1],iv (-1),iv 0,fv,iv 0,fv,ud,fv,iv no,fv,fv,.slice D d.length cd,iv (d.length:Nat),fv,fv,iv (-1),fv,fv,ud,ud,ud,ud,ud,ud,fv,.slice D d.length cd,iv (d.length:Nat),nI_ (8+d.length),sl g15 0 8 (8+d.length),sl g15 0 8 (8+d.length),iv 8,nI_ g_]++jR J 55 11) 15)∧St F w0 w_ (row g15 (bvs ((le8 no).take g_++List.replicate (8-g_+d.length) 0)) 5::L)∧(g_≤8)) (fun g_=>8-g_) 0 (jE_ ⟨S19,Nat.zero_le _⟩) ?_
    rintro k a_ w20 ⟨J,rfl,S21,hI22⟩
    skip
    have S21:St F w0 w20 (row g15 (bvs ((le8 no).take k++List.replicate (8-k+d.length) 0)) 5::L):=S21
    have hI22:(k≤8):=hI22
    refine sR (dC ((((k:Nat):Int):Int)<8) (fun hb23=> ?_) fun hb23=> ?_)
    ·have hk8:k<8:=by omega
     refine wE (nS (cT (wp_skip (nS (wp_block (sR (pv (nI_ k) (pv (nI_ k) (wE (nR (pv (sl g15 0 8 (8+d.length)) (pv (nI_ k) (pv (iv no) ?_)))))))))))))
     exact pv (nI_ k) (gI .i64 (IntKind.i64.wrap (8*((k:Nat):Int))) ((8*k:Nat):Int) (wr_eq om_ om_ om_) (g_ (gv_shr (k:=.i64) (yk:=.i64) (z:=no) (i:=((8*k:Nat):Int)) (j:=(8*k)) (z':=(no/2^(8*k))) rfl kr_ kr_ rfl (by show 8*k≤64;omega) rfl (gI .u8 (IntKind.u8.wrap (no/2^(8*k))) (((le8 no).getD k 0).toNat:Int) (by rw [wrap_u8,le8_get no hk8]) (g_ (gv_ixE (e:=5) (sz:=1) (g:=g15) (off:=0) (n:=8) (c:=(8+d.length)) (i:=((k:Nat):Int)) (k:=.i64) (j:=k) (off':=k) rfl kr_ kr_ kr_ kr_ rfl om_ om_ (g_ (gv_st (k:=k) (v:=.int .u8 (((le8 no).getD k 0).toNat:Int)) S21 0 rfl rfl kr_ kr_ kr_ rfl (Nat.ble_eq_true_of_le (by rw [size_bvs,List.length_append,List.length_take,List.length_replicate];omega)) (L':=(row g15 (bvs ((le8 no).take (k+1)++List.replicate (8-(k+1)+d.length) 0)) 5::L)) (by rw [bvs_set,fill_set om_ h8];rfl) (fun w24 S25=>wE (inb_n (nR (gI .i64 (IntKind.i64.wrap (((k:Nat):Int)+1)) ((k+1:Nat):Int) (wr_eq om_ om_ om_) (pv (nI_ (k+1)) (wE (then_n ⟨k+1,(jE_ ⟨S25,om_⟩),(by show 8-(k+1)<8-k;omega)⟩)))))))))))))))
    ·have hk8:k=8:=by omega
     have ht8:(le8 no).take 8=le8 no:=List.take_of_length_le om_
     rw [hk8,ht8] at S21
     refine wE (nS (cF (wp_exit (then_x (then_x (inb_x (nSR (pv (.slice A a.length ca) (pv (iv 0) (pv (.slice A a.length ca) (wE (nS (sR ?_)))))))))))))
     refine pv (iv (-1)) (dE (-1) 0 (fun hd26=>False.elim (om_)) fun _=>wE (nCF (wp_skip (nSR (pv (.slice A a.length ca) (pv (sl g15 0 8 (8+d.length)) (pv (.slice D d.length cd) ?_)))))))
     have hln:8+d.length=(le8 no++d).length:=by rw [List.length_append];omega
     have hsp:splice (le8 no++List.replicate (8-8+d.length) 0) 8 d=le8 no++d:=by unfold splice;rw [List.take_left' h8,List.drop_of_length_le (by rw [List.length_append,List.length_replicate];omega),List.append_nil]
     refine g_ (gv_appendB (e:=5) (n:=8) (c:=8+d.length) (m:=d.length) (c':=cd) (A:=D) (l:=d) (X:=le8 no++List.replicate (8-8+d.length) 0) (n':=8+d.length) S21 0 rfl rfl kr_ kr_ kr_ kr_ rfl (hd.out _ [row g15 (bvs (le8 no++List.replicate (8-8+d.length) 0)) 5] S21) (Nat.le_refl _) (by rw [List.length_append,List.length_replicate];omega) rfl (L':=(row g15 (bvs (le8 no++d)) 5::L)) (by rw [hsp];rfl) (fun w27 S28=>sP2 Tryz.func109 #[.slice A a.length ca,sl g15 0 (8+d.length) (8+d.length)] (ps_seal' (a:=a) (b:=le8 no++d) S28 rfl hln ha.more (RoT.item 0 rfl 0 (le8 no++d).length _ (by rw [List.drop_zero,List.take_length])) om_ om_) fun A31 c32 w29 S30=>pv (.tuple #[.slice A31 ((sealF a (le8 no++d)).1.length) c32,iv ((sealF a (le8 no++d)).2:Int)]) (pv (.slice A31 ((sealF a (le8 no++d)).1.length) c32) (pv (iv ((sealF a (le8 no++d)).2:Int)) (pv (.slice A31 ((sealF a (le8 no++d)).1.length) c32) (pv (iv ((sealF a (le8 no++d)).2:Int)) (wER (pv (iv 0) (pv (.slice A31 ((sealF a (le8 no++d)).1.length) c32) (pv (iv ((sealF a (le8 no++d)).2:Int)) (pv (iv 0) (pv (.slice A31 ((sealF a (le8 no++d)).1.length) c32) (pv (iv ((sealF a (le8 no++d)).2:Int)) ?_)))))))))))))
     refine wE (then_n (wp_ret (bodyPost_ret (v:=.tuple #[iv 0,.slice A31 ((sealF a (le8 no++d)).1.length) c32,iv ((sealF a (le8 no++d)).2:Int)]) (Go.Vel.results_tmp3 rfl _ _ kr_ kr_ kr_) rfl ?_)))
     have e:=renew_end (a:=a) (b:=b) (no:=no) (d:=d) hl om_ om_ (by rw [hnw];simp<;>omega)
     rw [hnw,if_neg (by simp)] at e
     rw [e]
     have S33:=St.pm 2 [0] S30
     exact ⟨A31,c32,rfl,S33⟩
 ·have hnw:=newest_left ⟨hl,hm,hn,hs⟩
  refine eN (fr [.slice A a.length ca,.slice B b.length cb,iv no,.slice D d.length cd] 77) Tryz.func88 rfl (sR (pv (iv 0) (pv (nS_) (pv (iv 0) (wER (pv (.slice A a.length ca) (pv (.slice B b.length cb) (g_ (gv_call (args:=#[.slice A a.length ca,.slice B b.length cb]) rfl Tryz.func110 kr_ rfl rfl kr_ (Calls.mono (ps_pair (sl:=0) S ha hb hl hm hn hs) ?_))))))))))
  rintro _ w1 ⟨v0,v1,rfl,ho0,ho1,S2⟩
  refine ⟨_,rfl,(pv (.tuple #[.agg #[nI_ m,v0,nI_ n,v1],iv 0,iv 0]) (pv (.agg #[nI_ m,v0,nI_ n,v1]) (pv (iv 0) (pv (iv 0) (nW rfl (.agg #[iv 0,nS_,iv 0,nS_]) S2 fun g3 w4 hg5 S6=>g_ (gv_stA (k:=0) (vs:=[nI_ m,v0,nI_ n,v1]) S6 0 rfl rfl kr_ kr_ kr_ rfl (by intro u hu;simp only [List.mem_cons,List.not_mem_nil,or_false] at hu;rcases hu with rfl|rfl|rfl|rfl<;>first|rfl|assumption) (Nat.le_of_ble_eq_true kr_) (L':=(row g3 #[nI_ m,v0,nI_ n,v1] 141::L)) rfl (fun w7 S8=>pv (iv 0) (pv (iv 0) (wE (nS (wp_block (sR (pv (iv 0) ?_)))))))))))))⟩
  refine dN 0 0 (fun hd9=>False.elim (hd9 dc_)) fun _=>pv fv (wE (nCF (sR (pv (iv no) (dC ((no:Int)<1) (fun hb10=> ?_) fun hb10=> ?_)))))
  ·refine pv tv (wE (nCT (sR (pv (iv 0) (pv (nS_) (pv (iv 1) (wE (then_n (wp_ret (inb_r (then_r (bodyPost_ret (v:=.tuple #[iv 0,nS_,iv 1]) (Go.Vel.results_tmp3 rfl _ _ kr_ kr_ kr_) rfl ?_))))))))))))
   have e:renewF a b no d=(0,[],1):=by unfold renewF;rw [if_neg (fun h=>h hl),if_pos om_]
   rw [e]
   have S11:=St.pm 1 [] S8
   exact ⟨none,0,rfl,St.bytesX_nil S11⟩
  ·refine pv fv (wE (nCF (sR (pv (.slice D d.length cd) (pv (iv (d.length:Nat)) (dC (((d.length:Nat):Int)>496) (fun hb12=> ?_) fun hb12=> ?_))))))
   ·refine pv tv (wE (nCT (sR (pv (iv 0) (pv (nS_) (pv (iv 7) (wE (then_n (wp_ret (inb_r (then_r (bodyPost_ret (v:=.tuple #[iv 0,nS_,iv 7]) (Go.Vel.results_tmp3 rfl _ _ kr_ kr_ kr_) rfl ?_))))))))))))
    have e:renewF a b no d=(0,[],7):=by unfold renewF;rw [if_neg (fun h=>h hl),if_neg om_,if_pos om_]
    rw [e]
    have S13:=St.pm 1 [] S8
    exact ⟨none,0,rfl,St.bytesX_nil S13⟩
   ·refine pv fv (wE (nCF (sR (pv (iv 0) (dC ((0:Int)≥0) (fun _=>pv tv (pW (iv no) (pW (iv 0) (wl_when kr_ (gv_ixArr (sz:=2) (g:=g3) (off:=0) (N:=2) (k:=.i64) (i:=0) (j:=0) (off':=0) rfl kr_ kr_ kr_ kr_ kr_ rfl dc_ rfl (pW (pq g3) (wl_when kr_ (gv_ldR (v:=nI_ m) rfl kr_ kr_ (((S8.blk 0 rfl).cell 0).trans rfl) (wl_when kr_ (gv_dec (p:=(no:Int)≤((m:Nat):Int)) kr_ (fun hb15=> ?_) (fun hb15=> ?_))))))))))) fun hd14=>False.elim (om_))))))
    ·refine pv tv (pv tv (wE (nCT (sR (pv (iv 0) (pv (nS_) (pv (iv 31) (wE (then_n (wp_ret (inb_r (then_r (bodyPost_ret (v:=.tuple #[iv 0,nS_,iv 31]) (Go.Vel.results_tmp3 rfl _ _ kr_ kr_ kr_) rfl ?_)))))))))))))
     have e:renewF a b no d=(0,[],31):=by unfold renewF;rw [if_neg (fun h=>h hl),if_neg om_,if_neg om_,if_pos (by rw [hnw];exact ⟨rfl,by omega⟩)]
     rw [e]
     have S16:=St.pm 1 [] S8
     exact ⟨none,0,rfl,St.bytesX_nil S16⟩
    ·refine pv fv (pv fv (wE (nCF (wp_skip (inb_n (nSR (pv (.slice D d.length cd) (pv (iv (d.length:Nat)) (gI .i64 (IntKind.i64.wrap (8+(d.length:Nat))) ((8+d.length:Nat):Int) wq_ ?_)))))))))
     have hd9:d.length≤496:=by omega
     refine g_ (gv_make (e:=5) (u:=8) (v:=((8+d.length:Nat):Int)) (z:=.int .u8 0) (sz:=1) (by_:=1) (n:=8) (c:=8+d.length) (cs:=bvs (List.replicate (8+d.length) 0)) S8 rfl kr_ ⟨by kernel_rfl⟩ kr_ kr_ rfl rfl om_ om_ om_ (mk_bytes _) (fun g17 w18 hg19 S20=> ?_))
     change St F w0 w18 (row g17 (bvs ((le8 no).take 0++List.replicate (8-0+d.length) 0)) 5::row g3 #[nI_ m,v0,nI_ n,v1] 141::L) at S20
     refine pv (sl g17 0 8 (8+d.length)) (wE (nS (sR (pv (sl g17 0 8 (8+d.length)) (pv (iv 8) (pv (iv 0) (wE (then_n (wp_block ?_)))))))))
     have S21:St F w0 w18 (row g17 (bvs ((le8 no).take 0++List.replicate (8-0+d.length) 0)) 5::L):=St.pm 2 [0] S20
     refine wp_loop_g (G:=Nat) (fun (g_:Nat) (a_:Act) (w_:World)=>∃J:Nat→Value,a_=(fr ([.slice A a.length ca,.slice B b.length cb,iv no,.slice D d.length cd,ud,ud,ud,ud,iv 0,nS_,iv 0,pq g3,iv 0,iv 0,sl g17 0 8 (8+d.length),J 15,ud,ud,ud,.tuple #[.agg #[nI_ m,v0,nI_ n,v1],iv 0,iv 0],.slice A a.length ca,.slice B b.length cb,.tuple #[.agg #[nI_ m,v0,nI_ n,v1],iv 0,iv 0],.agg #[nI_ m,v0,nI_ n,v1],iv 0,iv 0,fv,iv 0,fv,ud,fv,iv no,fv,fv,.slice D d.length cd,iv (d.length:Nat),fv,fv,iv 0,tv,tv,iv no,iv 0,pq g3,pq g3,nI_ m,fv,fv,.slice D d.length cd,iv (d.length:Nat),nI_ (8+d.length),sl g17 0 8 (8+d.length),sl g17 0 8 (8+d.length),iv 8,nI_ g_]++jR J 55 11) 15)∧St F w0 w_ (row g17 (bvs ((le8 no).take g_++List.replicate (8-g_+d.length) 0)) 5::L)∧(g_≤8)) (fun g_=>8-g_) 0 (jE_ ⟨S21,Nat.zero_le _⟩) ?_
     rintro k a_ w22 ⟨J,rfl,S23,hI24⟩
     skip
     have S23:St F w0 w22 (row g17 (bvs ((le8 no).take k++List.replicate (8-k+d.length) 0)) 5::L):=S23
     have hI24:(k≤8):=hI24
     refine sR (dC ((((k:Nat):Int):Int)<8) (fun hb25=> ?_) fun hb25=> ?_)
     ·have hk8:k<8:=by omega
      refine wE (nS (cT (wp_skip (nS (wp_block (sR (pv (nI_ k) (pv (nI_ k) (wE (nR (pv (sl g17 0 8 (8+d.length)) (pv (nI_ k) (pv (iv no) ?_)))))))))))))
      exact pv (nI_ k) (gI .i64 (IntKind.i64.wrap (8*((k:Nat):Int))) ((8*k:Nat):Int) (wr_eq om_ om_ om_) (g_ (gv_shr (k:=.i64) (yk:=.i64) (z:=no) (i:=((8*k:Nat):Int)) (j:=(8*k)) (z':=(no/2^(8*k))) rfl kr_ kr_ rfl (by show 8*k≤64;omega) rfl (gI .u8 (IntKind.u8.wrap (no/2^(8*k))) (((le8 no).getD k 0).toNat:Int) (by rw [wrap_u8,le8_get no hk8]) (g_ (gv_ixE (e:=5) (sz:=1) (g:=g17) (off:=0) (n:=8) (c:=(8+d.length)) (i:=((k:Nat):Int)) (k:=.i64) (j:=k) (off':=k) rfl kr_ kr_ kr_ kr_ rfl om_ om_ (g_ (gv_st (k:=k) (v:=.int .u8 (((le8 no).getD k 0).toNat:Int)) S23 0 rfl rfl kr_ kr_ kr_ rfl (Nat.ble_eq_true_of_le (by rw [size_bvs,List.length_append,List.length_take,List.length_replicate];omega)) (L':=(row g17 (bvs ((le8 no).take (k+1)++List.replicate (8-(k+1)+d.length) 0)) 5::L)) (by rw [bvs_set,fill_set om_ h8];rfl) (fun w26 S27=>wE (inb_n (nR (gI .i64 (IntKind.i64.wrap (((k:Nat):Int)+1)) ((k+1:Nat):Int) (wr_eq om_ om_ om_) (pv (nI_ (k+1)) (wE (then_n ⟨k+1,(jE_ ⟨S27,om_⟩),(by show 8-(k+1)<8-k;omega)⟩)))))))))))))))
     ·have hk8:k=8:=by omega
      have ht8:(le8 no).take 8=le8 no:=List.take_of_length_le om_
      rw [hk8,ht8] at S23
      refine wE (nS (cF (wp_exit (then_x (then_x (inb_x (nSR (pv (.slice A a.length ca) (pv (iv 0) (pv (.slice A a.length ca) (wE (nS (sR ?_)))))))))))))
      refine pv (iv 0) (dE 0 0 (fun _=>wE (nCT (wp_region_lit (pv (.slice B b.length cb) (pv (iv 1) (pv (.slice B b.length cb) (wER (pv (.slice B b.length cb) (pv (sl g17 0 8 (8+d.length)) (pv (.slice D d.length cd) ?_)))))))))) fun hd28=>False.elim (om_))
      have hln:8+d.length=(le8 no++d).length:=by rw [List.length_append];omega
      have hsp:splice (le8 no++List.replicate (8-8+d.length) 0) 8 d=le8 no++d:=by unfold splice;rw [List.take_left' h8,List.drop_of_length_le (by rw [List.length_append,List.length_replicate];omega),List.append_nil]
      refine g_ (gv_appendB (e:=5) (n:=8) (c:=8+d.length) (m:=d.length) (c':=cd) (A:=D) (l:=d) (X:=le8 no++List.replicate (8-8+d.length) 0) (n':=8+d.length) S23 0 rfl rfl kr_ kr_ kr_ kr_ rfl (hd.out _ [row g17 (bvs (le8 no++List.replicate (8-8+d.length) 0)) 5] S23) (Nat.le_refl _) (by rw [List.length_append,List.length_replicate];omega) rfl (L':=(row g17 (bvs (le8 no++d)) 5::L)) (by rw [hsp];rfl) (fun w29 S30=>sP2 Tryz.func109 #[.slice B b.length cb,sl g17 0 (8+d.length) (8+d.length)] (ps_seal' (a:=b) (b:=le8 no++d) S30 rfl hln hb.more (RoT.item 0 rfl 0 (le8 no++d).length _ (by rw [List.drop_zero,List.take_length])) om_ om_) fun A33 c34 w31 S32=>pv (.tuple #[.slice A33 ((sealF b (le8 no++d)).1.length) c34,iv ((sealF b (le8 no++d)).2:Int)]) (pv (.slice A33 ((sealF b (le8 no++d)).1.length) c34) (pv (iv ((sealF b (le8 no++d)).2:Int)) (pv (.slice A33 ((sealF b (le8 no++d)).1.length) c34) (pv (iv ((sealF b (le8 no++d)).2:Int)) (wER (pv (iv 1) (pv (.slice A33 ((sealF b (le8 no++d)).1.length) c34) (pv (iv ((sealF b (le8 no++d)).2:Int)) (pv (iv 1) (pv (.slice A33 ((sealF b (le8 no++d)).1.length) c34) (pv (iv ((sealF b (le8 no++d)).2:Int)) ?_)))))))))))))
      refine wE (then_n (wp_ret (bodyPost_ret (v:=.tuple #[iv 1,.slice A33 ((sealF b (le8 no++d)).1.length) c34,iv ((sealF b (le8 no++d)).2:Int)]) (Go.Vel.results_tmp3 rfl _ _ kr_ kr_ kr_) rfl ?_)))
      have e:=renew_end (a:=a) (b:=b) (no:=no) (d:=d) hl om_ om_ (by rw [hnw];simp<;>omega)
      rw [hnw,if_pos ⟨rfl,rfl⟩] at e
      rw [e]
      have S35:=St.pm 2 [0] S32
      exact ⟨A33,c34,rfl,S35⟩
 ·have hnw:=newest_right ⟨hl,hm,hn,hs⟩
  refine eN (fr [.slice A a.length ca,.slice B b.length cb,iv no,.slice D d.length cd] 77) Tryz.func88 rfl (sR (pv (iv 0) (pv (nS_) (pv (iv 0) (wER (pv (.slice A a.length ca) (pv (.slice B b.length cb) (g_ (gv_call (args:=#[.slice A a.length ca,.slice B b.length cb]) rfl Tryz.func110 kr_ rfl rfl kr_ (Calls.mono (ps_pair (sl:=1) S ha hb hl hm hn hs) ?_))))))))))
  rintro _ w1 ⟨v0,v1,rfl,ho0,ho1,S2⟩
  refine ⟨_,rfl,(pv (.tuple #[.agg #[nI_ m,v0,nI_ n,v1],iv 1,iv 0]) (pv (.agg #[nI_ m,v0,nI_ n,v1]) (pv (iv 1) (pv (iv 0) (nW rfl (.agg #[iv 0,nS_,iv 0,nS_]) S2 fun g3 w4 hg5 S6=>g_ (gv_stA (k:=0) (vs:=[nI_ m,v0,nI_ n,v1]) S6 0 rfl rfl kr_ kr_ kr_ rfl (by intro u hu;simp only [List.mem_cons,List.not_mem_nil,or_false] at hu;rcases hu with rfl|rfl|rfl|rfl<;>first|rfl|assumption) (Nat.le_of_ble_eq_true kr_) (L':=(row g3 #[nI_ m,v0,nI_ n,v1] 141::L)) rfl (fun w7 S8=>pv (iv 1) (pv (iv 0) (wE (nS (wp_block (sR (pv (iv 0) ?_)))))))))))))⟩
  refine dN 0 0 (fun hd9=>False.elim (hd9 dc_)) fun _=>pv fv (wE (nCF (sR (pv (iv no) (dC ((no:Int)<1) (fun hb10=> ?_) fun hb10=> ?_)))))
  ·refine pv tv (wE (nCT (sR (pv (iv 0) (pv (nS_) (pv (iv 1) (wE (then_n (wp_ret (inb_r (then_r (bodyPost_ret (v:=.tuple #[iv 0,nS_,iv 1]) (Go.Vel.results_tmp3 rfl _ _ kr_ kr_ kr_) rfl ?_))))))))))))
   have e:renewF a b no d=(0,[],1):=by unfold renewF;rw [if_neg (fun h=>h hl),if_pos om_]
   rw [e]
   have S11:=St.pm 1 [] S8
   exact ⟨none,0,rfl,St.bytesX_nil S11⟩
  ·refine pv fv (wE (nCF (sR (pv (.slice D d.length cd) (pv (iv (d.length:Nat)) (dC (((d.length:Nat):Int)>496) (fun hb12=> ?_) fun hb12=> ?_))))))
   ·refine pv tv (wE (nCT (sR (pv (iv 0) (pv (nS_) (pv (iv 7) (wE (then_n (wp_ret (inb_r (then_r (bodyPost_ret (v:=.tuple #[iv 0,nS_,iv 7]) (Go.Vel.results_tmp3 rfl _ _ kr_ kr_ kr_) rfl ?_))))))))))))
    have e:renewF a b no d=(0,[],7):=by unfold renewF;rw [if_neg (fun h=>h hl),if_neg om_,if_pos om_]
    rw [e]
    have S13:=St.pm 1 [] S8
    exact ⟨none,0,rfl,St.bytesX_nil S13⟩
   ·refine pv fv (wE (nCF (sR (pv (iv 1) (dC ((1:Int)≥0) (fun _=>pv tv (pW (iv no) (pW (iv 1) (wl_when kr_ (gv_ixArr (sz:=2) (g:=g3) (off:=0) (N:=2) (k:=.i64) (i:=1) (j:=1) (off':=2) rfl kr_ kr_ kr_ kr_ kr_ rfl dc_ rfl (pW (po g3 2) (wl_when kr_ (gv_ldR (v:=nI_ n) rfl kr_ kr_ (((S8.blk 0 rfl).cell 2).trans rfl) (wl_when kr_ (gv_dec (p:=(no:Int)≤((n:Nat):Int)) kr_ (fun hb15=> ?_) (fun hb15=> ?_))))))))))) fun hd14=>False.elim (om_))))))
    ·refine pv tv (pv tv (wE (nCT (sR (pv (iv 0) (pv (nS_) (pv (iv 31) (wE (then_n (wp_ret (inb_r (then_r (bodyPost_ret (v:=.tuple #[iv 0,nS_,iv 31]) (Go.Vel.results_tmp3 rfl _ _ kr_ kr_ kr_) rfl ?_)))))))))))))
     have e:renewF a b no d=(0,[],31):=by unfold renewF;rw [if_neg (fun h=>h hl),if_neg om_,if_neg om_,if_pos (by rw [hnw];exact ⟨rfl,by omega⟩)]
     rw [e]
     have S16:=St.pm 1 [] S8
     exact ⟨none,0,rfl,St.bytesX_nil S16⟩
    ·refine pv fv (pv fv (wE (nCF (wp_skip (inb_n (nSR (pv (.slice D d.length cd) (pv (iv (d.length:Nat)) (gI .i64 (IntKind.i64.wrap (8+(d.length:Nat))) ((8+d.length:Nat):Int) wq_ ?_)))))))))
     have hd9:d.length≤496:=by omega
     refine g_ (gv_make (e:=5) (u:=8) (v:=((8+d.length:Nat):Int)) (z:=.int .u8 0) (sz:=1) (by_:=1) (n:=8) (c:=8+d.length) (cs:=bvs (List.replicate (8+d.length) 0)) S8 rfl kr_ ⟨by kernel_rfl⟩ kr_ kr_ rfl rfl om_ om_ om_ (mk_bytes _) (fun g17 w18 hg19 S20=> ?_))
     change St F w0 w18 (row g17 (bvs ((le8 no).take 0++List.replicate (8-0+d.length) 0)) 5::row g3 #[nI_ m,v0,nI_ n,v1] 141::L) at S20
     refine pv (sl g17 0 8 (8+d.length)) (wE (nS (sR (pv (sl g17 0 8 (8+d.length)) (pv (iv 8) (pv (iv 0) (wE (then_n (wp_block ?_)))))))))
     have S21:St F w0 w18 (row g17 (bvs ((le8 no).take 0++List.replicate (8-0+d.length) 0)) 5::L):=St.pm 2 [0] S20
     refine wp_loop_g (G:=Nat) (fun (g_:Nat) (a_:Act) (w_:World)=>∃J:Nat→Value,a_=(fr ([.slice A a.length ca,.slice B b.length cb,iv no,.slice D d.length cd,ud,ud,ud,ud,iv 0,nS_,iv 0,pq g3,iv 1,iv 0,sl g17 0 8 (8+d.length),J 15,ud,ud,ud,.tuple #[.agg #[nI_ m,v0,nI_ n,v1],iv 1,iv 0],.slice A a.length ca,.slice B b.length cb,.tuple #[.agg #[nI_ m,v0,nI_ n,v1],iv 1,iv 0],.agg #[nI_ m,v0,nI_ n,v1],iv 1,iv 0,fv,iv 0,fv,ud,fv,iv no,fv,fv,.slice D d.length cd,iv (d.length:Nat),fv,fv,iv 1,tv,tv,iv no,iv 1,po g3 2,po g3 2,nI_ n,fv,fv,.slice D d.length cd,iv (d.length:Nat),nI_ (8+d.length),sl g17 0 8 (8+d.length),sl g17 0 8 (8+d.length),iv 8,nI_ g_]++jR J 55 11) 15)∧St F w0 w_ (row g17 (bvs ((le8 no).take g_++List.replicate (8-g_+d.length) 0)) 5::L)∧(g_≤8)) (fun g_=>8-g_) 0 (jE_ ⟨S21,Nat.zero_le _⟩) ?_
     rintro k a_ w22 ⟨J,rfl,S23,hI24⟩
     skip
     have S23:St F w0 w22 (row g17 (bvs ((le8 no).take k++List.replicate (8-k+d.length) 0)) 5::L):=S23
     have hI24:(k≤8):=hI24
     refine sR (dC ((((k:Nat):Int):Int)<8) (fun hb25=> ?_) fun hb25=> ?_)
     ·have hk8:k<8:=by omega
      refine wE (nS (cT (wp_skip (nS (wp_block (sR (pv (nI_ k) (pv (nI_ k) (wE (nR (pv (sl g17 0 8 (8+d.length)) (pv (nI_ k) (pv (iv no) ?_)))))))))))))
      exact pv (nI_ k) (gI .i64 (IntKind.i64.wrap (8*((k:Nat):Int))) ((8*k:Nat):Int) (wr_eq om_ om_ om_) (g_ (gv_shr (k:=.i64) (yk:=.i64) (z:=no) (i:=((8*k:Nat):Int)) (j:=(8*k)) (z':=(no/2^(8*k))) rfl kr_ kr_ rfl (by show 8*k≤64;omega) rfl (gI .u8 (IntKind.u8.wrap (no/2^(8*k))) (((le8 no).getD k 0).toNat:Int) (by rw [wrap_u8,le8_get no hk8]) (g_ (gv_ixE (e:=5) (sz:=1) (g:=g17) (off:=0) (n:=8) (c:=(8+d.length)) (i:=((k:Nat):Int)) (k:=.i64) (j:=k) (off':=k) rfl kr_ kr_ kr_ kr_ rfl om_ om_ (g_ (gv_st (k:=k) (v:=.int .u8 (((le8 no).getD k 0).toNat:Int)) S23 0 rfl rfl kr_ kr_ kr_ rfl (Nat.ble_eq_true_of_le (by rw [size_bvs,List.length_append,List.length_take,List.length_replicate];omega)) (L':=(row g17 (bvs ((le8 no).take (k+1)++List.replicate (8-(k+1)+d.length) 0)) 5::L)) (by rw [bvs_set,fill_set om_ h8];rfl) (fun w26 S27=>wE (inb_n (nR (gI .i64 (IntKind.i64.wrap (((k:Nat):Int)+1)) ((k+1:Nat):Int) (wr_eq om_ om_ om_) (pv (nI_ (k+1)) (wE (then_n ⟨k+1,(jE_ ⟨S27,om_⟩),(by show 8-(k+1)<8-k;omega)⟩)))))))))))))))
     ·have hk8:k=8:=by omega
      have ht8:(le8 no).take 8=le8 no:=List.take_of_length_le om_
      rw [hk8,ht8] at S23
      refine wE (nS (cF (wp_exit (then_x (then_x (inb_x (nSR (pv (.slice A a.length ca) (pv (iv 0) (pv (.slice A a.length ca) (wE (nS (sR ?_)))))))))))))
      refine pv (iv 1) (dE 1 0 (fun hd28=>False.elim (om_)) fun _=>wE (nCF (wp_skip (nSR (pv (.slice A a.length ca) (pv (sl g17 0 8 (8+d.length)) (pv (.slice D d.length cd) ?_)))))))
      have hln:8+d.length=(le8 no++d).length:=by rw [List.length_append];omega
      have hsp:splice (le8 no++List.replicate (8-8+d.length) 0) 8 d=le8 no++d:=by unfold splice;rw [List.take_left' h8,List.drop_of_length_le (by rw [List.length_append,List.length_replicate];omega),List.append_nil]
      refine g_ (gv_appendB (e:=5) (n:=8) (c:=8+d.length) (m:=d.length) (c':=cd) (A:=D) (l:=d) (X:=le8 no++List.replicate (8-8+d.length) 0) (n':=8+d.length) S23 0 rfl rfl kr_ kr_ kr_ kr_ rfl (hd.out _ [row g17 (bvs (le8 no++List.replicate (8-8+d.length) 0)) 5] S23) (Nat.le_refl _) (by rw [List.length_append,List.length_replicate];omega) rfl (L':=(row g17 (bvs (le8 no++d)) 5::L)) (by rw [hsp];rfl) (fun w29 S30=>sP2 Tryz.func109 #[.slice A a.length ca,sl g17 0 (8+d.length) (8+d.length)] (ps_seal' (a:=a) (b:=le8 no++d) S30 rfl hln ha.more (RoT.item 0 rfl 0 (le8 no++d).length _ (by rw [List.drop_zero,List.take_length])) om_ om_) fun A33 c34 w31 S32=>pv (.tuple #[.slice A33 ((sealF a (le8 no++d)).1.length) c34,iv ((sealF a (le8 no++d)).2:Int)]) (pv (.slice A33 ((sealF a (le8 no++d)).1.length) c34) (pv (iv ((sealF a (le8 no++d)).2:Int)) (pv (.slice A33 ((sealF a (le8 no++d)).1.length) c34) (pv (iv ((sealF a (le8 no++d)).2:Int)) (wER (pv (iv 0) (pv (.slice A33 ((sealF a (le8 no++d)).1.length) c34) (pv (iv ((sealF a (le8 no++d)).2:Int)) (pv (iv 0) (pv (.slice A33 ((sealF a (le8 no++d)).1.length) c34) (pv (iv ((sealF a (le8 no++d)).2:Int)) ?_)))))))))))))
      refine wE (then_n (wp_ret (bodyPost_ret (v:=.tuple #[iv 0,.slice A33 ((sealF a (le8 no++d)).1.length) c34,iv ((sealF a (le8 no++d)).2:Int)]) (Go.Vel.results_tmp3 rfl _ _ kr_ kr_ kr_) rfl ?_)))
      have e:=renew_end (a:=a) (b:=b) (no:=no) (d:=d) hl om_ om_ (by rw [hnw];simp<;>omega)
      rw [hnw,if_neg (by simp)] at e
      rw [e]
      have S35:=St.pm 2 [0] S32
      exact ⟨A33,c34,rfl,S35⟩
end
end Go.Proofs
end
section
open Go Go.RowKit Go.Proofs.YtgelippmcflppaaGreatW.PrintWords Go.Proofs.YtgelippmcflppaaGreatW.PrintMore
namespace Go.Proofs
open Go.Vel
set_option linter.unusedVariables false
section
def Dsk.wrote (s:Dsk)(k:Nat)(d:List UInt8):Dsk:={s with pend:=s.pend++[(k,d)],wr:=inc s.wr,left:=spent s.left}
theorem writeR_go {s:Dsk}{k:Nat}{d:List UInt8}(hz:s.left≠0)(hk:k<s.last.length)(hd:d.length=512):s.writeR ((k:Nat):Int) d=(s.wrote k d,0):=by
 unfold Dsk.writeR Dsk.wrote
 rw [if_neg hz,if_neg (show¬(((k:Nat):Int)<0∨(s.last.length:Int)≤((k:Nat):Int)) by omega),if_neg om_,Int.toNat_natCast]
theorem writeR_dead {s:Dsk}{at_:Int}{d:List UInt8}(hz:s.left=0):s.writeR at_ d=(s,3):=by unfold Dsk.writeR;rw [if_pos hz]
theorem sealF_len {o b:List UInt8}(ho:o.length=512)(hb:b.length≤504):(sealF o b).1.length=512∧(sealF o b).2=0:=by
 unfold sealF
 rw [if_neg om_,if_neg om_]
 exact ⟨length_form _ hb,rfl⟩
theorem renew_ok {a b:List UInt8}{no:Int}(ha:a.length=512)(hb:b.length=512)(h:(renewF a b no []).2.2=0):(renewF a b no []).1≤1∧(renewF a b no []).2.1.length=512:=by
 have h8:(le8 no++[]).length≤504:=by simp [le8]
 unfold renewF at h ⊢
 rw [if_neg (fun hh=>hh ⟨ha,hb⟩)] at h ⊢
 split at h
 ·cases h
 ·rename_i h1
  rw [if_neg h1] at ⊢
  split at h
  ·cases h
  ·rename_i h2
   rw [if_neg h2] at ⊢
   split at h
   ·cases h
   ·rename_i h3
    rw [if_neg h3] at ⊢
    split
    ·exact ⟨Nat.le_refl _,(sealF_len hb h8).1⟩
    ·exact ⟨Nat.zero_le _,(sealF_len ha h8).1⟩
theorem renewR_dead {s:Dsk}{first no:Nat}(hz:s.left=0):renewR s first no=(s,3):=by
 unfold renewR
 simp only [writeR_dead hz]
 rfl
def Dsk.anch (s:Dsk)(first no:Nat):Dsk:=s.wrote (first+(renewF (s.now first) (s.now (first+1)) (no:Int) []).1) (renewF (s.now first) (s.now (first+1)) (no:Int) []).2.1
theorem renewR_go {s:Dsk}{first no:Nat}(hz:s.left≠0)(hf:first+1<s.last.length)(h1:(renewF (s.now first) (s.now (first+1)) (no:Int) []).1≤1)(h2:(renewF (s.now first) (s.now (first+1)) (no:Int) []).2.1.length=512):renewR s first no=(s.anch first no).flushR:=by
 unfold renewR
 simp only [writeR_go hz (show first+(renewF (s.now first) (s.now (first+1)) (no:Int) []).1<s.last.length by omega) h2]
 rfl
theorem DOk.now {s:Dsk}(h:DOk s){k:Nat}(hk:k<s.last.length):(s.now k).length=512:=by
 unfold Dsk.now
 cases hp:(pendOf s k).getLast? with
 |some d=>
  have:=List.mem_of_getLast? hp
  unfold pendOf at this
  obtain ⟨x,hx,rfl⟩:=List.mem_map.1 this
  exact (h.plen x (List.mem_filter.1 hx).1).1
 |none=>
  show (s.last.getD k []).length=512
  rw [List.getD_eq_getElem?_getD,List.getElem?_eq_getElem hk]
  exact h.len _ (List.getElem_mem hk)
section
variable {F:Nat→Prop}{w0 w:World}{L:List Ast}{g:Nat}{s:Dsk}
theorem pw_write_go {k:Nat}{A:Option Addr}{d:List UInt8}{cd n:Nat}(S:St F w0 w (PW g s::L))(hr:RoT F w0 L A d)(hn:n=d.length)(hd:d.length=512)(hz:s.left≠0)(hk:k<s.last.length)(hpn:s.pend.length<4398046511104):
  Calls Tryz.prog 51 #[pq g,nI_ k,.slice A n cd] w fun e w'=>e=.returned (iv 0)∧St F w0 w' (PW g (s.wrote k d)::L):=by
 subst hn
 have h:=pw_write (at_:=((k:Nat):Int)) (cd:=cd) S hr om_ hpn
 rw [writeR_go hz hk hd] at h
 exact h
theorem rw_write_go {k:Nat}{A:Option Addr}{d:List UInt8}{cd n:Nat}(S:St F w0 w (RW g s::L))(hr:RoT F w0 L A d)(hn:n=d.length)(hd:d.length=512)(hz:s.left≠0)(hk:k<s.last.length)(hpn:s.pend.length<4398046511104):
  Calls Tryz.prog 55 #[pq g,nI_ k,.slice A n cd] w fun e w'=>e=.returned (iv 0)∧St F w0 w' (RW g (s.wrote k d)::L):=by
 subst hn
 have h:=rw_write (at_:=((k:Nat):Int)) (cd:=cd) S hr om_ hpn
 rw [writeR_go hz hk hd] at h
 exact h
theorem rw_write_dead {at_:Int}{A:Option Addr}{d:List UInt8}{cd n:Nat}(S:St F w0 w (RW g s::L))(hr:RoT F w0 L A d)(hn:n=d.length)(hd:d.length≤512)(hz:s.left=0)(hpn:s.pend.length<4398046511104):
  Calls Tryz.prog 55 #[pq g,iv at_,.slice A n cd] w fun e w'=>e=.returned (iv 3)∧St F w0 w' (RW g s::L):=by
 subst hn
 have h:=rw_write (at_:=at_) (cd:=cd) S hr om_ hpn
 rw [writeR_dead hz] at h
 exact h
theorem ps_renew0 (S:St F w0 w L){A B:Option Addr}{a b:List UInt8}{m n ca cb:Nat}{no:Int}(hm0:m=a.length)(hn0:n=b.length)(ha:RoT F w0 L A a)(hb:RoT F w0 L B b)(hma:a.length≤512)(hmb:b.length≤512)(hno:no≤9223372036854775807)(h0:(renewF a b no []).2.2=0)(h5:(renewF a b no []).2.1.length=512):
  Calls Tryz.prog 88 #[.slice A m ca,.slice B n cb,iv no,nS_] w fun e w'=>∃A c,e=.returned (.tuple #[iv ((renewF a b no []).1:Int),.slice A 512 c,iv 0])∧St F w0 w' (bytesX (.slice A 512 c) (renewF a b no []).2.1::L):=by
 subst hm0 hn0
 refine (ps_renew (d:=[]) (cd:=0) (D:=none) S ha hb RoT.nil om_ om_ (Nat.zero_le _) hno).mono fun e w' h=> ?_
 obtain ⟨A,c,h1,h2⟩:=h
 rw [h0,h5] at h1
 rw [h5] at h2
 exact ⟨A,c,h1,h2⟩
theorem rrenew0 (S:St F w0 w L){A B:Option Addr}{a b:List UInt8}{m n ca cb:Nat}{no:Int}(hm0:m=a.length)(hn0:n=b.length)(ha:RoT F w0 L A a)(hb:RoT F w0 L B b)(hma:a.length≤512)(hmb:b.length≤512)(hno:no≤9223372036854775807)(h0:(renewF a b no []).2.2=0)(h5:(renewF a b no []).2.1.length=512):
  Calls Tryz.prog 90 #[.slice A m ca,.slice B n cb,iv no,nS_] w fun e w'=>∃A c,e=.returned (.tuple #[iv ((renewF a b no []).1:Int),.slice A 512 c,iv 0])∧St F w0 w' (vec 5 1 (.slice A 512 c) 512 ((renewF a b no []).2.1.map bv)::L):=by
 subst hm0 hn0
 refine (rrenew (d:=[]) (cd:=0) (D:=none) S ha hb RoT.nil om_ om_ (Nat.zero_le _) hno).mono fun e w' h=> ?_
 obtain ⟨A,c,h1,h2⟩:=h
 rw [h0,h5] at h1
 rw [h5] at h2
 exact ⟨A,c,h1,h2⟩
end
end
end Go.Proofs
end
section
open Go Go.RowKit Go.Proofs.YtgelippmcflppaaGreatW.PrintWords Go.Proofs.YtgelippmcflppaaGreatW.PrintMore
namespace Go.Proofs
open Go.Vel
set_option linter.unusedVariables false
set_option maxRecDepth 100000
set_option maxHeartbeats 4000000
attribute [local irreducible] gives wpList Code.wp
section
variable {F:Nat→Prop} {w0 w:World} {L:List Ast}
theorem w_pair_dead {g gd:Nat}{l:Lg}{s:Dsk}(S:St F w0 w (PLog g gd l::PW gd s::L))(hz:s.left=0):Calls Tryz.prog 87 #[.pointer (some ⟨g,0,none⟩)] w fun e w'=>e=.returned (.tuple #[.slice none 0 0,.slice none 0 0,.int .i64 3])∧St F w0 w' (PLog g gd l::PW gd s::L):=by
 change St F w0 w (row g (wC_ gd l l.head) 83::PW gd s::L) at S
 refine eN (fr [pq g] 38) Tryz.func87 rfl (sR (pv (nS_) (pv (nS_) (pv (iv 0) (wE (nS (wp_region_phu (γ:=Value) 13 [8] (fun (c_:Value) (i_:Nat)=>(match i_ with|0=>pq g|1=>pq g|2=>pq g|3=>pq gd|4=>pq g|5=>pq g|6=>po g 1|7=>nI_ l.first|8=>.tuple #[c_,iv 3]|9=>.tuple #[c_,iv 3]|10=>c_|11=>iv 3|12=>c_|_=>undef:Value)) (fun (c_:Value) (p_:Nat) (w_:World)=>(match p_ with|0=>St F w0 w_ (row g (wC_ gd l l.head) 83::PW gd s::L)|_=>St F w0 w_ (PW gd s::row g (wC_ gd l l.head) 83::L):Prop)) (undef) kr_ kr_ kr_ kr_ (S.drew) ?_ ?_ ?_)))))))
 ·intro i_ c_ p_ vals_ w1 hi_ hiE_ hp_ hk_ hu_ hPh_ hd_
  rcases i_ with _|_|_|_|_|_|_|_|_|_|_|_|_|i_
  ·exact tG_ rfl hd_ (gV (pq g) ⟨rfl,rfl⟩)
  ·exact tG_ rfl hd_ (gV (pq g) ⟨rfl,rfl⟩)
  ·exact tG_ rfl hd_ (gV (pq g) ⟨rfl,rfl⟩)
  ·rcases p_ with _|_|p_
   ·have S4:=St.id hPh_
    exact tG_ rfl hd_ (gL (pq gd) rfl (((S4.blk 0 rfl).cell 0).trans rfl) ⟨rfl,rfl⟩)
   ·exact absurd (hu_ 0 dc_ kr_) dc_
   ·exact absurd hp_ (by simp)
  ·exact tG_ rfl hd_ (gV (pq g) ⟨rfl,rfl⟩)
  ·exact tG_ rfl hd_ (gV (pq g) ⟨rfl,rfl⟩)
  ·exact tG_ rfl hd_ (gV (po g 1) ⟨rfl,rfl⟩)
  ·rcases p_ with _|_|p_
   ·have S8:=St.id hPh_
    exact tG_ rfl hd_ (gL (nI_ l.first) rfl (((S8.blk 0 rfl).cell 1).trans rfl) ⟨rfl,rfl⟩)
   ·exact absurd (hu_ 0 dc_ kr_) dc_
   ·exact absurd hp_ (by simp)
  ·exact absurd hiE_ dc_
  ·exact tG_ rfl hd_ (gV (.tuple #[c_,iv 3]) ⟨rfl,rfl⟩)
  ·exact tG_ rfl hd_ (gV c_ ⟨rfl,rfl⟩)
  ·exact tG_ rfl hd_ (gV (iv 3) ⟨rfl,rfl⟩)
  ·exact tG_ rfl hd_ (gV c_ ⟨rfl,rfl⟩)
  ·exact absurd hi_ om_
 ·intro k_ c_ vals_ w1 hk_ hPh_ hd_
  rcases k_ with _|k_
  ·have S13:=St.id hPh_
   refine tG_ rfl hd_ (gv_call (args:=#[pq gd,nI_ l.first]) rfl Tryz.func39 kr_ rfl rfl kr_ ?_)
   have S14:=St.pm 2 [1,0] S13
   refine Calls.mono (pw_read_dead S14 hz) ?_
   rintro _ w15 ⟨v17,rfl,S16⟩
   refine ⟨_,rfl,⟨(v17),rfl, ?_,S16⟩⟩
   intro i_ hi_ hne_ hdp_
   rcases i_ with _|_|_|_|_|_|_|_|_|_|_|_|_|i_
   ·rfl
   ·rfl
   ·rfl
   ·rfl
   ·rfl
   ·rfl
   ·rfl
   ·rfl
   ·exact absurd rfl hne_
   ·exact dN_ hdp_
   ·exact dN_ hdp_
   ·exact dN_ hdp_
   ·exact dN_ hdp_
   ·exact absurd hi_ om_
  ·exact absurd hk_ (by simp)
 ·intro c_ w1 hPh_
  have S18:=St.id hPh_
  refine (pv (iv 3) (wE (nS (sR (pv (iv 3) (dN 3 0 (fun _=>wE (nCT (sR (pv (iv 3) (pv (nS_) (pv (nS_) (pv (iv 3) ?_))))))) fun hd19=>False.elim om_))))))
  refine wE (then_n (rR (bodyPost_ret (v:=.tuple #[nS_,nS_,iv 3]) (Go.Vel.results_tmp3 rfl _ _ kr_ kr_ kr_) rfl ?_)))
  have S20:=St.pm 2 [1,0] S18
  exact ⟨rfl,S20⟩
theorem w_pair {g gd:Nat}{l:Lg}{s:Dsk}(S:St F w0 w (PLog g gd l::PW gd s::L))(hl:LOk l)(hz:s.left≠0)(hin:l.first+1<s.last.length):Calls Tryz.prog 87 #[.pointer (some ⟨g,0,none⟩)] w fun e w'=>∃A B,e=.returned (.tuple #[.slice A 512 512,.slice B 512 512,.int .i64 0])∧St F w0 w' (bytesA (.slice A 512 512) (s.now l.first)::bytesA (.slice B 512 512) (s.now (l.first+1))::PLog g gd l::PW gd s::L):=by
 obtain ⟨h1,h2,h3,h4,h5,h6⟩:=hl
 change St F w0 w (row g (wC_ gd l l.head) 83::PW gd s::L) at S
 refine eN (fr [pq g] 38) Tryz.func87 rfl (sR (pv (nS_) (pv (nS_) (pv (iv 0) (wE (nS (wp_region_phu (γ:=Option Addr) 13 [8] (fun (c_:Option Addr) (i_:Nat)=>(match i_ with|0=>pq g|1=>pq g|2=>pq g|3=>pq gd|4=>pq g|5=>pq g|6=>po g 1|7=>nI_ l.first|8=>.tuple #[.slice c_ 512 512,iv 0]|9=>.tuple #[.slice c_ 512 512,iv 0]|10=>.slice c_ 512 512|11=>iv 0|12=>.slice c_ 512 512|_=>undef:Value)) (fun (c_:Option Addr) (p_:Nat) (w_:World)=>(match p_ with|0=>St F w0 w_ (row g (wC_ gd l l.head) 83::PW gd s::L)|_=>St F w0 w_ (bytesA (.slice c_ 512 512) (s.now l.first)::PW gd s::row g (wC_ gd l l.head) 83::L):Prop)) (none) kr_ kr_ kr_ kr_ (S.drew) ?_ ?_ ?_)))))))
 ·intro i_ c_ p_ vals_ w1 hi_ hiE_ hp_ hk_ hu_ hPh_ hd_
  rcases i_ with _|_|_|_|_|_|_|_|_|_|_|_|_|i_
  ·exact tG_ rfl hd_ (gV (pq g) ⟨rfl,rfl⟩)
  ·exact tG_ rfl hd_ (gV (pq g) ⟨rfl,rfl⟩)
  ·exact tG_ rfl hd_ (gV (pq g) ⟨rfl,rfl⟩)
  ·rcases p_ with _|_|p_
   ·have S4:=St.id hPh_
    exact tG_ rfl hd_ (gL (pq gd) rfl (((S4.blk 0 rfl).cell 0).trans rfl) ⟨rfl,rfl⟩)
   ·exact absurd (hu_ 0 dc_ kr_) dc_
   ·exact absurd hp_ (by simp)
  ·exact tG_ rfl hd_ (gV (pq g) ⟨rfl,rfl⟩)
  ·exact tG_ rfl hd_ (gV (pq g) ⟨rfl,rfl⟩)
  ·exact tG_ rfl hd_ (gV (po g 1) ⟨rfl,rfl⟩)
  ·rcases p_ with _|_|p_
   ·have S8:=St.id hPh_
    exact tG_ rfl hd_ (gL (nI_ l.first) rfl (((S8.blk 0 rfl).cell 1).trans rfl) ⟨rfl,rfl⟩)
   ·exact absurd (hu_ 0 dc_ kr_) dc_
   ·exact absurd hp_ (by simp)
  ·exact absurd hiE_ dc_
  ·exact tG_ rfl hd_ (gV (.tuple #[.slice c_ 512 512,iv 0]) ⟨rfl,rfl⟩)
  ·exact tG_ rfl hd_ (gV (.slice c_ 512 512) ⟨rfl,rfl⟩)
  ·exact tG_ rfl hd_ (gV (iv 0) ⟨rfl,rfl⟩)
  ·exact tG_ rfl hd_ (gV (.slice c_ 512 512) ⟨rfl,rfl⟩)
  ·exact absurd hi_ om_
 ·intro k_ c_ vals_ w1 hk_ hPh_ hd_
  rcases k_ with _|k_
  ·have S13:=St.id hPh_
   refine tG_ rfl hd_ (gv_call (args:=#[pq gd,nI_ l.first]) rfl Tryz.func39 kr_ rfl rfl kr_ ?_)
   have S14:=St.pm 2 [1,0] S13
   refine Calls.mono (pw_read (k:=l.first) S14 hz om_) ?_
   rintro _ w15 ⟨m17,rfl,S16⟩
   refine ⟨_,rfl,⟨(m17),rfl, ?_,S16⟩⟩
   intro i_ hi_ hne_ hdp_
   rcases i_ with _|_|_|_|_|_|_|_|_|_|_|_|_|i_
   ·rfl
   ·rfl
   ·rfl
   ·rfl
   ·rfl
   ·rfl
   ·rfl
   ·rfl
   ·exact absurd rfl hne_
   ·exact dN_ hdp_
   ·exact dN_ hdp_
   ·exact dN_ hdp_
   ·exact dN_ hdp_
   ·exact absurd hi_ om_
  ·exact absurd hk_ (by simp)
 ·intro c_ w1 hPh_
  have S18:=St.id hPh_
  refine (pv (iv 0) (wE (nS (sR (pv (iv 0) (dN 0 0 (fun hd19=>False.elim om_) fun _=>wE (nCF (wp_skip (nS (wp_region_phu (γ:=Option Addr) 14 [9] (fun (c2_:Option Addr) (i_:Nat)=>(match i_ with|0=>pq g|1=>pq g|2=>pq g|3=>pq gd|4=>pq g|5=>pq g|6=>po g 1|7=>nI_ l.first|8=>nI_ (l.first+1)|9=>.tuple #[.slice c2_ 512 512,iv 0]|10=>.tuple #[.slice c2_ 512 512,iv 0]|11=>.slice c2_ 512 512|12=>iv 0|13=>.slice c2_ 512 512|_=>undef:Value)) (fun (c2_:Option Addr) (p_:Nat) (w_:World)=>(match p_ with|0=>St F w0 w_ (bytesA (.slice c_ 512 512) (s.now l.first)::PW gd s::row g (wC_ gd l l.head) 83::L)|_=>St F w0 w_ (bytesA (.slice c2_ 512 512) (s.now (l.first+1))::PW gd s::bytesA (.slice c_ 512 512) (s.now l.first)::row g (wC_ gd l l.head) 83::L):Prop)) (none) kr_ kr_ kr_ kr_ (S18.drew) ?_ ?_ ?_))))))))))
  ·intro i_ c2_ p_ vals_ w1 hi_ hiE_ hp_ hk_ hu_ hPh_ hd_
   rcases i_ with _|_|_|_|_|_|_|_|_|_|_|_|_|_|i_
   ·exact tG_ rfl hd_ (gV (pq g) ⟨rfl,rfl⟩)
   ·exact tG_ rfl hd_ (gV (pq g) ⟨rfl,rfl⟩)
   ·exact tG_ rfl hd_ (gV (pq g) ⟨rfl,rfl⟩)
   ·rcases p_ with _|_|p_
    ·have S23:=St.id hPh_
     exact tG_ rfl hd_ (gL (pq gd) rfl (((S23.blk 2 rfl).cell 0).trans rfl) ⟨rfl,rfl⟩)
    ·exact absurd (hu_ 0 dc_ kr_) dc_
    ·exact absurd hp_ (by simp)
   ·exact tG_ rfl hd_ (gV (pq g) ⟨rfl,rfl⟩)
   ·exact tG_ rfl hd_ (gV (pq g) ⟨rfl,rfl⟩)
   ·exact tG_ rfl hd_ (gV (po g 1) ⟨rfl,rfl⟩)
   ·rcases p_ with _|_|p_
    ·have S27:=St.id hPh_
     exact tG_ rfl hd_ (gL (nI_ l.first) rfl (((S27.blk 2 rfl).cell 1).trans rfl) ⟨rfl,rfl⟩)
    ·exact absurd (hu_ 0 dc_ kr_) dc_
    ·exact absurd hp_ (by simp)
   ·exact tG_ rfl hd_ (gv_int (k:=.i64) (z:=IntKind.i64.wrap (((l.first:Nat):Int)+1)) (z':=((l.first+1:Nat):Int)) kr_ wq_ ⟨rfl,rfl⟩)
   ·exact absurd hiE_ dc_
   ·exact tG_ rfl hd_ (gV (.tuple #[.slice c2_ 512 512,iv 0]) ⟨rfl,rfl⟩)
   ·exact tG_ rfl hd_ (gV (.slice c2_ 512 512) ⟨rfl,rfl⟩)
   ·exact tG_ rfl hd_ (gV (iv 0) ⟨rfl,rfl⟩)
   ·exact tG_ rfl hd_ (gV (.slice c2_ 512 512) ⟨rfl,rfl⟩)
   ·exact absurd hi_ om_
  ·intro k_ c2_ vals_ w1 hk_ hPh_ hd_
   rcases k_ with _|k_
   ·have S33:=St.id hPh_
    refine tG_ rfl hd_ (gv_call (args:=#[pq gd,nI_ (l.first+1)]) rfl Tryz.func39 kr_ rfl rfl kr_ ?_)
    have S34:=St.pm 3 [1,0,2] S33
    refine Calls.mono (pw_read (k:=l.first+1) S34 hz om_) ?_
    rintro _ w35 ⟨m37,rfl,S36⟩
    refine ⟨_,rfl,⟨(m37),rfl, ?_,S36⟩⟩
    intro i_ hi_ hne_ hdp_
    rcases i_ with _|_|_|_|_|_|_|_|_|_|_|_|_|_|i_
    ·rfl
    ·rfl
    ·rfl
    ·rfl
    ·rfl
    ·rfl
    ·rfl
    ·rfl
    ·rfl
    ·exact absurd rfl hne_
    ·exact dN_ hdp_
    ·exact dN_ hdp_
    ·exact dN_ hdp_
    ·exact dN_ hdp_
    ·exact absurd hi_ om_
   ·exact absurd hk_ (by simp)
  ·intro c2_ w1 hPh_
   have S38:=St.id hPh_
   refine (pv (iv 0) (wE (nSR (pv (.slice c_ 512 512) (pv (.slice c2_ 512 512) (pv (iv 0) (pv (.slice c_ 512 512) (pv (.slice c2_ 512 512) (pv (iv 0) (wE (then_n (wp_ret (bodyPost_ret (v:=.tuple #[.slice c_ 512 512,.slice c2_ 512 512,iv 0]) (Go.Vel.results_tmp3 rfl _ _ kr_ kr_ kr_) rfl ?_)))))))))))))
   have S39:=St.pm 4 [2,0,3,1] S38
   exact ⟨_,_,rfl,S39⟩
theorem w_anchor_dead {g gd:Nat}{l:Lg}{s:Dsk}(S:St F w0 w (PLog g gd l::PW gd s::L))(hl:LOk l){ep tl:Nat}(hep:ep≤1073741824)(htl:tl<4294967296)(hpn:s.pend.length<4398046511104)(hz:s.left=0):Calls Tryz.prog 53 #[.pointer (some ⟨g,0,none⟩),.int .i64 (ep:Nat),.int .i64 (tl:Nat)] w fun e w'=>e=.returned (.int .i64 (renewR s l.first (ep*4294967296+tl)).2)∧St F w0 w' (PLog g gd (if (renewR s l.first (ep*4294967296+tl)).2=0 then {l with epoch:=ep,tail:=tl} else l)::PW gd ((renewR s l.first (ep*4294967296+tl)).1)::L):=by
 rw [renewR_dead hz]
 change St F w0 w (row g (wC_ gd l l.head) 83::PW gd s::L) at S
 refine eN (fr [pq g,nI_ ep,nI_ tl] 64) Tryz.func53 rfl (sR (pv (iv 0) (wER (pv (pq g) (sP Tryz.func87 #[pq g] (w_pair_dead S hz) fun w1 S2=>pv (.tuple #[nS_,nS_,iv 3]) (pv (nS_) (pv (nS_) (pv (iv 3) (pv (nS_) (pv (nS_) (pv (iv 3) (wE ?_))))))))))))
 exact nS (sR (pv (iv 3) (dN 3 0 (fun _=>wE (nCT (sR (pv (iv 3) (pv (iv 3) (wE (then_n (rR (bA (iv 3) ⟨rfl,S2⟩))))))))) fun hd3=>False.elim om_)))
theorem w_anchor_go {g gd:Nat}{l:Lg}{s:Dsk}(S:St F w0 w (PLog g gd l::PW gd s::L))(hl:LOk l){ep tl:Nat}(hep:ep≤1073741824)(htl:tl<4294967296)(hpn:s.pend.length<4398046511104)(hz:s.left≠0)(hin:l.first+1<s.last.length)(hren:(renewF (s.now l.first) (s.now (l.first+1)) ((ep*4294967296+tl:Nat):Int) []).2.2=0):Calls Tryz.prog 53 #[.pointer (some ⟨g,0,none⟩),.int .i64 (ep:Nat),.int .i64 (tl:Nat)] w fun e w'=>e=.returned (.int .i64 (renewR s l.first (ep*4294967296+tl)).2)∧St F w0 w' (PLog g gd (if (renewR s l.first (ep*4294967296+tl)).2=0 then {l with epoch:=ep,tail:=tl} else l)::PW gd ((renewR s l.first (ep*4294967296+tl)).1)::L):=by
 have hok:=St.pw_ok S.tail
 have ha5:=hok.now (k:=l.first) om_
 have hb5:=hok.now (k:=l.first+1) hin
 obtain ⟨hq1,hq5⟩:=renew_ok ha5 hb5 hren
 rw [renewR_go hz hin hq1 hq5]
 unfold Dsk.anch
 obtain ⟨q,hq⟩:∃q,renewF (s.now l.first) (s.now (l.first+1)) ((ep*4294967296+tl:Nat):Int) []=q:=⟨_,rfl⟩
 have hn2:=hok.n2
 rw [hq] at hq1 hq5 hren ⊢
 obtain ⟨s1,hs1⟩:∃s1,s.wrote (l.first+q.1) q.2.1=s1:=⟨_,rfl⟩
 rw [hs1]
 change St F w0 w (row g (wC_ gd l l.head) 83::PW gd s::L) at S
 refine eN (fr [pq g,nI_ ep,nI_ tl] 64) Tryz.func53 rfl (sR (pv (iv 0) (wER (pv (pq g) (sP2 Tryz.func87 #[pq g] (w_pair S hl hz hin) fun A7 B7 w1 S2=>pv (.tuple #[.slice A7 512 512,.slice B7 512 512,iv 0]) (pv (.slice A7 512 512) (pv (.slice B7 512 512) (pv (iv 0) (pv (.slice A7 512 512) (pv (.slice B7 512 512) (pv (iv 0) (wE ?_))))))))))))
 refine nS (sR (pv (iv 0) (dN 0 0 (fun hd3=>False.elim om_) fun _=>wE (nCF (wp_skip (nSR (pv (.slice A7 512 512) (pv (.slice B7 512 512) (pv (nI_ ep) (g_ (gv_shl (k:=.i64) (yk:=.u64) (z:=((ep:Nat):Int)) (i:=32) (j:=32) (z':=((ep*4294967296:Nat):Int)) rfl kr_ kr_ rfl dc_ wq_ (pv (nI_ tl) (gI .i64 (IntKind.i64.wrap (((ep*4294967296:Nat):Int)+((tl:Nat):Int))) ((ep*4294967296+tl:Nat):Int) wq_ ?_)))))))))))))
 refine g_ (gv_call (args:=#[.slice A7 512 512,.slice B7 512 512,nI_ (ep*4294967296+tl),nS_]) rfl Tryz.func88 kr_ rfl rfl kr_ ?_)
 have hrn:=ps_renew0 (ca:=512) (cb:=512) S2 (a:=s.now l.first) (b:=s.now (l.first+1)) (no:=((ep*4294967296+tl:Nat):Int)) ha5.symm hb5.symm (RoT.bytes 0 rfl rfl) (RoT.bytes 1 rfl rfl) om_ om_ om_ (by rw [hq];exact hren) (by rw [hq];exact hq5)
 rw [hq] at hrn
 refine Calls.mono hrn ?_
 rintro _ w4 ⟨A8,c8,rfl,S5⟩
 refine ⟨_,rfl,(pv (.tuple #[iv (q.1:Int),.slice A8 512 c8,iv 0]) (pv (iv (q.1:Int)) (pv (.slice A8 512 c8) (pv (iv 0) (pv (iv (q.1:Int)) (pv (.slice A8 512 c8) (pv (iv 0) (wE (nS (sR (pv (iv 0) (dN 0 0 (fun hd6=>False.elim om_) fun _=>wE ?_))))))))))))⟩
 refine nCF (wp_skip (nS (wp_seq (wp_region_phu (γ:=Unit) 12 [11] (fun (c_:Unit) (i_:Nat)=>(match i_ with|0=>pq g|1=>pq g|2=>pq g|3=>pq gd|4=>pq g|5=>pq g|6=>po g 1|7=>nI_ l.first|8=>iv (q.1:Int)|9=>nI_ (l.first+q.1)|10=>.slice A8 512 c8|11=>iv 0|_=>undef:Value)) (fun (c_:Unit) (p_:Nat) (w_:World)=>(match p_ with|0=>St F w0 w_ (bytesX (.slice A8 512 c8) q.2.1::bytesA (.slice A7 512 512) (s.now l.first)::bytesA (.slice B7 512 512) (s.now (l.first+1))::row g (wC_ gd l l.head) 83::PW gd s::L)|_=>St F w0 w_ (PW gd s1::bytesX (.slice A8 512 c8) q.2.1::bytesA (.slice A7 512 512) (s.now l.first)::bytesA (.slice B7 512 512) (s.now (l.first+1))::row g (wC_ gd l l.head) 83::L):Prop)) () kr_ kr_ kr_ kr_ (S5.drew) ?_ ?_ ?_))))
 ·intro i_ c_ p_ vals_ w1 hi_ hiE_ hp_ hk_ hu_ hPh_ hd_
  rcases i_ with _|_|_|_|_|_|_|_|_|_|_|_|i_
  ·exact tG_ rfl hd_ (gV (pq g) ⟨rfl,rfl⟩)
  ·exact tG_ rfl hd_ (gV (pq g) ⟨rfl,rfl⟩)
  ·exact tG_ rfl hd_ (gV (pq g) ⟨rfl,rfl⟩)
  ·rcases p_ with _|_|p_
   ·have S10:=St.id hPh_
    exact tG_ rfl hd_ (gL (pq gd) rfl (((S10.blk 3 rfl).cell 0).trans rfl) ⟨rfl,rfl⟩)
   ·exact absurd (hu_ 0 dc_ kr_) dc_
   ·exact absurd hp_ (by simp)
  ·exact tG_ rfl hd_ (gV (pq g) ⟨rfl,rfl⟩)
  ·exact tG_ rfl hd_ (gV (pq g) ⟨rfl,rfl⟩)
  ·exact tG_ rfl hd_ (gV (po g 1) ⟨rfl,rfl⟩)
  ·rcases p_ with _|_|p_
   ·have S14:=St.id hPh_
    exact tG_ rfl hd_ (gL (nI_ l.first) rfl (((S14.blk 3 rfl).cell 1).trans rfl) ⟨rfl,rfl⟩)
   ·exact absurd (hu_ 0 dc_ kr_) dc_
   ·exact absurd hp_ (by simp)
  ·exact tG_ rfl hd_ (gV (iv (q.1:Int)) ⟨rfl,rfl⟩)
  ·exact tG_ rfl hd_ (gv_int (k:=.i64) (z:=IntKind.i64.wrap (((l.first:Nat):Int)+(q.1:Int))) (z':=((l.first+q.1:Nat):Int)) kr_ wq_ ⟨rfl,rfl⟩)
  ·exact tG_ rfl hd_ (gV (.slice A8 512 c8) ⟨rfl,rfl⟩)
  ·exact absurd hiE_ dc_
  ·exact absurd hi_ om_
 ·intro k_ c_ vals_ w1 hk_ hPh_ hd_
  rcases k_ with _|k_
  ·have S18:=St.id hPh_
   refine tG_ rfl hd_ (gv_call (args:=#[pq gd,nI_ (l.first+q.1),.slice A8 512 c8]) rfl Tryz.func51 kr_ rfl rfl kr_ ?_)
   have S19:St F w0 w1 (PW gd s::bytesX (.slice A8 512 c8) q.2.1::bytesA (.slice A7 512 512) (s.now l.first)::bytesA (.slice B7 512 512) (s.now (l.first+1))::row g (wC_ gd l l.head) 83::L):=St.pm 5 [4,0,1,2,3] S18
   refine Calls.mono (pw_write_go (k:=l.first+q.1) S19 (RoT.bytesX 0 rfl rfl) hq5.symm hq5 hz om_ hpn) ?_
   rintro _ w20 ⟨rfl,S21⟩
   refine ⟨_,rfl, ?_⟩
   rw [hs1] at S21
   refine ⟨(),rfl, ?_,S21⟩
   intro i_ hi_ hne_ hdp_
   rcases i_ with _|_|_|_|_|_|_|_|_|_|_|_|i_
   ·rfl
   ·rfl
   ·rfl
   ·rfl
   ·rfl
   ·rfl
   ·rfl
   ·rfl
   ·rfl
   ·rfl
   ·rfl
   ·exact absurd rfl hne_
   ·exact absurd hi_ om_
  ·exact absurd hk_ (by simp)
 ·intro c_ w1 hPh_
  have S22:=St.id hPh_
  refine (pv (iv 0) (wE ?_))
  refine nSR (pv (iv 0) (dN 0 0 (fun hd23=>False.elim om_) fun _=>wE (nCF (wp_skip (nS (sR (pv (pq g) (pv (pq g) (pv (pq g) (lR (pq gd) S22 4 0 (sP Tryz.func52 #[pq gd] (pw_flush S22) fun w24 S25=>pv (iv s1.flushR.2) ?_)))))))))))
  refine wER (pv (iv s1.flushR.2) (dN s1.flushR.2 0 (fun hfl=> ?_) fun hfl=> ?_))
  ·refine wE (nCT (sR (pv (iv s1.flushR.2) (pv (iv s1.flushR.2) (wE (then_n (rR (bA (iv s1.flushR.2) ?_))))))))
   have S26:=St.pm 5 [4,0] S25
   rw [if_neg hfl]
   exact ⟨rfl,S26⟩
  ·refine wE (nCF (wp_skip (nSR (pv (pq g) (pv (pq g) (pv (nI_ ep) (pv (nI_ tl) (pv (pq g) (pv (po g 4) (sS S25 4 rfl 4 (nI_ ep) fun w27 S28=>pv (pq g) (pv (po g 6) (sS S28 4 rfl 6 (nI_ tl) fun w29 S30=> ?_))))))))))))
   refine wER (pv (iv 0) (wE (then_n (wp_ret (bA (iv 0) ?_)))))
   have S31:=St.pm 5 [4,0] S30
   rw [if_pos hfl,hfl]
   exact ⟨rfl,S31⟩
theorem w_anchor {g gd:Nat}{l:Lg}{s:Dsk}(S:St F w0 w (PLog g gd l::PW gd s::L))(hl:LOk l){ep tl:Nat}(hep:ep≤1073741824)(htl:tl<4294967296)(hpn:s.pend.length<4398046511104)(hin:s.left≠0→l.first+1<s.last.length)(hren:s.left≠0→(renewF (s.now l.first) (s.now (l.first+1)) ((ep*4294967296+tl:Nat):Int) []).2.2=0):Calls Tryz.prog 53 #[.pointer (some ⟨g,0,none⟩),.int .i64 (ep:Nat),.int .i64 (tl:Nat)] w fun e w'=>e=.returned (.int .i64 (renewR s l.first (ep*4294967296+tl)).2)∧St F w0 w' (PLog g gd (if (renewR s l.first (ep*4294967296+tl)).2=0 then {l with epoch:=ep,tail:=tl} else l)::PW gd ((renewR s l.first (ep*4294967296+tl)).1)::L):=by
 by_cases hz:s.left=0
 ·exact w_anchor_dead S hl hep htl hpn hz
 ·exact w_anchor_go S hl hep htl hpn hz (hin hz) (hren hz)
end
end Go.Proofs
end
