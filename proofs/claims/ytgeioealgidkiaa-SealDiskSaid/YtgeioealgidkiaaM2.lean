/- Part 2 of 3 of what the proof stands on: the words, the laws of the walk, the walks, the plain laws; each section is one text. -/
import Derived.Test.YtgeioealgidkiaaM1
import Derived.Shelf.Sort.Plain
import Derived.Shelf.Slices.In.SortNone
section
open Go Go.RowKit Go.Proofs.YtgeioealgidkiaaW.PrintWords Go.Proofs.YtgeioealgidkiaaW.PrintMore
namespace Go.Proofs
open Go.Vel
def newestF (l r:List UInt8):Nat×Nat×List UInt8×Nat:=
 if l.length=512∧r.length=512 then
  if (readF l).1=0∧(readF r).1=0 then (0,0,[],30) else if (readF l).1<(readF r).1 then (1,(readF r).1,(readF r).2,0) else (0,(readF l).1,(readF l).2,0)
 else (0,0,[],2)
def Ret4 (a b:Int)(d:List Int)(n:Int)(w:World)(e:Ending)(w':World):Prop:=
 ∃v:Value,e=.returned (.tuple #[.int .i64 a,.int .i64 b,v,.int .i64 n])∧Kd.V (Kd.int .u8) 5 w' w.heap.size (fun k_=>(w.heap.size≤k_)) v d∧Below w.heap.size w w'
theorem results_tmp4 {P:Program}{fn:Func}{p q r t:Tmp}(h:fn.results=#[.tmp p,.tmp q,.tmp r,.tmp t])(tmps:Array Value)(w:World){a b c d:Value}(ha:tmps.getD p undef=a)(hb:tmps.getD q undef=b)(hc:tmps.getD r undef=c)(hd:tmps.getD t undef=d):
  (results fn tmps).run P w=.ok (.tuple #[a,b,c,d]) w:=by
 have ha':tmps[p]?.getD undef=a:=by simpa using ha
 have hb':tmps[q]?.getD undef=b:=by simpa using hb
 have hc':tmps[r]?.getD undef=c:=by simpa using hc
 have hd':tmps[t]?.getD undef=d:=by simpa using hd
 simp [results,h,ha',hb',hc',hd']
theorem fld0 (g k:Nat)(w:World):((Instr.fieldAt 193 (.pointer (some ⟨g,k,none⟩)) 0).run Try.prog w).andThen (fun a w'=>.ok (.value a) w')=.ok (Next.value (.pointer (some ⟨g,k,none⟩))) w:=by
 simp [Instr.fieldAt,run_underlying Try.underlying193,Instr.sureAddr,fieldPlace,Addr.add_lit]
theorem fld1 (g k:Nat)(w:World):((Instr.fieldAt 193 (.pointer (some ⟨g,k,none⟩)) 1).run Try.prog w).andThen (fun a w'=>.ok (.value a) w')=.ok (Next.value (.pointer (some ⟨g,k+1,none⟩))) w:=by
 simp [Instr.fieldAt,run_underlying Try.underlying193,Instr.sureAddr,fieldPlace,Addr.add_lit]
set_option maxHeartbeats 1000000 in
set_option maxRecDepth 100000 in
theorem newest_any (w:World)(A0:Option Addr)(c0:Nat)(l:List UInt8)(A1:Option Addr)(c1:Nat)(r:List UInt8)(hr0:Kd.C (Kd.int .u8) w A0 (ofB l).length (ofB l))(hr1:Kd.C (Kd.int .u8) w A1 (ofB r).length (ofB r)):
  Calls Try.prog 98 #[.slice A0 (ofB l).length c0,.slice A1 (ofB r).length c1] w (Ret4 (newestF l r).1 (newestF l r).2.1 (ofB (newestF l r).2.2.1) (newestF l r).2.2.2 w):=by
 have HP:=Aside0.mk (pair_any w A0 c0 l A1 c1 r hr0 hr1)
 clear hr0 hr1
 by_cases h:l.length=512∧r.length=512
 ·have e0:RetPair l r w=fun e w'=>∃v0 v1:Value,e=.returned (.tuple #[.agg #[.int .i64 (readF l).1,v0,.int .i64 (readF r).1,v1],.int .i64 (slotF (readF l).1 (readF r).1),.int .i64 0])∧isV w' w v0 (readF l).2∧isV w' w v1 (readF r).2∧Below w.heap.size w w':=by
   funext e w';unfold RetPair;rw [if_pos h]
  rw [e0] at HP
  obtain ⟨m,hm⟩:∃m,m=(readF l).1:=⟨_,rfl⟩
  obtain ⟨n,hn⟩:∃n,n=(readF r).1:=⟨_,rfl⟩
  by_cases hz:m=0∧n=0
  ·have eF:newestF l r=(0,0,[],30):=by unfold newestF;rw [if_pos h,←hm,←hn,if_pos hz]
   have eS:slotF (readF l).1 (readF r).1= -1:=by rw [←hm,←hn];simp [slotF,hz]
   rw [eF]
   rw [eS] at HP
   clear eF eS hz hm hn e0
   go_enter Try.func98,Try.ntmps98
   go_wp2_with (first
    |(go_at_call 136;refine HP.out.mono ?_;rintro e w1 ⟨v0,v1,rfl,hv0,hv1,hb⟩;have HV0:=Aside0.mk hv0;have HV1:=Aside0.mk hv1;obtain ⟨A2,c2,rfl,_,_⟩:=V_slice hv0;obtain ⟨A3,c3,rfl,_,_⟩:=V_slice hv1;have HB1:=Aside0.mk hb;clear hv0 hv1 hb)
    |(refine wl_alloc rfl rfl aggPair ?_;intro g w2 hB hg hw;have HB:=Aside0.mk hB;have HW:=Aside0.mk hw;clear hB hw)
    |(refine wl_store_row rfl rfl aggPair rfl rfl HB.out rfl rfl (by intro v hv;simp at hv;rcases hv with rfl|rfl|rfl|rfl<;>rfl) ?_;intro w4 hB4 hO4;have HB4:=Aside0.mk hB4;have HO4:=Aside0.mk hO4;have hc0:=hB4.cell 0;have hc1:=hB4.cell 1;have hc2:=hB4.cell 2;have hc3:=hB4.cell 3;simp at hc0 hc1 hc2 hc3;clear hB4 hO4))
   exact bodyPost_ret (v:=.tuple #[.int .i64 0,.int .i64 0,.slice none 0 0,.int .i64 30]) (results_tmp4 rfl _ _ rfl rfl rfl rfl) rfl ⟨_,rfl,V_nil,(HB1.out.trans (HW.out.mono HB1.out.size)).trans (HO4.out.below (Nat.le_trans HB1.out.size hg))⟩
  ·by_cases hlt:m<n
   ·have eF:newestF l r=(1,n,(readF r).2,0):=by unfold newestF;rw [if_pos h,←hm,←hn,if_neg hz,if_pos hlt]
    have eS:slotF (readF l).1 (readF r).1=1:=by rw [←hm,←hn];simp only [slotF];rw [if_neg hz,if_pos hlt]
    rw [eF]
    rw [eS,←hm,←hn] at HP
    clear eF eS hz hm hn e0 hlt
    go_enter Try.func98,Try.ntmps98
    go_wp2_with (first
     |(go_at_call 136;refine HP.out.mono ?_;rintro e w1 ⟨v0,v1,rfl,hv0,hv1,hb⟩;have HV0:=Aside0.mk hv0;have HV1:=Aside0.mk hv1;obtain ⟨A2,c2,rfl,_,_⟩:=V_slice hv0;obtain ⟨A3,c3,rfl,_,_⟩:=V_slice hv1;have HB1:=Aside0.mk hb;clear hv0 hv1 hb)
     |(refine wl_alloc rfl rfl aggPair ?_;intro g w2 hB hg hw;have HB:=Aside0.mk hB;have HW:=Aside0.mk hw;clear hB hw)
     |(refine wl_store_row rfl rfl aggPair rfl rfl HB.out rfl rfl (by intro v hv;simp at hv;rcases hv with rfl|rfl|rfl|rfl<;>rfl) ?_;intro w4 hB4 hO4;have HB4:=Aside0.mk hB4;have HO4:=Aside0.mk hO4;have hc0:=hB4.cell 0;have hc1:=hB4.cell 1;have hc2:=hB4.cell 2;have hc3:=hB4.cell 3;simp at hc0 hc1 hc2 hc3;clear hB4 hO4))
    refine wp_region_told 13 (fun w3=>Below w4.heap.size w4 w3) (ListS [.int .i64 1,.int .i64 1,.pointer (some ⟨g,2,none⟩),.pointer (some ⟨g,2,none⟩),.int .i64 (n:Int),.int .i64 1,.pointer (some ⟨g,2,none⟩),.pointer (some ⟨g,3,none⟩),.slice A3 (ofB (readF r).2).length c3,.int .i64 1,.int .i64 (n:Int),.slice A3 (ofB (readF r).2).length c3,.int .i64 0]) kr_ kr_ kr_ (Below.refl _ _).drew (fun _ _ _ _ _ h=>h) ?_ ?_
    ·intro i vals w1 hi hc hd
     have D:∀k,waitsAt _ i k=true→vals k=_:=fun k hw=>hd k hw
     rcases i with _|_|_|_|_|_|_|_|_|_|_|_|_|i
     rotate_right 1
     ·exact absurd hi (Nat.not_lt.2 (Nat.le_add_left 13 i))
     ·exact StepOK.move (x:=.tmp 9) (.free kr_) hc ((look_miss kr_ kr_).trans rfl) rfl
     ·exact StepOK.move (x:=.tmp 9) (.free kr_) hc ((look_miss kr_ kr_).trans rfl) rfl
     ·exact StepOK.atArrN (T:=194) (x:=.tmp 8) (y:=.tmp 26) (k:=1) (sz:=2) (g:=g) (.free kr_) hc kr_ kr_ ((look_miss kr_ kr_).trans rfl) ((look_hit (k:=1) kr_ kr_).trans (D 1 kr_)) kr_ rfl
     ·exact StepOK.fieldP (T:=193) (x:=.tmp 27) (f:=0) (g:=g) (k:=2) (k':=2) (.free kr_) hc ((look_hit (k:=2) kr_ kr_).trans (D 2 kr_)) (fld0 g 2 w1) rfl
     ·exact StepOK.load (T:=3) (x:=.tmp 28) (.free kr_) hc rfl Try.underlying3 ((look_hit (k:=3) kr_ kr_).trans (D 3 kr_)) (cell_below hc hc2) rfl
     ·exact StepOK.move (x:=.tmp 9) (.free kr_) hc ((look_miss kr_ kr_).trans rfl) rfl
     ·exact StepOK.atArrN (T:=194) (x:=.tmp 8) (y:=.tmp 30) (k:=1) (sz:=2) (g:=g) (.free kr_) hc kr_ kr_ ((look_miss kr_ kr_).trans rfl) ((look_hit (k:=5) kr_ kr_).trans (D 5 kr_)) kr_ rfl
     ·exact StepOK.fieldP (T:=193) (x:=.tmp 31) (f:=1) (g:=g) (k:=2) (k':=3) (.free kr_) hc ((look_hit (k:=6) kr_ kr_).trans (D 6 kr_)) (fld1 g 2 w1) rfl
     ·exact StepOK.load (T:=31) (x:=.tmp 32) (.free kr_) hc rfl Try.underlying31 ((look_hit (k:=7) kr_ kr_).trans (D 7 kr_)) (cell_below hc hc3) rfl
     ·exact StepOK.assign (x:=.tmp 25) (.free kr_) hc ((look_hit (k:=0) kr_ kr_).trans (D 0 kr_)) rfl
     ·exact StepOK.assign (x:=.tmp 29) (.free kr_) hc ((look_hit (k:=4) kr_ kr_).trans (D 4 kr_)) rfl
     ·exact StepOK.assign (x:=.tmp 33) (.free kr_) hc ((look_hit (k:=8) kr_ kr_).trans (D 8 kr_)) rfl
     ·exact StepOK.assign (x:=.const (.int .i64 0)) (.free kr_) hc (look_const kr_) rfl
    ·intro vals w3 hc hS
     have f4:vals 9=.int .i64 1:=hS 9 dc_
     have f5:vals 10=.int .i64 (n:Int):=hS 10 dc_
     have f6:vals 11=.slice A3 (ofB (readF r).2).length c3:=hS 11 dc_
     have f7:vals 12=.int .i64 0:=hS 12 dc_
     refine wl_frame ⟨#[.slice A0 (ofB l).length c0,.slice A1 (ofB r).length c1,undef,undef,vals 9,vals 10,vals 11,vals 12,.pointer (some ⟨g,0,none⟩),.int .i64 1,.int .i64 0,.tuple #[.agg #[.int .i64 (m:Int),.slice A2 (ofB (readF l).2).length c2,.int .i64 (n:Int),.slice A3 (ofB (readF r).2).length c3],.int .i64 1,.int .i64 0],.slice A0 (ofB l).length c0,.slice A1 (ofB r).length c1,.tuple #[.agg #[.int .i64 (m:Int),.slice A2 (ofB (readF l).2).length c2,.int .i64 (n:Int),.slice A3 (ofB (readF r).2).length c3],.int .i64 1,.int .i64 0],.agg #[.int .i64 (m:Int),.slice A2 (ofB (readF l).2).length c2,.int .i64 (n:Int),.slice A3 (ofB (readF r).2).length c3],.int .i64 1,.int .i64 0,.bool false,.int .i64 0,.bool false,undef,.bool false,.int .i64 1,.bool false,vals 0,vals 1,vals 2,vals 3,vals 4,vals 5,vals 6,vals 7,vals 8],[]⟩ kr_ ?_
     rw [f4,f5,f6,f7]
     go_wp2
     refine bodyPost_ret (v:=.tuple #[.int .i64 1,.int .i64 (n:Int),.slice A3 (ofB (readF r).2).length c3,.int .i64 0]) (results_tmp4 rfl _ _ rfl rfl rfl rfl) rfl ?_
     ·exact ⟨_,rfl,V_move HV1.out (fun k hk hlt=>⟨hk,by have h1:=HW.out.size;have h2:=HO4.out.size;have h3:=hc.size;omega,by rw [hc.block k (by have h1:=HW.out.size;have h2:=HO4.out.size;omega),HO4.out.block k om_,HW.out.block k hlt]⟩),((HB1.out.trans (HW.out.mono HB1.out.size)).trans (HO4.out.below (Nat.le_trans HB1.out.size hg))).trans (hc.mono (by have h0:=HB1.out.size;have h1:=HW.out.size;have h2:=HO4.out.size;omega))⟩
   ·have eF:newestF l r=(0,m,(readF l).2,0):=by unfold newestF;rw [if_pos h,←hm,←hn,if_neg hz,if_neg hlt]
    have eS:slotF (readF l).1 (readF r).1=0:=by rw [←hm,←hn];simp only [slotF];rw [if_neg hz,if_neg hlt]
    rw [eF]
    rw [eS,←hm,←hn] at HP
    clear eF eS hz hm hn e0 hlt
    go_enter Try.func98,Try.ntmps98
    go_wp2_with (first
     |(go_at_call 136;refine HP.out.mono ?_;rintro e w1 ⟨v0,v1,rfl,hv0,hv1,hb⟩;have HV0:=Aside0.mk hv0;have HV1:=Aside0.mk hv1;obtain ⟨A2,c2,rfl,_,_⟩:=V_slice hv0;obtain ⟨A3,c3,rfl,_,_⟩:=V_slice hv1;have HB1:=Aside0.mk hb;clear hv0 hv1 hb)
     |(refine wl_alloc rfl rfl aggPair ?_;intro g w2 hB hg hw;have HB:=Aside0.mk hB;have HW:=Aside0.mk hw;clear hB hw)
     |(refine wl_store_row rfl rfl aggPair rfl rfl HB.out rfl rfl (by intro v hv;simp at hv;rcases hv with rfl|rfl|rfl|rfl<;>rfl) ?_;intro w4 hB4 hO4;have HB4:=Aside0.mk hB4;have HO4:=Aside0.mk hO4;have hc0:=hB4.cell 0;have hc1:=hB4.cell 1;have hc2:=hB4.cell 2;have hc3:=hB4.cell 3;simp at hc0 hc1 hc2 hc3;clear hB4 hO4))
    refine wp_region_told 13 (fun w3=>Below w4.heap.size w4 w3) (ListS [.int .i64 0,.int .i64 0,.pointer (some ⟨g,0,none⟩),.pointer (some ⟨g,0,none⟩),.int .i64 (m:Int),.int .i64 0,.pointer (some ⟨g,0,none⟩),.pointer (some ⟨g,1,none⟩),.slice A2 (ofB (readF l).2).length c2,.int .i64 0,.int .i64 (m:Int),.slice A2 (ofB (readF l).2).length c2,.int .i64 0]) kr_ kr_ kr_ (Below.refl _ _).drew (fun _ _ _ _ _ h=>h) ?_ ?_
    ·intro i vals w1 hi hc hd
     have D:∀k,waitsAt _ i k=true→vals k=_:=fun k hw=>hd k hw
     rcases i with _|_|_|_|_|_|_|_|_|_|_|_|_|i
     rotate_right 1
     ·exact absurd hi (Nat.not_lt.2 (Nat.le_add_left 13 i))
     ·exact StepOK.move (x:=.tmp 9) (.free kr_) hc ((look_miss kr_ kr_).trans rfl) rfl
     ·exact StepOK.move (x:=.tmp 9) (.free kr_) hc ((look_miss kr_ kr_).trans rfl) rfl
     ·exact StepOK.atArrN (T:=194) (x:=.tmp 8) (y:=.tmp 26) (k:=0) (sz:=2) (g:=g) (.free kr_) hc kr_ kr_ ((look_miss kr_ kr_).trans rfl) ((look_hit (k:=1) kr_ kr_).trans (D 1 kr_)) kr_ rfl
     ·exact StepOK.fieldP (T:=193) (x:=.tmp 27) (f:=0) (g:=g) (k:=0) (k':=0) (.free kr_) hc ((look_hit (k:=2) kr_ kr_).trans (D 2 kr_)) (fld0 g 0 w1) rfl
     ·exact StepOK.load (T:=3) (x:=.tmp 28) (.free kr_) hc rfl Try.underlying3 ((look_hit (k:=3) kr_ kr_).trans (D 3 kr_)) (cell_below hc hc0) rfl
     ·exact StepOK.move (x:=.tmp 9) (.free kr_) hc ((look_miss kr_ kr_).trans rfl) rfl
     ·exact StepOK.atArrN (T:=194) (x:=.tmp 8) (y:=.tmp 30) (k:=0) (sz:=2) (g:=g) (.free kr_) hc kr_ kr_ ((look_miss kr_ kr_).trans rfl) ((look_hit (k:=5) kr_ kr_).trans (D 5 kr_)) kr_ rfl
     ·exact StepOK.fieldP (T:=193) (x:=.tmp 31) (f:=1) (g:=g) (k:=0) (k':=1) (.free kr_) hc ((look_hit (k:=6) kr_ kr_).trans (D 6 kr_)) (fld1 g 0 w1) rfl
     ·exact StepOK.load (T:=31) (x:=.tmp 32) (.free kr_) hc rfl Try.underlying31 ((look_hit (k:=7) kr_ kr_).trans (D 7 kr_)) (cell_below hc hc1) rfl
     ·exact StepOK.assign (x:=.tmp 25) (.free kr_) hc ((look_hit (k:=0) kr_ kr_).trans (D 0 kr_)) rfl
     ·exact StepOK.assign (x:=.tmp 29) (.free kr_) hc ((look_hit (k:=4) kr_ kr_).trans (D 4 kr_)) rfl
     ·exact StepOK.assign (x:=.tmp 33) (.free kr_) hc ((look_hit (k:=8) kr_ kr_).trans (D 8 kr_)) rfl
     ·exact StepOK.assign (x:=.const (.int .i64 0)) (.free kr_) hc (look_const kr_) rfl
    ·intro vals w3 hc hS
     have f4:vals 9=.int .i64 0:=hS 9 dc_
     have f5:vals 10=.int .i64 (m:Int):=hS 10 dc_
     have f6:vals 11=.slice A2 (ofB (readF l).2).length c2:=hS 11 dc_
     have f7:vals 12=.int .i64 0:=hS 12 dc_
     refine wl_frame ⟨#[.slice A0 (ofB l).length c0,.slice A1 (ofB r).length c1,undef,undef,vals 9,vals 10,vals 11,vals 12,.pointer (some ⟨g,0,none⟩),.int .i64 0,.int .i64 0,.tuple #[.agg #[.int .i64 (m:Int),.slice A2 (ofB (readF l).2).length c2,.int .i64 (n:Int),.slice A3 (ofB (readF r).2).length c3],.int .i64 0,.int .i64 0],.slice A0 (ofB l).length c0,.slice A1 (ofB r).length c1,.tuple #[.agg #[.int .i64 (m:Int),.slice A2 (ofB (readF l).2).length c2,.int .i64 (n:Int),.slice A3 (ofB (readF r).2).length c3],.int .i64 0,.int .i64 0],.agg #[.int .i64 (m:Int),.slice A2 (ofB (readF l).2).length c2,.int .i64 (n:Int),.slice A3 (ofB (readF r).2).length c3],.int .i64 0,.int .i64 0,.bool false,.int .i64 0,.bool false,undef,.bool false,.int .i64 0,.bool false,vals 0,vals 1,vals 2,vals 3,vals 4,vals 5,vals 6,vals 7,vals 8],[]⟩ kr_ ?_
     rw [f4,f5,f6,f7]
     go_wp2
     refine bodyPost_ret (v:=.tuple #[.int .i64 0,.int .i64 (m:Int),.slice A2 (ofB (readF l).2).length c2,.int .i64 0]) (results_tmp4 rfl _ _ rfl rfl rfl rfl) rfl ?_
     ·exact ⟨_,rfl,V_move HV0.out (fun k hk hlt=>⟨hk,by have h1:=HW.out.size;have h2:=HO4.out.size;have h3:=hc.size;omega,by rw [hc.block k (by have h1:=HW.out.size;have h2:=HO4.out.size;omega),HO4.out.block k om_,HW.out.block k hlt]⟩),((HB1.out.trans (HW.out.mono HB1.out.size)).trans (HO4.out.below (Nat.le_trans HB1.out.size hg))).trans (hc.mono (by have h0:=HB1.out.size;have h1:=HW.out.size;have h2:=HO4.out.size;omega))⟩
 ·have e0:RetPair l r w=fun e w'=>e=.returned (.tuple #[.agg zPair,.int .i64 (-1),.int .i64 2])∧Below w.heap.size w w':=by
   funext e w';unfold RetPair;rw [if_neg h]
  rw [e0] at HP
  have eF:newestF l r=(0,0,[],2):=by unfold newestF;rw [if_neg h]
  rw [eF]
  clear eF e0 h
  go_enter Try.func98,Try.ntmps98
  go_wp2_with (first
   |(go_at_call 136;refine HP.out.mono ?_;rintro e w1 ⟨rfl,hb⟩;have HB1:=Aside0.mk hb;clear hb)
   |(refine wl_alloc rfl rfl aggPair ?_;intro g w2 hB hg hw;have HB:=Aside0.mk hB;have HW:=Aside0.mk hw;clear hB hw)
   |(refine wl_store_row rfl rfl aggPair rfl rfl HB.out rfl rfl dc_ ?_;intro w4 hB4 hO4;have HB4:=Aside0.mk hB4;have HO4:=Aside0.mk hO4;clear hB4 hO4))
  exact bodyPost_ret (v:=.tuple #[.int .i64 0,.int .i64 0,.slice none 0 0,.int .i64 2]) (results_tmp4 rfl _ _ rfl rfl rfl rfl) rfl ⟨_,rfl,V_nil,(HB1.out.trans (HW.out.mono HB1.out.size)).trans (HO4.out.below (Nat.le_trans HB1.out.size hg))⟩
def le8 (no:Int):List UInt8:=(List.range 8).map fun i=>UInt8.ofNat ((no/2^(8*i))%256).toNat
def renewF (l r:List UInt8)(no:Int)(data:List UInt8):Nat×List UInt8×Nat:=
 if¬(l.length=512∧r.length=512) then (0,[],2)
 else if no<1 then (0,[],1)
 else if 496<data.length then (0,[],7)
 else if (newestF l r).2.2.2=0∧no≤((newestF l r).2.1:Int) then (0,[],31)
 else if (newestF l r).2.2.2=0∧(newestF l r).1=0 then (1,(sealF r (le8 no++data)).1,(sealF r (le8 no++data)).2)
 else (0,(sealF l (le8 no++data)).1,(sealF l (le8 no++data)).2)
theorem results_tmp3 {P:Program}{fn:Func}{p q r:Tmp}(h:fn.results=#[.tmp p,.tmp q,.tmp r])(tmps:Array Value)(w:World){a b c:Value}(ha:tmps.getD p undef=a)(hb:tmps.getD q undef=b)(hc:tmps.getD r undef=c):
  (results fn tmps).run P w=.ok (.tuple #[a,b,c]) w:=by
 have ha':tmps[p]?.getD undef=a:=by simpa using ha
 have hb':tmps[q]?.getD undef=b:=by simpa using hb
 have hc':tmps[r]?.getD undef=c:=by simpa using hc
 simp [results,h,ha',hb',hc']
structure PairOK (l r:List UInt8)(m n:Nat)(sl:Int):Prop where
 len:l.length=512∧r.length=512
 hm:m=(readF l).1
 hn:n=(readF r).1
 hsl:slotF m n=sl
theorem pair_told {l r:List UInt8}{m n:Nat}{sl:Int}(h:PairOK l r m n sl)(w:World):RetPair l r w=fun e w'=>∃v0 v1:Value,e=.returned (.tuple #[.agg #[.int .i64 (m:Int),v0,.int .i64 (n:Int),v1],.int .i64 sl,.int .i64 0])∧isV w' w v0 (readF l).2∧isV w' w v1 (readF r).2∧Below w.heap.size w w':=by
 funext e w';unfold RetPair;rw [if_pos h.len,←h.hm,←h.hn,h.hsl]
theorem slot_three (m n:Nat):slotF m n= -1∨slotF m n=0∨slotF m n=1:=by
 unfold slotF
 split
 ·exact .inl rfl
 ·split
  ·exact .inr (.inr rfl)
  ·exact .inr (.inl rfl)
theorem newest_none {l r:List UInt8}{m n:Nat}(h:PairOK l r m n (-1)):newestF l r=(0,0,[],30):=by
 have hs:=h.hsl
 unfold slotF at hs
 unfold newestF
 rw [if_pos h.len,←h.hm,←h.hn]
 split at hs
 ·rename_i hz;rw [if_pos hz]
 ·split at hs<;>cases hs
theorem newest_left {l r:List UInt8}{m n:Nat}(h:PairOK l r m n 0):newestF l r=(0,m,(readF l).2,0):=by
 have hs:=h.hsl
 unfold slotF at hs
 unfold newestF
 rw [if_pos h.len,←h.hm,←h.hn]
 split at hs
 ·cases hs
 ·rename_i hz
  split at hs
  ·cases hs
  ·rename_i hlt;rw [if_neg hz,if_neg hlt]
theorem newest_right {l r:List UInt8}{m n:Nat}(h:PairOK l r m n 1):newestF l r=(1,n,(readF r).2,0):=by
 have hs:=h.hsl
 unfold slotF at hs
 unfold newestF
 rw [if_pos h.len,←h.hm,←h.hn]
 split at hs
 ·cases hs
 ·rename_i hz
  split at hs
  ·rename_i hlt;rw [if_neg hz,if_pos hlt]
  ·cases hs
theorem renew_mid {l r:List UInt8}{no:Int}{d:List UInt8}(h:l.length=512∧r.length=512)(h1:¬no<1)(h2:¬496<d.length):renewF l r no d=if (newestF l r).2.2.2=0∧no≤((newestF l r).2.1:Int) then (0,[],31)
 else if (newestF l r).2.2.2=0∧(newestF l r).1=0 then (1,(sealF r (le8 no++d)).1,(sealF r (le8 no++d)).2)
 else (0,(sealF l (le8 no++d)).1,(sealF l (le8 no++d)).2):=by
 unfold renewF
 rw [if_neg (fun hh=>hh h),if_neg h1,if_neg h2]
section
section
variable {F:Nat→Prop}{w0 w:World}{L:List Ast}
theorem ps_seal {A B:Option Addr}{a b:List UInt8}{ca cb:Nat}(S:St F w0 w L)(ha:RoT F w0 L A a)(hb:RoT F w0 L B b)(hma:a.length≤9223372036854775807)(hmb:b.length≤9223372036854775807):Calls Try.prog 40 #[.slice A a.length ca,.slice B b.length cb] w fun e w'=>∃v,e=.returned (.tuple #[v,.int .i64 ((sealF a b).2:Int)])∧St F w0 w' (bytesX v (sealF a b).1::L):=by
 have h:=seal_any w A ca a B cb b (ha.to_C S hma) (hb.to_C S hmb)
 rw [len_ofB,len_ofB] at h
 exact h.mono fun e w' ⟨v,h1,h2,h3⟩=>⟨v,h1,S.lift h3 h2⟩
theorem ps_newest {A B:Option Addr}{a b:List UInt8}{ca cb:Nat}(S:St F w0 w L)(ha:RoT F w0 L A a)(hb:RoT F w0 L B b)(hma:a.length≤9223372036854775807)(hmb:b.length≤9223372036854775807):Calls Try.prog 98 #[.slice A a.length ca,.slice B b.length cb] w fun e w'=>∃v,e=.returned (.tuple #[.int .i64 ((newestF a b).1:Int),.int .i64 ((newestF a b).2.1:Int),v,.int .i64 ((newestF a b).2.2.2:Int)])∧St F w0 w' (bytesX v (newestF a b).2.2.1::L):=by
 have h:=newest_any w A ca a B cb b (ha.to_C S hma) (hb.to_C S hmb)
 rw [len_ofB,len_ofB] at h
 exact h.mono fun e w' ⟨v,h1,h2,h3⟩=>⟨v,h1,S.lift h3 h2⟩
theorem ps_pair {A B:Option Addr}{a b:List UInt8}{ca cb:Nat}{m n:Nat}{sl:Int}(S:St F w0 w L)(ha:RoT F w0 L A a)(hb:RoT F w0 L B b)(hl:a.length=512∧b.length=512)(hm:m=(readF a).1)(hn:n=(readF b).1)(hs:slotF m n=sl):Calls Try.prog 136 #[.slice A a.length ca,.slice B b.length cb] w fun e w'=>∃v0 v1:Value,e=.returned (.tuple #[.agg #[.int .i64 (m:Int),v0,.int .i64 (n:Int),v1],.int .i64 sl,.int .i64 0])∧v0.oneCell'=true∧v1.oneCell'=true∧St F w0 w' L:=by
 have h:=pair_any w A ca a B cb b (ha.to_C S om_) (hb.to_C S om_)
 rw [len_ofB,len_ofB] at h
 refine h.mono fun e w' h=> ?_
 rw [pair_told ⟨hl,hm,hn,hs⟩] at h
 obtain ⟨v0,v1,h1,h2,h3,h4⟩:=h
 refine ⟨v0,v1,h1, ?_, ?_,S.below h4⟩
 ·obtain ⟨A',c',e,_⟩:=V_slice h2;rw [e];rfl
 ·obtain ⟨A',c',e,_⟩:=V_slice h3;rw [e];rfl
end
end
end Go.Proofs
end
section
open Go Go.RowKit Go.Proofs.YtgeioealgidkiaaW.PrintWords Go.Proofs.YtgeioealgidkiaaW.PrintMore
namespace Go.Proofs
open Go.Vel
set_option linter.unusedVariables false
set_option maxRecDepth 100000
set_option maxHeartbeats 4000000
attribute [local irreducible] gives wpList Code.wp
theorem byte_eq3 {a b:List UInt8}{k:Nat}(h:¬((a.getD k 0).toNat:Int)=((b.getD k 0).toNat:Int)):a≠b:=fun e=>h (by rw [e])
theorem bytes_ext3 {a b:List UInt8}(hl:a.length=b.length)(h:∀m,m<a.length→((a.getD m 0).toNat:Int)=((b.getD m 0).toNat:Int)):a=b:=by
 apply List.ext_getElem hl
 intro m h1 h2
 have:=h m h1
 rw [List.getD_eq_getElem?_getD,List.getD_eq_getElem?_getD,List.getElem?_eq_getElem h1,List.getElem?_eq_getElem h2] at this
 simp only [Option.getD_some] at this
 exact UInt8.toNat_inj.1 om_
theorem openF_len' (s:List UInt8):(openF s).1.length≤504:=by
 unfold openF
 split
 ·exact Nat.zero_le _
 ·split
  ·exact Nat.zero_le _
  ·split
   ·rw [List.length_take];omega
   ·exact Nat.zero_le _
section
variable {F:Nat→Prop} {w0 w:World} {L:List Ast}
theorem ps_seal' (S:St F w0 w L){A B:Option Addr}{a b:List UInt8}{m n ca cb:Nat}(hm0:m=a.length)(hn0:n=b.length)(ha:RoT F w0 L A a)(hb:RoT F w0 L B b)(hma:a.length≤9223372036854775807)(hmb:b.length≤9223372036854775807):Calls Try.prog 40 #[.slice A m ca,.slice B n cb] w fun e w'=>∃A c,e=.returned (.tuple #[.slice A (sealF a b).1.length c,.int .i64 ((sealF a b).2:Int)])∧St F w0 w' (bytesX (.slice A (sealF a b).1.length c) (sealF a b).1::L):=by
 subst hm0 hn0
 refine (ps_seal S ha hb hma hmb).mono fun e w' h=> ?_
 obtain ⟨v,rfl,S2⟩:=h
 obtain ⟨A',c',rfl,_⟩:=St.bytesX_v S2
 exact ⟨A',c',rfl,S2⟩
theorem _root_.Go.Vel.St.bytesX_nil (S:St F w0 w L):St F w0 w (bytesX (.slice none 0 0) []::L):=
 (St.vec_nil (e:=0) (sz:=0) S).map1 fun p _=>⟨none,0,rfl,Nat.le_refl _,fun w _=>RdB.nil⟩
theorem length_le8 (no:Int):(le8 no).length=8:=by simp [le8]
theorem le8_get (no:Int){k:Nat}(hk:k<8):(le8 no).getD k 0=UInt8.ofNat ((no/2^(8*k))%256).toNat:=by
 unfold le8
 rw [List.getD_eq_getElem?_getD,List.getElem?_map,List.getElem?_range hk];rfl
theorem le8_nat {no:Int}(h:0≤no){k:Nat}(hk:k<8):(le8 no).getD k 0=UInt8.ofNat (no.toNat/256^k%256):=by
 rw [le8_get no hk]
 obtain ⟨m,rfl⟩:∃m:Nat,no=(m:Int):=⟨no.toNat,by omega⟩
 have e:((2:Int)^(8*k))=((256^k:Nat):Int):=by
  rw [show (256:Nat)=2^8 from rfl,←Nat.pow_mul];simp
 rw [e,←Int.natCast_ediv,Int.toNat_natCast]
 congr 1
theorem bvs_set (X:List UInt8)(k:Nat)(b:UInt8):(bvs X).setIfInBounds k (.int .u8 (b.toNat:Int))=bvs (X.set k b):=by
 unfold bvs
 rw [List.setIfInBounds_toArray,List.map_set];rfl
theorem fill_set {l:List UInt8}{k m:Nat}(h:k<l.length)(hm:l.length=8):(l.take k++List.replicate (8-k+m) 0).set k (l.getD k 0)=l.take (k+1)++List.replicate (8-(k+1)+m) 0:=by
 have hl:(l.take k).length=k:=by rw [List.length_take];omega
 rw [List.set_append_right _ _ om_,hl,Nat.sub_self,show 8-k+m=(8-(k+1)+m)+1 from by omega,List.replicate_succ,List.set_cons_zero,show l.take (k+1)=l.take k++[l[k]] from List.take_succ_eq_append_getElem h,List.getD_eq_getElem?_getD,List.getElem?_eq_getElem h]
 show l.take k++l[k]::_=(l.take k++[l[k]])++_
 rw [List.append_assoc];rfl
theorem readF_lt (s:List UInt8):(readF s).1≤9223372036854775807:=by
 unfold readF
 split
 ·exact Nat.zero_le _
 ·split
  ·exact Nat.zero_le _
  ·show leN _≤_;omega
theorem renew_end {a b:List UInt8}{no:Int}{d:List UInt8}(h:a.length=512∧b.length=512)(h1:¬no<1)(h2:¬496<d.length)(h3:¬((newestF a b).2.2.2=0∧no≤((newestF a b).2.1:Int))):renewF a b no d=if (newestF a b).2.2.2=0∧(newestF a b).1=0 then (1,(sealF b (le8 no++d)).1,(sealF b (le8 no++d)).2) else (0,(sealF a (le8 no++d)).1,(sealF a (le8 no++d)).2):=by
 rw [renew_mid h h1 h2,if_neg h3]
theorem ps_pair_bad (S:St F w0 w L){A B:Option Addr}{a b:List UInt8}{ca cb:Nat}(ha:RoT F w0 L A a)(hb:RoT F w0 L B b)(hma:a.length≤9223372036854775807)(hmb:b.length≤9223372036854775807)(hl:¬(a.length=512∧b.length=512)):Calls Try.prog 136 #[.slice A a.length ca,.slice B b.length cb] w fun e w'=>e=.returned (.tuple #[.agg #[.int .i64 0,.slice none 0 0,.int .i64 0,.slice none 0 0],.int .i64 (-1),.int .i64 2])∧St F w0 w' L:=by
 have h:=pair_any w A ca a B cb b (ha.to_C S hma) (hb.to_C S hmb)
 rw [len_ofB,len_ofB] at h
 refine h.mono fun e w' h=> ?_
 unfold RetPair at h
 rw [if_neg hl] at h
 exact ⟨h.1,S.below h.2⟩
theorem ps_renew (S:St F w0 w L){A B D:Option Addr}{a b d:List UInt8}{ca cb cd:Nat}{no:Int}(ha:RoT F w0 L A a)(hb:RoT F w0 L B b)(hd:RoT F w0 L D d)(hma:a.length≤9223372036854775807)(hmb:b.length≤9223372036854775807)(hmd:d.length≤140737488355328)(hno:no≤9223372036854775807):Calls Try.prog 133 #[.slice A a.length ca,.slice B b.length cb,.int .i64 no,.slice D d.length cd] w fun e w'=>∃A c,e=.returned (.tuple #[.int .i64 ((renewF a b no d).1:Int),.slice A (renewF a b no d).2.1.length c,.int .i64 ((renewF a b no d).2.2:Int)])∧St F w0 w' (bytesX (.slice A (renewF a b no d).2.1.length c) (renewF a b no d).2.1::L):=by
 have h8:=length_le8 no
 by_cases hl:¬(a.length=512∧b.length=512)
 ·refine eN (fr [.slice A a.length ca,.slice B b.length cb,iv no,.slice D d.length cd] 77) Try.func133 rfl (sR (pv (iv 0) (pv (nS_) (pv (iv 0) (wER (pv (.slice A a.length ca) (pv (.slice B b.length cb) (sP Try.func136 #[.slice A a.length ca,.slice B b.length cb] (ps_pair_bad S ha hb hma hmb hl) fun w1 S2=>pv (.tuple #[.agg #[iv 0,nS_,iv 0,nS_],iv (-1),iv 2]) (pv (.agg #[iv 0,nS_,iv 0,nS_]) (pv (iv (-1)) (pv (iv 2) (nW rfl (.agg #[iv 0,nS_,iv 0,nS_]) S2 fun g3 w4 hg5 S6=> ?_))))))))))))
  refine g_ (gv_stA (k:=0) (vs:=[iv 0,nS_,iv 0,nS_]) S6 0 rfl rfl kr_ kr_ kr_ rfl (by simp [Value.oneCell']) (Nat.le_of_ble_eq_true kr_) (L':=(row g3 #[iv 0,nS_,iv 0,nS_] 194::L)) rfl (fun w7 S8=>pv (iv (-1)) (pv (iv 2) (wE (nS (wp_block (sR (pv (iv 2) (dN 2 0 (fun _=>pv tv (wE (nCT (sR (pv (iv 2) ?_))))) fun hd9=>False.elim (absurd hd9 dc_))))))))))
  refine pv (iv 0) (pv (nS_) (pv (iv 2) (wE (then_n (wp_ret (inb_r (then_r (bodyPost_ret (v:=.tuple #[iv 0,nS_,iv 2]) (Go.Vel.results_tmp3 rfl _ _ kr_ kr_ kr_) rfl ?_))))))))
  have e:renewF a b no d=(0,[],2):=by unfold renewF;rw [if_pos hl]
  rw [e]
  have S10:=St.pm 1 [] S8
  exact ⟨none,0,rfl,St.bytesX_nil S10⟩
 have hl:a.length=512∧b.length=512:=by omega
 obtain ⟨m,hm⟩:∃m,m=(readF a).1:=⟨_,rfl⟩
 obtain ⟨n,hn⟩:∃n,n=(readF b).1:=⟨_,rfl⟩
 have hml:=readF_lt a
 have hnl:=readF_lt b
 rw [←hm] at hml
 rw [←hn] at hnl
 rcases slot_three m n with hs|hs|hs
 ·have hnw:=newest_none ⟨hl,hm,hn,hs⟩
  refine eN (fr [.slice A a.length ca,.slice B b.length cb,iv no,.slice D d.length cd] 77) Try.func133 rfl (sR (pv (iv 0) (pv (nS_) (pv (iv 0) (wER (pv (.slice A a.length ca) (pv (.slice B b.length cb) (g_ (gv_call (args:=#[.slice A a.length ca,.slice B b.length cb]) rfl Try.func136 kr_ rfl rfl kr_ (Calls.mono (ps_pair (sl:=(-1)) S ha hb hl hm hn hs) ?_))))))))))
  rintro _ w1 ⟨v0,v1,rfl,ho0,ho1,S2⟩
  refine ⟨_,rfl,(pv (.tuple #[.agg #[nI_ m,v0,nI_ n,v1],iv (-1),iv 0]) (pv (.agg #[nI_ m,v0,nI_ n,v1]) (pv (iv (-1)) (pv (iv 0) (nW rfl (.agg #[iv 0,nS_,iv 0,nS_]) S2 fun g3 w4 hg5 S6=>g_ (gv_stA (k:=0) (vs:=[nI_ m,v0,nI_ n,v1]) S6 0 rfl rfl kr_ kr_ kr_ rfl (by intro u hu;simp only [List.mem_cons,List.not_mem_nil,or_false] at hu;rcases hu with rfl|rfl|rfl|rfl<;>first|rfl|assumption) (Nat.le_of_ble_eq_true kr_) (L':=(row g3 #[nI_ m,v0,nI_ n,v1] 194::L)) rfl (fun w7 S8=>pv (iv (-1)) (pv (iv 0) (wE (nS (wp_block (sR (pv (iv 0) ?_)))))))))))))⟩
  refine dN 0 0 (fun hd9=>False.elim (hd9 dc_)) fun _=>pv fv (wE (nCF (sR (pv (iv no) (dC ((no:Int)<1) (fun hb10=> ?_) fun hb10=> ?_)))))
  ·refine pv tv (wE (nCT (sR (pv (iv 0) (pv (nS_) (pv (iv 1) (wE (then_n (wp_ret (inb_r (then_r (bodyPost_ret (v:=.tuple #[iv 0,nS_,iv 1]) (Go.Vel.results_tmp3 rfl _ _ kr_ kr_ kr_) rfl ?_))))))))))))
   have e:renewF a b no d=(0,[],1):=by unfold renewF;rw [if_neg (fun h=>h hl),if_pos om_]
   rw [e]
   have S11:=St.pm 1 [] S8
   exact ⟨none,0,rfl,St.bytesX_nil S11⟩
  ·refine pv fv (wE (nCF (sR (pv (.slice D d.length cd) (pv (iv (d.length:Nat)) (dC (((d.length:Nat):Int)>496) (fun hb12=> ?_) fun hb12=> ?_))))))
   ·refine pv tv (wE (nCT (sR (pv (iv 0) (pv (nS_) (pv (iv 7) (wE (then_n (wp_ret (inb_r (then_r (bodyPost_ret (v:=.tuple #[iv 0,nS_,iv 7]) (Go.Vel.results_tmp3 rfl _ _ kr_ kr_ kr_) rfl ?_))))))))))))
    have e:renewF a b no d=(0,[],7):=by unfold renewF;rw [if_neg (fun h=>h hl),if_neg om_,if_pos om_]
    rw [e]
    have S13:=St.pm 1 [] S8
    exact ⟨none,0,rfl,St.bytesX_nil S13⟩
   ·refine pv fv (wE (nCF (sR (pv (iv (-1)) (dC (((-1):Int)≥0) (fun hd14=>False.elim (om_)) fun _=>pv fv (wN (wN (wN (wN (wN (wN (pv fv ?_))))))))))))
    refine pv fv (wE (nCF (wp_skip (inb_n (nSR (pv (.slice D d.length cd) (pv (iv (d.length:Nat)) (gI .i64 (IntKind.i64.wrap (8+(d.length:Nat))) ((8+d.length:Nat):Int) wq_ ?_))))))))
    have hd9:d.length≤496:=by omega
    refine g_ (gv_make (e:=5) (u:=8) (v:=((8+d.length:Nat):Int)) (z:=.int .u8 0) (sz:=1) (by_:=1) (n:=8) (c:=8+d.length) (cs:=bvs (List.replicate (8+d.length) 0)) S8 rfl kr_ ⟨by kernel_rfl⟩ kr_ kr_ rfl rfl om_ om_ om_ (mk_bytes _) (fun g15 w16 hg17 S18=> ?_))
    change St F w0 w16 (row g15 (bvs ((le8 no).take 0++List.replicate (8-0+d.length) 0)) 5::row g3 #[nI_ m,v0,nI_ n,v1] 194::L) at S18
    refine pv (sl g15 0 8 (8+d.length)) (wE (nS (sR (pv (sl g15 0 8 (8+d.length)) (pv (iv 8) (pv (iv 0) (wE (then_n (wp_block ?_)))))))))
    have S19:St F w0 w16 (row g15 (bvs ((le8 no).take 0++List.replicate (8-0+d.length) 0)) 5::L):=St.pm 2 [0] S18
    refine wp_loop_g (G:=Nat) (fun (g_:Nat) (a_:Act) (w_:World)=>∃J:Nat→Value,a_=(fr ([.slice A a.length ca,.slice B b.length cb,iv no,.slice D d.length cd,ud,ud,ud,ud,iv 0,nS_,iv 0,pq g3,iv (-1),iv 0,sl g15 0 8 (8+d.length),J 15,ud,ud,ud,.tuple #[.agg #[nI_ m,v0,nI_ n,v1],iv (-1),iv 0],.slice A a.length ca,.slice B b.length cb,.tuple #[.agg #[nI_ m,v0,nI_ n,v1],iv (-1),iv 0],.agg #[nI_ m,v0,nI_ n,v1],iv (-1),iv 0,fv,iv 0,fv,ud,fv,iv no,fv,fv,.slice D d.length cd,iv (d.length:Nat),fv,fv,iv (-1),fv,fv,ud,ud,ud,ud,ud,ud,fv,.slice D d.length cd,iv (d.length:Nat),nI_ (8+d.length),sl g15 0 8 (8+d.length),sl g15 0 8 (8+d.length),iv 8,nI_ g_]++jR J 55 11) 15)∧St F w0 w_ (row g15 (bvs ((le8 no).take g_++List.replicate (8-g_+d.length) 0)) 5::L)∧(g_≤8)) (fun g_=>8-g_) 0 (jE_ ⟨S19,Nat.zero_le _⟩) ?_
    rintro k a_ w20 ⟨J,rfl,S21,hI22⟩
    skip
    have S21:St F w0 w20 (row g15 (bvs ((le8 no).take k++List.replicate (8-k+d.length) 0)) 5::L):=S21
    have hI22:(k≤8):=hI22
    refine sR (dC ((((k:Nat):Int):Int)<8) (fun hb23=> ?_) fun hb23=> ?_)
    ·have hk8:k<8:=by omega
     refine wE (nS (cT (wp_skip (nS (wp_block (sR (pv (nI_ k) (pv (nI_ k) (wE (nR (pv (sl g15 0 8 (8+d.length)) (pv (nI_ k) (pv (iv no) ?_)))))))))))))
     exact pv (nI_ k) (gI .i64 (IntKind.i64.wrap (8*((k:Nat):Int))) ((8*k:Nat):Int) (wr_eq om_ om_ om_) (g_ (gv_shr (k:=.i64) (yk:=.i64) (z:=no) (i:=((8*k:Nat):Int)) (j:=(8*k)) (z':=(no/2^(8*k))) rfl kr_ kr_ rfl (by show 8*k≤64;omega) rfl (gI .u8 (IntKind.u8.wrap (no/2^(8*k))) (((le8 no).getD k 0).toNat:Int) (by rw [wrap_u8,le8_get no hk8]) (g_ (gv_ixE (e:=5) (sz:=1) (g:=g15) (off:=0) (n:=8) (c:=(8+d.length)) (i:=((k:Nat):Int)) (k:=.i64) (j:=k) (off':=k) rfl kr_ kr_ kr_ kr_ rfl om_ om_ (g_ (gv_st (k:=k) (v:=.int .u8 (((le8 no).getD k 0).toNat:Int)) S21 0 rfl rfl kr_ kr_ kr_ rfl (Nat.ble_eq_true_of_le (by rw [size_bvs,List.length_append,List.length_take,List.length_replicate];omega)) (L':=(row g15 (bvs ((le8 no).take (k+1)++List.replicate (8-(k+1)+d.length) 0)) 5::L)) (by rw [bvs_set,fill_set om_ h8];rfl) (fun w24 S25=>wE (inb_n (nR (gI .i64 (IntKind.i64.wrap (((k:Nat):Int)+1)) ((k+1:Nat):Int) (wr_eq om_ om_ om_) (pv (nI_ (k+1)) (wE (then_n ⟨k+1,(jE_ ⟨S25,om_⟩),(by show 8-(k+1)<8-k;omega)⟩)))))))))))))))
    ·have hk8:k=8:=by omega
     have ht8:(le8 no).take 8=le8 no:=List.take_of_length_le om_
     rw [hk8,ht8] at S21
     refine wE (nS (cF (wp_exit (then_x (then_x (inb_x (nSR (pv (.slice A a.length ca) (pv (iv 0) (pv (.slice A a.length ca) (wE (nS (sR ?_)))))))))))))
     refine pv (iv (-1)) (dE (-1) 0 (fun hd26=>False.elim (om_)) fun _=>wE (nCF (wp_skip (nSR (pv (.slice A a.length ca) (pv (sl g15 0 8 (8+d.length)) (pv (.slice D d.length cd) ?_)))))))
     have hln:8+d.length=(le8 no++d).length:=by rw [List.length_append];omega
     have hsp:splice (le8 no++List.replicate (8-8+d.length) 0) 8 d=le8 no++d:=by unfold splice;rw [List.take_left' h8,List.drop_of_length_le (by rw [List.length_append,List.length_replicate];omega),List.append_nil]
     refine g_ (gv_appendB (e:=5) (n:=8) (c:=8+d.length) (m:=d.length) (c':=cd) (A:=D) (l:=d) (X:=le8 no++List.replicate (8-8+d.length) 0) (n':=8+d.length) S21 0 rfl rfl kr_ kr_ kr_ kr_ rfl (hd.out _ [row g15 (bvs (le8 no++List.replicate (8-8+d.length) 0)) 5] S21) (Nat.le_refl _) (by rw [List.length_append,List.length_replicate];omega) rfl (L':=(row g15 (bvs (le8 no++d)) 5::L)) (by rw [hsp];rfl) (fun w27 S28=>sP2 Try.func40 #[.slice A a.length ca,sl g15 0 (8+d.length) (8+d.length)] (ps_seal' (a:=a) (b:=le8 no++d) S28 rfl hln ha.more (RoT.item 0 rfl 0 (le8 no++d).length _ (by rw [List.drop_zero,List.take_length])) om_ om_) fun A31 c32 w29 S30=>pv (.tuple #[.slice A31 ((sealF a (le8 no++d)).1.length) c32,iv ((sealF a (le8 no++d)).2:Int)]) (pv (.slice A31 ((sealF a (le8 no++d)).1.length) c32) (pv (iv ((sealF a (le8 no++d)).2:Int)) (pv (.slice A31 ((sealF a (le8 no++d)).1.length) c32) (pv (iv ((sealF a (le8 no++d)).2:Int)) (wER (pv (iv 0) (pv (.slice A31 ((sealF a (le8 no++d)).1.length) c32) (pv (iv ((sealF a (le8 no++d)).2:Int)) (pv (iv 0) (pv (.slice A31 ((sealF a (le8 no++d)).1.length) c32) (pv (iv ((sealF a (le8 no++d)).2:Int)) ?_)))))))))))))
     refine wE (then_n (wp_ret (bodyPost_ret (v:=.tuple #[iv 0,.slice A31 ((sealF a (le8 no++d)).1.length) c32,iv ((sealF a (le8 no++d)).2:Int)]) (Go.Vel.results_tmp3 rfl _ _ kr_ kr_ kr_) rfl ?_)))
     have e:=renew_end (a:=a) (b:=b) (no:=no) (d:=d) hl om_ om_ (by rw [hnw];simp<;>omega)
     rw [hnw,if_neg (by simp)] at e
     rw [e]
     have S33:=St.pm 2 [0] S30
     exact ⟨A31,c32,rfl,S33⟩
 ·have hnw:=newest_left ⟨hl,hm,hn,hs⟩
  refine eN (fr [.slice A a.length ca,.slice B b.length cb,iv no,.slice D d.length cd] 77) Try.func133 rfl (sR (pv (iv 0) (pv (nS_) (pv (iv 0) (wER (pv (.slice A a.length ca) (pv (.slice B b.length cb) (g_ (gv_call (args:=#[.slice A a.length ca,.slice B b.length cb]) rfl Try.func136 kr_ rfl rfl kr_ (Calls.mono (ps_pair (sl:=0) S ha hb hl hm hn hs) ?_))))))))))
  rintro _ w1 ⟨v0,v1,rfl,ho0,ho1,S2⟩
  refine ⟨_,rfl,(pv (.tuple #[.agg #[nI_ m,v0,nI_ n,v1],iv 0,iv 0]) (pv (.agg #[nI_ m,v0,nI_ n,v1]) (pv (iv 0) (pv (iv 0) (nW rfl (.agg #[iv 0,nS_,iv 0,nS_]) S2 fun g3 w4 hg5 S6=>g_ (gv_stA (k:=0) (vs:=[nI_ m,v0,nI_ n,v1]) S6 0 rfl rfl kr_ kr_ kr_ rfl (by intro u hu;simp only [List.mem_cons,List.not_mem_nil,or_false] at hu;rcases hu with rfl|rfl|rfl|rfl<;>first|rfl|assumption) (Nat.le_of_ble_eq_true kr_) (L':=(row g3 #[nI_ m,v0,nI_ n,v1] 194::L)) rfl (fun w7 S8=>pv (iv 0) (pv (iv 0) (wE (nS (wp_block (sR (pv (iv 0) ?_)))))))))))))⟩
  refine dN 0 0 (fun hd9=>False.elim (hd9 dc_)) fun _=>pv fv (wE (nCF (sR (pv (iv no) (dC ((no:Int)<1) (fun hb10=> ?_) fun hb10=> ?_)))))
  ·refine pv tv (wE (nCT (sR (pv (iv 0) (pv (nS_) (pv (iv 1) (wE (then_n (wp_ret (inb_r (then_r (bodyPost_ret (v:=.tuple #[iv 0,nS_,iv 1]) (Go.Vel.results_tmp3 rfl _ _ kr_ kr_ kr_) rfl ?_))))))))))))
   have e:renewF a b no d=(0,[],1):=by unfold renewF;rw [if_neg (fun h=>h hl),if_pos om_]
   rw [e]
   have S11:=St.pm 1 [] S8
   exact ⟨none,0,rfl,St.bytesX_nil S11⟩
  ·refine pv fv (wE (nCF (sR (pv (.slice D d.length cd) (pv (iv (d.length:Nat)) (dC (((d.length:Nat):Int)>496) (fun hb12=> ?_) fun hb12=> ?_))))))
   ·refine pv tv (wE (nCT (sR (pv (iv 0) (pv (nS_) (pv (iv 7) (wE (then_n (wp_ret (inb_r (then_r (bodyPost_ret (v:=.tuple #[iv 0,nS_,iv 7]) (Go.Vel.results_tmp3 rfl _ _ kr_ kr_ kr_) rfl ?_))))))))))))
    have e:renewF a b no d=(0,[],7):=by unfold renewF;rw [if_neg (fun h=>h hl),if_neg om_,if_pos om_]
    rw [e]
    have S13:=St.pm 1 [] S8
    exact ⟨none,0,rfl,St.bytesX_nil S13⟩
   ·refine pv fv (wE (nCF (sR (pv (iv 0) (dC ((0:Int)≥0) (fun _=>pv tv (pW (iv no) (pW (iv 0) (wl_when kr_ (gv_ixArr (sz:=2) (g:=g3) (off:=0) (N:=2) (k:=.i64) (i:=0) (j:=0) (off':=0) rfl kr_ kr_ kr_ kr_ kr_ rfl dc_ rfl (pW (pq g3) (wl_when kr_ (gv_ldR (v:=nI_ m) rfl kr_ kr_ (((S8.blk 0 rfl).cell 0).trans rfl) (wl_when kr_ (gv_dec (p:=(no:Int)≤((m:Nat):Int)) kr_ (fun hb15=> ?_) (fun hb15=> ?_))))))))))) fun hd14=>False.elim (om_))))))
    ·refine pv tv (pv tv (wE (nCT (sR (pv (iv 0) (pv (nS_) (pv (iv 31) (wE (then_n (wp_ret (inb_r (then_r (bodyPost_ret (v:=.tuple #[iv 0,nS_,iv 31]) (Go.Vel.results_tmp3 rfl _ _ kr_ kr_ kr_) rfl ?_)))))))))))))
     have e:renewF a b no d=(0,[],31):=by unfold renewF;rw [if_neg (fun h=>h hl),if_neg om_,if_neg om_,if_pos (by rw [hnw];exact ⟨rfl,by omega⟩)]
     rw [e]
     have S16:=St.pm 1 [] S8
     exact ⟨none,0,rfl,St.bytesX_nil S16⟩
    ·refine pv fv (pv fv (wE (nCF (wp_skip (inb_n (nSR (pv (.slice D d.length cd) (pv (iv (d.length:Nat)) (gI .i64 (IntKind.i64.wrap (8+(d.length:Nat))) ((8+d.length:Nat):Int) wq_ ?_)))))))))
     have hd9:d.length≤496:=by omega
     refine g_ (gv_make (e:=5) (u:=8) (v:=((8+d.length:Nat):Int)) (z:=.int .u8 0) (sz:=1) (by_:=1) (n:=8) (c:=8+d.length) (cs:=bvs (List.replicate (8+d.length) 0)) S8 rfl kr_ ⟨by kernel_rfl⟩ kr_ kr_ rfl rfl om_ om_ om_ (mk_bytes _) (fun g17 w18 hg19 S20=> ?_))
     change St F w0 w18 (row g17 (bvs ((le8 no).take 0++List.replicate (8-0+d.length) 0)) 5::row g3 #[nI_ m,v0,nI_ n,v1] 194::L) at S20
     refine pv (sl g17 0 8 (8+d.length)) (wE (nS (sR (pv (sl g17 0 8 (8+d.length)) (pv (iv 8) (pv (iv 0) (wE (then_n (wp_block ?_)))))))))
     have S21:St F w0 w18 (row g17 (bvs ((le8 no).take 0++List.replicate (8-0+d.length) 0)) 5::L):=St.pm 2 [0] S20
     refine wp_loop_g (G:=Nat) (fun (g_:Nat) (a_:Act) (w_:World)=>∃J:Nat→Value,a_=(fr ([.slice A a.length ca,.slice B b.length cb,iv no,.slice D d.length cd,ud,ud,ud,ud,iv 0,nS_,iv 0,pq g3,iv 0,iv 0,sl g17 0 8 (8+d.length),J 15,ud,ud,ud,.tuple #[.agg #[nI_ m,v0,nI_ n,v1],iv 0,iv 0],.slice A a.length ca,.slice B b.length cb,.tuple #[.agg #[nI_ m,v0,nI_ n,v1],iv 0,iv 0],.agg #[nI_ m,v0,nI_ n,v1],iv 0,iv 0,fv,iv 0,fv,ud,fv,iv no,fv,fv,.slice D d.length cd,iv (d.length:Nat),fv,fv,iv 0,tv,tv,iv no,iv 0,pq g3,pq g3,nI_ m,fv,fv,.slice D d.length cd,iv (d.length:Nat),nI_ (8+d.length),sl g17 0 8 (8+d.length),sl g17 0 8 (8+d.length),iv 8,nI_ g_]++jR J 55 11) 15)∧St F w0 w_ (row g17 (bvs ((le8 no).take g_++List.replicate (8-g_+d.length) 0)) 5::L)∧(g_≤8)) (fun g_=>8-g_) 0 (jE_ ⟨S21,Nat.zero_le _⟩) ?_
     rintro k a_ w22 ⟨J,rfl,S23,hI24⟩
     skip
     have S23:St F w0 w22 (row g17 (bvs ((le8 no).take k++List.replicate (8-k+d.length) 0)) 5::L):=S23
     have hI24:(k≤8):=hI24
     refine sR (dC ((((k:Nat):Int):Int)<8) (fun hb25=> ?_) fun hb25=> ?_)
     ·have hk8:k<8:=by omega
      refine wE (nS (cT (wp_skip (nS (wp_block (sR (pv (nI_ k) (pv (nI_ k) (wE (nR (pv (sl g17 0 8 (8+d.length)) (pv (nI_ k) (pv (iv no) ?_)))))))))))))
      exact pv (nI_ k) (gI .i64 (IntKind.i64.wrap (8*((k:Nat):Int))) ((8*k:Nat):Int) (wr_eq om_ om_ om_) (g_ (gv_shr (k:=.i64) (yk:=.i64) (z:=no) (i:=((8*k:Nat):Int)) (j:=(8*k)) (z':=(no/2^(8*k))) rfl kr_ kr_ rfl (by show 8*k≤64;omega) rfl (gI .u8 (IntKind.u8.wrap (no/2^(8*k))) (((le8 no).getD k 0).toNat:Int) (by rw [wrap_u8,le8_get no hk8]) (g_ (gv_ixE (e:=5) (sz:=1) (g:=g17) (off:=0) (n:=8) (c:=(8+d.length)) (i:=((k:Nat):Int)) (k:=.i64) (j:=k) (off':=k) rfl kr_ kr_ kr_ kr_ rfl om_ om_ (g_ (gv_st (k:=k) (v:=.int .u8 (((le8 no).getD k 0).toNat:Int)) S23 0 rfl rfl kr_ kr_ kr_ rfl (Nat.ble_eq_true_of_le (by rw [size_bvs,List.length_append,List.length_take,List.length_replicate];omega)) (L':=(row g17 (bvs ((le8 no).take (k+1)++List.replicate (8-(k+1)+d.length) 0)) 5::L)) (by rw [bvs_set,fill_set om_ h8];rfl) (fun w26 S27=>wE (inb_n (nR (gI .i64 (IntKind.i64.wrap (((k:Nat):Int)+1)) ((k+1:Nat):Int) (wr_eq om_ om_ om_) (pv (nI_ (k+1)) (wE (then_n ⟨k+1,(jE_ ⟨S27,om_⟩),(by show 8-(k+1)<8-k;omega)⟩)))))))))))))))
     ·have hk8:k=8:=by omega
      have ht8:(le8 no).take 8=le8 no:=List.take_of_length_le om_
      rw [hk8,ht8] at S23
      refine wE (nS (cF (wp_exit (then_x (then_x (inb_x (nSR (pv (.slice A a.length ca) (pv (iv 0) (pv (.slice A a.length ca) (wE (nS (sR ?_)))))))))))))
      refine pv (iv 0) (dE 0 0 (fun _=>wE (nCT (wp_region_lit (pv (.slice B b.length cb) (pv (iv 1) (pv (.slice B b.length cb) (wER (pv (.slice B b.length cb) (pv (sl g17 0 8 (8+d.length)) (pv (.slice D d.length cd) ?_)))))))))) fun hd28=>False.elim (om_))
      have hln:8+d.length=(le8 no++d).length:=by rw [List.length_append];omega
      have hsp:splice (le8 no++List.replicate (8-8+d.length) 0) 8 d=le8 no++d:=by unfold splice;rw [List.take_left' h8,List.drop_of_length_le (by rw [List.length_append,List.length_replicate];omega),List.append_nil]
      refine g_ (gv_appendB (e:=5) (n:=8) (c:=8+d.length) (m:=d.length) (c':=cd) (A:=D) (l:=d) (X:=le8 no++List.replicate (8-8+d.length) 0) (n':=8+d.length) S23 0 rfl rfl kr_ kr_ kr_ kr_ rfl (hd.out _ [row g17 (bvs (le8 no++List.replicate (8-8+d.length) 0)) 5] S23) (Nat.le_refl _) (by rw [List.length_append,List.length_replicate];omega) rfl (L':=(row g17 (bvs (le8 no++d)) 5::L)) (by rw [hsp];rfl) (fun w29 S30=>sP2 Try.func40 #[.slice B b.length cb,sl g17 0 (8+d.length) (8+d.length)] (ps_seal' (a:=b) (b:=le8 no++d) S30 rfl hln hb.more (RoT.item 0 rfl 0 (le8 no++d).length _ (by rw [List.drop_zero,List.take_length])) om_ om_) fun A33 c34 w31 S32=>pv (.tuple #[.slice A33 ((sealF b (le8 no++d)).1.length) c34,iv ((sealF b (le8 no++d)).2:Int)]) (pv (.slice A33 ((sealF b (le8 no++d)).1.length) c34) (pv (iv ((sealF b (le8 no++d)).2:Int)) (pv (.slice A33 ((sealF b (le8 no++d)).1.length) c34) (pv (iv ((sealF b (le8 no++d)).2:Int)) (wER (pv (iv 1) (pv (.slice A33 ((sealF b (le8 no++d)).1.length) c34) (pv (iv ((sealF b (le8 no++d)).2:Int)) (pv (iv 1) (pv (.slice A33 ((sealF b (le8 no++d)).1.length) c34) (pv (iv ((sealF b (le8 no++d)).2:Int)) ?_)))))))))))))
      refine wE (then_n (wp_ret (bodyPost_ret (v:=.tuple #[iv 1,.slice A33 ((sealF b (le8 no++d)).1.length) c34,iv ((sealF b (le8 no++d)).2:Int)]) (Go.Vel.results_tmp3 rfl _ _ kr_ kr_ kr_) rfl ?_)))
      have e:=renew_end (a:=a) (b:=b) (no:=no) (d:=d) hl om_ om_ (by rw [hnw];simp<;>omega)
      rw [hnw,if_pos ⟨rfl,rfl⟩] at e
      rw [e]
      have S35:=St.pm 2 [0] S32
      exact ⟨A33,c34,rfl,S35⟩
 ·have hnw:=newest_right ⟨hl,hm,hn,hs⟩
  refine eN (fr [.slice A a.length ca,.slice B b.length cb,iv no,.slice D d.length cd] 77) Try.func133 rfl (sR (pv (iv 0) (pv (nS_) (pv (iv 0) (wER (pv (.slice A a.length ca) (pv (.slice B b.length cb) (g_ (gv_call (args:=#[.slice A a.length ca,.slice B b.length cb]) rfl Try.func136 kr_ rfl rfl kr_ (Calls.mono (ps_pair (sl:=1) S ha hb hl hm hn hs) ?_))))))))))
  rintro _ w1 ⟨v0,v1,rfl,ho0,ho1,S2⟩
  refine ⟨_,rfl,(pv (.tuple #[.agg #[nI_ m,v0,nI_ n,v1],iv 1,iv 0]) (pv (.agg #[nI_ m,v0,nI_ n,v1]) (pv (iv 1) (pv (iv 0) (nW rfl (.agg #[iv 0,nS_,iv 0,nS_]) S2 fun g3 w4 hg5 S6=>g_ (gv_stA (k:=0) (vs:=[nI_ m,v0,nI_ n,v1]) S6 0 rfl rfl kr_ kr_ kr_ rfl (by intro u hu;simp only [List.mem_cons,List.not_mem_nil,or_false] at hu;rcases hu with rfl|rfl|rfl|rfl<;>first|rfl|assumption) (Nat.le_of_ble_eq_true kr_) (L':=(row g3 #[nI_ m,v0,nI_ n,v1] 194::L)) rfl (fun w7 S8=>pv (iv 1) (pv (iv 0) (wE (nS (wp_block (sR (pv (iv 0) ?_)))))))))))))⟩
  refine dN 0 0 (fun hd9=>False.elim (hd9 dc_)) fun _=>pv fv (wE (nCF (sR (pv (iv no) (dC ((no:Int)<1) (fun hb10=> ?_) fun hb10=> ?_)))))
  ·refine pv tv (wE (nCT (sR (pv (iv 0) (pv (nS_) (pv (iv 1) (wE (then_n (wp_ret (inb_r (then_r (bodyPost_ret (v:=.tuple #[iv 0,nS_,iv 1]) (Go.Vel.results_tmp3 rfl _ _ kr_ kr_ kr_) rfl ?_))))))))))))
   have e:renewF a b no d=(0,[],1):=by unfold renewF;rw [if_neg (fun h=>h hl),if_pos om_]
   rw [e]
   have S11:=St.pm 1 [] S8
   exact ⟨none,0,rfl,St.bytesX_nil S11⟩
  ·refine pv fv (wE (nCF (sR (pv (.slice D d.length cd) (pv (iv (d.length:Nat)) (dC (((d.length:Nat):Int)>496) (fun hb12=> ?_) fun hb12=> ?_))))))
   ·refine pv tv (wE (nCT (sR (pv (iv 0) (pv (nS_) (pv (iv 7) (wE (then_n (wp_ret (inb_r (then_r (bodyPost_ret (v:=.tuple #[iv 0,nS_,iv 7]) (Go.Vel.results_tmp3 rfl _ _ kr_ kr_ kr_) rfl ?_))))))))))))
    have e:renewF a b no d=(0,[],7):=by unfold renewF;rw [if_neg (fun h=>h hl),if_neg om_,if_pos om_]
    rw [e]
    have S13:=St.pm 1 [] S8
    exact ⟨none,0,rfl,St.bytesX_nil S13⟩
   ·refine pv fv (wE (nCF (sR (pv (iv 1) (dC ((1:Int)≥0) (fun _=>pv tv (pW (iv no) (pW (iv 1) (wl_when kr_ (gv_ixArr (sz:=2) (g:=g3) (off:=0) (N:=2) (k:=.i64) (i:=1) (j:=1) (off':=2) rfl kr_ kr_ kr_ kr_ kr_ rfl dc_ rfl (pW (po g3 2) (wl_when kr_ (gv_ldR (v:=nI_ n) rfl kr_ kr_ (((S8.blk 0 rfl).cell 2).trans rfl) (wl_when kr_ (gv_dec (p:=(no:Int)≤((n:Nat):Int)) kr_ (fun hb15=> ?_) (fun hb15=> ?_))))))))))) fun hd14=>False.elim (om_))))))
    ·refine pv tv (pv tv (wE (nCT (sR (pv (iv 0) (pv (nS_) (pv (iv 31) (wE (then_n (wp_ret (inb_r (then_r (bodyPost_ret (v:=.tuple #[iv 0,nS_,iv 31]) (Go.Vel.results_tmp3 rfl _ _ kr_ kr_ kr_) rfl ?_)))))))))))))
     have e:renewF a b no d=(0,[],31):=by unfold renewF;rw [if_neg (fun h=>h hl),if_neg om_,if_neg om_,if_pos (by rw [hnw];exact ⟨rfl,by omega⟩)]
     rw [e]
     have S16:=St.pm 1 [] S8
     exact ⟨none,0,rfl,St.bytesX_nil S16⟩
    ·refine pv fv (pv fv (wE (nCF (wp_skip (inb_n (nSR (pv (.slice D d.length cd) (pv (iv (d.length:Nat)) (gI .i64 (IntKind.i64.wrap (8+(d.length:Nat))) ((8+d.length:Nat):Int) wq_ ?_)))))))))
     have hd9:d.length≤496:=by omega
     refine g_ (gv_make (e:=5) (u:=8) (v:=((8+d.length:Nat):Int)) (z:=.int .u8 0) (sz:=1) (by_:=1) (n:=8) (c:=8+d.length) (cs:=bvs (List.replicate (8+d.length) 0)) S8 rfl kr_ ⟨by kernel_rfl⟩ kr_ kr_ rfl rfl om_ om_ om_ (mk_bytes _) (fun g17 w18 hg19 S20=> ?_))
     change St F w0 w18 (row g17 (bvs ((le8 no).take 0++List.replicate (8-0+d.length) 0)) 5::row g3 #[nI_ m,v0,nI_ n,v1] 194::L) at S20
     refine pv (sl g17 0 8 (8+d.length)) (wE (nS (sR (pv (sl g17 0 8 (8+d.length)) (pv (iv 8) (pv (iv 0) (wE (then_n (wp_block ?_)))))))))
     have S21:St F w0 w18 (row g17 (bvs ((le8 no).take 0++List.replicate (8-0+d.length) 0)) 5::L):=St.pm 2 [0] S20
     refine wp_loop_g (G:=Nat) (fun (g_:Nat) (a_:Act) (w_:World)=>∃J:Nat→Value,a_=(fr ([.slice A a.length ca,.slice B b.length cb,iv no,.slice D d.length cd,ud,ud,ud,ud,iv 0,nS_,iv 0,pq g3,iv 1,iv 0,sl g17 0 8 (8+d.length),J 15,ud,ud,ud,.tuple #[.agg #[nI_ m,v0,nI_ n,v1],iv 1,iv 0],.slice A a.length ca,.slice B b.length cb,.tuple #[.agg #[nI_ m,v0,nI_ n,v1],iv 1,iv 0],.agg #[nI_ m,v0,nI_ n,v1],iv 1,iv 0,fv,iv 0,fv,ud,fv,iv no,fv,fv,.slice D d.length cd,iv (d.length:Nat),fv,fv,iv 1,tv,tv,iv no,iv 1,po g3 2,po g3 2,nI_ n,fv,fv,.slice D d.length cd,iv (d.length:Nat),nI_ (8+d.length),sl g17 0 8 (8+d.length),sl g17 0 8 (8+d.length),iv 8,nI_ g_]++jR J 55 11) 15)∧St F w0 w_ (row g17 (bvs ((le8 no).take g_++List.replicate (8-g_+d.length) 0)) 5::L)∧(g_≤8)) (fun g_=>8-g_) 0 (jE_ ⟨S21,Nat.zero_le _⟩) ?_
     rintro k a_ w22 ⟨J,rfl,S23,hI24⟩
     skip
     have S23:St F w0 w22 (row g17 (bvs ((le8 no).take k++List.replicate (8-k+d.length) 0)) 5::L):=S23
     have hI24:(k≤8):=hI24
     refine sR (dC ((((k:Nat):Int):Int)<8) (fun hb25=> ?_) fun hb25=> ?_)
     ·have hk8:k<8:=by omega
      refine wE (nS (cT (wp_skip (nS (wp_block (sR (pv (nI_ k) (pv (nI_ k) (wE (nR (pv (sl g17 0 8 (8+d.length)) (pv (nI_ k) (pv (iv no) ?_)))))))))))))
      exact pv (nI_ k) (gI .i64 (IntKind.i64.wrap (8*((k:Nat):Int))) ((8*k:Nat):Int) (wr_eq om_ om_ om_) (g_ (gv_shr (k:=.i64) (yk:=.i64) (z:=no) (i:=((8*k:Nat):Int)) (j:=(8*k)) (z':=(no/2^(8*k))) rfl kr_ kr_ rfl (by show 8*k≤64;omega) rfl (gI .u8 (IntKind.u8.wrap (no/2^(8*k))) (((le8 no).getD k 0).toNat:Int) (by rw [wrap_u8,le8_get no hk8]) (g_ (gv_ixE (e:=5) (sz:=1) (g:=g17) (off:=0) (n:=8) (c:=(8+d.length)) (i:=((k:Nat):Int)) (k:=.i64) (j:=k) (off':=k) rfl kr_ kr_ kr_ kr_ rfl om_ om_ (g_ (gv_st (k:=k) (v:=.int .u8 (((le8 no).getD k 0).toNat:Int)) S23 0 rfl rfl kr_ kr_ kr_ rfl (Nat.ble_eq_true_of_le (by rw [size_bvs,List.length_append,List.length_take,List.length_replicate];omega)) (L':=(row g17 (bvs ((le8 no).take (k+1)++List.replicate (8-(k+1)+d.length) 0)) 5::L)) (by rw [bvs_set,fill_set om_ h8];rfl) (fun w26 S27=>wE (inb_n (nR (gI .i64 (IntKind.i64.wrap (((k:Nat):Int)+1)) ((k+1:Nat):Int) (wr_eq om_ om_ om_) (pv (nI_ (k+1)) (wE (then_n ⟨k+1,(jE_ ⟨S27,om_⟩),(by show 8-(k+1)<8-k;omega)⟩)))))))))))))))
     ·have hk8:k=8:=by omega
      have ht8:(le8 no).take 8=le8 no:=List.take_of_length_le om_
      rw [hk8,ht8] at S23
      refine wE (nS (cF (wp_exit (then_x (then_x (inb_x (nSR (pv (.slice A a.length ca) (pv (iv 0) (pv (.slice A a.length ca) (wE (nS (sR ?_)))))))))))))
      refine pv (iv 1) (dE 1 0 (fun hd28=>False.elim (om_)) fun _=>wE (nCF (wp_skip (nSR (pv (.slice A a.length ca) (pv (sl g17 0 8 (8+d.length)) (pv (.slice D d.length cd) ?_)))))))
      have hln:8+d.length=(le8 no++d).length:=by rw [List.length_append];omega
      have hsp:splice (le8 no++List.replicate (8-8+d.length) 0) 8 d=le8 no++d:=by unfold splice;rw [List.take_left' h8,List.drop_of_length_le (by rw [List.length_append,List.length_replicate];omega),List.append_nil]
      refine g_ (gv_appendB (e:=5) (n:=8) (c:=8+d.length) (m:=d.length) (c':=cd) (A:=D) (l:=d) (X:=le8 no++List.replicate (8-8+d.length) 0) (n':=8+d.length) S23 0 rfl rfl kr_ kr_ kr_ kr_ rfl (hd.out _ [row g17 (bvs (le8 no++List.replicate (8-8+d.length) 0)) 5] S23) (Nat.le_refl _) (by rw [List.length_append,List.length_replicate];omega) rfl (L':=(row g17 (bvs (le8 no++d)) 5::L)) (by rw [hsp];rfl) (fun w29 S30=>sP2 Try.func40 #[.slice A a.length ca,sl g17 0 (8+d.length) (8+d.length)] (ps_seal' (a:=a) (b:=le8 no++d) S30 rfl hln ha.more (RoT.item 0 rfl 0 (le8 no++d).length _ (by rw [List.drop_zero,List.take_length])) om_ om_) fun A33 c34 w31 S32=>pv (.tuple #[.slice A33 ((sealF a (le8 no++d)).1.length) c34,iv ((sealF a (le8 no++d)).2:Int)]) (pv (.slice A33 ((sealF a (le8 no++d)).1.length) c34) (pv (iv ((sealF a (le8 no++d)).2:Int)) (pv (.slice A33 ((sealF a (le8 no++d)).1.length) c34) (pv (iv ((sealF a (le8 no++d)).2:Int)) (wER (pv (iv 0) (pv (.slice A33 ((sealF a (le8 no++d)).1.length) c34) (pv (iv ((sealF a (le8 no++d)).2:Int)) (pv (iv 0) (pv (.slice A33 ((sealF a (le8 no++d)).1.length) c34) (pv (iv ((sealF a (le8 no++d)).2:Int)) ?_)))))))))))))
      refine wE (then_n (wp_ret (bodyPost_ret (v:=.tuple #[iv 0,.slice A33 ((sealF a (le8 no++d)).1.length) c34,iv ((sealF a (le8 no++d)).2:Int)]) (Go.Vel.results_tmp3 rfl _ _ kr_ kr_ kr_) rfl ?_)))
      have e:=renew_end (a:=a) (b:=b) (no:=no) (d:=d) hl om_ om_ (by rw [hnw];simp<;>omega)
      rw [hnw,if_neg (by simp)] at e
      rw [e]
      have S35:=St.pm 2 [0] S32
      exact ⟨A33,c34,rfl,S35⟩
end
end Go.Proofs
end
section
namespace Go.Proofs
open Go Go.Vel
theorem open_or (s:List UInt8)(hs:s.length=512):openF s=([],30)∨∃b,b.length≤504∧s=form (s.getD 0 0) b:=by
 rw [openF_at hs rfl rfl]
 split
 ·exact .inl rfl
 ·rename_i h
  split
  ·rename_i h2
   exact .inr ⟨_,by rw [List.length_take];omega,h2⟩
  ·exact .inl rfl
theorem form_end (t:UInt8)(b:List UInt8)(hb:b.length≤504):(form t b).getD 511 0=t:=by
 have hl:=length_text hb
 have e:form t b=(t::((text b).take 2++(le4 (crc (text b))++(text b).drop 2)))++[t]:=by unfold form;simp
 have h511:(t::((text b).take 2++(le4 (crc (text b))++(text b).drop 2))).length=511:=by simp [length_le4];omega
 rw [e,List.getD_eq_getElem?_getD,List.getElem?_append_right om_,h511]
 rfl
theorem open_ends (s:List UInt8)(hs:s.length=512)(h:s.getD 0 0≠s.getD 511 0):openF s=([],30):=by
 rcases open_or s hs with h1|⟨b,hb,h1⟩
 ·exact h1
 ·exfalso
  apply h
  have:=form_end (s.getD 0 0) b hb
  rw [←h1] at this
  exact this.symm
def step (s:List UInt8)(p:Nat)(x:UInt8):List UInt8:=s.set p (s.getD p 0^^^x)
end Go.Proofs
end
section
open Go Go.RowKit Go.Proofs.YtgeioealgidkiaaW.PrintWords Go.Proofs.YtgeioealgidkiaaW.PrintMore
namespace Go.Proofs
open Go.Vel
set_option linter.unusedVariables false
theorem openF_form (t:UInt8)(b:List UInt8)(ht:t.toNat≤2)(hb:b.length≤504):openF (form t b)=(b,0):=by
 obtain ⟨s0,s1,s2,s3,hs⟩:∃s0 s1 s2 s3,le4 (crc (text b))=[s0,s1,s2,s3]:=⟨_,_,_,_,rfl⟩
 have hf:=form_eq t b s0 s1 s2 s3 hs
 have h1:(form t b).getD 1 0=UInt8.ofNat (b.length%256):=by rw [hf];rfl
 have h2:(form t b).getD 2 0=UInt8.ofNat (b.length/256):=by rw [hf];rfl
 have hn:b.length=((form t b).getD 1 0).toNat+256*((form t b).getD 2 0).toNat:=by
  rw [h1,h2,UInt8.toNat_ofNat',UInt8.toNat_ofNat',Nat.mod_eq_of_lt (show b.length%256<2^8 by omega),Nat.mod_eq_of_lt (show b.length/256<2^8 by omega)];omega
 have h0:t=(form t b).getD 0 0:=rfl
 rw [openF_at (length_form t hb) h0 hn,if_neg om_]
 have hd:((form t b).drop 7).take b.length=b:=by
  rw [hf];simp
 rw [hd,if_pos rfl]
theorem turn_ne (x y:UInt8):turnOf x y≠x∧turnOf x y≠y∧(turnOf x y).toNat≤2:=by
 have e0:∀z:UInt8,(0:UInt8)≠z↔z.toNat≠0:=fun z=>by rw [ne_eq,←UInt8.toNat_inj];simp;omega
 have e1:∀z:UInt8,(1:UInt8)≠z↔z.toNat≠1:=fun z=>by rw [ne_eq,←UInt8.toNat_inj];simp;omega
 have e2:∀z:UInt8,(2:UInt8)≠z↔z.toNat≠2:=fun z=>by rw [ne_eq,←UInt8.toNat_inj];simp;omega
 unfold turnOf
 split
 ·rename_i h;exact ⟨h.1,h.2,by decide⟩
 ·split
  ·rename_i h;exact ⟨h.1,h.2,by decide⟩
  ·rename_i h h'
   rw [e0,e0] at h
   rw [e1,e1] at h'
   exact ⟨(e2 x).2 om_,(e2 y).2 om_,by decide⟩
theorem mix_is (a b:List UInt8)(c:Nat)(hc:c≤512)(ha:a.length=512)(hb:b.length=512)(h:a.getD 0 0≠b.getD 511 0):(a.take c++b.drop c)=b∨(a.take c++b.drop c)=a∨openF (a.take c++b.drop c)=([],30):=by
 rcases Nat.eq_zero_or_pos c with h0|h0
 ·left;rw [h0];simp
 ·rcases Nat.lt_or_ge c 512 with h5|h5
  ·right;right
   refine open_ends _ (by simp;omega) ?_
   have e0:(a.take c++b.drop c).getD 0 0=a.getD 0 0:=by
    rw [List.getD_eq_getElem?_getD,List.getD_eq_getElem?_getD,List.getElem?_append_left (by simp;omega),List.getElem?_take_of_lt h0]
   have e1:(a.take c++b.drop c).getD 511 0=b.getD 511 0:=by
    rw [List.getD_eq_getElem?_getD,List.getD_eq_getElem?_getD,List.getElem?_append_right (by simp;omega),List.getElem?_drop]
    have:c+(511-(a.take c).length)=511:=by rw [List.length_take];omega
    rw [this]
   rw [e0,e1];exact h
  ·right;left
   rw [List.take_of_length_le om_,List.drop_of_length_le om_,List.append_nil]
theorem over_mixes (o b:List UInt8)(c:Nat)(hc:c≤512)(ho:o.length=512)(hb:b.length≤504)(s:List UInt8)(hs:s=form (turnOf (o.getD 0 0) (o.getD 511 0)) b):
  s.length=512∧(let m:=o.take c++s.drop c;m=o∨m=s∨openF m=([],30))∧(let m:=s.take c++o.drop c;m=o∨m=s∨openF m=([],30)):=by
 obtain ⟨n0,n1,n2⟩:=turn_ne (o.getD 0 0) (o.getD 511 0)
 have hl:s.length=512:=by rw [hs];exact length_form _ hb
 have e0:s.getD 0 0=turnOf (o.getD 0 0) (o.getD 511 0):=by rw [hs];rfl
 have e1:s.getD 511 0=turnOf (o.getD 0 0) (o.getD 511 0):=by rw [hs];exact form_end _ b hb
 refine ⟨hl, ?_, ?_⟩
 ·rcases mix_is o s c hc ho hl (by rw [e1];exact n0.symm) with h|h|h
  ·exact .inr (.inl h)
  ·exact .inl h
  ·exact .inr (.inr h)
 ·rcases mix_is s o c hc hl ho (by rw [e0];exact n1) with h|h|h
  ·exact .inl h
  ·exact .inr (.inl h)
  ·exact .inr (.inr h)
theorem leN_le8 {no:Int}(h0:0≤no)(h1:no≤9223372036854775807):leN (le8 no)=no.toNat:=by
 have e:le8 no=(List.range 8).map fun i=>UInt8.ofNat (no.toNat/256^i%256):=by
  apply List.ext_getElem?
  intro k
  rw [List.getElem?_map]
  by_cases hk:k<8
  ·have h2:=le8_nat h0 hk
   rw [List.getElem?_range hk,Option.map_some,←h2,List.getD_eq_getElem?_getD,List.getElem?_eq_getElem (by rw [length_le8];exact hk)];rfl
  ·rw [List.getElem?_eq_none (by rw [length_le8];omega),List.getElem?_eq_none (by simpa using hk)];rfl
 rw [e]
 have hn:no.toNat≤9223372036854775807:=by omega
 generalize no.toNat=n at*
 simp only [List.range,List.range.loop,List.map_cons,List.map_nil,leN,UInt8.toNat_ofNat',Nat.reducePow,Nat.div_one]
 omega
theorem readF_new {t:UInt8}{no:Int}{d:List UInt8}(ht:t.toNat≤2)(h0:1≤no)(h1:no≤9223372036854775807)(hd:d.length≤496):readF (form t (le8 no++d))=(no.toNat,d):=by
 have h8:=length_le8 no
 have ho:=openF_form t (le8 no++d) ht (by rw [List.length_append];omega)
 have hk:(le8 no++d).take 8=le8 no:=by rw [List.take_append_of_le_length om_,List.take_of_length_le om_]
 have hdr:(le8 no++d).drop 8=d:=by rw [List.drop_append,List.drop_of_length_le om_,h8];rfl
 have hn:=leN_le8 (no:=no) om_ h1
 unfold readF
 rw [ho]
 simp only []
 rw [if_neg (by rw [List.length_append];omega),hk,hdr,hn,if_neg om_]
theorem readF_torn {m:List UInt8}(h:openF m=([],30)):readF m=(0,[]):=by
 unfold readF;rw [h];rfl
def putIn (a b:List UInt8)(slot:Nat)(x:List UInt8):List UInt8×List UInt8:=if slot=0 then (x,b) else (a,x)
theorem newest_of {l r:List UInt8}(h:l.length=512∧r.length=512):newestF l r=if (readF l).1=0∧(readF r).1=0 then (0,0,[],30) else if (readF l).1<(readF r).1 then (1,(readF r).1,(readF r).2,0) else (0,(readF l).1,(readF l).2,0):=by
 unfold newestF;rw [if_pos h]
structure Renewed (a b:List UInt8)(no:Int)(d:List UInt8):Prop where
 len:(renewF a b no d).2.1.length=512
 slot:(renewF a b no d).1=0∨(renewF a b no d).1=1
 other:(newestF a b).2.2.2=0→(renewF a b no d).1≠(newestF a b).1
 first:(newestF a b).2.2.2≠0→(renewF a b no d).1=0
 new:newestF (putIn a b (renewF a b no d).1 (renewF a b no d).2.1).1 (putIn a b (renewF a b no d).1 (renewF a b no d).2.1).2=((renewF a b no d).1,no.toNat,d,0)
 torn:∀m,m=(if (renewF a b no d).1=1 then b else a)∨m=(renewF a b no d).2.1∨openF m=([],30)→m.length=512→newestF (putIn a b (renewF a b no d).1 m).1 (putIn a b (renewF a b no d).1 m).2=((renewF a b no d).1,no.toNat,d,0)∨newestF (putIn a b (renewF a b no d).1 m).1 (putIn a b (renewF a b no d).1 m).2=newestF a b
 mix:∀c,c≤512→let o:=(if (renewF a b no d).1=1 then b else a);let s:=(renewF a b no d).2.1;(o.take c++s.drop c=o∨o.take c++s.drop c=s∨openF (o.take c++s.drop c)=([],30))∧(s.take c++o.drop c=o∨s.take c++o.drop c=s∨openF (s.take c++o.drop c)=([],30))
theorem renew_told {a b:List UInt8}{no:Int}{d:List UInt8}(hl:a.length=512∧b.length=512)(hd:d.length≤496)(hno:no≤9223372036854775807):
  ((renewF a b no d).2.2≠0∧¬(1≤no∧((newestF a b).2.2.2≠0∨((newestF a b).2.1:Int)<no)))∨((renewF a b no d).2.2=0∧(1≤no∧((newestF a b).2.2.2≠0∨((newestF a b).2.1:Int)<no))∧Renewed a b no d):=by
 by_cases h1:no<1
 ·left
  have e:renewF a b no d=(0,[],1):=by unfold renewF;rw [if_neg (fun h=>h hl),if_pos h1]
  rw [e];exact ⟨by decide,fun h=>by omega⟩
 by_cases h3:(newestF a b).2.2.2=0∧no≤((newestF a b).2.1:Int)
 ·left
  have e:renewF a b no d=(0,[],31):=by rw [renew_mid hl h1 om_,if_pos h3]
  rw [e];exact ⟨by decide,fun h=>by omega⟩
 right
 have h8:=length_le8 no
 have hbl:(le8 no++d).length≤504:=by rw [List.length_append];omega
 have e:=renew_end hl h1 (show¬496<d.length by omega) h3
 have sealed:∀o:List UInt8,o.length=512→sealF o (le8 no++d)=(form (turnOf (o.getD 0 0) (o.getD 511 0)) (le8 no++d),0):=fun o ho=>by unfold sealF;rw [if_neg om_,if_neg om_]
 have hnn:=newest_of hl
 have key:∀(slot:Nat) (o other:List UInt8),(slot=0∧o=a∧other=b)∨(slot=1∧o=b∧other=a)→(readF other).1<no.toNat→((newestF a b).2.2.2=0→newestF a b=(1-slot,(readF other).1,(readF other).2,0))→((newestF a b).2.2.2≠0→(readF other).1=0∧newestF a b=(0,0,[],30)∧slot=0)→renewF a b no d=(slot,form (turnOf (o.getD 0 0) (o.getD 511 0)) (le8 no++d),0)→(renewF a b no d).2.2=0∧Renewed a b no d:=by
  intro slot o other hs hlt hq0 hq1 er
  have ho:o.length=512:=by rcases hs with ⟨_,rfl,_⟩|⟨_,rfl,_⟩<;>omega
  obtain ⟨n0,n1,n2⟩:=turn_ne (o.getD 0 0) (o.getD 511 0)
  obtain ⟨s,hsd⟩:∃s,s=form (turnOf (o.getD 0 0) (o.getD 511 0)) (le8 no++d):=⟨_,rfl⟩
  have hsl:s.length=512:=by rw [hsd];exact length_form _ hbl
  have hrs:readF s=(no.toNat,d):=by rw [hsd];exact readF_new n2 om_ hno hd
  have hsl01:slot=0∨slot=1:=hs.elim (fun h=>.inl h.1) (fun h=>.inr h.1)
  have hold:(if slot=1 then b else a)=o:=by
   rcases hs with ⟨rfl,rfl,_⟩|⟨rfl,rfl,_⟩
   ·exact if_neg dc_
   ·exact if_pos rfl
  rw [←hsd] at er
  have hnew:newestF (putIn a b slot s).1 (putIn a b slot s).2=(slot,no.toNat,d,0):=by
   rcases hs with ⟨rfl,rfl,rfl⟩|⟨rfl,rfl,rfl⟩
   ·show newestF s other=_
    rw [newest_of ⟨hsl,hl.2⟩,hrs,if_neg (by simp only [];omega),if_neg (by simp only [];omega)]
   ·show newestF other s=_
    rw [newest_of ⟨hl.1,hsl⟩,hrs,if_neg (by simp only [];omega),if_pos (by simp only [];omega)]
  have hback:newestF (putIn a b slot o).1 (putIn a b slot o).2=newestF a b:=by
   rcases hs with ⟨rfl,rfl,rfl⟩|⟨rfl,rfl,rfl⟩<;>rfl
  have htorn:∀m:List UInt8,m.length=512→openF m=([],30)→newestF (putIn a b slot m).1 (putIn a b slot m).2=newestF a b:=fun m hm ht=>by
   have hr:=readF_torn ht
   by_cases hq:(newestF a b).2.2.2=0
   ·rw [hq0 hq]
    have hne:(readF other).1≠0:=fun h0=>by
     have h9:=hq0 hq
     rw [hnn] at h9
     split at h9
     ·exact absurd (show (30:Nat)=0 from congrArg (fun x=>x.2.2.2) h9) dc_
     ·rename_i hz
      split at h9
      ·rename_i hz2
       simp only [Prod.mk.injEq] at h9
       omega
      ·rename_i hz2
       simp only [Prod.mk.injEq] at h9
       omega
    rcases hs with ⟨rfl,rfl,rfl⟩|⟨rfl,rfl,rfl⟩
    ·show newestF m other=_
     rw [newest_of ⟨hm,hl.2⟩,hr,if_neg (by simp only [];omega),if_pos (by simp only [];omega)]
    ·show newestF other m=_
     rw [newest_of ⟨hl.1,hm⟩,hr,if_neg (by simp only [];omega),if_neg (by simp only [];omega)]
   ·obtain ⟨g1,g2,rfl⟩:=hq1 hq
    rw [g2]
    rcases hs with ⟨_,rfl,rfl⟩|⟨h,_⟩
    ·show newestF m other=_
     rw [newest_of ⟨hm,hl.2⟩,hr,if_pos ⟨rfl,g1⟩]
    ·cases h
  refine ⟨by rw [er],by rw [er];exact hsl,by rw [er];exact hsl01,fun hq=> ?_,fun hq=> ?_,by rw [er];exact hnew,fun m hm hm5=> ?_,fun c hc=> ?_⟩
  ·rw [er,hq0 hq];show slot≠1-slot;omega
  ·rw [er];exact (hq1 hq).2.2
  ·rw [er] at hm ⊢
   simp only [] at hm ⊢
   rw [hold] at hm
   rcases hm with rfl|rfl|hm
   ·exact .inr hback
   ·exact .inl hnew
   ·exact .inr (htorn m hm5 hm)
  ·rw [er]
   simp only []
   rw [hold]
   exact (over_mixes o (le8 no++d) c hc ho hbl s hsd).2
 have h13:1≤no∧((newestF a b).2.2.2≠0∨((newestF a b).2.1:Int)<no):=⟨by omega,by omega⟩
 by_cases hz:(readF a).1=0∧(readF b).1=0
 ·rw [if_pos hz] at hnn
  rw [hnn] at e h3
  rw [if_neg (by simp),sealed a hl.1] at e
  obtain ⟨r1,r2⟩:=key 0 a b (.inl ⟨rfl,rfl,rfl⟩) om_ (fun h=>by rw [hnn] at h;exact absurd (show (30:Nat)=0 from h) dc_) (fun _=>⟨hz.2,hnn,rfl⟩) e
  exact ⟨r1,h13,r2⟩
 ·rw [if_neg hz] at hnn
  by_cases hlt:(readF a).1<(readF b).1
  ·rw [if_pos hlt] at hnn
   rw [hnn] at e h3
   rw [if_neg (by simp),sealed a hl.1] at e
   obtain ⟨r1,r2⟩:=key 0 a b (.inl ⟨rfl,rfl,rfl⟩) (by have h4:¬no≤((readF b).1:Int):=fun h=>h3 ⟨rfl,h⟩;omega) (fun _=>hnn) (fun h=>by rw [hnn] at h;exact absurd rfl h) e
   exact ⟨r1,h13,r2⟩
  ·rw [if_neg hlt] at hnn
   rw [hnn] at e h3
   rw [if_pos ⟨rfl,rfl⟩,sealed b hl.2] at e
   obtain ⟨r1,r2⟩:=key 1 b a (.inr ⟨rfl,rfl,rfl⟩) (by have h4:¬no≤((readF a).1:Int):=fun h=>h3 ⟨rfl,h⟩;omega) (fun _=>hnn) (fun h=>by rw [hnn] at h;exact absurd rfl h) e
   exact ⟨r1,h13,r2⟩
end Go.Proofs
end
section
open Go Go.RowKit Go.Proofs.YtgeioealgidkiaaW.PrintWords Go.Proofs.YtgeioealgidkiaaW.PrintMore
namespace Go.Proofs
open Go.Vel
set_option linter.unusedVariables false
set_option maxRecDepth 100000
set_option maxHeartbeats 4000000
attribute [local irreducible] gives wpList Code.wp
section
variable {F:Nat→Prop} {w0 w:World} {L:List Ast}
theorem tw3 (S:St F w0 w L){A:Option Addr}{l:List UInt8}{ca:Nat}(hr:RoT F w0 L A l)(hlm:l.length≤140737488355328):Calls Try.prog 43 #[.slice A l.length ca] w fun e w'=>∃A c,e=.returned (.slice A l.length c)∧St F w0 w' (vec 5 1 (.slice A l.length c) l.length (l.map bv)::L):=by
 have S1:St F w0 w (vec 5 1 (nS_) 0 ([].map bv)::L):=St.vec_nil S
 refine eN (fr [.slice A l.length ca] 18) Try.func43 rfl (sR (pv (nS_) (wER (pv (nS_) (wE (nS (sR (pv (iv 0) (wE (then_n (wp_block (wp_loop_g (G:=Nat×Option Addr×Nat) (fun (g_:Nat×Option Addr×Nat) (a_:Act) (w_:World)=>∃J:Nat→Value,a_=(fr ([.slice A l.length ca,ud,nS_,.slice g_.2.1 g_.1 g_.2.2,nI_ g_.1]++jR J 5 13) 1)∧St F w0 w_ (vec 5 1 (.slice g_.2.1 g_.1 g_.2.2) g_.1 ((pre l g_.1).map bv)::L)∧(g_.1≤l.length)) (fun g_=>l.length-g_.1) (0,none,0) (jE_ ⟨S1,Nat.zero_le _⟩) ?_))))))))))))
 rintro ⟨i,A5,c5⟩ a_ w2 ⟨J,rfl,S3,hI4⟩
 skip
 have S3:St F w0 w2 (vec 5 1 (.slice A5 i c5) i ((pre l i).map bv)::L):=S3
 have hI4:(i≤l.length):=hI4
 refine wp_seq (sR (pv (nI_ i) (pv (.slice A l.length ca) (pv (iv (l.length:Nat)) (dC ((((i:Nat):Int):Int)<(l.length:Nat)) (fun hb5=> ?_) fun hb5=> ?_)))))
 ·have hi:i<l.length:=by omega
  obtain ⟨ad,had⟩:=(hr.out _ [vec 5 1 (.slice A5 i c5) i ((pre l i).map bv)] S3).at hi
  refine wE (nCT (wp_skip (nS (wp_block (wp_region_lit (pv (.slice A5 i c5) (pv (.slice A l.length ca) (pv (nI_ i) (g_ (gv_ixB (e:=5) (sz:=1) (n:=l.length) (c:=ca) (i:=((i:Nat):Int)) (k:=.i64) (ad:=ad) (ad':=(ad.add i)) (j:=i) rfl kr_ kr_ (by rw [←had];kernel_rfl) kr_ rfl hi (by rw [Nat.mul_one]) (lQ (.int .u8 ((l.getD i 0).toNat:Int)) ((had▸hr.out _ [vec 5 1 (.slice A5 i c5) i ((pre l i).map bv)] S3:RdB _ (some ad) l).cell hi) (g_ (gv_slit (e:=5) (sz:=1) (z:=.int .u8 0) (by_:=1) (vs:=#[(0,.int .u8 ((l.getD i 0).toNat:Int))]) (cells:=#[.int .u8 ((l.getD i 0).toNat:Int)]) S3 rfl kr_ ⟨by kernel_rfl⟩ kr_ kr_ kr_ kr_ (fun g6 w7 hg8 S9=> ?_))))))))))))))
  have S10:St F w0 w7 (row g6 #[.int .u8 ((l.getD i 0).toNat:Int)] 5::vec 5 1 (.slice A5 i c5) i ((pre l i).map bv)::L):=St.pm 2 [0,1] S9
  refine g_ (gv_append (e:=5) (sz:=1) (n:=i) (v:=(.slice A5 i c5)) (vals:=((pre l i).map bv)) (z:=.int .u8 0) (by_:=1) (m:=1) (c':=1) (ad:=⟨g6,0,none⟩) (news:=[.int .u8 ((l.getD i 0).toNat:Int)]) (St.swap S10) rfl kr_ ⟨by kernel_rfl⟩ rfl kr_ kr_ dc_ rfl (row_news (S10.blk 0 rfl)) (by intro u hu;simp at hu;subst hu;rfl) om_ om_ (fun v12 w11 S13=> ?_))
  have S14:St F w0 w11 (vec 5 1 v12 (i+1) ((pre l i).map bv++[.int .u8 ((l.getD i 0).toNat:Int)])::L):=St.pm 2 [0] S13
  rw [pre_succ] at S14
  obtain ⟨A15,c16,rfl⟩:=St.vecV S14 0 rfl
  change St F w0 w11 (vec 5 1 (.slice A15 (i+1) c16) (i+1) ((pre l (i+1)).map bv)::L) at S14
  exact pv (.slice A15 (i+1) c16) (wE (inb_n (nR (pv (nI_ i) (gI .i64 (IntKind.i64.wrap (((i:Nat):Int)+1)) ((i+1:Nat):Int) wq_ (pv (nI_ (i+1)) (wE (then_n ⟨(i+1,A15,c16),(jE_ ⟨S14,om_⟩),(by show l.length-(i+1)<l.length-i;omega)⟩))))))))
 ·refine wE (nCF (wp_exit (then_x (then_x (inb_x (nSR (pv (.slice A5 i c5) (pv (.slice A5 i c5) (wE (then_n (wp_ret (bA (.slice A5 i c5) ?_))))))))))))
  have hie:i=l.length:=by omega
  rw [hie,pre_all] at S3
  exact ⟨_,_,by rw [hie],S3⟩
def sec3 (l:List UInt8):List UInt8:=pre l 512
theorem sec3_len (l:List UInt8):(sec3 l).length=512:=length_pre l 512
theorem se3 (S:St F w0 w L){A:Option Addr}{l:List UInt8}{ca:Nat}(hr:RoT F w0 L A l)(hlm:l.length≤140737488355328):Calls Try.prog 41 #[.slice A l.length ca] w fun e w'=>∃A c,e=.returned (.slice A 512 c)∧St F w0 w' (vec 5 1 (.slice A 512 c) 512 ((sec3 l).map bv)::L):=by
 have S1:St F w0 w (vec 5 1 (nS_) 0 ([].map bv)::L):=St.vec_nil S
 refine eN (fr [.slice A l.length ca] 23) Try.func41 rfl (sR (pv (nS_) (wER (pv (nS_) (wE (nS (sR (pv (iv 0) (wE (then_n (wp_block (wp_loop_g (G:=Nat×Option Addr×Nat) (fun (g_:Nat×Option Addr×Nat) (a_:Act) (w_:World)=>∃J:Nat→Value,a_=(fr ([.slice A l.length ca,ud,nS_,.slice g_.2.1 g_.1 g_.2.2,nI_ g_.1]++jR J 5 18) 1)∧St F w0 w_ (vec 5 1 (.slice g_.2.1 g_.1 g_.2.2) g_.1 ((pre l g_.1).map bv)::L)∧(g_.1≤512)) (fun g_=>512-g_.1) (0,none,0) (jE_ ⟨S1,Nat.zero_le _⟩) ?_))))))))))))
 rintro ⟨i,A5,c5⟩ a_ w2 ⟨J,rfl,S3,hI4⟩
 skip
 have S3:St F w0 w2 (vec 5 1 (.slice A5 i c5) i ((pre l i).map bv)::L):=S3
 have hI4:(i≤512):=hI4
 refine wp_seq (sR (pv (nI_ i) (dC ((((i:Nat):Int):Int)<512) (fun hb5=> ?_) fun hb5=> ?_)))
 ·refine wE (nCT (wp_skip (nS (wp_block (sR (pv (nI_ i) (pv (.slice A l.length ca) (pv (iv (l.length:Nat)) (dC ((((i:Nat):Int):Int)<(l.length:Nat)) (fun hb6=> ?_) fun hb6=> ?_)))))))))
  ·have hi:i<l.length:=by omega
   obtain ⟨ad,had⟩:=(hr.out _ [vec 5 1 (.slice A5 i c5) i ((pre l i).map bv)] S3).at hi
   refine wE (nCT (wp_region_lit (pv (.slice A5 i c5) (pv (.slice A l.length ca) (pv (nI_ i) (g_ (gv_ixB (e:=5) (sz:=1) (n:=l.length) (c:=ca) (i:=((i:Nat):Int)) (k:=.i64) (ad:=ad) (ad':=(ad.add i)) (j:=i) rfl kr_ kr_ (by rw [←had];kernel_rfl) kr_ rfl hi (by rw [Nat.mul_one]) (lQ (.int .u8 ((l.getD i 0).toNat:Int)) ((had▸hr.out _ [vec 5 1 (.slice A5 i c5) i ((pre l i).map bv)] S3:RdB _ (some ad) l).cell hi) (g_ (gv_slit (e:=5) (sz:=1) (z:=.int .u8 0) (by_:=1) (vs:=#[(0,.int .u8 ((l.getD i 0).toNat:Int))]) (cells:=#[.int .u8 ((l.getD i 0).toNat:Int)]) S3 rfl kr_ ⟨by kernel_rfl⟩ kr_ kr_ kr_ kr_ (fun g7 w8 hg9 S10=> ?_)))))))))))
   have S11:St F w0 w8 (row g7 #[.int .u8 ((l.getD i 0).toNat:Int)] 5::vec 5 1 (.slice A5 i c5) i ((pre l i).map bv)::L):=St.pm 2 [0,1] S10
   refine g_ (gv_append (e:=5) (sz:=1) (n:=i) (v:=(.slice A5 i c5)) (vals:=((pre l i).map bv)) (z:=.int .u8 0) (by_:=1) (m:=1) (c':=1) (ad:=⟨g7,0,none⟩) (news:=[.int .u8 ((l.getD i 0).toNat:Int)]) (St.swap S11) rfl kr_ ⟨by kernel_rfl⟩ rfl kr_ kr_ dc_ rfl (row_news (S11.blk 0 rfl)) (by intro u hu;simp at hu;subst hu;rfl) om_ om_ (fun v13 w12 S14=> ?_))
   have S15:St F w0 w12 (vec 5 1 v13 (i+1) ((pre l i).map bv++[.int .u8 ((l.getD i 0).toNat:Int)])::L):=St.pm 2 [0] S14
   rw [pre_succ] at S15
   obtain ⟨A16,c17,rfl⟩:=St.vecV S15 0 rfl
   change St F w0 w12 (vec 5 1 (.slice A16 (i+1) c17) (i+1) ((pre l (i+1)).map bv)::L) at S15
   exact pv (.slice A16 (i+1) c17) (wE (inb_n (nR (pv (nI_ i) (gI .i64 (IntKind.i64.wrap (((i:Nat):Int)+1)) ((i+1:Nat):Int) wq_ (pv (nI_ (i+1)) (wE (then_n ⟨(i+1,A16,c17),(jE_ ⟨S15,om_⟩),(by show 512-(i+1)<512-i;omega)⟩))))))))
  ·have hz:((l.getD i 0).toNat:Int)=0:=getD_past om_
   refine wE (nCF (wp_region_lit (pv (.slice A5 i c5) (g_ (gv_slit (e:=5) (sz:=1) (z:=.int .u8 0) (by_:=1) (vs:=#[(0,.int .u8 0)]) (cells:=#[.int .u8 0]) S3 rfl kr_ ⟨by kernel_rfl⟩ kr_ kr_ kr_ kr_ (fun g18 w19 hg20 S21=> ?_))))))
   have S22:St F w0 w19 (row g18 #[.int .u8 ((l.getD i 0).toNat:Int)] 5::vec 5 1 (.slice A5 i c5) i ((pre l i).map bv)::L):=(by rw [hz];exact S21)
   have S23:St F w0 w19 (row g18 #[.int .u8 ((l.getD i 0).toNat:Int)] 5::vec 5 1 (.slice A5 i c5) i ((pre l i).map bv)::L):=St.pm 2 [0,1] S22
   refine g_ (gv_append (e:=5) (sz:=1) (n:=i) (v:=(.slice A5 i c5)) (vals:=((pre l i).map bv)) (z:=.int .u8 0) (by_:=1) (m:=1) (c':=1) (ad:=⟨g18,0,none⟩) (news:=[.int .u8 ((l.getD i 0).toNat:Int)]) (St.swap S23) rfl kr_ ⟨by kernel_rfl⟩ rfl kr_ kr_ dc_ rfl (row_news (S23.blk 0 rfl)) (by intro u hu;simp at hu;subst hu;rfl) om_ om_ (fun v25 w24 S26=> ?_))
   have S27:St F w0 w24 (vec 5 1 v25 (i+1) ((pre l i).map bv++[.int .u8 ((l.getD i 0).toNat:Int)])::L):=St.pm 2 [0] S26
   rw [pre_succ] at S27
   obtain ⟨A28,c29,rfl⟩:=St.vecV S27 0 rfl
   change St F w0 w24 (vec 5 1 (.slice A28 (i+1) c29) (i+1) ((pre l (i+1)).map bv)::L) at S27
   exact pv (.slice A28 (i+1) c29) (wE (inb_n (nR (pv (nI_ i) (gI .i64 (IntKind.i64.wrap (((i:Nat):Int)+1)) ((i+1:Nat):Int) wq_ (pv (nI_ (i+1)) (wE (then_n ⟨(i+1,A28,c29),(jE_ ⟨S27,om_⟩),(by show 512-(i+1)<512-i;omega)⟩))))))))
 ·refine wE (nCF (wp_exit (then_x (then_x (inb_x (nSR (pv (.slice A5 i c5) (pv (.slice A5 i c5) (wE (then_n (wp_ret (bA (.slice A5 i c5) ?_))))))))))))
  have hie:i=512:=by omega
  rw [hie] at S3
  exact ⟨_,_,by rw [hie],S3⟩
theorem up3 (S:St F w0 w L){A:Option Addr}{l:List UInt8}{ca:Nat}(hr:RoT F w0 L A l)(hlm:l.length≤140737488355328){n:Int}:Calls Try.prog 100 #[.slice A l.length ca,.int .i64 n] w fun e w'=>∃A c,e=.returned (.slice A (l.take n.toNat).length c)∧St F w0 w' (vec 5 1 (.slice A (l.take n.toNat).length c) (l.take n.toNat).length ((l.take n.toNat).map bv)::L):=by
 have S1:St F w0 w (vec 5 1 (nS_) 0 ([].map bv)::L):=St.vec_nil S
 refine eN (fr [.slice A l.length ca,iv n] 24) Try.func100 rfl (sR (pv (nS_) (wER (pv (nS_) (wE (nS (sR (pv (iv 0) (wE (then_n (wp_block (wp_loop_g (G:=Nat×Option Addr×Nat) (fun (g_:Nat×Option Addr×Nat) (a_:Act) (w_:World)=>∃J:Nat→Value,a_=(fr ([.slice A l.length ca,iv n,ud,ud,nS_,.slice g_.2.1 g_.1 g_.2.2,nI_ g_.1]++jR J 7 18) 1)∧St F w0 w_ (vec 5 1 (.slice g_.2.1 g_.1 g_.2.2) g_.1 ((pre l g_.1).map bv)::L)∧(g_.1≤l.length∧g_.1≤n.toNat)) (fun g_=>l.length-g_.1) (0,none,0) (jE_ ⟨S1,⟨Nat.zero_le _,Nat.zero_le _⟩⟩) ?_))))))))))))
 rintro ⟨i,A5,c5⟩ a_ w2 ⟨J,rfl,S3,hI4⟩
 skip
 have S3:St F w0 w2 (vec 5 1 (.slice A5 i c5) i ((pre l i).map bv)::L):=S3
 have hI4:(i≤l.length∧i≤n.toNat):=hI4
 refine wp_seq (sR (pv (nI_ i) (pv (.slice A l.length ca) (pv (iv (l.length:Nat)) (dC ((((i:Nat):Int):Int)<(l.length:Nat)) (fun hb5=> ?_) fun hb5=> ?_)))))
 ·refine pv tv (pW (nI_ i) (pW (iv n) (wl_when kr_ (gv_dec (p:=(((i:Nat):Int):Int)<n) kr_ (fun hb6=> ?_) (fun hb6=> ?_)))))
  ·have hi:i<l.length:=by omega
   obtain ⟨ad,had⟩:=(hr.out _ [vec 5 1 (.slice A5 i c5) i ((pre l i).map bv)] S3).at hi
   refine pv tv (wE (nCT (wp_skip (nS (wp_block (wp_region_lit (pv (.slice A5 i c5) (pv (.slice A l.length ca) (pv (nI_ i) (g_ (gv_ixB (e:=5) (sz:=1) (n:=l.length) (c:=ca) (i:=((i:Nat):Int)) (k:=.i64) (ad:=ad) (ad':=(ad.add i)) (j:=i) rfl kr_ kr_ (by rw [←had];kernel_rfl) kr_ rfl hi (by rw [Nat.mul_one]) (lQ (.int .u8 ((l.getD i 0).toNat:Int)) ((had▸hr.out _ [vec 5 1 (.slice A5 i c5) i ((pre l i).map bv)] S3:RdB _ (some ad) l).cell hi) (g_ (gv_slit (e:=5) (sz:=1) (z:=.int .u8 0) (by_:=1) (vs:=#[(0,.int .u8 ((l.getD i 0).toNat:Int))]) (cells:=#[.int .u8 ((l.getD i 0).toNat:Int)]) S3 rfl kr_ ⟨by kernel_rfl⟩ kr_ kr_ kr_ kr_ (fun g7 w8 hg9 S10=> ?_)))))))))))))))
   have S11:St F w0 w8 (row g7 #[.int .u8 ((l.getD i 0).toNat:Int)] 5::vec 5 1 (.slice A5 i c5) i ((pre l i).map bv)::L):=St.pm 2 [0,1] S10
   refine g_ (gv_append (e:=5) (sz:=1) (n:=i) (v:=(.slice A5 i c5)) (vals:=((pre l i).map bv)) (z:=.int .u8 0) (by_:=1) (m:=1) (c':=1) (ad:=⟨g7,0,none⟩) (news:=[.int .u8 ((l.getD i 0).toNat:Int)]) (St.swap S11) rfl kr_ ⟨by kernel_rfl⟩ rfl kr_ kr_ dc_ rfl (row_news (S11.blk 0 rfl)) (by intro u hu;simp at hu;subst hu;rfl) om_ om_ (fun v13 w12 S14=> ?_))
   have S15:St F w0 w12 (vec 5 1 v13 (i+1) ((pre l i).map bv++[.int .u8 ((l.getD i 0).toNat:Int)])::L):=St.pm 2 [0] S14
   rw [pre_succ] at S15
   obtain ⟨A16,c17,rfl⟩:=St.vecV S15 0 rfl
   change St F w0 w12 (vec 5 1 (.slice A16 (i+1) c17) (i+1) ((pre l (i+1)).map bv)::L) at S15
   exact pv (.slice A16 (i+1) c17) (wE (inb_n (nR (pv (nI_ i) (gI .i64 (IntKind.i64.wrap (((i:Nat):Int)+1)) ((i+1:Nat):Int) wq_ (pv (nI_ (i+1)) (wE (then_n ⟨(i+1,A16,c17),(jE_ ⟨S15,⟨by omega,by omega⟩⟩),(by show l.length-(i+1)<l.length-i;omega)⟩))))))))
  ·refine pv fv (wE (nCF (wp_exit (then_x (then_x (inb_x (nSR (pv (.slice A5 i c5) (pv (.slice A5 i c5) (wE (then_n (wp_ret (bA (.slice A5 i c5) ?_)))))))))))))
   have hie:i=(l.take n.toNat).length:=by rw [List.length_take];omega
   have hit:pre l i=l.take n.toNat:=by rw [pre_take om_,hie,List.length_take];exact List.take_eq_take_min.symm
   rw [hit,hie] at S3
   exact ⟨_,_,by rw [hie],S3⟩
 ·refine pv fv (wN (wN (wN (pv fv (wE (nCF (wp_exit (then_x (then_x (inb_x (nSR (pv (.slice A5 i c5) (pv (.slice A5 i c5) ?_)))))))))))))
  refine wE (then_n (wp_ret (bA (.slice A5 i c5) ?_)))
  have hie:i=(l.take n.toNat).length:=by rw [List.length_take];omega
  have hit:pre l i=l.take n.toNat:=by rw [pre_take om_,hie,List.length_take];exact List.take_eq_take_min.symm
  rw [hit,hie] at S3
  exact ⟨_,_,by rw [hie],S3⟩
theorem same3_ {A B:Option Addr}{a b:List UInt8}{ca cb:Nat}(S:St F w0 w L)(hx:RoT F w0 L A a)(hy:RoT F w0 L B b)(hm:a.length≤9223372036854775807)(hm2:b.length≤9223372036854775807):
  Calls Try.prog 45 #[.slice A a.length ca,.slice B b.length cb] w fun e w'=>e=.returned (.bool (decide (a=b)))∧St F w0 w' L:=by
 refine eN (fr [.slice A a.length ca,.slice B b.length cb] 24) Try.func45 rfl (sR (pv fv (wE (nS (sR (pv (.slice A a.length ca) (pv (iv (a.length:Nat)) (pv (.slice B b.length cb) (pv (iv (b.length:Nat)) (dN (a.length:Nat) (b.length:Nat) (fun hb1=> ?_) fun hb1=> ?_))))))))))
 ·have hlen:¬a.length=b.length:=fun e=>hb1 (by rw [e])
  exact wE (nCT (sR (pv fv (wE (then_n (rR (bA (.bool false) ⟨by rw [decide_eq_false (fun e=>hlen (by rw [e]))],S⟩)))))))
 ·have hlen:a.length=b.length:=Int.ofNat.inj hb1
  refine wE (nCF (wp_skip (nS (sR (pv (iv 0) (wE (then_n (wp_block (wp_loop_g (G:=Nat) (fun (g_:Nat) (a_:Act) (w_:World)=>∃J:Nat→Value,a_=(fr ([.slice A a.length ca,.slice B b.length cb,ud,ud,J 4,nI_ g_,.slice A a.length ca,iv (a.length:Nat),.slice B b.length cb,iv (b.length:Nat),fv]++jR J 11 15) 0)∧St F w0 w_ (L)∧(g_≤a.length∧∀m,m<g_→((a.getD m 0).toNat:Int)=((b.getD m 0).toNat:Int))) (fun g_=>a.length-g_) 0 (jE_ ⟨S,⟨Nat.zero_le _,fun m h=>absurd h (Nat.not_lt_zero _)⟩⟩) ?_)))))))))
  rintro k a_ w2 ⟨J,rfl,S3,hI4⟩
  skip
  have S3:St F w0 w2 (L):=S3
  have hI4:(k≤a.length∧∀m,m<k→((a.getD m 0).toNat:Int)=((b.getD m 0).toNat:Int)):=hI4
  refine wp_seq (sR (pv (nI_ k) (pv (.slice A a.length ca) (pv (iv (a.length:Nat)) (dC ((((k:Nat):Int):Int)<(a.length:Nat)) (fun hb5=> ?_) fun hb5=> ?_)))))
  ·have hk:k<a.length:=by omega
   obtain ⟨ada,rfl⟩:=(hx.now S3).at hk
   obtain ⟨adb,rfl⟩:=(hy.now S3).at (hlen▸hk)
   refine wE (nCT (wp_skip (nS (wp_block (wp_seq (wp_region_phu (γ:=Unit) 9 [] (fun (c_:Unit) (i_:Nat)=>(match i_ with|0=>.slice (some ada) a.length ca|1=>nI_ k|2=>.pointer (some (ada.add k))|3=>.int .u8 ((a.getD k 0).toNat:Int)|4=>.slice (some adb) b.length cb|5=>nI_ k|6=>.pointer (some (adb.add k))|7=>.int .u8 ((b.getD k 0).toNat:Int)|8=>.bool (((a.getD k 0).toNat:Int) !=((b.getD k 0).toNat:Int))|_=>undef:Value)) (fun (c_:Unit) (p_:Nat) (w_:World)=>(match p_ with|_=>St F w0 w_ (L):Prop)) () kr_ kr_ kr_ kr_ (S3.drew) ?_ ?_ ?_))))))
   ·intro i_ c_ p_ vals_ w1 hi_ hiE_ hp_ hk_ hu_ hPh_ hd_
    rcases i_ with _|_|_|_|_|_|_|_|_|i_
    ·exact tG_ rfl hd_ (gV (.slice (some ada) a.length ca) ⟨rfl,rfl⟩)
    ·exact tG_ rfl hd_ (gV (nI_ k) ⟨rfl,rfl⟩)
    ·exact tG_ rfl hd_ (gv_ixB (e:=5) (sz:=1) (n:=a.length) (c:=ca) (i:=((k:Nat):Int)) (k:=.i64) (ad:=ada) (ad':=(ada.add k)) (j:=k) rfl kr_ kr_ kr_ kr_ rfl hk (by rw [Nat.mul_one]) ⟨rfl,rfl⟩)
    ·have S9:=St.id hPh_
     exact tG_ rfl hd_ (gL (.int .u8 ((a.getD k 0).toNat:Int)) rfl ((hx.now S9).cell hk) ⟨rfl,rfl⟩)
    ·exact tG_ rfl hd_ (gV (.slice (some adb) b.length cb) ⟨rfl,rfl⟩)
    ·exact tG_ rfl hd_ (gV (nI_ k) ⟨rfl,rfl⟩)
    ·exact tG_ rfl hd_ (gv_ixB (e:=5) (sz:=1) (n:=b.length) (c:=cb) (i:=((k:Nat):Int)) (k:=.i64) (ad:=adb) (ad':=(adb.add k)) (j:=k) rfl kr_ kr_ kr_ kr_ rfl (hlen▸hk) (by rw [Nat.mul_one]) ⟨rfl,rfl⟩)
    ·have S13:=St.id hPh_
     exact tG_ rfl hd_ (gL (.int .u8 ((b.getD k 0).toNat:Int)) rfl ((hy.now S13).cell (hlen▸hk)) ⟨rfl,rfl⟩)
    ·exact tG_ rfl hd_ (gV (.bool (((a.getD k 0).toNat:Int) !=((b.getD k 0).toNat:Int))) ⟨rfl,rfl⟩)
    ·exact absurd hi_ om_
   ·intro k_ c_ vals_ w1 hk_ hPh_ hd_
    exact absurd hk_ (Nat.not_lt_zero _)
   ·intro c_ w1 hPh_
    have S15:=St.id hPh_
    refine (wE (then_n (wp_cond_split (t:=((a.getD k 0).toNat:Int) !=((b.getD k 0).toNat:Int)) kr_ (fun hc16=> ?_) (fun hc16=> ?_))))
    ·exact sR (pv fv (wE (then_n (wp_ret (inb_r (then_r (then_r (inb_r (then_r (bA (.bool false) ⟨by rw [decide_eq_false (byte_eq3 (by simpa using hc16))],S15⟩))))))))))
    ·have heqk:((a.getD k 0).toNat:Int)=((b.getD k 0).toNat:Int):=by simpa using hc16
     exact wp_skip (inb_n (nR (pv (nI_ k) (gI .i64 (IntKind.i64.wrap (((k:Nat):Int)+1)) ((k+1:Nat):Int) wq_ (pv (nI_ (k+1)) (wE (then_n ⟨k+1,(jE_ ⟨S15,⟨by omega,fun m hm=>(Nat.lt_succ_iff_lt_or_eq.1 hm).elim (hI4.2 m) (fun e=>e▸heqk)⟩⟩),(by show a.length-(k+1)<a.length-k;omega)⟩)))))))
  ·have hke:k=a.length:=by omega
   exact wE (nCF (wp_exit (then_x (then_x (inb_x (nSR (pv tv (wE (then_n (wp_ret (bA (.bool true) ⟨by rw [decide_eq_true (bytes_ext3 hlen (fun m hm=>hI4.2 m om_))],S3⟩)))))))))))
theorem same3 {A B:Option Addr}{a b:List UInt8}{ca cb:Nat}{t:Bool}(ht:decide (a=b)=t)(S:St F w0 w L)(hx:RoT F w0 L A a)(hy:RoT F w0 L B b)(hm:a.length≤9223372036854775807)(hm2:b.length≤9223372036854775807):
  Calls Try.prog 45 #[.slice A a.length ca,.slice B b.length cb] w fun e w'=>e=.returned (.bool t)∧St F w0 w' L:=ht▸same3_ S hx hy hm hm2
theorem num_ro {w:World}{n:Int}:Calls Try.prog 49 #[.int .i64 n] w fun e w'=>e=.returned (.int .i64 n)∧w=w':=by
 exact eN (fr [iv n] 3) Try.func49 rfl (sR (pv (iv 0) (wER (pv (iv n) (pv (iv n) (wE (then_n (wp_ret (bA (iv n) ⟨rfl,rfl⟩)))))))))
theorem sec0:(sec3 []).length=512:=sec3_len []
theorem seal_over {o b:List UInt8}(ho:o.length=512)(hb:b.length≤504):(sealF o b).2=0∧(sealF o b).1.length=512∧∃t:UInt8,t.toNat≤2∧(sealF o b).1=form t b:=by
 have e:sealF o b=(form (turnOf (o.getD 0 0) (o.getD 511 0)) b,0):=by unfold sealF;rw [if_neg om_,if_neg om_]
 rw [e]
 exact ⟨rfl,length_form _ hb,_,(turn_ne _ _).2.2,rfl⟩
theorem first_told:newestF (sealF (sec3 []) [7,0,0,0,0,0,0,0]).1 (sealF (sec3 []) [9,0,0,0,0,0,0,0,65]).1=(1,9,[65],0):=by
 obtain ⟨_,l1,t1,h1,e1⟩:=seal_over (o:=sec3 []) (b:=[7,0,0,0,0,0,0,0]) sec0 dc_
 obtain ⟨_,l2,t2,h2,e2⟩:=seal_over (o:=sec3 []) (b:=[9,0,0,0,0,0,0,0,65]) sec0 dc_
 have r1:=readF_new (t:=t1) (no:=7) (d:=[]) h1 dc_ dc_ dc_
 have r2:=readF_new (t:=t2) (no:=9) (d:=[65]) h2 dc_ dc_ dc_
 have g1:le8 7++[]=[7,0,0,0,0,0,0,0]:=by decide
 have g2:le8 9++[65]=[9,0,0,0,0,0,0,0,65]:=by decide
 rw [g1,←e1] at r1
 rw [g2,←e2] at r2
 rw [newest_of ⟨l1,l2⟩,r1,r2];rfl
theorem ps_newest' (S:St F w0 w L){A B:Option Addr}{a b:List UInt8}{m n ca cb:Nat}(hm0:m=a.length)(hn0:n=b.length)(ha:RoT F w0 L A a)(hb:RoT F w0 L B b)(hma:a.length≤9223372036854775807)(hmb:b.length≤9223372036854775807):Calls Try.prog 98 #[.slice A m ca,.slice B n cb] w fun e w'=>∃A c,e=.returned (.tuple #[.int .i64 ((newestF a b).1:Int),.int .i64 ((newestF a b).2.1:Int),.slice A (newestF a b).2.2.1.length c,.int .i64 ((newestF a b).2.2.2:Int)])∧St F w0 w' (bytesX (.slice A (newestF a b).2.2.1.length c) (newestF a b).2.2.1::L):=by
 subst hm0 hn0
 refine (ps_newest S ha hb hma hmb).mono fun e w' h=> ?_
 obtain ⟨v,rfl,S2⟩:=h
 obtain ⟨A',c',rfl,_⟩:=St.bytesX_v S2
 exact ⟨A',c',rfl,S2⟩
theorem newest_len (a b:List UInt8)(ha:a.length=512)(hb:b.length=512):(newestF a b).2.2.1.length≤504:=by
 have hr:∀s:List UInt8,(readF s).2.length≤504:=fun s=>by
  have:=openF_len' s
  unfold readF
  split
  ·exact Nat.zero_le _
  ·split
   ·exact Nat.zero_le _
   ·show ((openF s).1.drop 8).length≤504;rw [List.length_drop];omega
 rw [newest_of ⟨ha,hb⟩]
 split
 ·exact Nat.zero_le _
 ·split
  ·exact hr _
  ·exact hr _
theorem first_all (S:St F w0 w L):Calls Try.prog 50 #[] w fun e w'=>e=.returned (.bool true)∧St F w0 w' L:=by
 have f1:=seal_over (o:=sec3 []) (b:=[7,0,0,0,0,0,0,0]) sec0 dc_
 have f2:=seal_over (o:=sec3 []) (b:=[9,0,0,0,0,0,0,0,65]) sec0 dc_
 have f3:=first_told
 have f4:=sec0
 refine eN (fr [] 53) Try.func50 rfl (sR (pv fv (wER (sP2 Try.func41 #[nS_] (se3 (l:=[]) (A:=none) (ca:=0) S RoT.nil (Nat.zero_le _)) fun A3 c4 w1 S2=>g_ (gv_slit (e:=5) (sz:=1) (z:=.int .u8 0) (by_:=1) (vs:=#[(0,.int .u8 7),(1,.int .u8 0),(2,.int .u8 0),(3,.int .u8 0),(4,.int .u8 0),(5,.int .u8 0),(6,.int .u8 0),(7,.int .u8 0)]) (cells:=#[.int .u8 7,.int .u8 0,.int .u8 0,.int .u8 0,.int .u8 0,.int .u8 0,.int .u8 0,.int .u8 0]) S2 rfl kr_ ⟨by kernel_rfl⟩ kr_ kr_ kr_ kr_ (fun g5 w6 hg7 S8=>sP2 Try.func40 #[.slice A3 512 c4,sl g5 0 8 8] (ps_seal' (a:=sec3 []) (b:=[7,0,0,0,0,0,0,0]) S8 f4.symm rfl (RoT.ofVec 1 rfl) (RoT.item (B:=[7,0,0,0,0,0,0,0]) 0 rfl 0 8 _ rfl) om_ dc_) fun Ap cp w9 S10=> ?_))))))
 have S11:St F w0 w9 (bytesX (.slice Ap (sealF (sec3 []) [7,0,0,0,0,0,0,0]).1.length cp) (sealF (sec3 []) [7,0,0,0,0,0,0,0]).1::L):=St.pm 3 [0] S10
 refine pv (.tuple #[.slice Ap ((sealF (sec3 []) [7,0,0,0,0,0,0,0]).1.length) cp,iv ((sealF (sec3 []) [7,0,0,0,0,0,0,0]).2:Int)]) (pv (.slice Ap ((sealF (sec3 []) [7,0,0,0,0,0,0,0]).1.length) cp) (pv (iv ((sealF (sec3 []) [7,0,0,0,0,0,0,0]).2:Int)) (pv (.slice Ap ((sealF (sec3 []) [7,0,0,0,0,0,0,0]).1.length) cp) (pv (iv ((sealF (sec3 []) [7,0,0,0,0,0,0,0]).2:Int)) (wER (sP2 Try.func41 #[nS_] (se3 (l:=[]) (A:=none) (ca:=0) S11 RoT.nil (Nat.zero_le _)) fun A14 c15 w12 S13=>g_ (gv_slit (e:=5) (sz:=1) (z:=.int .u8 0) (by_:=1) (vs:=#[(0,.int .u8 9),(1,.int .u8 0),(2,.int .u8 0),(3,.int .u8 0),(4,.int .u8 0),(5,.int .u8 0),(6,.int .u8 0),(7,.int .u8 0),(8,.int .u8 65)]) (cells:=#[.int .u8 9,.int .u8 0,.int .u8 0,.int .u8 0,.int .u8 0,.int .u8 0,.int .u8 0,.int .u8 0,.int .u8 65]) S13 rfl kr_ ⟨by kernel_rfl⟩ kr_ kr_ kr_ kr_ (fun g16 w17 hg18 S19=>sP2 Try.func40 #[.slice A14 512 c15,sl g16 0 9 9] (ps_seal' (a:=sec3 []) (b:=[9,0,0,0,0,0,0,0,65]) S19 f4.symm rfl (RoT.ofVec 1 rfl) (RoT.item (B:=[9,0,0,0,0,0,0,0,65]) 0 rfl 0 9 _ rfl) om_ dc_) fun Ar cr w20 S21=> ?_))))))))
 have S22:St F w0 w20 (bytesX (.slice Ar (sealF (sec3 []) [9,0,0,0,0,0,0,0,65]).1.length cr) (sealF (sec3 []) [9,0,0,0,0,0,0,0,65]).1::bytesX (.slice Ap (sealF (sec3 []) [7,0,0,0,0,0,0,0]).1.length cp) (sealF (sec3 []) [7,0,0,0,0,0,0,0]).1::L):=St.pm 4 [0,3] S21
 refine pv (.tuple #[.slice Ar ((sealF (sec3 []) [9,0,0,0,0,0,0,0,65]).1.length) cr,iv ((sealF (sec3 []) [9,0,0,0,0,0,0,0,65]).2:Int)]) (pv (.slice Ar ((sealF (sec3 []) [9,0,0,0,0,0,0,0,65]).1.length) cr) (pv (iv ((sealF (sec3 []) [9,0,0,0,0,0,0,0,65]).2:Int)) (pv (.slice Ar ((sealF (sec3 []) [9,0,0,0,0,0,0,0,65]).1.length) cr) (pv (iv ((sealF (sec3 []) [9,0,0,0,0,0,0,0,65]).2:Int)) (wE (nS (sR (pv (iv ((sealF (sec3 []) [7,0,0,0,0,0,0,0]).2:Int)) (sO Try.func49 #[iv ((sealF (sec3 []) [7,0,0,0,0,0,0,0]).2:Int)] (num_ro) (dN ((sealF (sec3 []) [7,0,0,0,0,0,0,0]).2:Int) 0 (fun hd23=>False.elim (hd23 (by rw [f1.1];rfl))) fun _=>pv fv (pW (iv ((sealF (sec3 []) [9,0,0,0,0,0,0,0,65]).2:Int)) (wl_when kr_ (gv_call (args:=#[iv ((sealF (sec3 []) [9,0,0,0,0,0,0,0,65]).2:Int)]) rfl Try.func49 kr_ rfl rfl kr_ ?_)))))))))))))
 refine Calls.mono (num_ro) ?_
 rintro _ _ ⟨rfl,rfl⟩
 refine ⟨_,rfl,(wl_when kr_ (gv_ne (x:=((sealF (sec3 []) [9,0,0,0,0,0,0,0,65]).2:Int)) (y:=0) kr_ (fun hd24=>False.elim (hd24 (by rw [f2.1];rfl))) (fun _=>pv fv (wE (nCF (wp_skip (nSR (pv (.slice Ap ((sealF (sec3 []) [7,0,0,0,0,0,0,0]).1.length) cp) (pv (.slice Ar ((sealF (sec3 []) [9,0,0,0,0,0,0,0,65]).1.length) cr) (g_ (gv_call (args:=#[.slice Ap ((sealF (sec3 []) [7,0,0,0,0,0,0,0]).1.length) cp,.slice Ar ((sealF (sec3 []) [9,0,0,0,0,0,0,0,65]).1.length) cr]) rfl Try.func98 kr_ rfl rfl kr_ (Calls.mono (ps_newest' (a:=(sealF (sec3 []) [7,0,0,0,0,0,0,0]).1) (b:=(sealF (sec3 []) [9,0,0,0,0,0,0,0,65]).1) S22 rfl rfl (RoT.bytesX 1 rfl rfl) (RoT.bytesX 0 rfl rfl) om_ om_) ?_))))))))))))⟩
 rintro _ w25 ⟨Aq,cq,rfl,S26⟩
 rw [f3] at S26
 refine ⟨_,rfl, ?_⟩
 rw [f3]
 have S27:St F w0 w25 (bytesX (.slice Aq 1 cq) [65]::bytesX (.slice Ar (sealF (sec3 []) [9,0,0,0,0,0,0,0,65]).1.length cr) (sealF (sec3 []) [9,0,0,0,0,0,0,0,65]).1::bytesX (.slice Ap (sealF (sec3 []) [7,0,0,0,0,0,0,0]).1.length cp) (sealF (sec3 []) [7,0,0,0,0,0,0,0]).1::L):=S26
 refine pv (.tuple #[iv 1,iv 9,.slice Aq 1 cq,iv 0]) (pv (iv 1) (pv (iv 9) (pv (.slice Aq 1 cq) (pv (iv 0) (pv (iv 1) (pv (iv 9) (pv (.slice Aq 1 cq) (pv (iv 0) (wER (pv (iv 0) (sO Try.func49 #[iv 0] (num_ro) (dE 0 0 (fun _=>pv tv ?_) fun hd28=>False.elim (hd28 rfl)))))))))))))
 refine pW (iv 1) (wl_when kr_ (gv_eq (x:=1) (y:=1) kr_ (fun _=>pv tv (pv tv (pW (iv 9) (wl_when kr_ (gv_eq (x:=9) (y:=9) kr_ (fun _=>pv tv (pv tv (pW (.slice Aq 1 cq) (wl_when kr_ (gv_slit (e:=5) (sz:=1) (z:=.int .u8 0) (by_:=1) (vs:=#[(0,.int .u8 65)]) (cells:=#[.int .u8 65]) S27 rfl kr_ ⟨by kernel_rfl⟩ kr_ kr_ kr_ kr_ (fun g31 w32 hg33 S34=>wl_when kr_ (gv_call (args:=#[.slice Aq 1 cq,sl g31 0 1 1]) rfl Try.func45 kr_ rfl rfl kr_ (Calls.mono (same3 (a:=[65]) (b:=[65]) (decide_eq_true rfl) S34 (RoT.bytesX 1 rfl rfl) (RoT.item (B:=[65]) 0 rfl 0 1 _ rfl) dc_ dc_) ?_)))))))) (fun hd30=>False.elim (hd30 rfl))))))) (fun hd29=>False.elim (hd29 rfl))))
 rintro _ w35 ⟨rfl,S36⟩
 refine ⟨_,rfl,(pv tv (pv tv (wE ?_)))⟩
 refine then_n (wp_ret (bA (.bool true) ?_))
 have S37:=St.pm 4 [] S36
 exact ⟨rfl,S37⟩
theorem ask_all (S:St F w0 w L){A B:Option Addr}{a b:List UInt8}{m n ca cb:Nat}(hm0:m=a.length)(hn0:n=b.length)(ha:RoT F w0 L A a)(hb:RoT F w0 L B b)(hma:a.length≤140737488355328)(hmb:b.length≤140737488355328):Calls Try.prog 102 #[.slice A m ca,.slice B n cb] w fun e w'=>∃A c,e=.returned (.agg #[.int .i64 ((newestF a b).1:Int),.int .i64 ((newestF a b).2.1:Int),.slice A (newestF a b).2.2.1.length c,.int .i64 ((newestF a b).2.2.2:Int)])∧St F w0 w' (bytesX (.slice A (newestF a b).2.2.1.length c) (newestF a b).2.2.1::L):=by
 subst hm0 hn0
 refine eN (fr [.slice A a.length ca,.slice B b.length cb] 23) Try.func102 rfl (sR (nW rfl (.agg #[iv 0,iv 0,nS_,iv 0]) S fun g1 w2 hg3 S4=>wER (pv (.slice A a.length ca) (sP2 Try.func43 #[.slice A a.length ca] (tw3 (l:=a) S4 ha.more om_) fun A7 c8 w5 S6=>pv (.slice B b.length cb) (sP2 Try.func43 #[.slice B b.length cb] (tw3 (l:=b) S6 hb.more.more om_) fun A11 c12 w9 S10=>sP2 Try.func98 #[.slice A7 a.length c8,.slice A11 b.length c12] (ps_newest' (a:=a) (b:=b) S10 rfl rfl (RoT.ofVec 1 rfl) (RoT.ofVec 0 rfl) om_ om_) fun Aq cq w13 S14=>pv (.tuple #[iv ((newestF a b).1:Int),iv ((newestF a b).2.1:Int),.slice Aq ((newestF a b).2.2.1.length) cq,iv ((newestF a b).2.2.2:Int)]) (pv (iv ((newestF a b).1:Int)) (pv (iv ((newestF a b).2.1:Int)) (pv (.slice Aq ((newestF a b).2.2.1.length) cq) (pv (iv ((newestF a b).2.2.2:Int)) ?_)))))))))
 refine pv (iv ((newestF a b).1:Int)) (pv (iv ((newestF a b).2.1:Int)) (pv (.slice Aq ((newestF a b).2.2.1.length) cq) (pv (iv ((newestF a b).2.2.2:Int)) (wER (pv (iv ((newestF a b).1:Int)) (pv (iv ((newestF a b).2.1:Int)) (pv (.slice Aq ((newestF a b).2.2.1.length) cq) (pv (iv ((newestF a b).2.2.2:Int)) (sO Try.func49 #[iv ((newestF a b).2.2.2:Int)] (num_ro) (pv (.agg #[iv ((newestF a b).1:Int),iv ((newestF a b).2.1:Int),.slice Aq ((newestF a b).2.2.1.length) cq,iv ((newestF a b).2.2.2:Int)]) (g_ (gv_stA (k:=0) (vs:=[iv ((newestF a b).1:Int),iv ((newestF a b).2.1:Int),.slice Aq ((newestF a b).2.2.1.length) cq,iv ((newestF a b).2.2.2:Int)]) S14 3 rfl rfl kr_ kr_ kr_ rfl (by simp [Value.oneCell']) (Nat.le_of_ble_eq_true kr_) (L':=(bytesX (.slice Aq (newestF a b).2.2.1.length cq) (newestF a b).2.2.1::vec 5 1 (.slice A11 b.length c12) b.length (b.map bv)::vec 5 1 (.slice A7 a.length c8) a.length (a.map bv)::row g1 #[iv ((newestF a b).1:Int),iv ((newestF a b).2.1:Int),.slice Aq ((newestF a b).2.2.1.length) cq,iv ((newestF a b).2.2.2:Int)] 81::L)) rfl (fun w15 S16=>wE (then_n ?_))))))))))))))
 refine wp_ret (bodyPost_ret (v:=.agg #[iv ((newestF a b).1:Int),iv ((newestF a b).2.1:Int),.slice Aq ((newestF a b).2.2.1.length) cq,iv ((newestF a b).2.2.2:Int)]) (results_cell1 rfl _ (S16.get 3 rfl) kr_ kr_) rfl ?_)
 have S17:=St.pm 4 [0] S16
 exact ⟨_,_,rfl,S17⟩
theorem alike_all (S:St F w0 w L){s1 n1 e1 s2 n2 e2:Int}{A1 A2:Option Addr}{x y:List UInt8}{m n c1 c2:Nat}(hm0:m=x.length)(hn0:n=y.length)(hx:RoT F w0 L A1 x)(hy:RoT F w0 L A2 y)(hmx:x.length≤9223372036854775807)(hmy:y.length≤9223372036854775807){t:Bool}(ht:decide (s1=s2∧n1=n2∧e1=e2∧x=y)=t):Calls Try.prog 53 #[.agg #[.int .i64 s1,.int .i64 n1,.slice A1 m c1,.int .i64 e1],.agg #[.int .i64 s2,.int .i64 n2,.slice A2 n c2,.int .i64 e2]] w fun e w'=>e=.returned (.bool t)∧St F w0 w' L:=by
 subst hm0 hn0 ht
 refine eN (fr [.agg #[iv s1,iv n1,.slice A1 x.length c1,iv e1],.agg #[iv s2,iv n2,.slice A2 y.length c2,iv e2]] 29) Try.func53 rfl (sR (nB rfl (.agg #[iv s1,iv n1,.slice A1 x.length c1,iv e1]) S fun g1 w2 hg3 S4=>nB rfl (.agg #[iv s2,iv n2,.slice A2 y.length c2,iv e2]) S4 fun g5 w6 hg7 S8=>pv fv (wER (pv (pq g1) (lR (iv s1) S8 1 0 (pv (pq g5) (lR (iv s2) S8 0 0 (dE s1 s2 (fun k1=> ?_) fun k1=> ?_))))))))
 ·refine pv tv (pW (po g1 1) (wl_when kr_ (gv_ldR (v:=iv n1) rfl kr_ kr_ (((S8.blk 1 rfl).cell 1).trans rfl) (pW (po g5 1) (wl_when kr_ (gv_ldR (v:=iv n2) rfl kr_ kr_ (((S8.blk 0 rfl).cell 1).trans rfl) (wl_when kr_ (gv_eq (x:=n1) (y:=n2) kr_ (fun k2=> ?_) (fun k2=> ?_)))))))))
  ·refine pv tv (pv tv (pW (po g1 3) (wl_when kr_ (gv_ldR (v:=iv e1) rfl kr_ kr_ (((S8.blk 1 rfl).cell 3).trans rfl) (pW (po g5 3) (wl_when kr_ (gv_ldR (v:=iv e2) rfl kr_ kr_ (((S8.blk 0 rfl).cell 3).trans rfl) (wl_when kr_ (gv_eq (x:=e1) (y:=e2) kr_ (fun k3=> ?_) (fun k3=> ?_))))))))))
   ·refine pv tv (pv tv (pW (po g1 2) (wl_when kr_ (gv_ldR (v:=.slice A1 x.length c1) rfl kr_ kr_ (((S8.blk 1 rfl).cell 2).trans rfl) (pW (po g5 2) (wl_when kr_ (gv_ldR (v:=.slice A2 y.length c2) rfl kr_ kr_ (((S8.blk 0 rfl).cell 2).trans rfl) (wl_when kr_ (gv_call (args:=#[.slice A1 x.length c1,.slice A2 y.length c2]) rfl Try.func45 kr_ rfl rfl kr_ (Calls.mono (same3_ S8 hx.more.more hy.more.more hmx hmy) ?_))))))))))
    rintro _ w9 ⟨rfl,S10⟩
    refine ⟨_,rfl,(pv (.bool (decide (x=y))) (pv (.bool (decide (x=y))) (wE (then_n (wp_ret (bA (.bool (decide (x=y))) ?_))))))⟩
    have S11:=St.pm 2 [] S10
    exact ⟨congrArg (fun b=>Ending.returned (Value.bool b)) (decide_eq_decide.2 ⟨fun h=>⟨k1,k2,k3,h⟩,fun h=>h.2.2.2⟩),S11⟩
   ·refine pv fv (pv fv (wN (wN (wN (wN (wN (pv fv (pv fv (wE (then_n (wp_ret (bA (.bool false) ?_))))))))))))
    have S12:=St.pm 2 [] S8
    exact ⟨congrArg (fun b=>Ending.returned (Value.bool b)) ((decide_eq_false fun h=>k3 h.2.2.1).symm),S12⟩
  ·refine pv fv (pv fv (wN (wN (wN (wN (wN (pv fv (pv fv (wN (wN (wN (wN (wN ?_)))))))))))))
   refine pv fv (pv fv (wE (then_n (wp_ret (bA (.bool false) ?_)))))
   have S13:=St.pm 2 [] S8
   exact ⟨congrArg (fun b=>Ending.returned (Value.bool b)) ((decide_eq_false fun h=>k2 h.2.1).symm),S13⟩
 ·refine pv fv (wN (wN (wN (wN (wN (pv fv (pv fv (wN (wN (wN (wN (wN (pv fv ?_)))))))))))))
  refine pv fv (wN (wN (wN (wN (wN (pv fv (pv fv (wE (then_n (wp_ret (bA (.bool false) ?_)))))))))))
  have S14:=St.pm 2 [] S8
  exact ⟨congrArg (fun b=>Ending.returned (Value.bool b)) ((decide_eq_false fun h=>k1 h.1).symm),S14⟩
end
def dcells (gd n c gm:Nat)(fused:Bool)(left life r wr fl rf pn:Int):Array Value:=#[.slice (some ⟨gd,0,none⟩) n c,.map (some gm),.bool fused,.int .i64 left,.int .i64 life,.int .i64 r,.int .i64 wr,.int .i64 fl,.int .i64 rf,.int .i64 pn]
theorem burnt_ro {w:World}{g gd n c gm:Nat}{fused:Bool}{left life r wr fl rf pn:Int}(HB:Blk w g (dcells gd n c gm fused left life r wr fl rf pn) 135):
  Calls Try.prog 15 #[pq g] w fun e w'=>e=.returned (.bool (fused&&decide (left=0)))∧w=w':=by
 cases fused
 ·refine eN (fr [pq g] 13) Try.func15 rfl (sR (pv fv (wER (pv (pq g) (pv (pq g) (pv (po g 2) (lQ (.bool false) ((HB.cell 2).trans rfl) (pv fv (wN (wN (wN (wN (wN ?_)))))))))))))
  exact pv fv (pv fv (wE (then_n (wp_ret (bA (.bool false) ⟨rfl,rfl⟩)))))
 ·refine eN (fr [pq g] 13) Try.func15 rfl (sR (pv fv (wER (pv (pq g) (pv (pq g) (pv (po g 2) (lQ (.bool true) ((HB.cell 2).trans rfl) (pv tv (pW (pq g) (pW (pq g) (pW (po g 3) (wl_when kr_ (gv_ldR (v:=iv left) rfl kr_ kr_ ((HB.cell 3).trans rfl) (wl_when kr_ (gv_eq (x:=left) (y:=0) kr_ (fun hb1=> ?_) (fun hb1=> ?_))))))))))))))))
  ·exact pv tv (pv tv (wE (then_n (wp_ret (bA (.bool true) ⟨by simp [hb1],rfl⟩)))))
  ·exact pv fv (pv fv (wE (then_n (wp_ret (bA (.bool false) ⟨by simp [hb1],rfl⟩)))))
theorem sectors_ro {w:World}{g gd n c gm:Nat}{fused:Bool}{left life r wr fl rf pn:Int}(HB:Blk w g (dcells gd n c gm fused left life r wr fl rf pn) 135){m:Nat}(hn:n=512*m)(hm:m≤2048):
  Calls Try.prog 14 #[pq g] w fun e w'=>e=.returned (iv m)∧w=w':=by
 refine eN (fr [pq g] 8) Try.func14 rfl (sR (pv (iv 0) (wER (pv (pq g) (pv (pq g) (pv (pq g) (lQ (sl gd 0 n c) ((HB.cell 0).trans rfl) (pv (iv (n:Nat)) (gI .i64 (IntKind.i64.wrap (Int.tdiv (n:Nat) 512)) (m:Nat) (wr_eq (by rw [Int.tdiv_eq_ediv_of_nonneg om_,hn];omega) om_ om_) (pv (iv (m:Nat)) (wE (then_n (wp_ret ?_)))))))))))))
 exact bA (iv (m:Nat)) ⟨rfl,rfl⟩
end Go.Proofs
end
section
open Go Go.RowKit Go.Proofs.YtgeioealgidkiaaW.PrintWords Go.Proofs.YtgeioealgidkiaaW.PrintMore
namespace Go.Proofs
open Go.Vel
set_option linter.unusedVariables false
section
structure Dsk where
 last:List (List UInt8)
 pend:List (Nat×List UInt8)
 left:Int
 life:Int
 rd:Int
 wr:Int
 fl:Int
 rf:Int
structure PEnt where
 at_:Nat
 v:Value
 b:Nat
 ws:List (Nat×List UInt8)
def PEnt.ent (p:PEnt):Ent:=⟨(p.at_:Int),p.v,p.b⟩
def PEnt.val (x:Nat×List UInt8):Value:=.slice (some ⟨x.1,0,none⟩) 512 512
def PEnt.row (x:Nat×List UInt8):Ast:=Vel.row x.1 (bvs x.2) 5
def PEnt.ast (p:PEnt):Ast:=stars [vec 31 1 p.v p.ws.length (p.ws.map PEnt.val),stars (p.ws.map PEnt.row)]
def pendOf (s:Dsk)(at_:Nat):List (List UInt8):=(s.pend.filter (fun x=>x.1==at_)).map (·.2)
structure PFacts (s:Dsk)(clock:Nat)(es:List PEnt)(fused:Bool)(left:Int):Prop where
 born:∀p∈es,p.b<clock
 bornN:(es.map (·.b)).Nodup
 keyN:(es.map (·.at_)).Nodup
 ws:∀p∈es,p.ws.map (·.2)=pendOf s p.at_
 has:∀x∈s.pend,∃p∈es,p.at_=x.1
 ne:∀p∈es,p.ws≠[]
 len:∀l∈s.last,l.length=512
 plen:∀x∈s.pend,x.2.length=512∧x.1<s.last.length
 n1:1≤s.last.length
 n2:s.last.length≤2048
 fuse:fused=decide (0≤s.left)
 left:0≤s.left→left=s.left
 lb: -1≤s.left∧s.left≤9223372036854775807
 pn:s.pend.length≤4611686018427387904
def pdParts (g gd gm clock:Nat)(es:List PEnt)(fused:Bool)(left:Int)(s:Dsk):List Ast:=
 [row g (dcells gd (512*s.last.length) (512*s.last.length) gm fused left s.life s.rd s.wr s.fl s.rf s.pend.length) 135,row gd (bvs s.last.flatten) 5,pt gm (mapO (es.map PEnt.ent) clock),stars (es.map PEnt.ast)]
def PDisk (g:Nat)(s:Dsk):Ast:=fun h=>∃gd gm clock es fused left,PFacts s clock es fused left∧stars (pdParts g gd gm clock es fused left s) h
theorem flat_len:∀{l:List (List UInt8)},(∀x∈l,x.length=512)→l.flatten.length=512*l.length
 |[],_=>rfl
 |x::r,h=>by
  rw [List.flatten_cons,List.length_append,h x List.mem_cons_self,flat_len (fun y hy=>h y (List.mem_cons_of_mem _ hy)),List.length_cons];omega
theorem flat_sec:∀{l:List (List UInt8)},(∀x∈l,x.length=512)→∀k x,l[k]?=some x→(l.flatten.drop (512*k)).take 512=x
 |[],_,k,x,hk=>by simp at hk
 |y::r,h,0,x,hk=>by
  simp at hk
  subst hk
  rw [Nat.mul_zero,List.drop_zero,List.flatten_cons,List.take_append_of_le_length (by rw [h y List.mem_cons_self];exact Nat.le_refl _),List.take_of_length_le (by rw [h y List.mem_cons_self];exact Nat.le_refl _)]
 |y::r,h,k+1,x,hk=>by
  have hy:=h y List.mem_cons_self
  rw [List.flatten_cons,List.drop_append,List.drop_of_length_le (by rw [hy];omega),List.nil_append,hy,show 512*(k+1)-512=512*k from by omega]
  exact flat_sec (fun z hz=>h z (List.mem_cons_of_mem _ hz)) k x (by simpa using hk)
theorem flat_set:∀{l:List (List UInt8)},(∀x∈l,x.length=512)→∀k x,k<l.length→x.length=512→splice l.flatten (512*k) x=(l.set k x).flatten
 |[],_,k,x,hk,_=>by simp at hk
 |y::r,h,0,x,hk,hx=>by
  have hy:=h y List.mem_cons_self
  simp only [splice,Nat.mul_zero,List.take_zero,List.nil_append,Nat.zero_add,List.flatten_cons,List.set_cons_zero]
  rw [hx,List.drop_append,List.drop_of_length_le om_,List.nil_append,hy];rfl
 |y::r,h,k+1,x,hk,hx=>by
  have hy:=h y List.mem_cons_self
  have ih:=flat_set (fun z hz=>h z (List.mem_cons_of_mem _ hz)) k x (by simpa using hk) hx
  simp only [splice,List.flatten_cons,List.set_cons_succ] at ih ⊢
  rw [←ih,List.take_append,List.take_of_length_le om_,List.drop_append,List.drop_of_length_le om_,hy,show 512*(k+1)-512=512*k from by omega,show 512*(k+1)+x.length-512=512*k+x.length from by omega]
  simp
section
variable {F:Nat→Prop}{w0 w:World}{L:List Ast}{g:Nat}{s:Dsk}
theorem St.popen (S:St F w0 w (PDisk g s::L)):∃gd gm clock es fused left,PFacts s clock es fused left∧St F w0 w (pdParts g gd gm clock es fused left s++L):=by
 obtain ⟨gd,S⟩:=S.ex
 obtain ⟨gm,S⟩:=S.ex
 obtain ⟨clock,S⟩:=S.ex
 obtain ⟨es,S⟩:=S.ex
 obtain ⟨fused,S⟩:=S.ex
 obtain ⟨left,S⟩:=S.ex
 obtain ⟨hf,S⟩:=S.fact
 exact ⟨gd,gm,clock,es,fused,left,hf,S.flat⟩
theorem St.pclose {gd gm clock:Nat}{es:List PEnt}{fused:Bool}{left:Int}(S:St F w0 w (pdParts g gd gm clock es fused left s++L))(hf:PFacts s clock es fused left):St F w0 w (PDisk g s::L):=
 S.star.map1 fun _ h=>⟨gd,gm,clock,es,fused,left,hf,h⟩
end
theorem PFacts.find {s:Dsk}{clock:Nat}{es:List PEnt}{fused:Bool}{left:Int}(h:PFacts s clock es fused left)(at_:Nat):(pendOf s at_=[]∧∀e∈es.map PEnt.ent,e.k≠(at_:Int))∨∃(j:Nat) (p:PEnt),es[j]?=some p∧p.at_=at_∧pendOf s at_=p.ws.map (·.2)∧p.ws≠[]∧(es.map PEnt.ent)[j]?=some p.ent∧p.ent.k=(at_:Int)∧∀m e,m<j→(es.map PEnt.ent)[m]?=some e→e.k≠(at_:Int):=by
 by_cases hp:∃p∈es,p.at_=at_
 ·obtain ⟨p,hm,hat⟩:=hp
  obtain ⟨j,hj⟩:=List.getElem?_of_mem hm
  refine .inr ⟨j,p,hj,hat,by rw [h.ws p hm,hat],h.ne p hm,by rw [List.getElem?_map,hj];rfl,by simp [PEnt.ent,hat],fun m e hmj he hk=> ?_⟩
  rw [List.getElem?_map] at he
  cases hq:es[m]? with
  |none=>simp [hq] at he
  |some q=>
   simp [hq] at he
   subst he
   have hqk:q.at_=at_:=by simp [PEnt.ent] at hk;omega
   have h1:=List.pairwise_iff_getElem.1 h.keyN m j (by have:=(List.getElem?_eq_some_iff.1 hq).1;simpa using this) (by have:=(List.getElem?_eq_some_iff.1 hj).1;simpa using this) hmj
   simp only [List.getElem_map] at h1
   have e1:es[m]'(List.getElem?_eq_some_iff.1 hq).1=q:=(List.getElem?_eq_some_iff.1 hq).2
   have e2:es[j]'(List.getElem?_eq_some_iff.1 hj).1=p:=(List.getElem?_eq_some_iff.1 hj).2
   rw [e1,e2] at h1
   exact h1 (hqk.trans hat.symm)
 ·refine .inl ⟨?_,fun e he hk=> ?_⟩
  ·unfold pendOf
   rw [List.map_eq_nil_iff,List.filter_eq_nil_iff]
   intro x hx hk
   obtain ⟨p,hm,hat⟩:=h.has x hx
   exact hp ⟨p,hm,hat.trans (by simpa using hk)⟩
  ·obtain ⟨p,hm,rfl⟩:=List.mem_map.1 he
   exact hp ⟨p,hm,by simp [PEnt.ent] at hk;omega⟩
def Dsk.now (s:Dsk)(at_:Nat):List UInt8:=match (pendOf s at_).getLast? with|some d=>d|none=>s.last.getD at_ []
def bytesA (v:Value)(l:List UInt8):Ast:=fun h=>(v=.slice none 0 0∧l=[]∧emp h)∨∃g,v=.slice (some ⟨g,0,none⟩) l.length l.length∧row g (bvs l) 5 h
section
variable {F:Nat→Prop}{w0 w:World}{L:List Ast}
theorem St.bytes_nil (S:St F w0 w L):St F w0 w (bytesA (.slice none 0 0) []::L):=by
 have h:=St.vec_nil (e:=0) (sz:=0) S
 exact h.map1 fun p hp=>.inl ⟨rfl,rfl,by
  rcases hp with ⟨_,_,_,h⟩|⟨_,_,_,h,_⟩
  ·exact h
  ·cases h⟩
theorem St.bytes_row {g n c:Nat}{l:List UInt8}(S:St F w0 w (row g (bvs l) 5::L))(hn:n=l.length)(hc:c=l.length):St F w0 w (bytesA (.slice (some ⟨g,0,none⟩) n c) l::L):=by
 subst hn hc
 exact S.map1 fun p hp=>.inr ⟨g,rfl,hp⟩
theorem St.bytes_read {v:Value}{l:List UInt8}(S:St F w0 w L)(i:Nat)(hi:L[i]?=some (bytesA v l)):∃A,v=.slice A l.length l.length∧RdB w A l:=by
 have S1:=S.mem i hi
 obtain ⟨q,hq⟩:=S1.own.holds
 rcases hq with ⟨rfl,rfl,_⟩|⟨g,rfl,hr⟩
 ·exact ⟨none,rfl,RdB.nil⟩
 ·have S2:St F w0 w [row g (bvs l) 5]:=by
   obtain ⟨fr,hs,h1,h2,h3⟩:=S1
   refine ⟨fr,hs,fun j A hj=> ?_,h2,h3⟩
   cases j with
   |zero=>
    simp at hj
    subst hj
    rcases h1 0 _ rfl with ⟨h,_⟩|⟨g',e,hr'⟩
    ·cases h
    ·have hg:g=g':=by simpa using e
     subst hg;exact hr'
   |succ j=>simp at hj
  exact ⟨_,rfl,RdB.row (S2.blk 0 rfl) 0 l.length l (by simp)⟩
theorem St.bytes_eq {v:Value}{l:List UInt8}(S:St F w0 w (bytesA v l::L)):∃A,v=.slice A l.length l.length∧St F w0 w (bytesA (.slice A l.length l.length) l::L):=by
 obtain ⟨A,e,_⟩:=St.bytes_read S 0 rfl
 exact ⟨A,e,e▸S⟩
theorem RoT.bytes {v:Value}{l:List UInt8}{A:Option Addr}{n c:Nat}(j:Nat)(hj:L[j]?=some (bytesA v l))(hv:v=.slice A n c):RoT F w0 L A l:=⟨fun w' L' S=>by
 have h1:(L'++L)[L'.length+j]?=some (bytesA v l):=by rw [List.getElem?_append_right om_];simpa using hj
 obtain ⟨A',e,h2⟩:=St.bytes_read S _ h1
 rw [hv] at e
 simp at e
 rw [e.1];exact h2⟩
end
theorem PFacts.congr {s s':Dsk}{clock:Nat}{es:List PEnt}{fused:Bool}{left:Int}(h:PFacts s clock es fused left)(h1:s'.last=s.last)(h2:s'.pend=s.pend)(h3:s'.left=s.left):PFacts s' clock es fused left:=by
 have hp:∀a,pendOf s' a=pendOf s a:=fun a=>by unfold pendOf;rw [h2]
 exact ⟨h.born,h.bornN,h.keyN,fun p hm=>(h.ws p hm).trans (hp _).symm,by rw [h2];exact h.has,h.ne,by rw [h1];exact h.len,by rw [h1,h2];exact h.plen,by rw [h1];exact h.n1,by rw [h1];exact h.n2,by rw [h3];exact h.fuse,by rw [h3];exact h.left,by rw [h3];exact h.lb,by rw [h2];exact h.pn⟩
theorem PFacts.burnt {s:Dsk}{clock:Nat}{es:List PEnt}{fused:Bool}{left:Int}(h:PFacts s clock es fused left):(fused&&decide (left=0))=decide (s.left=0):=by
 have h1:=h.fuse
 have h2:=h.left
 have h3:=h.lb.1
 by_cases hz:s.left=0
 ·have:=h2 om_
  simp [h1,hz];omega
 ·by_cases hn:0≤s.left
  ·have:=h2 hn
   simp [h1,hz];omega
  ·have e:decide (0≤s.left)=false:=decide_eq_false hn
   simp [h1,e,hz]
theorem copy_all {x:List UInt8}{n:Nat}(h:x.length=n):splice (List.replicate n 0) 0 (x.take n)=x:=by
 rw [List.take_of_length_le om_]
 simp [splice,h]
theorem copy512 {x:List UInt8}(h:x.length=512):splice (List.replicate 512 0) 0 (x.take 512)=x:=copy_all h
theorem pend_facts {F:Nat→Prop}{w0 w:World}{L:List Ast}{es:List PEnt}{j:Nat}{p:PEnt}(S:St F w0 w L)(i:Nat)(hi:L[i]?=some (stars (es.map PEnt.ast)))(hj:es[j]?=some p)(hne:p.ws≠[]):∃(gb cb:Nat) (cells:Array Value),p.v=.slice (some ⟨gb,0,none⟩) p.ws.length cb∧Blk w gb cells 31∧(∀(m:Nat) (x:Nat×List UInt8),p.ws[m]?=some x→cells[m]?=some (PEnt.val x))∧∀x∈p.ws,Blk w x.1 (bvs x.2) 5:=by
 have S1:=(S.mem i hi).star_mem (List.mem_map.2 ⟨p,List.mem_of_getElem? hj,rfl⟩)
 have S2:=St.unstar S1
 obtain ⟨gb,cb,junk,hv,_,h3,_,S3⟩:=S2.vec_open (List.length_pos_iff.2 hne)
 refine ⟨gb,cb,_,hv,S3.blk 0 rfl,fun m x hx=> ?_,fun x hx=> ?_⟩
 ·rw [List.getElem?_toArray,List.getElem?_append_left (by have:=(List.getElem?_eq_some_iff.1 hx).1;simpa using this),List.getElem?_map,hx];rfl
 ·exact ((S3.mem 1 rfl).star_mem (List.mem_map.2 ⟨x,hx,rfl⟩)).blk 0 rfl
theorem last_some {α β:Type}{f:α→β}{l:List α}(h:l≠[]):∃x,l[l.length-1]?=some x∧(l.map f).getLast?=some (f x)∧x∈l:=by
 have hl:=List.length_pos_iff.2 h
 refine ⟨l[l.length-1]'om_,List.getElem?_eq_getElem _, ?_,List.getElem_mem _⟩
 rw [List.getLast?_eq_getElem?,List.getElem?_map,List.length_map,List.getElem?_eq_getElem om_];rfl
def Dsk.readR (s:Dsk)(at_:Int):Dsk×List UInt8×Int:=
 if s.left=0 then (s,[],3) else if at_<0∨(s.last.length:Int)≤at_ then ({s with rf:=inc s.rf},[],11) else ({s with rd:=inc s.rd},s.now at_.toNat,0)
theorem Dsk.now_some {s:Dsk}{a:Nat}{ws:List (List UInt8)}{x:List UInt8}(h:pendOf s a=ws)(hx:ws.getLast?=some x):s.now a=x:=by unfold Dsk.now;rw [h,hx]
theorem Dsk.now_none {s:Dsk}{a:Nat}(h:pendOf s a=[]):s.now a=s.last.getD a []:=by unfold Dsk.now;rw [h];rfl
theorem Dsk.readR_ok {s:Dsk}{k:Nat}{d:List UInt8}(hz:s.left≠0)(hk:k<s.last.length)(hp:s.now k=d):s.readR ((k:Nat):Int)=({s with rd:=inc s.rd},d,0):=by
 unfold Dsk.readR
 rw [if_neg hz,if_neg (show¬(((k:Nat):Int)<0∨(s.last.length:Int)≤((k:Nat):Int)) by omega),Int.toNat_natCast,hp]
theorem mem_getD {l:List (List UInt8)}{k:Nat}(h:k<l.length):l[k]?=some (l.getD k []):=by rw [List.getD_eq_getElem?_getD,List.getElem?_eq_getElem h];rfl
end
section
def spent (l:Int):Int:=if 0<l then l-1 else l
def Dsk.writeR (s:Dsk)(at_:Int)(d:List UInt8):Dsk×Int:=
 if s.left=0 then (s,3) else if at_<0∨(s.last.length:Int)≤at_ then ({s with rf:=inc s.rf},11) else if d.length≠512 then ({s with rf:=inc s.rf},2)
 else ({s with pend:=s.pend++[(at_.toNat,d)],wr:=inc s.wr,left:=spent s.left},0)
section
variable {F:Nat→Prop}{w0 w:World}{L:List Ast}{es:List PEnt}{j:Nat}{p:PEnt}
theorem entry_out (LA:List Ast)(S:St F w0 w (LA++(stars (es.map PEnt.ast)::L)))(hj:es[j]?=some p):
  St F w0 w (vec 31 1 p.v p.ws.length (p.ws.map PEnt.val)::stars (p.ws.map PEnt.row)::stars ((es.take j).map PEnt.ast)::stars ((es.drop (j+1)).map PEnt.ast)::(LA++L)):=by
 have h1:=St.rot' S
 exact (h1.nth j hj).flat
theorem entry_in {go:Nat}{d:List UInt8}{v':Value}{A1 A2 A3:Ast}(hj:es[j]?=some p)(S:St F w0 w (vec 31 1 v' (p.ws.length+1) (p.ws.map PEnt.val++[.slice (some ⟨go,0,none⟩) 512 512])::stars (p.ws.map PEnt.row)::stars ((es.take j).map PEnt.ast)::stars ((es.drop (j+1)).map PEnt.ast)::row go (bvs d) 5::A1::A2::A3::L)):
  St F w0 w (A1::A2::A3::stars ((es.set j ⟨p.at_,v',p.b,p.ws++[(go,d)]⟩).map PEnt.ast)::L):=by
 have hl:=(List.getElem?_eq_some_iff.1 hj).1
 have h1:St F w0 w (row go (bvs d) 5::stars (p.ws.map PEnt.row)::vec 31 1 v' (p.ws.length+1) (p.ws.map PEnt.val++[.slice (some ⟨go,0,none⟩) 512 512])::stars ((es.take j).map PEnt.ast)::stars ((es.drop (j+1)).map PEnt.ast)::A1::A2::A3::L):=
  St.pm 8 [4,1,0,2,3,5,6,7] S
 have h2:=(St.star_join (St.swap (St.one_star h1))).swap
 have e1:p.ws.map PEnt.row++[row go (bvs d) 5]=(p.ws++[((go,d):Nat×List UInt8)]).map PEnt.row:=by rw [List.map_append];rfl
 have e2:p.ws.map PEnt.val++[.slice (some ⟨go,0,none⟩) 512 512]=(p.ws++[(go,d)]).map PEnt.val:=by rw [List.map_append];rfl
 have e3:p.ws.length+1=(p.ws++[(go,d)]).length:=by simp
 rw [e1,e2,e3] at h2
 have h3:=St.star (LA:=[_,_]) h2
 have h4:=St.fill (f:=PEnt.ast) (l:=es) (x:=⟨p.at_,v',p.b,p.ws++[(go,d)]⟩) j hl h3
 exact St.rot (LA:=[A1,A2,A3]) h4
theorem entry_new {go k clock:Nat}{d:List UInt8}{v':Value}{A1 A2 A3:Ast}(S:St F w0 w (vec 31 1 v' 1 [.slice (some ⟨go,0,none⟩) 512 512]::row go (bvs d) 5::A1::A2::A3::stars (es.map PEnt.ast)::L)):
  St F w0 w (A1::A2::A3::stars ((es++[(⟨k,v',clock,[(go,d)]⟩:PEnt)]).map PEnt.ast)::L):=by
 have h1:=(St.one_star S.swap).swap
 have h3:St F w0 w (PEnt.ast ⟨k,v',clock,[(go,d)]⟩::A1::A2::A3::stars (es.map PEnt.ast)::L):=St.star (LA:=[_,_]) h1
 have h4:St F w0 w (stars [PEnt.ast ⟨k,v',clock,[(go,d)]⟩]::A1::A2::A3::stars (es.map PEnt.ast)::L):=St.one_star h3
 have h5:St F w0 w (stars (es.map PEnt.ast)::stars [PEnt.ast ⟨k,v',clock,[(go,d)]⟩]::A1::A2::A3::L):=
  St.pm 5 [4,0,1,2,3] h4
 have h6:=St.star_join h5
 rw [show es.map PEnt.ast++[PEnt.ast ⟨k,v',clock,[(go,d)]⟩]=(es++[(⟨k,v',clock,[(go,d)]⟩:PEnt)]).map PEnt.ast from by rw [List.map_append];rfl] at h6
 exact St.rot (LA:=[A1,A2,A3]) h6
end
theorem map_set {α β:Type}(f:α→β):∀(l:List α) (i:Nat) (x:α),(l.set i x).map f=(l.map f).set i (f x):=fun l i x=>List.map_set
section
variable {s:Dsk}{clock:Nat}{es:List PEnt}{fused:Bool}{left:Int}
theorem pendOf_snoc (s:Dsk)(k a:Nat)(d:List UInt8)(s':Dsk)(h:s'.pend=s.pend++[(k,d)]):pendOf s' a=pendOf s a++if k=a then [d] else []:=by
 unfold pendOf
 rw [h,List.filter_append,List.map_append]
 congr 1
 by_cases hk:k=a
 ·subst hk;simp
 ·simp [hk]
theorem PFacts.spend (h:PFacts s clock es fused left)(hz:s.left≠0):(fused=true∧decide (0≤spent s.left)=true∧dec left=spent s.left)∨(fused=false∧decide (0≤spent s.left)=false∧spent s.left=s.left):=by
 have h1:=h.fuse
 have h2:=h.lb
 by_cases hp:0≤s.left
 ·refine .inl ⟨by rw [h1];exact decide_eq_true hp, ?_, ?_⟩
  ·unfold spent;rw [if_pos om_];exact decide_eq_true om_
  ·unfold spent dec;rw [if_pos om_,h.left hp];exact wr_ok om_ om_
 ·refine .inr ⟨by rw [h1];exact decide_eq_false hp, ?_, ?_⟩
  ·unfold spent;rw [if_neg om_];exact decide_eq_false hp
  ·unfold spent;rw [if_neg om_]
theorem spent_lb {l:Int}(h: -1≤l∧l≤9223372036854775807)(hz:l≠0): -1≤spent l∧spent l≤9223372036854775807:=by unfold spent;split<;>omega
theorem PFacts.refuse {s':Dsk}{fused':Bool}{left':Int}(h:PFacts s clock es fused left)(h1:s'.last=s.last)(h2:s'.pend=s.pend)(h3:fused'=decide (0≤s'.left))(h4:0≤s'.left→left'=s'.left)(h5: -1≤s'.left∧s'.left≤9223372036854775807):PFacts s' clock es fused' left':=by
 have hp:∀a,pendOf s' a=pendOf s a:=fun a=>by unfold pendOf;rw [h2]
 exact ⟨h.born,h.bornN,h.keyN,fun p hm=>(h.ws p hm).trans (hp _).symm,by rw [h2];exact h.has,h.ne,by rw [h1];exact h.len,by rw [h1,h2];exact h.plen,by rw [h1];exact h.n1,by rw [h1];exact h.n2,h3,h4,h5,by rw [h2];exact h.pn⟩
theorem PFacts.write_old {s':Dsk}{j k go:Nat}{p:PEnt}{d:List UInt8}{v':Value}(h:PFacts s clock es fused left)(hj:es[j]?=some p)(hat:p.at_=k)(hk:k<s.last.length)(hd:d.length=512)(hpn:s.pend.length<4398046511104)
  (h1:s'.last=s.last) (h2:s'.pend=s.pend++[(k,d)]) (h3:s'.left=s.left):PFacts s' clock (es.set j ⟨p.at_,v',p.b,p.ws++[(go,d)]⟩) fused left:=by
 subst hat
 have hpm:=List.mem_of_getElem? hj
 have hjl:=(List.getElem?_eq_some_iff.1 hj).1
 have hmem:∀q,q∈es.set j ⟨p.at_,v',p.b,p.ws++[(go,d)]⟩→q=⟨p.at_,v',p.b,p.ws++[(go,d)]⟩∨(q∈es∧q.at_≠p.at_):=fun q hq=>by
  obtain ⟨m,hm⟩:=List.getElem?_of_mem hq
  rw [List.getElem?_set] at hm
  split at hm
  ·rename_i e
   first
    |exact .inl (Option.some.inj hm).symm
    |(split at hm;(exact .inl (Option.some.inj hm).symm);(cases hm))
  ·rename_i e
   refine .inr ⟨List.mem_of_getElem? hm,fun he=> ?_⟩
   have hml:=(List.getElem?_eq_some_iff.1 hm).1
   have e1:es[m]=q:=(List.getElem?_eq_some_iff.1 hm).2
   have e2:es[j]=p:=(List.getElem?_eq_some_iff.1 hj).2
   have hp:=List.pairwise_iff_getElem.1 h.keyN
   rcases Nat.lt_trichotomy m j with hlt|hlt|hlt
   ·have:=hp m j (by simpa using hml) (by simpa using hjl) hlt
    simp only [List.getElem_map,e1,e2] at this;exact this he
   ·exact e hlt.symm
   ·have:=hp j m (by simpa using hjl) (by simpa using hml) hlt
    simp only [List.getElem_map,e1,e2] at this;exact this he.symm
 have eb:(es.set j ⟨p.at_,v',p.b,p.ws++[(go,d)]⟩).map (·.b)=es.map (·.b):=by
  rw [List.map_set]
  apply List.ext_getElem?
  intro m
  rw [List.getElem?_set]
  split
  ·rename_i e;subst e;simp [hjl]
   exact congrArg PEnt.b (List.getElem?_eq_some_iff.1 hj).2.symm
  ·rfl
 have ek:(es.set j ⟨p.at_,v',p.b,p.ws++[(go,d)]⟩).map (·.at_)=es.map (·.at_):=by
  rw [List.map_set]
  apply List.ext_getElem?
  intro m
  rw [List.getElem?_set]
  split
  ·rename_i e;subst e;simp [hjl]
   exact congrArg PEnt.at_ (List.getElem?_eq_some_iff.1 hj).2.symm
  ·rfl
 refine ⟨fun q hq=> ?_,by rw [eb];exact h.bornN,by rw [ek];exact h.keyN,fun q hq=> ?_,fun x hx=> ?_,fun q hq=> ?_,by rw [h1];exact h.len,fun x hx=> ?_,by rw [h1];exact h.n1,by rw [h1];exact h.n2,by rw [h3];exact h.fuse,by rw [h3];exact h.left,by rw [h3];exact h.lb,by rw [h2,List.length_append];simp;omega⟩
 ·rcases hmem q hq with rfl|⟨hq,_⟩
  ·exact h.born p hpm
  ·exact h.born q hq
 ·rw [pendOf_snoc s p.at_ q.at_ d s' h2]
  rcases hmem q hq with rfl|⟨hq,hne⟩
  ·simp only [if_true,List.map_append,List.map_cons,List.map_nil]
   rw [h.ws p hpm]
  ·rw [if_neg (fun e=>hne e.symm),List.append_nil];exact h.ws q hq
 ·rw [h2] at hx
  have hex:∃q∈es,q.at_=x.1:=by
   rcases List.mem_append.1 hx with hx|hx
   ·exact h.has x hx
   ·simp at hx;subst hx;exact ⟨p,hpm,rfl⟩
  obtain ⟨q,hq,he⟩:=hex
  have:x.1∈(es.set j ⟨p.at_,v',p.b,p.ws++[(go,d)]⟩).map (·.at_):=by rw [ek];exact List.mem_map.2 ⟨q,hq,he⟩
  obtain ⟨q',h4,h5⟩:=List.mem_map.1 this
  exact ⟨q',h4,h5⟩
 ·rcases hmem q hq with rfl|⟨hq,_⟩
  ·simp
  ·exact h.ne q hq
 ·rw [h2] at hx
  rw [h1]
  rcases List.mem_append.1 hx with hx|hx
  ·exact h.plen x hx
  ·simp at hx;subst hx;exact ⟨hd,hk⟩
theorem PFacts.write_new {s':Dsk}{k go:Nat}{d:List UInt8}{v':Value}(h:PFacts s clock es fused left)(hp:pendOf s k=[])(hno:∀e∈es.map PEnt.ent,e.k≠(k:Int))(hk:k<s.last.length)(hd:d.length=512)(hpn:s.pend.length<4398046511104)
  (h1:s'.last=s.last) (h2:s'.pend=s.pend++[(k,d)]) (h3:s'.left=s.left):PFacts s' (clock+1) (es++[⟨k,v',clock,[(go,d)]⟩]) fused left:=by
 have hne:∀q∈es,q.at_≠k:=fun q hq he=>hno q.ent (List.mem_map.2 ⟨q,hq,rfl⟩) (by simp [PEnt.ent,he])
 refine ⟨fun q hq=> ?_, ?_, ?_,fun q hq=> ?_,fun x hx=> ?_,fun q hq=> ?_,by rw [h1];exact h.len,fun x hx=> ?_,by rw [h1];exact h.n1,by rw [h1];exact h.n2,by rw [h3];exact h.fuse,by rw [h3];exact h.left,by rw [h3];exact h.lb,by rw [h2,List.length_append];simp;omega⟩
 ·rcases List.mem_append.1 hq with hq|hq
  ·have:=h.born q hq;omega
  ·simp at hq;subst hq;simp
 ·rw [List.map_append,List.nodup_append]
  refine ⟨h.bornN,by simp,fun a ha b hb=> ?_⟩
  obtain ⟨q,hq,rfl⟩:=List.mem_map.1 ha
  simp at hb;subst hb
  have:=h.born q hq;omega
 ·rw [List.map_append,List.nodup_append]
  refine ⟨h.keyN,by simp,fun a ha b hb=> ?_⟩
  obtain ⟨q,hq,rfl⟩:=List.mem_map.1 ha
  simp at hb;subst hb
  exact hne q hq
 ·rw [pendOf_snoc s k q.at_ d s' h2]
  rcases List.mem_append.1 hq with hq|hq
  ·rw [if_neg (fun e=>hne q hq e.symm),List.append_nil];exact h.ws q hq
  ·simp at hq;subst hq;simp [hp]
 ·rw [h2] at hx
  rcases List.mem_append.1 hx with hx|hx
  ·obtain ⟨q,hq,he⟩:=h.has x hx
   exact ⟨q,List.mem_append_left _ hq,he⟩
  ·simp at hx;subst hx;exact ⟨_,List.mem_append_right _ (List.mem_singleton.2 rfl),rfl⟩
 ·rcases List.mem_append.1 hq with hq|hq
  ·exact h.ne q hq
  ·simp at hq;subst hq;simp
 ·rw [h2] at hx
  rw [h1]
  rcases List.mem_append.1 hx with hx|hx
  ·exact h.plen x hx
  ·simp at hx;subst hx;exact ⟨hd,hk⟩
end
end
section
def applyP (l:List (List UInt8))(ps:List (Nat×List UInt8)):List (List UInt8):=ps.foldl (fun l x=>l.set x.1 x.2) l
theorem length_applyP:∀(ps:List (Nat×List UInt8)) (l:List (List UInt8)),(applyP l ps).length=l.length
 |[],_=>rfl
 |x::r,l=>by unfold applyP;rw [List.foldl_cons];exact (length_applyP r _).trans (List.length_set)
theorem applyP_snoc (l:List (List UInt8))(ps:List (Nat×List UInt8))(x:Nat×List UInt8):applyP l (ps++[x])=(applyP l ps).set x.1 x.2:=by unfold applyP;rw [List.foldl_append];rfl
theorem applyP_all {Q:List UInt8→Prop}:∀(ps:List (Nat×List UInt8)) (l:List (List UInt8)),(∀y∈l,Q y)→(∀x∈ps,Q x.2)→∀y∈applyP l ps,Q y
 |[],l,h,_=>h
 |x::r,l,h,h2=>by
  unfold applyP;rw [List.foldl_cons]
  refine applyP_all r _ (fun y hy=> ?_) (fun z hz=>h2 z (List.mem_cons_of_mem _ hz))
  rcases List.mem_or_eq_of_mem_set hy with hy|rfl
  ·exact h y hy
  ·exact h2 x List.mem_cons_self
def newest (ps:List (Nat×List UInt8))(a:Nat):Option (List UInt8):=((ps.filter (fun x=>x.1==a)).map (·.2)).getLast?
theorem get_applyP:∀(ps:List (Nat×List UInt8)) (l:List (List UInt8)) (a:Nat),(applyP l ps)[a]?=match newest ps a with|some d=>if a<l.length then some d else none|none=>l[a]?
 |[],l,a=>rfl
 |x::r,l,a=>by
  have ih:=get_applyP r (l.set x.1 x.2) a
  unfold applyP;rw [List.foldl_cons]
  refine Eq.trans ih ?_
  rw [List.length_set]
  unfold newest
  by_cases hx:x.1=a
  ·have hb:(x.1==a)=true:=by simpa using hx
   rw [List.filter_cons,if_pos hb,List.map_cons,List.getLast?_cons]
   cases hq:((r.filter fun x=>x.1==a).map (·.2)).getLast? with
   |some d=>simp
   |none=>
    simp only [Option.getD_none]
    rw [List.getElem?_set,if_pos hx]
    subst hx;rfl
  ·have hb:(x.1==a)=false:=by simpa using hx
   rw [List.filter_cons,if_neg (by rw [hb];decide)]
   cases hq:((r.filter fun x=>x.1==a).map (·.2)).getLast? with
   |some d=>rfl
   |none=>simp only [];rw [List.getElem?_set,if_neg hx]
theorem applyP_eq {l:List (List UInt8)}{ps qs:List (Nat×List UInt8)}(h:∀a,newest ps a=newest qs a):applyP l ps=applyP l qs:=by
 apply List.ext_getElem?
 intro a
 rw [get_applyP,get_applyP,h a]
def PEnt.top (p:PEnt):Nat×List UInt8:=(p.at_,((p.ws.map (·.2)).getLast?).getD [])
def Dsk.flushR (s:Dsk):Dsk×Int:=if s.left=0 then (s,3) else ({s with last:=applyP s.last s.pend,pend:=[],fl:=inc s.fl,left:=spent s.left},0)
section
variable {s:Dsk}{clock:Nat}{es:List PEnt}{fused:Bool}{left:Int}
theorem mem_left {ps:List PEnt}{e:Ent}(h:e∈leftE (es.map PEnt.ent) (ps.map (·.b))):∃p∈es,e=p.ent∧p.b∉ps.map (·.b):=by
 unfold leftE at h
 obtain ⟨h1,h2⟩:=List.mem_filter.1 h
 obtain ⟨p,hp,rfl⟩:=List.mem_map.1 h1
 refine ⟨p,hp,rfl,fun hm=> ?_⟩
 have:(ps.map (·.b)).contains p.ent.b=true:=by simpa [PEnt.ent] using hm
 rw [this] at h2;cases h2
theorem left_less {es:List Ent}{seen:List Nat}{e:Ent}(h:e∈leftE es seen):(leftE es (seen++[e.b])).length<(leftE es seen).length:=by
 have e1:leftE es (seen++[e.b])=(leftE es seen).filter (fun x=> !(x.b==e.b)):=by
  unfold leftE
  rw [List.filter_filter]
  apply List.filter_congr
  intro x _
  rw [Bool.eq_iff_iff]
  simp
  constructor
  ·rintro ⟨h1,h2⟩;exact ⟨h2,h1⟩
  ·rintro ⟨h1,h2⟩;exact ⟨h2,h1⟩
 rw [e1]
 exact List.length_filter_lt_length_iff_exists.2 ⟨e,h,by simp⟩
theorem PFacts.inj (h:PFacts s clock es fused left){p q:PEnt}(hp:p∈es)(hq:q∈es)(hk:p.at_=q.at_):p=q:=by
 obtain ⟨i,hi⟩:=List.getElem?_of_mem hp
 obtain ⟨j,hj⟩:=List.getElem?_of_mem hq
 have hil:=(List.getElem?_eq_some_iff.1 hi).1
 have hjl:=(List.getElem?_eq_some_iff.1 hj).1
 have e1:es[i]=p:=(List.getElem?_eq_some_iff.1 hi).2
 have e2:es[j]=q:=(List.getElem?_eq_some_iff.1 hj).2
 have hn:=List.pairwise_iff_getElem.1 h.keyN
 rcases Nat.lt_trichotomy i j with hlt|hlt|hlt
 ·have:=hn i j (by simpa using hil) (by simpa using hjl) hlt
  simp only [List.getElem_map,e1,e2] at this;exact absurd hk this
 ·subst hlt;rw [←e1,←e2]
 ·have:=hn j i (by simpa using hjl) (by simpa using hil) hlt
  simp only [List.getElem_map,e1,e2] at this;exact absurd hk.symm this
theorem PFacts.injB (h:PFacts s clock es fused left){p q:PEnt}(hp:p∈es)(hq:q∈es)(hk:p.b=q.b):p=q:=by
 obtain ⟨i,hi⟩:=List.getElem?_of_mem hp
 obtain ⟨j,hj⟩:=List.getElem?_of_mem hq
 have hil:=(List.getElem?_eq_some_iff.1 hi).1
 have hjl:=(List.getElem?_eq_some_iff.1 hj).1
 have e1:es[i]=p:=(List.getElem?_eq_some_iff.1 hi).2
 have e2:es[j]=q:=(List.getElem?_eq_some_iff.1 hj).2
 have hn:=List.pairwise_iff_getElem.1 h.bornN
 rcases Nat.lt_trichotomy i j with hlt|hlt|hlt
 ·have:=hn i j (by simpa using hil) (by simpa using hjl) hlt
  simp only [List.getElem_map,e1,e2] at this;exact absurd hk this
 ·subst hlt;rw [←e1,←e2]
 ·have:=hn j i (by simpa using hjl) (by simpa using hil) hlt
  simp only [List.getElem_map,e1,e2] at this;exact absurd hk.symm this
theorem PFacts.find_mem (h:PFacts s clock es fused left){p:PEnt}(hp:p∈es):∃j,es[j]?=some p∧(es.map PEnt.ent)[j]?=some p.ent∧p.ent.k=((p.at_:Nat):Int)∧(∀(m:Nat) (e:Ent),m<j→(es.map PEnt.ent)[m]?=some e→e.k≠((p.at_:Nat):Int))∧p.at_<s.last.length∧p.ws≠[]∧(∀x∈p.ws,x.2.length=512)∧p.ws.length≤s.pend.length:=by
 have hin:p.at_<s.last.length∧(∀x∈p.ws,x.2.length=512):=by
  have hw:=h.ws p hp
  have key:∀d∈p.ws.map (·.2),d.length=512∧p.at_<s.last.length:=fun d hd=>by
   rw [hw] at hd
   obtain ⟨y,hy,rfl⟩:=List.mem_map.1 hd
   obtain ⟨hy1,hy2⟩:=List.mem_filter.1 hy
   have:=h.plen y hy1
   have e:y.1=p.at_:=by simpa using hy2
   exact ⟨this.1,e▸this.2⟩
  obtain ⟨x,hx⟩:=List.exists_mem_of_ne_nil _ (h.ne p hp)
  exact ⟨(key x.2 (List.mem_map.2 ⟨x,hx,rfl⟩)).2,fun x hx=>(key x.2 (List.mem_map.2 ⟨x,hx,rfl⟩)).1⟩
 have hle:p.ws.length≤s.pend.length:=by
  have h2:p.ws.length=(pendOf s p.at_).length:=by rw [←h.ws p hp,List.length_map]
  have h3:(pendOf s p.at_).length≤s.pend.length:=by unfold pendOf;rw [List.length_map];exact List.length_filter_le _ _
  omega
 rcases h.find p.at_ with ⟨_,hno⟩|⟨j,q,hj,hat,_,_,hje,hke,hfe⟩
 ·exact absurd rfl (hno p.ent (List.mem_map.2 ⟨p,hp,rfl⟩))
 ·have e:q=p:=h.inj (List.mem_of_getElem? hj) hp hat
  subst e
  exact ⟨j,hj,hje,hke,hfe,hin.1,h.ne q hp,hin.2,hle⟩
theorem PFacts.flushed (h:PFacts s clock es fused left){ps:List PEnt}(hps:∀p∈ps,p∈es)(hl:leftE (es.map PEnt.ent) (ps.map (·.b))=[]):applyP s.last (ps.map PEnt.top)=applyP s.last s.pend:=by
 apply applyP_eq
 intro a
 have hall:∀p∈es,p∈ps:=fun p hp=>by
  have h1:p.ent∉leftE (es.map PEnt.ent) (ps.map (·.b)):=by rw [hl];exact List.not_mem_nil
  have h2:(ps.map (·.b)).contains p.b=true:=by
   cases hq:(ps.map (·.b)).contains p.b with
   |true=>rfl
   |false=>exact absurd (List.mem_filter.2 ⟨List.mem_map.2 ⟨p,hp,rfl⟩,by show (!(ps.map (·.b)).contains p.b)=true;rw [hq];rfl⟩) h1
  obtain ⟨q,hq,hb⟩:=List.mem_map.1 (List.contains_iff_mem.1 h2)
  rw [h.injB hp (hps q hq) hb.symm];exact hq
 show newest (ps.map PEnt.top) a=(pendOf s a).getLast?
 rcases h.find a with ⟨hn,hno⟩|⟨j,p,hj,hat,hp,hne,_,_,_⟩
 ·rw [hn]
  unfold newest
  have:((ps.map PEnt.top).filter fun x=>x.1==a)=[]:=by
   rw [List.filter_eq_nil_iff]
   intro x hx hk
   obtain ⟨q,hq,rfl⟩:=List.mem_map.1 hx
   exact hno q.ent (List.mem_map.2 ⟨q,hps q hq,rfl⟩) (by (have:q.at_=a:=by simpa [PEnt.top] using hk);simp [PEnt.ent,this])
  rw [this];rfl
 ·have hpe:=List.mem_of_getElem? hj
  rw [hp]
  unfold newest
  have hmem:p.top∈(ps.map PEnt.top).filter fun x=>x.1==a:=List.mem_filter.2 ⟨List.mem_map.2 ⟨p,hall p hpe,rfl⟩,by simpa [PEnt.top] using hat⟩
  have hsame:∀x∈((ps.map PEnt.top).filter fun x=>x.1==a).map (·.2),x=p.top.2:=fun x hx=>by
   obtain ⟨y,hy,rfl⟩:=List.mem_map.1 hx
   obtain ⟨hy1,hy2⟩:=List.mem_filter.1 hy
   obtain ⟨q,hq,rfl⟩:=List.mem_map.1 hy1
   have e:q.at_=p.at_:=by
    have:q.at_=a:=by simpa [PEnt.top] using hy2
    omega
   rw [h.inj (hps q hq) hpe e]
  have hne2:((ps.map PEnt.top).filter fun x=>x.1==a).map (·.2)≠[]:=by
   intro e
   rw [List.map_eq_nil_iff] at e
   rw [e] at hmem;cases hmem
  rw [List.getLast?_eq_some_getLast hne2,hsame _ (List.getLast_mem hne2)]
  have h3:p.ws.map (·.2)≠[]:=by simpa using hne
  show some (((p.ws.map (·.2)).getLast?).getD [])=_
  rw [List.getLast?_eq_some_getLast h3];rfl
theorem PFacts.settled {s':Dsk}{fused':Bool}{left':Int}(h:PFacts s clock es fused left)(h0:s'.last.length=s.last.length)(h1:∀l∈s'.last,l.length=512)(h2:s'.pend=[])(h3:fused'=decide (0≤s'.left))(h4:0≤s'.left→left'=s'.left)(h5: -1≤s'.left∧s'.left≤9223372036854775807):PFacts s' clock [] fused' left':=
 ⟨fun p hp=>(by cases hp),List.nodup_nil,List.nodup_nil,fun p hp=>(by cases hp),fun x hx=>(by rw [h2] at hx;cases hx),fun p hp=>(by cases hp),h1,fun x hx=>(by rw [h2] at hx;cases hx),by rw [h0];exact h.n1,by rw [h0];exact h.n2,h3,h4,h5,by rw [h2];simp⟩
end
end
end Go.Proofs
end
section
namespace Go.Proofs
open Go.Shelf
section
def Try.lays189_ren:Go.Shelf.Ren:=⟨fun|189=>113|125=>142|257=>141|128=>160|129=>161|294=>151|295=>152|296=>153|297=>154|298=>155|299=>156|216=>157|300=>158|301=>159|328=>163|329=>164|330=>165|331=>166|332=>167|215=>168|343=>169|n=>n,fun|28=>92|3=>3|46=>168|0=>0|51=>205|53=>223|4=>4|183=>214|182=>213|131=>219|5=>5|9=>9|218=>224|222=>228|228=>230|229=>231|n=>n,fun|n=>n⟩
theorem Try.lays189:Go.Proofs.Lays.n189 Try.prog Try.lays189_ren:={
 mixed:=by kernel_rfl
 f125:=Try.func142.trans (congrArg some kr_)
 f128:=Try.func160.trans (congrArg some kr_)
 f129:=Try.func161.trans (congrArg some kr_)
 f189:=Try.func113.trans (congrArg some kr_)
 f215:=Try.func168.trans (congrArg some kr_)
 f216:=Try.func157.trans (congrArg some kr_)
 f257:=Try.func141.trans (congrArg some kr_)
 f294:=Try.func151.trans (congrArg some kr_)
 f295:=Try.func152.trans (congrArg some kr_)
 f296:=Try.func153.trans (congrArg some kr_)
 f297:=Try.func154.trans (congrArg some kr_)
 f298:=Try.func155.trans (congrArg some kr_)
 f299:=Try.func156.trans (congrArg some kr_)
 f300:=Try.func158.trans (congrArg some kr_)
 f301:=Try.func159.trans (congrArg some kr_)
 f328:=Try.func163.trans (congrArg some kr_)
 f329:=Try.func164.trans (congrArg some kr_)
 f330:=Try.func165.trans (congrArg some kr_)
 f331:=Try.func166.trans (congrArg some kr_)
 f332:=Try.func167.trans (congrArg some kr_)
 f343:=Try.func169.trans (congrArg some kr_)
 t0:=Try.underlying0
 a0:=Try.isAgg0
 z0:=Try.sizeOf0
 v0:=Try.zeroValue0
 t3:=Try.underlying3
 a3:=Try.isAgg3
 z3:=Try.sizeOf3
 v3:=Try.zeroValue3
 t4:=Try.underlying4
 a4:=Try.isAgg4
 z4:=Try.sizeOf4
 v4:=Try.zeroValue4
 t5:=Try.underlying5
 a5:=Try.isAgg5
 z5:=Try.sizeOf5
 v5:=Try.zeroValue5
 t9:=Try.underlying9
 a9:=Try.isAgg9
 z9:=Try.sizeOf9
 v9:=Try.zeroValue9
 t28:=Try.underlying92
 a28:=Try.isAgg92
 z28:=Try.sizeOf92
 v28:=Try.zeroValue92
 t46:=Try.underlying168
 a46:=Try.isAgg168
 z46:=Try.sizeOf168
 v46:=Try.zeroValue168
 t51:=Try.underlying205
 a51:=Try.isAgg205
 z51:=Try.sizeOf205
 v51:=Try.zeroValue205
 t53:=Try.underlying223
 a53:=Try.isAgg223
 z53:=Try.sizeOf223
 v53:=Try.zeroValue223
 t131:=Try.underlying219
 a131:=Try.isAgg219
 z131:=Try.sizeOf219
 v131:=Try.zeroValue219
 t182:=Try.underlying213
 a182:=Try.isAgg213
 z182:=Try.sizeOf213
 v182:=Try.zeroValue213
 t183:=Try.underlying214
 a183:=Try.isAgg214
 z183:=Try.sizeOf214
 v183:=Try.zeroValue214
 t218:=Try.underlying224
 a218:=Try.isAgg224
 z218:=Try.sizeOf224
 v218:=Try.zeroValue224
 t222:=Try.underlying228
 a222:=Try.isAgg228
 z222:=Try.sizeOf228
 v222:=Try.zeroValue228
 t228:=Try.underlying230
 a228:=Try.isAgg230
 z228:=Try.sizeOf230
 v228:=Try.zeroValue230
 t229:=Try.underlying231
 a229:=Try.isAgg231
 z229:=Try.sizeOf231
 v229:=Try.zeroValue231}
open Go.Sort Go.RowKit in
theorem Try.slices_Sort_int (blk off cap:Nat)(zs:List Int)(w:World)(hH:Holds (Value.int .i64) w blk off zs.toArray)(hblk:blk<w.heap.size)(hsz:zs.length<4611686018427387904):
  Calls Try.prog 113 #[.slice (some ⟨blk,off,none⟩) zs.length cap] w fun e w'=>
   e=.returned (.tuple #[])∧∃n os,w'=grow (putRow (Value.int .i64) (Sort.ahead w n) blk off (zs.mergeSort fun x y=>decide (x≤y)).toArray) os:=Any.slices_Sort_int Try.lays189 blk off cap zs w hH hblk hsz
open Go.RowKit Go.Sort in
theorem Try.slices_Sort_int_none (p:Option Addr)(cap:Nat)(w:World):
  Calls Try.prog 113 #[.slice p 0 cap] w fun e w'=>e=.returned (.tuple #[])∧w'=w:=Any.slices_Sort_int_none Try.lays189 p cap w
end
end Go.Proofs
end
section
open Go Go.RowKit Go.Proofs.YtgeioealgidkiaaW.PrintWords Go.Proofs.YtgeioealgidkiaaW.PrintMore
namespace Go.Vel
def RdV (w:World)(A:Option Addr)(vs:List Value):Prop:=0<vs.length→∃ad,A=some ad∧∀j u,vs[j]?=some u→w.cell? (ad.add j)=some u
structure RoV (F:Nat→Prop)(w0:World)(L:List Ast)(A:Option Addr)(vs:List Value):Prop where
 out:∀w' L',St F w0 w' (L'++L)→RdV w' A vs
section
variable {F:Nat→Prop}{w0 w:World}{L:List Ast}
theorem RoV.more {A:Option Addr}{l:List Value}{X:Ast}(h:RoV F w0 L A l):RoV F w0 (X::L) A l:=⟨fun w' L' S=>h.out w' (L'++[X]) (by rw [List.append_assoc];exact S)⟩
theorem RoV.item {g:Nat}{vs:List Value}{t:TypeId}(j:Nat)(hj:L[j]?=some (row g vs.toArray t)):RoV F w0 L (some ⟨g,0,none⟩) vs:=⟨fun w' L' S _=>by
 have h1:(L'++L)[L'.length+j]?=some (row g vs.toArray t):=by rw [List.getElem?_append_right om_];simpa using hj
 exact ⟨_,rfl,fun k u hu=>by rw [Addr.add_lit,Nat.zero_add,(S.blk _ h1).cell];simpa using hu⟩⟩
theorem RoV.cells {ad:Addr}{vs us:List Value}(h:RdV w (some ad) vs)(k:Nat)(hk:∀j u,us[j]?=some u→vs[k+j]?=some u)(h0:0<us.length):∀j u,us[j]?=some u→w.cell? ((ad.add k).add j)=some u:=fun j u hu=>by
 have h1:0<vs.length:=by
  obtain ⟨u0,hu0⟩:∃u0,us[0]?=some u0:=⟨_,List.getElem?_eq_getElem h0⟩
  have:=(List.getElem?_eq_some_iff.1 (hk 0 u0 hu0)).1;omega
 obtain ⟨ad',e,hc⟩:=h h1
 cases e
 rw [addr_add_add];exact hc _ u (hk j u hu)
end
section
variable {P:Program}{o:Oper}{w:World}{ρ:Operand→Value}{K:Value→World→Prop}
theorem gv_callC {f:FuncId}{y:Operand}{xs:Array Operand}{ts:Array TypeId}{fn:Func}{c:Code}{args caps:Array Value}(ho:o.op=.call {callee:=.value y,args:=xs,argTypes:=ts})(hf:P.funcs[f]?=some fn)(hname:(fn.name=="runtime.NumGoroutine")=false)(hb:fn.body=some c)(hρ:ρ y=.func (.func f) #[] caps)
  (hx:xs.map ρ++caps=args) (h:Calls P f args w fun e w''=>∃v,e=.returned v∧K v w''):gives P K ((execOp ρ o).run P w):=by
 subst hx
 have h1:fn.name≠"runtime.NumGoroutine":=by simpa using hname
 have e:(execOp ρ o).run P w=.ok (.enter f (xs.map ρ++caps)) w:=by
  simp only [execOp,ho,resolve,hρ]
  simp [Deferred.ofValue,invoke,callFunc,hf,h1,hb]
 rw [e];exact h
end
end Go.Vel
namespace Go.Proofs
open Go.Vel
set_option linter.unusedVariables false
theorem sort_own {F:Nat→Prop}{w0 w:World}{L:List Ast}{v:Value}{n:Nat}{zs:List Int}(S:St F w0 w (vec 3 1 v n (zs.map (Value.int .i64))::L))(hsz:n<4611686018427387904):
  Calls Try.prog 113 #[v] w fun e w'=>e=.returned (.tuple #[])∧St F w0 w' (vec 3 1 v n ((zs.mergeSort fun x y=>decide (x≤y)).map (Value.int .i64))::L):=by
 have hlen:=S.vec_len
 rw [List.length_map,Nat.mul_one] at hlen
 subst hlen
 rcases S.vec_cases with ⟨rfl,h0,_,S1⟩|⟨g,c,junk,rfl,hc,_,hj,S1⟩
 ·have hz:zs=[]:=List.eq_nil_of_length_eq_zero h0
  subst hz
  refine (Try.slices_Sort_int_none none 0 w).mono ?_
  rintro _ _ ⟨rfl,rfl⟩
  exact ⟨rfl,by rw [List.mergeSort_nil];exact St.vec_nil S1⟩
 ·have hb:=S1.blk 0 rfl
  have hg:=S1.get 0 rfl
  have hsz':g<w.heap.size:=lt_of_some hg
  have hH:Go.Sort.Holds (Value.int .i64) w g 0 zs.toArray:=fun j hj=>by
   have hj':j<zs.length:=by simpa using hj
   refine ⟨?_, ?_⟩
   ·rw [Nat.zero_add,hb.cell,List.getElem?_toArray,List.getElem?_append_left (by simpa using hj'),List.getElem?_map,List.getElem?_eq_getElem hj']
    simp [hj']
   ·simp [World.frozen?,hg]
  refine (Try.slices_Sort_int g 0 c zs w hH hsz' hsz).mono ?_
  rintro _ _ ⟨rfl,k,os,rfl⟩
  refine ⟨rfl, ?_⟩
  have hsl:(zs.mergeSort fun x y=>decide (x≤y)).length=zs.length:=List.length_mergeSort _
  generalize hw1:Go.Sort.putRow (Value.int .i64) (Go.Sort.ahead w k) g 0 (zs.mergeSort fun x y=>decide (x≤y)).toArray=w1
  have hnew:w1.heap[g]?=some (.cells (((zs.mergeSort fun x y=>decide (x≤y)).map (Value.int .i64))++junk).toArray 3 (0,0)):=by
   subst hw1
   simp only [Go.Sort.putRow,Go.Sort.mapBlock,Go.Sort.ahead]
   rw [Array.getElem?_modify,if_pos rfl,hg]
   simp only [Option.map_some,Go.Sort.onCells]
   congr 2
   apply Array.ext_getElem?
   intro i
   simp only [Go.Sort.putCells,Array.getElem?_mapIdx,List.getElem?_toArray]
   by_cases hi:i<zs.length
   ·rw [List.getElem?_append_left (by simpa using hi),List.getElem?_append_left (by rw [List.length_map,hsl];exact hi),List.getElem?_map,List.getElem?_map,List.getElem?_eq_getElem hi,List.getElem?_eq_getElem (by rw [hsl];exact hi)]
    simp [hi,hsl]
   ·rw [List.getElem?_append_right (by simpa using hi),List.getElem?_append_right (by rw [List.length_map,hsl];omega),List.length_map,List.length_map,hsl]
    cases hq:junk[i-zs.length]? with
    |none=>rfl
    |some y=>simp [hsl,hi]
  have hO:Only g w w1:=by
   subst hw1
   refine ⟨rfl,rfl,rfl,by simp,fun i hne=> ?_⟩
   simp only [Go.Sort.putRow,Go.Sort.mapBlock,Go.Sort.ahead]
   rw [Array.getElem?_modify,if_neg (Ne.symm hne)]
  have S2:=S1.upd (g:=g) 0 rfl hO hnew
  have S3:=S2.below (w':=Go.Sort.grow w1 os) ⟨rfl,rfl,rfl,by simp,fun i hi=>by simp only [Go.Sort.grow];rw [Array.getElem?_append_left hi]⟩
  exact St.vec_mk S3 hc (by rw [List.length_map,hsl,Nat.mul_one]) (by rw [List.length_append,List.length_map,hsl,←hj,List.length_append,List.length_map])
abbrev Pick:=Int×Int×Int
def tornS (l:List (List UInt8))(p:Pick):List UInt8:=(l.getD (p.1.toNat%l.length) []).take (p.2.2.toNat%513)++(l.getD (p.2.1.toNat%l.length) []).drop (p.2.2.toNat%513)
def candS (s:Dsk)(a:Nat):List (List UInt8):=s.last.getD a []::pendOf s a
def pickAt (ps:List Pick)(k:Nat):Pick:=if ps.length=0 then (0,0,0) else ps.getD (k%ps.length) (0,0,0)
def keysTo (s:Dsk)(a:Nat):List Nat:=(List.range a).filter fun a=> !(pendOf s a).isEmpty
def crashKeys (s:Dsk):List Nat:=keysTo s s.last.length
def outOf (s:Dsk)(ps:List Pick)(k:Nat)(a:Nat):Nat×List UInt8:=(a,tornS (candS s a) (pickAt ps k))
def crashOuts (s:Dsk)(ps:List Pick):List (Nat×List UInt8):=(crashKeys s).mapIdx (outOf s ps)
def Dsk.crashR (s:Dsk)(ps:List Pick):Dsk:={s with last:=applyP s.last (crashOuts s ps),pend:=[],left:= -1,life:=inc s.life}
def pickCells (p:Pick):List Value:=[.int .i64 p.1,.int .i64 p.2.1,.int .i64 p.2.2]
def picksV (ps:List Pick):List Value:=ps.flatMap pickCells
theorem length_picksV (ps:List Pick):(picksV ps).length=ps.length*3:=by
 induction ps with
 |nil=>rfl
 |cons p r ih=>simp [picksV,pickCells] at ih ⊢;omega
theorem picksV_at:∀(ps:List Pick) (i:Nat) (p:Pick),ps[i]?=some p→∀j u,(pickCells p)[j]?=some u→(picksV ps)[i*3+j]?=some u
 |[],i,p,h,_,_,_=>by simp at h
 |q::r,0,p,h,j,u,hu=>by
  simp at h;subst h
  have:=(List.getElem?_eq_some_iff.1 hu).1
  show ((pickCells q++picksV r))[0*3+j]?=some u
  rw [List.getElem?_append_left om_];simpa using hu
 |q::r,i+1,p,h,j,u,hu=>by
  have ih:=picksV_at r i p (by simpa using h) j u hu
  show ((pickCells q++picksV r))[(i+1)*3+j]?=some u
  rw [List.getElem?_append_right (by simp [pickCells];omega)]
  simpa [pickCells,show (i+1)*3+j-3=i*3+j from by omega] using ih
theorem tornS_len {l:List (List UInt8)}{p:Pick}(h:∀x∈l,x.length=512)(h0:l≠[]):(tornS l p).length=512:=by
 have hl:=List.length_pos_iff.2 h0
 have key:∀m,(l.getD (m%l.length) []).length=512:=fun m=>by
  have hm:m%l.length<l.length:=Nat.mod_lt _ hl
  rw [List.getD_eq_getElem?_getD,List.getElem?_eq_getElem hm]
  exact h _ (List.getElem_mem hm)
 have hm:p.2.2.toNat%513<513:=Nat.mod_lt _ dc_
 unfold tornS
 rw [List.length_append,List.length_take,List.length_drop,key,key];omega
theorem keysTo_mem {s:Dsk}{a x:Nat}:x∈keysTo s a↔x<a∧pendOf s x≠[]:=by
 simp [keysTo,List.mem_filter]
theorem keysTo_lt (s:Dsk)(a:Nat):(keysTo s a).Pairwise (·<·):=List.Pairwise.filter _ List.pairwise_lt_range
theorem keysTo_succ (s:Dsk)(a:Nat):keysTo s (a+1)=keysTo s a++(if (pendOf s a).isEmpty then [] else [a]):=by
 unfold keysTo
 rw [List.range_succ,List.filter_append]
 cases h:(pendOf s a).isEmpty<;>simp [h]
theorem keysTo_len (s:Dsk):∀a,(keysTo s a).length≤a
 |0=>Nat.le_refl 0
 |a+1=>by
  have:=keysTo_len s a
  rw [keysTo_succ,List.length_append]
  split<;>simp<;>omega
theorem applyP_getD:∀(ps:List (Nat×List UInt8)) (l:List (List UInt8)) (a:Nat),(∀x∈ps,x.1≠a)→(applyP l ps).getD a []=l.getD a []
 |[],_,_,_=>rfl
 |x::r,l,a,h=>by
  unfold applyP;rw [List.foldl_cons]
  refine (applyP_getD r _ a fun y hy=>h y (List.mem_cons_of_mem _ hy)).trans ?_
  rw [List.getD_eq_getElem?_getD,List.getElem?_set_ne (h x List.mem_cons_self),←List.getD_eq_getElem?_getD]
section
variable {s:Dsk}{clock:Nat}{es:List PEnt}{fused:Bool}{left:Int}
theorem PFacts.cand_len (h:PFacts s clock es fused left){a:Nat}(ha:a<s.last.length):∀x∈candS s a,x.length=512:=fun x hx=>by
 rcases List.mem_cons.1 hx with rfl|hx
 ·exact h.len _ (List.mem_of_getElem? (mem_getD ha))
 ·unfold pendOf at hx
  obtain ⟨y,hy,rfl⟩:=List.mem_map.1 hx
  exact (h.plen y (List.mem_filter.1 hy).1).1
theorem PFacts.out_len (h:PFacts s clock es fused left)(ps:List Pick):∀x∈crashOuts s ps,x.2.length=512:=fun x hx=>by
 unfold crashOuts at hx
 obtain ⟨i,hi,rfl⟩:=List.mem_mapIdx.1 hx
 refine tornS_len (h.cand_len ?_) (by simp [candS])
 have:(crashKeys s)[i]∈crashKeys s:=List.getElem_mem hi
 exact (keysTo_mem.1 this).1
theorem PFacts.key_mem (h:PFacts s clock es fused left){a:Nat}:a∈crashKeys s↔∃p∈es,p.at_=a:=by
 rw [crashKeys,keysTo_mem]
 constructor
 ·rintro ⟨_,hp⟩
  rcases h.find a with ⟨h1,_⟩|⟨j,p,hj,hat,_⟩
  ·exact absurd h1 hp
  ·exact ⟨p,List.mem_of_getElem? hj,hat⟩
 ·rintro ⟨p,hp,rfl⟩
  obtain ⟨j,_,_,_,_,hk,hne,_,_⟩:=h.find_mem hp
  refine ⟨hk,fun e=>hne ?_⟩
  have:=h.ws p hp
  rw [e] at this
  exact List.map_eq_nil_iff.1 this
theorem PFacts.sorted (h:PFacts s clock es fused left){ps:List PEnt}(hps:∀p∈ps,p∈es)(hnd:(ps.map (·.b)).Nodup)(hl:leftE (es.map PEnt.ent) (ps.map (·.b))=[]):
  ((ps.map fun p=>((p.at_:Nat):Int)).mergeSort fun x y=>decide (x≤y))=(crashKeys s).map fun a=>((a:Nat):Int):=by
 have hall:∀p∈es,p∈ps:=fun p hp=>by
  have h1:p.ent∉leftE (es.map PEnt.ent) (ps.map (·.b)):=by rw [hl];exact List.not_mem_nil
  have h2:(ps.map (·.b)).contains p.b=true:=by
   cases hq:(ps.map (·.b)).contains p.b with
   |true=>rfl
   |false=>exact absurd (List.mem_filter.2 ⟨List.mem_map.2 ⟨p,hp,rfl⟩,by show (!(ps.map (·.b)).contains p.b)=true;rw [hq];rfl⟩) h1
  obtain ⟨q,hq,hb⟩:=List.mem_map.1 (List.contains_iff_mem.1 h2)
  have:q=p:=h.injB (hps q hq) hp hb
  exact this▸hq
 have hpn:ps.Nodup:=List.Pairwise.of_map (·.b) (fun a b hne e=>hne (congrArg _ e)) hnd
 have hen:es.Nodup:=List.Pairwise.of_map (·.b) (fun a b hne e=>hne (congrArg _ e)) h.bornN
 have p1:ps.Perm es:=(List.perm_ext_iff_of_nodup hpn hen).2 fun p=>⟨hps p,hall p⟩
 have p2:(es.map (·.at_)).Perm (crashKeys s):=(List.perm_ext_iff_of_nodup h.keyN ((keysTo_lt s _).imp fun hab=>Nat.ne_of_lt hab)).2 fun a=>by
  refine Iff.trans ?_ (h.key_mem (a:=a)).symm;simp
 have p3:(ps.map fun p=>((p.at_:Nat):Int)).Perm ((crashKeys s).map fun a=>((a:Nat):Int)):=by
  have q1:=(p1.map (fun p=>p.at_)).trans p2
  have q2:=q1.map (fun a=>((a:Nat):Int))
  rwa [List.map_map] at q2
 refine List.Perm.eq_of_pairwise (le:=fun x y=>x≤y) (fun a b _ _ h1 h2=>Int.le_antisymm h1 h2) ?_ ?_ ((List.mergeSort_perm _ _).trans p3)
 ·refine (List.pairwise_mergeSort (le:=fun x y=>decide (x≤y)) (fun a b c h1 h2=> ?_) (fun a b=> ?_) _).imp fun hab=>of_decide_eq_true hab
  ·have e1:=of_decide_eq_true h1;have e2:=of_decide_eq_true h2
   exact decide_eq_true (Int.le_trans e1 e2)
  ·simp;omega
 ·exact List.Pairwise.map _ (fun a b hab=>by show ((a:Nat):Int)≤((b:Nat):Int);omega) (keysTo_lt s _)
theorem out_take {s:Dsk}{ps:List Pick}{k a:Nat}(hk:(crashKeys s)[k]?=some a):(crashOuts s ps).take (k+1)=(crashOuts s ps).take k++[outOf s ps k a]:=by
 have e:(crashOuts s ps)[k]?=some (outOf s ps k a):=by unfold crashOuts;rw [List.getElem?_mapIdx,hk];rfl
 rw [List.take_add_one,e];rfl
theorem out_fst {s:Dsk}{ps:List Pick}{k a:Nat}(hk:(crashKeys s)[k]?=some a):∀x∈(crashOuts s ps).take k,x.1≠a:=fun x hx=>by
 obtain ⟨i,hi,rfl⟩:=List.mem_take_iff_getElem.1 hx
 have hi2:i<(crashKeys s).length:=by simp [crashOuts] at hi;omega
 simp only [crashOuts,List.getElem_mapIdx,outOf]
 have hlt:=List.pairwise_iff_getElem.1 (keysTo_lt s s.last.length) i k hi2 (List.getElem?_eq_some_iff.1 hk).1 om_
 have e2:(keysTo s s.last.length)[k]'(List.getElem?_eq_some_iff.1 hk).1=a:=(List.getElem?_eq_some_iff.1 hk).2
 rw [e2] at hlt
 exact Nat.ne_of_lt hlt
end
end Go.Proofs
end
section
open Go Go.RowKit Go.Proofs.YtgeioealgidkiaaW.PrintWords Go.Proofs.YtgeioealgidkiaaW.PrintMore
namespace Go.Proofs
open Go.Vel
set_option linter.unusedVariables false
abbrev RPut:=Nat×Nat×List UInt8
def RPut.ref (x:RPut):Nat×List UInt8:=(x.1,x.2.2)
def putCells (x:RPut):List Value:=[.int .i64 ((x.2.1:Nat):Int),PEnt.val x.ref]
structure RFacts (s:Dsk)(LL:List (Nat×List UInt8))(PP:List RPut)(pool:List (Nat×List UInt8)):Prop where
 last:LL.map (·.2)=s.last
 pend:PP.map (·.2)=s.pend
 lin:∀x∈LL,x∈pool
 pin:∀x∈PP,x.ref∈pool
 len:∀l∈s.last,l.length=512
 plen:∀x∈s.pend,x.2.length=512∧x.1<s.last.length
 n1:1≤s.last.length
 n2:s.last.length≤2048
 lb: -1≤s.left∧s.left≤9223372036854775807
 pn:s.pend.length≤4611686018427387904
section
variable {F:Nat→Prop}{w0 w:World}{L:List Ast}{g:Nat}{s:Dsk}
end
section
variable {s s':Dsk}{LL:List (Nat×List UInt8)}{PP:List RPut}{pool:List (Nat×List UInt8)}
end
end Go.Proofs
namespace Go.Proofs
open Go.Vel
set_option linter.unusedVariables false
section
variable {F:Nat→Prop}{w0 w:World}{L:List Ast}{s s':Dsk}{LL:List (Nat×List UInt8)}{PP:List RPut}{pool:List (Nat×List UInt8)}
end
end Go.Proofs
namespace Go.Vel
end Go.Vel
end
section
open Go Go.RowKit Go.Proofs.YtgeioealgidkiaaW.PrintWords Go.Proofs.YtgeioealgidkiaaW.PrintMore
namespace Go.Proofs
open Go.Vel
set_option linter.unusedVariables false
set_option maxRecDepth 100000
set_option maxHeartbeats 4000000
attribute [local irreducible] gives wpList Code.wp
section
variable {F:Nat→Prop} {w0 w:World} {L:List Ast}
theorem burnt_b {w:World}{g gd n c gm:Nat}{fused:Bool}{left life r wr fl rf pn:Int}{b:Bool}(HB:Blk w g (dcells gd n c gm fused left life r wr fl rf pn) 135)(hb:(fused&&decide (left=0))=b):
  Calls Try.prog 15 #[pq g] w fun e w'=>e=.returned (.bool b)∧w=w':=hb▸burnt_ro HB
theorem there_dead {g gd n c gm:Nat}{fused:Bool}{left life r wr fl rf pn:Int}{at_:Int}(hb:(fused&&decide (left=0))=true)(S:St F w0 w (row g (dcells gd n c gm fused left life r wr fl rf pn) 135::L)):
  Calls Try.prog 79 #[pq g,iv at_] w fun e w'=>e=.returned (iv 3)∧St F w0 w' (row g (dcells gd n c gm fused left life r wr fl rf pn) 135::L):=by
 change St F w0 w (row g #[sl gd 0 n c,.map (some gm),.bool fused,iv left,iv life,iv r,iv wr,iv fl,iv rf,iv pn] 135::L) at S
 refine eN (fr [pq g,iv at_] 22) Try.func79 rfl (sR (pv (iv 0) (wE (nS (sR (pv (pq g) (sO Try.func15 #[pq g] (burnt_b (b:=true) (S.blk 0 rfl) hb) (wE (nCT (sR (pv (iv 3) (wE (then_n ?_)))))))))))))
 exact rR (bA (iv 3) ⟨rfl,S⟩)
theorem there_out {g gd n c gm:Nat}{fused:Bool}{left life r wr fl rf pn:Int}{at_:Int}{m:Nat}(hb:(fused&&decide (left=0))=false)(hn:n=512*m)(hm:m≤2048)(ha:at_<0∨(m:Int)≤at_)(S:St F w0 w (row g (dcells gd n c gm fused left life r wr fl rf pn) 135::L)):
  Calls Try.prog 79 #[pq g,iv at_] w fun e w'=>e=.returned (iv 11)∧St F w0 w' (row g (dcells gd n c gm fused left life r wr fl (inc rf) pn) 135::L):=by
 change St F w0 w (row g #[sl gd 0 n c,.map (some gm),.bool fused,iv left,iv life,iv r,iv wr,iv fl,iv rf,iv pn] 135::L) at S
 refine eN (fr [pq g,iv at_] 22) Try.func79 rfl (sR (pv (iv 0) (wE (nS (sR (pv (pq g) (sO Try.func15 #[pq g] (burnt_b (b:=false) (S.blk 0 rfl) hb) (wE (nCF (wp_skip (nS (sR (pv (iv at_) (dC ((at_:Int)<0) (fun hb1=> ?_) fun hb1=> ?_))))))))))))))
 ·refine pv tv (wN (wN (wN (wN (pv tv (wE (nCT (sR (pv (pq g) (pv (pq g) (pv (po g 5) (pv (po g 8) (lR (iv rf) S 0 8 ?_)))))))))))))
  exact pv (iv (inc rf)) (pv (pq g) (pv (po g 5) (pv (po g 8) (sS S 0 rfl 8 (iv (inc rf)) fun w2 S3=>wER (pv (iv 11) (wE (then_n (rR (bA (iv 11) ⟨rfl,S3⟩)))))))))
 ·refine pv fv (pW (iv at_) (pW (pq g) (wl_when kr_ (gv_call (args:=#[pq g]) rfl Try.func14 kr_ rfl rfl kr_ (Calls.mono (sectors_ro (S.blk 0 rfl) hn hm) ?_)))))
  rintro _ _ ⟨rfl,rfl⟩
  refine ⟨_,rfl,(wl_when kr_ (gv_dec (p:=(at_:Int)≥((m:Nat):Int)) kr_ (fun _=>pv tv (wE (nCT (sR (pv (pq g) (pv (pq g) (pv (po g 5) (pv (po g 8) (lR (iv rf) S 0 8 (pv (iv (inc rf)) (pv (pq g) (pv (po g 5) ?_)))))))))))) (fun hd4=>False.elim om_)))⟩
  exact pv (po g 8) (sS S 0 rfl 8 (iv (inc rf)) fun w5 S6=>wER (pv (iv 11) (wE (then_n (rR (bA (iv 11) ⟨rfl,S6⟩))))))
theorem there_in {g gd n c gm:Nat}{fused:Bool}{left life r wr fl rf pn:Int}{k m:Nat}(hb:(fused&&decide (left=0))=false)(hn:n=512*m)(hm:m≤2048)(ha:k<m)(S:St F w0 w (row g (dcells gd n c gm fused left life r wr fl rf pn) 135::L)):
  Calls Try.prog 79 #[pq g,nI_ k] w fun e w'=>e=.returned (iv 0)∧St F w0 w' (row g (dcells gd n c gm fused left life r wr fl rf pn) 135::L):=by
 change St F w0 w (row g #[sl gd 0 n c,.map (some gm),.bool fused,iv left,iv life,iv r,iv wr,iv fl,iv rf,iv pn] 135::L) at S
 refine eN (fr [pq g,nI_ k] 22) Try.func79 rfl (sR (pv (iv 0) (wE (nS (sR (pv (pq g) (sO Try.func15 #[pq g] (burnt_b (b:=false) (S.blk 0 rfl) hb) (wE (nCF (wp_skip (nS (sR (pv (nI_ k) ?_)))))))))))))
 refine dC ((((k:Nat):Int):Int)<0) (fun hd1=>False.elim om_) fun _=>pv fv (pW (nI_ k) (pW (pq g) (wl_when kr_ (gv_call (args:=#[pq g]) rfl Try.func14 kr_ rfl rfl kr_ (Calls.mono (sectors_ro (S.blk 0 rfl) hn hm) ?_)))))
 rintro _ _ ⟨rfl,rfl⟩
 exact ⟨_,rfl,(wl_when kr_ (gv_dec (p:=(((k:Nat):Int):Int)≥((m:Nat):Int)) kr_ (fun hd2=>False.elim om_) (fun _=>pv fv (wE (nCF (wp_skip (nSR (pv (iv 0) (wE (then_n (wp_ret (bA (iv 0) ⟨rfl,S⟩))))))))))))⟩
theorem home_ro {w:World}{g gd n c gm:Nat}{fused:Bool}{left life r wr fl rf pn:Int}{k m:Nat}(HB:Blk w g (dcells gd n c gm fused left life r wr fl rf pn) 135)(hn:n=512*m)(hc:c=512*m)(hm:m≤2048)(ha:k<m):
  Calls Try.prog 114 #[pq g,nI_ k] w fun e w'=>e=.returned (.slice (some ⟨gd,512*k,none⟩) 512 (512*m-512*k))∧w=w':=by
 refine eN (fr [pq g,nI_ k] 13) Try.func114 rfl (sR (pv (nS_) (wER (pv (pq g) (pv (pq g) (pv (pq g) (lQ (sl gd 0 n c) ((HB.cell 0).trans rfl) (pv (nI_ k) (gI .i64 (IntKind.i64.wrap (((k:Nat):Int)*512)) ((512*k:Nat):Int) wq_ (pv (nI_ k) (gI .i64 (IntKind.i64.wrap (((k:Nat):Int)+1)) (((k:Nat):Int)+1) (wr_ok om_ om_) (gI .i64 (IntKind.i64.wrap ((((k:Nat):Int)+1)*512)) ((512*(k+1):Nat):Int) wq_ (g_ (gv_cutE (e:=5) (sz:=1) (g:=gd) (off:=0) (n:=n) (c:=c) (kl:=.i64) (kh:=.i64) (u:=((512*k:Nat):Int)) (v:=((512*(k+1):Nat):Int)) (lo:=(512*k)) (hi:=(512*(k+1))) (off':=(512*k)) (n':=512) (c':=(512*m-512*k)) rfl kr_ kr_ kr_ kr_ kr_ rfl rfl om_ om_ om_ om_ om_ om_ ?_))))))))))))))
 exact pv (sl gd (512*k) 512 (512*m-512*k)) (wE (then_n (wp_ret (bA (.slice (some ⟨gd,512*k,none⟩) 512 (512*m-512*k)) ⟨rfl,rfl⟩))))
theorem now_home {w:World}{g gd n c gm:Nat}{fused:Bool}{left life r wr fl rf pn:Int}{k m:Nat}(HB:Blk w g (dcells gd n c gm fused left life r wr fl rf pn) 135)(hn:n=512*m)(hc:c=512*m)(hm:m≤2048)(ha:k<m){es:List Ent}{clock:Nat}(hg:w.heap[gm]?=some (mapO es clock))(hno:∀e∈es,e.k≠((k:Nat):Int)):
  Calls Try.prog 80 #[pq g,nI_ k] w fun e w'=>e=.returned (.slice (some ⟨gd,512*k,none⟩) 512 (512*m-512*k))∧w=w':=by
 refine eN (fr [pq g,nI_ k] 22) Try.func80 rfl (sR (pv (nS_) (wE (nS (sR (pv (pq g) (pv (pq g) (pv (po g 1) (lQ (.map (some gm)) ((HB.cell 1).trans rfl) (pv (nI_ k) (g_ (gv_look_none (kT:=3) (eT:=42) (k:=((k:Nat):Int)) (z:=nS_) hg rfl kr_ kr_ kr_ kr_ kr_ hno (pv (nS_) (wER ?_))))))))))))))
 refine pv (nS_) (pv (iv 0) (dC ((0:Int)>0) (fun hd1=>False.elim om_) fun _=>wE (nCF (wp_skip (nSR (pv (pq g) (pv (nI_ k) (sO Try.func114 #[pq g,nI_ k] (home_ro HB hn hc hm ha) (pv (sl gd (512*k) 512 (512*m-512*k)) (wE (then_n (wp_ret ?_))))))))))))
 exact bA (.slice (some ⟨gd,512*k,none⟩) 512 (512*m-512*k)) ⟨rfl,rfl⟩
theorem now_pend {w:World}{g gd n c gm:Nat}{fused:Bool}{left life r wr fl rf pn:Int}{k:Nat}(HB:Blk w g (dcells gd n c gm fused left life r wr fl rf pn) 135){es:List Ent}{clock:Nat}(hg:w.heap[gm]?=some (mapO es clock)){j:Nat}{e0:Ent}(hj:es[j]?=some e0)(hk:e0.k=((k:Nat):Int))(hf:∀m e,m<j→es[m]?=some e→e.k≠((k:Nat):Int)){gb q cb:Nat}{cells:Array Value}{tb:TypeId}{X:Value}(hv:e0.v=.slice (some ⟨gb,0,none⟩) q cb)(hq:0<q)(hq2:q≤9223372036854775807)(HV:Blk w gb cells tb)(hX:cells[q-1]?=some X):
  Calls Try.prog 80 #[pq g,nI_ k] w fun e w'=>e=.returned X∧w=w':=by
 refine eN (fr [pq g,nI_ k] 22) Try.func80 rfl (sR (pv (nS_) (wE (nS (sR (pv (pq g) (pv (pq g) (pv (po g 1) (lQ (.map (some gm)) ((HB.cell 1).trans rfl) (pv (nI_ k) (g_ (gv_look_some (kT:=3) (eT:=42) (k:=((k:Nat):Int)) hg rfl kr_ kr_ kr_ kr_ hj hk hf ?_))))))))))))
 rw [hv]
 refine pv (sl gb 0 q cb) (wER (pv (sl gb 0 q cb) (pv (iv (q:Nat)) (dC (((q:Nat):Int)>0) (fun _=>wE (nCT (sR (pv (sl gb 0 q cb) (pv (sl gb 0 q cb) (pv (iv (q:Nat)) (gI .i64 (IntKind.i64.wrap ((q:Nat)-1)) ((q-1:Nat):Int) wq_ (g_ (gv_ixE (e:=31) (sz:=1) (g:=gb) (off:=0) (n:=q) (c:=cb) (i:=((q-1:Nat):Int)) (k:=.i64) (j:=(q-1)) (off':=(q-1)) rfl kr_ kr_ kr_ kr_ rfl om_ om_ (lQ X ((HV.cell (q-1)).trans hX) ?_)))))))))) fun hd1=>False.elim om_))))
 exact pv X (wE (then_n (rR (bA X ⟨rfl,rfl⟩))))
theorem spend_true {g gd n c gm:Nat}{left life r wr fl rf pn:Int}(S:St F w0 w (row g (dcells gd n c gm true left life r wr fl rf pn) 135::L)):
  Calls Try.prog 83 #[pq g] w fun e w'=>e=.returned (.tuple #[])∧St F w0 w' (row g (dcells gd n c gm true (dec left) life r wr fl rf pn) 135::L):=by
 change St F w0 w (row g #[sl gd 0 n c,.map (some gm),.bool true,iv left,iv life,iv r,iv wr,iv fl,iv rf,iv pn] 135::L) at S
 refine eN (fr [pq g] 12) Try.func83 rfl (sR (pv (pq g) (pv (pq g) (pv (po g 2) (lR (.bool true) S 0 2 (wE (nCT (wp_region_lit (pv (pq g) (pv (pq g) (pv (po g 3) (lR (iv left) S 0 3 (pv (iv (dec left)) ?_)))))))))))))
 exact pv (pq g) (pv (po g 3) (sS S 0 rfl 3 (iv (dec left)) fun w1 S2=>wE (bodyPost_end (v:=.tuple #[]) (results_none rfl _ _ _) rfl ⟨rfl,S2⟩)))
theorem spend_false {g gd n c gm:Nat}{left life r wr fl rf pn:Int}(S:St F w0 w (row g (dcells gd n c gm false left life r wr fl rf pn) 135::L)):
  Calls Try.prog 83 #[pq g] w fun e w'=>e=.returned (.tuple #[])∧St F w0 w' (row g (dcells gd n c gm false left life r wr fl rf pn) 135::L):=by
 change St F w0 w (row g #[sl gd 0 n c,.map (some gm),.bool false,iv left,iv life,iv r,iv wr,iv fl,iv rf,iv pn] 135::L) at S
 exact eN (fr [pq g] 12) Try.func83 rfl (sR (pv (pq g) (pv (pq g) (pv (po g 2) (lR (.bool false) S 0 2 (wE (nCF (wp_skip (bodyPost_end (v:=.tuple #[]) (results_none rfl _ _ _) rfl ⟨rfl,S⟩)))))))))
end
def Dsk.fuseR (s:Dsk)(n:Int):Dsk:=if s.left=0 then s else {s with left:=if n<0 then-1 else n}
theorem settle_own {F:Nat→Prop}{w0 w:World}{L:List Ast}{g gd n c gm:Nat}{fused:Bool}{left life r wr fl rf pn:Int}{X:Ast}{es:List Ent}{clock:Nat}(S:St F w0 w (row g (dcells gd n c gm fused left life r wr fl rf pn) 135::X::pt gm (mapO es clock)::L)):
  Calls Try.prog 116 #[pq g] w fun e w'=>e=.returned (.tuple #[])∧St F w0 w' (row g (dcells gd n c gm fused left life r wr fl rf 0) 135::X::pt gm (mapO [] clock)::L):=by
 change St F w0 w (row g #[sl gd 0 n c,.map (some gm),.bool fused,iv left,iv life,iv r,iv wr,iv fl,iv rf,iv pn] 135::X::pt gm (mapO es clock)::L) at S
 refine eN (fr [pq g] 9) Try.func116 rfl (sR (pv (pq g) (pv (pq g) (pv (po g 1) (lR (.map (some gm)) S 0 1 (g_ (gv_clear (kT:=3) (eT:=42) (g:=gm) (clock:=clock) (es:=es) S 2 rfl rfl kr_ kr_ (L':=(row g #[sl gd 0 n c,.map (some gm),.bool fused,iv left,iv life,iv r,iv wr,iv fl,iv rf,iv pn] 135::X::pt gm (mapO [] clock)::L)) rfl (fun w1 S2=>wE (nR (pv (pq g) (pv (pq g) (pv (po g 5) (pv (po g 9) (sS S2 0 rfl 9 (iv 0) fun w3 S4=> ?_))))))))))))))
 exact wE (bodyPost_end (v:=.tuple #[]) (results_none rfl _ _ _) rfl ⟨rfl,S4⟩)
theorem pd_flush {F:Nat→Prop}{w0 w:World}{L:List Ast}{g:Nat}{s:Dsk}(S:St F w0 w (PDisk g s::L)):Calls Try.prog 87 #[.pointer (some ⟨g,0,none⟩)] w fun e w'=>e=.returned (.int .i64 s.flushR.2)∧St F w0 w' (PDisk g s.flushR.1::L):=by
 obtain ⟨gd,gm,clock,es,fused,left,hf,S⟩:=St.popen S
 have hn2:=hf.n2
 have hbu:=hf.burnt
 by_cases hz:s.left=0
 ·have e:s.flushR=(s,3):=by unfold Dsk.flushR;rw [if_pos hz]
  rw [e]
  have hb:(fused&&decide (left=0))=true:=by rw [hbu];exact decide_eq_true hz
  change St F w0 w (dR g gd (512*s.last.length) gm fused left s.life s.rd s.wr s.fl s.rf (s.pend.length:Int)::row gd (bvs s.last.flatten) 5::pt gm (mapO (es.map PEnt.ent) clock)::stars (es.map PEnt.ast)::L) at S
  refine eN (fr [pq g] 34) Try.func87 rfl (sR (pv (iv 0) (wE (nS (sR (pv (pq g) (sO Try.func15 #[pq g] (burnt_b (b:=true) (S.blk 0 rfl) hb) (wE (nCT (sR (pv (iv 3) (wE (then_n ?_)))))))))))))
  exact rR (bA (iv 3) ⟨rfl,St.pclose (gd:=gd) (gm:=gm) (clock:=clock) (es:=es) (fused:=fused) (left:=left) (s:=s) S (hf.congr rfl rfl rfl)⟩)
 have hb:(fused&&decide (left=0))=false:=by rw [hbu];exact decide_eq_false hz
 have e:s.flushR=({s with last:=applyP s.last s.pend,pend:=[],fl:=inc s.fl,left:=spent s.left},0):=by unfold Dsk.flushR;rw [if_neg hz]
 rw [e]
 have hlb:=spent_lb hf.lb hz
 have hlenA:∀ps:List PEnt,(∀p∈ps,p∈es)→(applyP s.last (ps.map PEnt.top)).length=s.last.length∧∀l∈applyP s.last (ps.map PEnt.top),l.length=512:=fun ps hps=>by
  refine ⟨length_applyP _ _,applyP_all _ _ hf.len (fun x hx=> ?_)⟩
  obtain ⟨q,hq,rfl⟩:=List.mem_map.1 hx
  obtain ⟨j,hj,_,_,_,_,hne,h5,_⟩:=hf.find_mem (hps q hq)
  obtain ⟨y,_,hyl,hym⟩:=last_some (f:=Prod.snd) hne
  show (((q.ws.map (·.2)).getLast?).getD []).length=512
  rw [hyl];exact h5 y hym
 rcases hf.spend hz with ⟨rfl,hdc,hde⟩|⟨rfl,hdc,hde⟩
 ·change St F w0 w (dR g gd (512*s.last.length) gm true left s.life s.rd s.wr s.fl s.rf (s.pend.length:Int)::row gd (bvs s.last.flatten) 5::pt gm (mapO (es.map PEnt.ent) clock)::stars (es.map PEnt.ast)::L) at S
  refine eN (fr [pq g] 34) Try.func87 rfl (sR (pv (iv 0) (wE (nS (sR (pv (pq g) (sO Try.func15 #[pq g] (burnt_b (b:=false) (S.blk 0 rfl) hb) (wE (nCF (wp_skip (nS (sR (pv (pq g) ?_)))))))))))))
  refine pv (pq g) (pv (po g 1) (lR (.map (some gm)) S 0 1 (g_ (gv_range (kT:=3) (eT:=42) (g:=gm) (clock:=clock) (es:=es.map PEnt.ent) S 2 rfl rfl kr_ kr_ (fun gi1 w2 hg3 S4=>wE (then_n (wp_block (wp_loop_g (G:=List PEnt) (fun (g_:List PEnt) (a_:Act) (w_:World)=>∃J:Nat→Value,a_=(fr ([pq g,ud,iv 0,J 3,pq g,fv,pq g,pq g,po g 1,.map (some gm),pq gi1]++jR J 11 11) 13)∧St F w0 w_ (pt gi1 (iterO gm clock (g_.map (·.b)))::dR g gd (512*s.last.length) gm true left s.life s.rd s.wr s.fl s.rf (s.pend.length:Int)::row gd (bvs (applyP s.last ((g_).map PEnt.top)).flatten) 5::pt gm (mapO (es.map PEnt.ent) clock)::stars (es.map PEnt.ast)::L)∧(∀p∈g_,p∈es)) (fun g_=>(leftE (es.map PEnt.ent) (g_.map (·.b))).length) [] (jE_ ⟨S4,(fun p hp=>by cases hp)⟩) ?_))))))))
  rintro ps a_ w5 ⟨J,rfl,S6,hI7⟩
  skip
  have S6:St F w0 w5 (pt gi1 (iterO gm clock (ps.map (·.b)))::dR g gd (512*s.last.length) gm true left s.life s.rd s.wr s.fl s.rf (s.pend.length:Int)::row gd (bvs (applyP s.last ((ps).map PEnt.top)).flatten) 5::pt gm (mapO (es.map PEnt.ent) clock)::stars (es.map PEnt.ast)::L):=S6
  have hI7:(∀p∈ps,p∈es):=hI7
  refine sR (g_ (gv_next (g:=gm) (clock:=clock) (es:=es.map PEnt.ent) (gi:=gi1) (seen:=ps.map (·.b)) S6 0 3 rfl rfl (fun e he=>by obtain ⟨p,hp,rfl⟩:=List.mem_map.1 he;exact hf.born p hp) rfl kr_ (fun hl=> ?_) (fun e w8 hel S9=> ?_)))
  ·refine pv fv (wE (nS (cF (wp_exit (then_x (then_x (inb_x (nSR (pv (pq g) (g_ (gv_call (args:=#[pq g]) rfl Try.func116 kr_ rfl rfl kr_ ?_)))))))))))
   have hfd:=hf.flushed hI7 hl
   have S10:St F w0 w5 (dR g gd (512*s.last.length) gm true left s.life s.rd s.wr s.fl s.rf (s.pend.length:Int)::row gd (bvs (applyP s.last ((ps).map PEnt.top)).flatten) 5::pt gm (mapO (es.map PEnt.ent) clock)::L):=St.pm 5 [1,2,3] S6
   rw [hfd] at S10
   refine Calls.mono (settle_own S10) ?_
   rintro _ w11 ⟨rfl,S12⟩
   refine ⟨_,rfl,(wER (pv (pq g) (pv (pq g) (pv (po g 5) (pv (po g 7) (lR (iv s.fl) S12 0 7 (pv (iv (inc s.fl)) (pv (pq g) (pv (po g 5) (pv (po g 7) (sS S12 0 rfl 7 (iv (inc s.fl)) fun w13 S14=>wER (pv (pq g) ?_))))))))))))⟩
   refine sP Try.func83 #[pq g] (spend_true S14) fun w15 S16=>wER (pv (iv 0) (wE (then_n (wp_ret (bA (iv 0) ?_)))))
   have hlf:(applyP s.last s.pend).length=s.last.length:=length_applyP _ _
   rw [←hlf] at S16
   have S9:=St.rot (LA:=[_,_,_]) (St.star_nil S16)
   exact ⟨rfl,St.pclose (gd:=gd) (gm:=gm) (clock:=clock) (es:=[]) (fused:=true) (left:=dec left) (s:={s with last:=applyP s.last s.pend,pend:=[],fl:=inc s.fl,left:=spent s.left}) S9 (PFacts.settled (s':={s with last:=applyP s.last s.pend,pend:=[],fl:=inc s.fl,left:=spent s.left}) hf hlf (applyP_all _ _ hf.len (fun x hx=>(hf.plen x hx).1)) rfl hdc.symm (fun _=>hde) hlb)⟩
  ·obtain ⟨p,hpe,rfl,hpn⟩:=mem_left hel
   obtain ⟨j,hj,hje,hke,hfe,hk,hne,hx512,hle⟩:=hf.find_mem hpe
   obtain ⟨x,hx,hxl,hxm⟩:=last_some (f:=Prod.snd) hne
   have hx5:=hx512 x hxm
   have hq0:=List.length_pos_iff.2 hne
   have hqm:p.ws.length≤9223372036854775807:=by have:=hf.pn;omega
   have hA:=hlenA ps hI7
   have hfl:=flat_len hA.2
   rw [hA.1] at hfl
   have hdn:(applyP s.last (ps.map PEnt.top)).flatten.length=512*s.last.length:=hfl
   refine pv tv (wE (nS (cT (kN (wp_block (sR (g_ (gv_entry (g:=gm) (clock:=clock) (es:=es.map PEnt.ent) (gi:=gi1) (seen:=ps.map (·.b)) (e:=p.ent) S9 0 3 rfl rfl rfl kr_ (List.mem_map.2 ⟨p,hpe,rfl⟩) (fun y hy hb=>by obtain ⟨q,hq,rfl⟩:=List.mem_map.1 hy;rw [hf.injB hq hpe hb]) (pv (nI_ p.at_) (pv (nI_ p.at_) (wE (nR (pv (pq g) (pv (nI_ p.at_) ?_))))))))))))))
   refine sO Try.func114 #[pq g,nI_ p.at_] (home_ro (S9.blk 1 rfl) rfl rfl hn2 hk) (pv (pq g) (pv (nI_ p.at_) (g_ (gv_call (args:=#[pq g,nI_ p.at_]) rfl Try.func80 kr_ rfl rfl kr_ ?_))))
   obtain ⟨gb,cb,cells,hv,HV,hcell,hdat⟩:=pend_facts S9 4 rfl hj hne
   refine Calls.mono (now_pend (S9.blk 1 rfl) (S9.get 3 rfl) hje hke hfe hv hq0 hqm HV (hcell _ _ hx)) ?_
   rintro _ _ ⟨rfl,rfl⟩
   refine ⟨_,rfl,(g_ (gv_copy (e:=5) (off:=512*p.at_) (dLen:=512) (dCap:=(512*s.last.length-512*p.at_)) (sLen:=512) (sCap:=512) (A:=(some ⟨x.1,0,none⟩)) (B:=((applyP s.last (ps.map PEnt.top)).flatten)) (l:=x.2) S9 2 rfl rfl kr_ kr_ kr_ kr_ hx5.symm (RdB.row (hdat x hxm) 0 512 _ (by rw [List.drop_zero,List.take_of_length_le om_])) (by rw [hdn];omega) (L':=(pt gi1 (iterO gm clock (ps.map (·.b)++[p.b]))::dR g gd (512*s.last.length) gm true left s.life s.rd s.wr s.fl s.rf (s.pend.length:Int)::row gd (bvs ((applyP s.last ((ps++[p]).map PEnt.top)).flatten)) 5::pt gm (mapO (es.map PEnt.ent) clock)::stars (es.map PEnt.ast)::L)) (by rw [List.take_of_length_le om_,flat_set hA.2 _ _ (by rw [hA.1];exact hk) hx5,List.map_append,List.map_cons,List.map_nil,applyP_snoc];show _=_;rw [show (PEnt.top p)=(p.at_,x.2) from by unfold PEnt.top;rw [hxl];rfl];rfl) (fun w17 m19 S18=>wE (iN ?_))))⟩
   rw [show ps.map (·.b)++[p.b]=(ps++[p]).map (·.b) from by rw [List.map_append];rfl] at S18
   exact ⟨ps++[p],(jE_ ⟨S18,(fun q hq=>(List.mem_append.1 hq).elim (hI7 q) (fun h=>(List.mem_singleton.1 h)▸hpe))⟩),(by show (leftE _ ((ps++[p]).map (·.b))).length<_;rw [List.map_append];exact left_less hel)⟩
 ·change St F w0 w (dR g gd (512*s.last.length) gm false left s.life s.rd s.wr s.fl s.rf (s.pend.length:Int)::row gd (bvs s.last.flatten) 5::pt gm (mapO (es.map PEnt.ent) clock)::stars (es.map PEnt.ast)::L) at S
  refine eN (fr [pq g] 34) Try.func87 rfl (sR (pv (iv 0) (wE (nS (sR (pv (pq g) (sO Try.func15 #[pq g] (burnt_b (b:=false) (S.blk 0 rfl) hb) (wE (nCF (wp_skip (nS (sR (pv (pq g) ?_)))))))))))))
  refine pv (pq g) (pv (po g 1) (lR (.map (some gm)) S 0 1 (g_ (gv_range (kT:=3) (eT:=42) (g:=gm) (clock:=clock) (es:=es.map PEnt.ent) S 2 rfl rfl kr_ kr_ (fun gi1 w2 hg3 S4=>wE (then_n (wp_block (wp_loop_g (G:=List PEnt) (fun (g_:List PEnt) (a_:Act) (w_:World)=>∃J:Nat→Value,a_=(fr ([pq g,ud,iv 0,J 3,pq g,fv,pq g,pq g,po g 1,.map (some gm),pq gi1]++jR J 11 11) 13)∧St F w0 w_ (pt gi1 (iterO gm clock (g_.map (·.b)))::dR g gd (512*s.last.length) gm false left s.life s.rd s.wr s.fl s.rf (s.pend.length:Int)::row gd (bvs (applyP s.last ((g_).map PEnt.top)).flatten) 5::pt gm (mapO (es.map PEnt.ent) clock)::stars (es.map PEnt.ast)::L)∧(∀p∈g_,p∈es)) (fun g_=>(leftE (es.map PEnt.ent) (g_.map (·.b))).length) [] (jE_ ⟨S4,(fun p hp=>by cases hp)⟩) ?_))))))))
  rintro ps a_ w5 ⟨J,rfl,S6,hI7⟩
  skip
  have S6:St F w0 w5 (pt gi1 (iterO gm clock (ps.map (·.b)))::dR g gd (512*s.last.length) gm false left s.life s.rd s.wr s.fl s.rf (s.pend.length:Int)::row gd (bvs (applyP s.last ((ps).map PEnt.top)).flatten) 5::pt gm (mapO (es.map PEnt.ent) clock)::stars (es.map PEnt.ast)::L):=S6
  have hI7:(∀p∈ps,p∈es):=hI7
  refine sR (g_ (gv_next (g:=gm) (clock:=clock) (es:=es.map PEnt.ent) (gi:=gi1) (seen:=ps.map (·.b)) S6 0 3 rfl rfl (fun e he=>by obtain ⟨p,hp,rfl⟩:=List.mem_map.1 he;exact hf.born p hp) rfl kr_ (fun hl=> ?_) (fun e w8 hel S9=> ?_)))
  ·refine pv fv (wE (nS (cF (wp_exit (then_x (then_x (inb_x (nSR (pv (pq g) (g_ (gv_call (args:=#[pq g]) rfl Try.func116 kr_ rfl rfl kr_ ?_)))))))))))
   have hfd:=hf.flushed hI7 hl
   have S10:St F w0 w5 (dR g gd (512*s.last.length) gm false left s.life s.rd s.wr s.fl s.rf (s.pend.length:Int)::row gd (bvs (applyP s.last ((ps).map PEnt.top)).flatten) 5::pt gm (mapO (es.map PEnt.ent) clock)::L):=St.pm 5 [1,2,3] S6
   rw [hfd] at S10
   refine Calls.mono (settle_own S10) ?_
   rintro _ w11 ⟨rfl,S12⟩
   refine ⟨_,rfl,(wER (pv (pq g) (pv (pq g) (pv (po g 5) (pv (po g 7) (lR (iv s.fl) S12 0 7 (pv (iv (inc s.fl)) (pv (pq g) (pv (po g 5) (pv (po g 7) (sS S12 0 rfl 7 (iv (inc s.fl)) fun w13 S14=>wER (pv (pq g) ?_))))))))))))⟩
   refine sP Try.func83 #[pq g] (spend_false S14) fun w15 S16=>wER (pv (iv 0) (wE (then_n (wp_ret (bA (iv 0) ?_)))))
   have hlf:(applyP s.last s.pend).length=s.last.length:=length_applyP _ _
   rw [←hlf] at S16
   have S9:=St.rot (LA:=[_,_,_]) (St.star_nil S16)
   exact ⟨rfl,St.pclose (gd:=gd) (gm:=gm) (clock:=clock) (es:=[]) (fused:=false) (left:=left) (s:={s with last:=applyP s.last s.pend,pend:=[],fl:=inc s.fl,left:=spent s.left}) S9 (PFacts.settled (s':={s with last:=applyP s.last s.pend,pend:=[],fl:=inc s.fl,left:=spent s.left}) hf hlf (applyP_all _ _ hf.len (fun x hx=>(hf.plen x hx).1)) rfl hdc.symm (fun h=>absurd h (of_decide_eq_false hdc)) hlb)⟩
  ·obtain ⟨p,hpe,rfl,hpn⟩:=mem_left hel
   obtain ⟨j,hj,hje,hke,hfe,hk,hne,hx512,hle⟩:=hf.find_mem hpe
   obtain ⟨x,hx,hxl,hxm⟩:=last_some (f:=Prod.snd) hne
   have hx5:=hx512 x hxm
   have hq0:=List.length_pos_iff.2 hne
   have hqm:p.ws.length≤9223372036854775807:=by have:=hf.pn;omega
   have hA:=hlenA ps hI7
   have hfl:=flat_len hA.2
   rw [hA.1] at hfl
   have hdn:(applyP s.last (ps.map PEnt.top)).flatten.length=512*s.last.length:=hfl
   refine pv tv (wE (nS (cT (kN (wp_block (sR (g_ (gv_entry (g:=gm) (clock:=clock) (es:=es.map PEnt.ent) (gi:=gi1) (seen:=ps.map (·.b)) (e:=p.ent) S9 0 3 rfl rfl rfl kr_ (List.mem_map.2 ⟨p,hpe,rfl⟩) (fun y hy hb=>by obtain ⟨q,hq,rfl⟩:=List.mem_map.1 hy;rw [hf.injB hq hpe hb]) (pv (nI_ p.at_) (pv (nI_ p.at_) (wE (nR (pv (pq g) (pv (nI_ p.at_) ?_))))))))))))))
   refine sO Try.func114 #[pq g,nI_ p.at_] (home_ro (S9.blk 1 rfl) rfl rfl hn2 hk) (pv (pq g) (pv (nI_ p.at_) (g_ (gv_call (args:=#[pq g,nI_ p.at_]) rfl Try.func80 kr_ rfl rfl kr_ ?_))))
   obtain ⟨gb,cb,cells,hv,HV,hcell,hdat⟩:=pend_facts S9 4 rfl hj hne
   refine Calls.mono (now_pend (S9.blk 1 rfl) (S9.get 3 rfl) hje hke hfe hv hq0 hqm HV (hcell _ _ hx)) ?_
   rintro _ _ ⟨rfl,rfl⟩
   refine ⟨_,rfl,(g_ (gv_copy (e:=5) (off:=512*p.at_) (dLen:=512) (dCap:=(512*s.last.length-512*p.at_)) (sLen:=512) (sCap:=512) (A:=(some ⟨x.1,0,none⟩)) (B:=((applyP s.last (ps.map PEnt.top)).flatten)) (l:=x.2) S9 2 rfl rfl kr_ kr_ kr_ kr_ hx5.symm (RdB.row (hdat x hxm) 0 512 _ (by rw [List.drop_zero,List.take_of_length_le om_])) (by rw [hdn];omega) (L':=(pt gi1 (iterO gm clock (ps.map (·.b)++[p.b]))::dR g gd (512*s.last.length) gm false left s.life s.rd s.wr s.fl s.rf (s.pend.length:Int)::row gd (bvs ((applyP s.last ((ps++[p]).map PEnt.top)).flatten)) 5::pt gm (mapO (es.map PEnt.ent) clock)::stars (es.map PEnt.ast)::L)) (by rw [List.take_of_length_le om_,flat_set hA.2 _ _ (by rw [hA.1];exact hk) hx5,List.map_append,List.map_cons,List.map_nil,applyP_snoc];show _=_;rw [show (PEnt.top p)=(p.at_,x.2) from by unfold PEnt.top;rw [hxl];rfl];rfl) (fun w17 m19 S18=>wE (iN ?_))))⟩
   rw [show ps.map (·.b)++[p.b]=(ps++[p]).map (·.b) from by rw [List.map_append];rfl] at S18
   exact ⟨ps++[p],(jE_ ⟨S18,(fun q hq=>(List.mem_append.1 hq).elim (hI7 q) (fun h=>(List.mem_singleton.1 h)▸hpe))⟩),(by show (leftE _ ((ps++[p]).map (·.b))).length<_;rw [List.map_append];exact left_less hel)⟩
theorem RFacts.more {s:Dsk}{LL:List (Nat×List UInt8)}{PP:List RPut}{pool:List (Nat×List UInt8)}(h:RFacts s LL PP pool)(x:Nat×List UInt8):RFacts s LL PP (x::pool):=
 ⟨h.last,h.pend,fun y hy=>List.mem_cons_of_mem _ (h.lin y hy),fun y hy=>List.mem_cons_of_mem _ (h.pin y hy),h.len,h.plen,h.n1,h.n2,h.lb,h.pn⟩
def Dsk.mk0 (l:List (List UInt8)):Dsk:={last:=l,pend:=[],left:= -1,life:=1,rd:=0,wr:=0,fl:=0,rf:=0}
def zsec:List UInt8:=List.replicate 512 0
theorem zflat (m:Nat):(List.replicate m zsec).flatten=List.replicate (512*m) 0:=by
 unfold zsec;rw [List.flatten_replicate_replicate,Nat.mul_comm]
theorem PFacts.mk0 {l:List (List UInt8)}{left:Int}(h:∀x∈l,x.length=512)(h1:1≤l.length)(h2:l.length≤2048):PFacts (Dsk.mk0 l) 0 [] false left:=
 ⟨fun p hp=>(by cases hp),List.nodup_nil,List.nodup_nil,fun p hp=>(by cases hp),fun x hx=>(by cases hx),fun p hp=>(by cases hp),h,fun x hx=>(by cases hx),h1,h2,rfl,fun h=>absurd (show (0:Int)≤ -1 from h) dc_,show (-1:Int)≤ -1∧(-1:Int)≤9223372036854775807 by decide,Nat.zero_le _⟩
theorem pd_new {m:Nat}(h1:1≤m)(h2:m≤2048){F:Nat→Prop}{w0 w:World}{L:List Ast}(S:St F w0 w L):Calls Try.prog 13 #[.int .i64 ((m:Nat):Int)] w fun e w'=>∃g,e=.returned (.tuple #[.pointer (some ⟨g,0,none⟩),.int .i64 0])∧St F w0 w' (PDisk g (Dsk.mk0 (List.replicate m zsec))::L):=by
 refine eN (fr [nI_ m] 15) Try.func13 rfl (sR (pv pn (pv (iv 0) (wE (nS (sR (pv (nI_ m) (dC ((((m:Nat):Int):Int)<1) (fun hd1=>False.elim om_) fun _=>pv fv (pW (nI_ m) (wl_when kr_ (gv_dec (p:=(((m:Nat):Int):Int)>2048) kr_ (fun hd2=>False.elim om_) (fun _=>pv fv (wE ?_)))))))))))))
 refine nCF (wp_skip (nSR (pv (nI_ m) (gI .i64 (IntKind.i64.wrap (((m:Nat):Int)*512)) ((512*m:Nat):Int) wq_ (g_ (gv_make (e:=5) (u:=((512*m:Nat):Int)) (v:=((512*m:Nat):Int)) (z:=.int .u8 0) (sz:=1) (by_:=1) (n:=(512*m)) (c:=(512*m)) (cs:=(bvs (List.replicate (512*m) 0))) S rfl kr_ ⟨by kernel_rfl⟩ kr_ kr_ rfl rfl (Nat.le_refl _) om_ om_ (mk_bytes _) (fun g3 w4 hg5 S6=>g_ (gv_map S6 rfl (fun g7 w8 hg9 S10=>pv (.agg #[sl g3 0 (512*m) (512*m),.map (some g7),fv,iv 0,iv 1,iv 0,iv 0,iv 0,iv 0,iv 0]) (nB rfl (.agg #[sl g3 0 (512*m) (512*m),.map (some g7),.bool false,iv 0,iv 1,iv 0,iv 0,iv 0,iv 0,iv 0]) S10 fun g11 w12 hg13 S14=>pv (pq g11) (pv (iv 0) (wE (then_n (wp_ret ?_))))))))))))))
 refine bB (pq g11) (iv 0) ?_
 have S15:St F w0 w12 (dR g11 g3 (512*m) g7 false 0 1 0 0 0 0 0::row g3 (bvs (List.replicate (512*m) 0)) 5::pt g7 (mapO [] 0)::L):=St.pm 3 [0,2,1] S14
 have S9:=St.rot (LA:=[_,_,_]) (St.star_nil S15)
 rw [←zflat] at S9
 have hl:(List.replicate m zsec).length=m:=List.length_replicate
 refine ⟨g11,rfl,St.pclose (gd:=g3) (gm:=g7) (clock:=0) (es:=[]) (fused:=false) (left:=0) (s:=Dsk.mk0 (List.replicate m zsec)) ?_ (PFacts.mk0 (fun x hx=>by rw [List.eq_of_mem_replicate hx];rfl) (by rw [hl];exact h1) (by rw [hl];exact h2))⟩
 unfold pdParts
 show St F w0 _ (row _ (dcells _ (512*(List.replicate m zsec).length) (512*(List.replicate m zsec).length) _ _ _ _ _ _ _ _ _) _::_)
 rw [hl];exact S9
theorem RdV.bytes {w:World}{A:Option Addr}{l:List UInt8}(h:RdV w A (l.map bv)):RdB w A l:=fun h0=>h (by rw [List.length_map];exact h0)
theorem tmod_nat {a b:Int}{m n:Nat}(ha:a=(m:Int))(hb:b=(n:Int)):Int.tmod a b=((m%n:Nat):Int):=by subst ha hb;rfl
theorem max_nat (n:Int):(if (0:Int)>n then 0 else n)=((n.toNat:Nat):Int):=by split<;>omega
def CandA (gd k m:Nat)(ws:List (Nat×List UInt8))(i:Nat)(A:Option Addr)(c:Nat):Prop:=(i=0∧A=some ⟨gd,512*k,none⟩∧c=512*m-512*k)∨∃x,i≠0∧ws[i-1]?=some x∧A=some ⟨x.1,0,none⟩∧c=512
theorem cand_ro {w:World}{g gd gm m g7 g3 g4:Nat}{fused:Bool}{left life r wr fl rf pn:Int}{p:PEnt}{t7 t3 t4:TypeId}{n:Int}{A:Option Addr}{ca:Nat}(HB:Blk w g (dcells gd (512*m) (512*m) gm fused left life r wr fl rf pn) 135)(H7:Blk w g7 #[p.v] t7)(H3:Blk w g3 #[.pointer (some ⟨g,0,none⟩)] t3)(H4:Blk w g4 #[.int .i64 ((p.at_:Nat):Int)] t4)(hm:m≤2048)(hk:p.at_<m)(hq:p.ws.length≤4611686018427387904)
  (hv:∃(gb cb:Nat) (cells:Array Value),p.v=.slice (some ⟨gb,0,none⟩) p.ws.length cb∧Blk w gb cells 31∧(∀(m:Nat) (x:Nat×List UInt8),p.ws[m]?=some x→cells[m]?=some (PEnt.val x))) (hA:CandA gd p.at_ m p.ws (n.toNat%(p.ws.length+1)) A ca):
  Calls Try.prog 143 #[iv n,pq g7,pq g3,pq g4] w fun e w'=>e=.returned (.slice A 512 ca)∧w=w':=by
 obtain ⟨gb,cb,cells,hv,HV,hcell⟩:=hv
 rw [hv] at H7
 rcases hA with ⟨h0,rfl,rfl⟩|⟨x,h0,hx,rfl,rfl⟩
 ·refine eN (fr [iv n,pq g7,pq g3,pq g4] 18) Try.func143 rfl (sR (pv (nS_) (wE (nS (sR (pv (iv n) (gI .i64 (if 0>n then 0 else n) ((n.toNat:Nat):Int) (max_nat n) (lQ (sl gb 0 p.ws.length cb) ((H7.cell 0).trans rfl) (pv (iv (p.ws.length:Nat)) (gI .i64 (IntKind.i64.wrap ((p.ws.length:Nat)+1)) ((p.ws.length+1:Nat):Int) wq_ (gI .i64 (Int.tmod ((n.toNat:Nat):Int) ((p.ws.length+1:Nat):Int)) ((n.toNat%(p.ws.length+1):Nat):Int) (tmod_nat rfl rfl) (pv (nI_ (n.toNat%(p.ws.length+1))) (wER ?_)))))))))))))
  exact pv (nI_ (n.toNat%(p.ws.length+1))) (dC ((((n.toNat%(p.ws.length+1):Nat):Int):Int)>0) (fun hd1=>False.elim om_) fun _=>wE (nCF (wp_skip (nSR (lQ (pq g) ((H3.cell 0).trans rfl) (lQ (nI_ p.at_) ((H4.cell 0).trans rfl) (sO Try.func114 #[pq g,nI_ p.at_] (home_ro HB rfl rfl hm hk) (pv (sl gd (512*p.at_) 512 (512*m-512*p.at_)) (wE (then_n (wp_ret (bA (.slice (some ⟨gd,512*p.at_,none⟩) 512 (512*m-512*p.at_)) ⟨rfl,rfl⟩))))))))))))
 ·have hlt:=(List.getElem?_eq_some_iff.1 hx).1
  refine eN (fr [iv n,pq g7,pq g3,pq g4] 18) Try.func143 rfl (sR (pv (nS_) (wE (nS (sR (pv (iv n) (gI .i64 (if 0>n then 0 else n) ((n.toNat:Nat):Int) (max_nat n) (lQ (sl gb 0 p.ws.length cb) ((H7.cell 0).trans rfl) (pv (iv (p.ws.length:Nat)) (gI .i64 (IntKind.i64.wrap ((p.ws.length:Nat)+1)) ((p.ws.length+1:Nat):Int) wq_ (gI .i64 (Int.tmod ((n.toNat:Nat):Int) ((p.ws.length+1:Nat):Int)) ((n.toNat%(p.ws.length+1):Nat):Int) (tmod_nat rfl rfl) (pv (nI_ (n.toNat%(p.ws.length+1))) (wER ?_)))))))))))))
  refine pv (nI_ (n.toNat%(p.ws.length+1))) (dC ((((n.toNat%(p.ws.length+1):Nat):Int):Int)>0) (fun _=>wE (nCT (sR (lQ (sl gb 0 p.ws.length cb) ((H7.cell 0).trans rfl) (pv (nI_ (n.toNat%(p.ws.length+1))) (gI .i64 (IntKind.i64.wrap (((n.toNat%(p.ws.length+1):Nat):Int)-1)) ((n.toNat%(p.ws.length+1)-1:Nat):Int) wq_ (g_ (gv_ixE (e:=31) (sz:=1) (g:=gb) (off:=0) (n:=p.ws.length) (c:=cb) (i:=((n.toNat%(p.ws.length+1)-1:Nat):Int)) (k:=.i64) (j:=(n.toNat%(p.ws.length+1)-1)) (off':=(n.toNat%(p.ws.length+1)-1)) rfl kr_ kr_ kr_ kr_ rfl om_ om_ (lQ (sl x.1 0 512 512) ((HV.cell _).trans (hcell _ x hx)) (pv (sl x.1 0 512 512) (wE (then_n (rR ?_))))))))))))) fun hd1=>False.elim om_)
  exact bA (sl x.1 0 512 512) ⟨rfl,rfl⟩
theorem cand_pick {F:Nat→Prop}{w0 w:World}{L:List Ast}{g gd gm m clock:Nat}{fused:Bool}{left life r wr fl rf pn:Int}{D x:List UInt8}{es:List PEnt}{j:Nat}{p:PEnt}(S:St F w0 w ([row g (dcells gd (512*m) (512*m) gm fused left life r wr fl rf pn) 135,row gd (bvs D) 5,pt gm (mapO (es.map PEnt.ent) clock),stars (es.map PEnt.ast)]++L))(hj:es[j]?=some p)(hne:p.ws≠[])(hx:x=(D.drop (512*p.at_)).take 512)(h5:∀x∈p.ws,x.2.length=512)(i:Nat)(hi:i<p.ws.length+1):
  ∃A ca,CandA gd p.at_ m p.ws i A ca∧RoT F w0 ([row g (dcells gd (512*m) (512*m) gm fused left life r wr fl rf pn) 135,row gd (bvs D) 5,pt gm (mapO (es.map PEnt.ent) clock),stars (es.map PEnt.ast)]++L) A ((x::p.ws.map (·.2)).getD i []):=by
 rcases Nat.eq_zero_or_pos i with rfl|h0
 ·exact ⟨_,_,.inl ⟨rfl,rfl,rfl⟩,RoT.item 1 rfl _ 512 _ hx⟩
 ·have hl:i-1<p.ws.length:=by omega
  refine ⟨_,_,.inr ⟨p.ws[i-1],by omega,List.getElem?_eq_getElem hl,rfl,rfl⟩,⟨fun w' L' S'=> ?_⟩⟩
  have h1:(L'++([row g (dcells gd (512*m) (512*m) gm fused left life r wr fl rf pn) 135,row gd (bvs D) 5,pt gm (mapO (es.map PEnt.ent) clock),stars (es.map PEnt.ast)]++L))[L'.length+3]?=some (stars (es.map PEnt.ast)):=by rw [List.getElem?_append_right om_];simp
  obtain ⟨_,_,_,_,_,_,hdat⟩:=pend_facts S' _ h1 hj hne
  have hm:p.ws[i-1]∈p.ws:=List.getElem_mem hl
  refine RdB.row (hdat _ hm) 0 512 _ ?_
  rw [List.drop_zero,List.take_of_length_le (by rw [h5 _ hm];exact Nat.le_refl _)]
  obtain ⟨q,rfl⟩:∃q,i=q+1:=⟨i-1,by omega⟩
  simp at hl
  simp [hl]
theorem outcome_own {F:Nat→Prop}{w0 w:World}{L:List Ast}{g gd gm m clock:Nat}{fused:Bool}{left life r wr fl rf pn:Int}{D x:List UInt8}{es:List PEnt}{j:Nat}{p:PEnt}{pa pb pc:Int}(S:St F w0 w ([row g (dcells gd (512*m) (512*m) gm fused left life r wr fl rf pn) 135,row gd (bvs D) 5,pt gm (mapO (es.map PEnt.ent) clock),stars (es.map PEnt.ast)]++L))(hj:es[j]?=some p)(hje:(es.map PEnt.ent)[j]?=some p.ent)(hke:p.ent.k=((p.at_:Nat):Int))(hfe:∀(m:Nat) (e:Ent),m<j→(es.map PEnt.ent)[m]?=some e→e.k≠((p.at_:Nat):Int))(hne:p.ws≠[])(hx:x=(D.drop (512*p.at_)).take 512)(hx5:x.length=512)(h5:∀x∈p.ws,x.2.length=512)(hm:m≤2048)(hk:p.at_<m)(hq:p.ws.length≤4611686018427387904):
  Calls Try.prog 115 #[pq g,nI_ p.at_,.agg #[iv pa,iv pb,iv pc]] w fun e w'=>∃go,e=.returned (.slice (some ⟨go,0,none⟩) 512 512)∧St F w0 w' (row go (bvs (tornS (x::p.ws.map (·.2)) (pa,pb,pc))) 5::([row g (dcells gd (512*m) (512*m) gm fused left life r wr fl rf pn) 135,row gd (bvs D) 5,pt gm (mapO (es.map PEnt.ent) clock),stars (es.map PEnt.ast)]++L)):=by
 obtain ⟨Aa,caa,hAa,hRa⟩:=cand_pick S hj hne hx h5 (pa.toNat%(p.ws.length+1)) (Nat.mod_lt _ (Nat.succ_pos _))
 obtain ⟨Ab,cab,hAb,hRb⟩:=cand_pick S hj hne hx h5 (pb.toNat%(p.ws.length+1)) (Nat.mod_lt _ (Nat.succ_pos _))
 have hone:p.v.oneCell'=true:=by
  obtain ⟨_,_,_,hv,_⟩:=pend_facts S 3 rfl hj hne
  rw [hv];rfl
 have hcl:∀y∈(x::p.ws.map (·.2)),y.length=512:=fun y hy=>by
  rcases List.mem_cons.1 hy with rfl|hy
  ·exact hx5
  ·obtain ⟨z,hz,rfl⟩:=List.mem_map.1 hy;exact h5 z hz
 have hlen:(x::p.ws.map (·.2)).length=p.ws.length+1:=by simp
 have hcl2:∀i,i<p.ws.length+1→((x::p.ws.map (·.2)).getD i []).length=512:=fun i hi=>by
  rw [List.getD_eq_getElem?_getD,List.getElem?_eq_getElem (by rw [hlen];exact hi)];exact hcl _ (List.getElem_mem _)
 have hla:=hcl2 _ (Nat.mod_lt pa.toNat (Nat.succ_pos p.ws.length))
 have hlb:=hcl2 _ (Nat.mod_lt pb.toNat (Nat.succ_pos p.ws.length))
 have hcm:pc.toNat%513<513:=Nat.mod_lt _ dc_
 change St F w0 w (dR g gd (512*m) gm fused left life r wr fl rf pn::row gd (bvs D) 5::pt gm (mapO (es.map PEnt.ent) clock)::stars (es.map PEnt.ast)::L) at S
 refine eN (fr [pq g,nI_ p.at_,.agg #[iv pa,iv pb,iv pc]] 35) Try.func115 rfl (sR (nB rfl (pq g) S fun g1 w2 hg3 S4=>nB rfl (nI_ p.at_) S4 fun g5 w6 hg7 S8=>nB rfl (.agg #[iv pa,iv pb,iv pc]) S8 fun g9 w10 hg11 S12=>pv (nS_) (wE (nS (wp_region_phu (γ:=Nat) 7 [6] (fun (c_:Nat) (i_:Nat)=>(match i_ with|0=>pq g|1=>pq g|2=>po g 1|3=>.map (some gm)|4=>nI_ p.at_|5=>p.v|6=>pq c_|_=>undef:Value)) (fun (c_:Nat) (p_:Nat) (w_:World)=>(match p_ with|0=>St F w0 w_ (row g9 #[iv pa,iv pb,iv pc] 145::row g5 #[nI_ p.at_] 3::row g1 #[pq g] 22::dR g gd (512*m) gm fused left life r wr fl rf pn::row gd (bvs D) 5::pt gm (mapO (es.map PEnt.ent) clock)::stars (es.map PEnt.ast)::L)|_=>St F w0 w_ (row c_ #[nS_] 42::row g9 #[iv pa,iv pb,iv pc] 145::row g5 #[nI_ p.at_] 3::row g1 #[pq g] 22::dR g gd (512*m) gm fused left life r wr fl rf pn::row gd (bvs D) 5::pt gm (mapO (es.map PEnt.ent) clock)::stars (es.map PEnt.ast)::L):Prop)) (0) kr_ kr_ kr_ kr_ (S12.drew) ?_ ?_ ?_)))))
 ·intro i_ c_ p_ vals_ w1 hi_ hiE_ hp_ hk_ hu_ hPh_ hd_
  rcases i_ with _|_|_|_|_|_|_|i_
  ·rcases p_ with _|_|p_
   ·have S13:=St.id hPh_
    exact tG_ rfl hd_ (gL (pq g) rfl (((S13.blk 2 rfl).cell 0).trans rfl) ⟨rfl,rfl⟩)
   ·have S14:=St.id hPh_
    exact tG_ rfl hd_ (gL (pq g) rfl (((S14.blk 3 rfl).cell 0).trans rfl) ⟨rfl,rfl⟩)
   ·exact absurd hp_ (by simp)
  ·exact tG_ rfl hd_ (gV (pq g) ⟨rfl,rfl⟩)
  ·exact tG_ rfl hd_ (gV (po g 1) ⟨rfl,rfl⟩)
  ·rcases p_ with _|_|p_
   ·have S17:=St.id hPh_
    exact tG_ rfl hd_ (gL (.map (some gm)) rfl (((S17.blk 3 rfl).cell 1).trans rfl) ⟨rfl,rfl⟩)
   ·have S18:=St.id hPh_
    exact tG_ rfl hd_ (gL (.map (some gm)) rfl (((S18.blk 4 rfl).cell 1).trans rfl) ⟨rfl,rfl⟩)
   ·exact absurd hp_ (by simp)
  ·rcases p_ with _|_|p_
   ·have S19:=St.id hPh_
    exact tG_ rfl hd_ (gL (nI_ p.at_) rfl (((S19.blk 1 rfl).cell 0).trans rfl) ⟨rfl,rfl⟩)
   ·have S20:=St.id hPh_
    exact tG_ rfl hd_ (gL (nI_ p.at_) rfl (((S20.blk 2 rfl).cell 0).trans rfl) ⟨rfl,rfl⟩)
   ·exact absurd hp_ (by simp)
  ·rcases p_ with _|_|p_
   ·have S21:=St.id hPh_
    exact tG_ rfl hd_ (gv_look_some (kT:=3) (eT:=42) (k:=((p.at_:Nat):Int)) (S21.get 5 rfl) rfl kr_ kr_ kr_ kr_ hje hke hfe ⟨rfl,rfl⟩)
   ·have S22:=St.id hPh_
    exact tG_ rfl hd_ (gv_look_some (kT:=3) (eT:=42) (k:=((p.at_:Nat):Int)) (S22.get 6 rfl) rfl kr_ kr_ kr_ kr_ hje hke hfe ⟨rfl,rfl⟩)
   ·exact absurd hp_ (by simp)
  ·exact absurd hiE_ dc_
  ·exact absurd hi_ om_
 ·intro k_ c_ vals_ w1 hk_ hPh_ hd_
  rcases k_ with _|k_
  ·have S23:=St.id hPh_
   refine tG_ rfl hd_ (gv_new (z:=nS_) S23 rfl kr_ (fun g24 w25 hg26 S27=>⟨(g24),rfl, ?_,S27⟩))
   intro i_ hi_ hne_ hdp_
   rcases i_ with _|_|_|_|_|_|_|i_
   ·rfl
   ·rfl
   ·rfl
   ·rfl
   ·rfl
   ·rfl
   ·exact absurd rfl hne_
   ·exact absurd hi_ om_
  ·exact absurd hk_ (by simp)
 ·intro c_ w1 hPh_
  have S28:=St.id hPh_
  refine (g_ (gv_st (k:=0) (v:=p.v) S28 0 rfl rfl kr_ kr_ kr_ hone rfl (L':=(row c_ #[p.v] 42::row g9 #[iv pa,iv pb,iv pc] 145::row g5 #[nI_ p.at_] 3::row g1 #[pq g] 22::dR g gd (512*m) gm fused left life r wr fl rf pn::row gd (bvs D) 5::pt gm (mapO (es.map PEnt.ent) clock)::stars (es.map PEnt.ast)::L)) rfl (fun w29 S30=>wE (nSR (pv (.func (.func 143) #[] #[pq c_,pq g1,pq g5]) (pv (.func (.func 143) #[] #[pq c_,pq g1,pq g5]) (wER (pv (po g9 2) (lR (iv pc) S30 1 2 (gI .i64 (if 0>pc then 0 else pc) ((pc.toNat:Nat):Int) (max_nat pc) (gI .i64 (Int.tmod ((pc.toNat:Nat):Int) 513) ((pc.toNat%513:Nat):Int) (tmod_nat rfl rfl) (pv (nI_ (pc.toNat%513)) (wER (g_ (gv_make (e:=5) (u:=512) (v:=512) (z:=.int .u8 0) (sz:=1) (by_:=1) (n:=512) (c:=512) (cs:=(bvs (List.replicate 512 0))) S30 rfl kr_ ⟨by kernel_rfl⟩ kr_ kr_ rfl rfl (Nat.le_refl _) dc_ dc_ (mk_bytes _) (fun g31 w32 hg33 S34=> ?_))))))))))))))))
  refine pv (sl g31 0 512 512) (wER (pv (sl g31 0 512 512) (pv (.func (.func 143) #[] #[pq c_,pq g1,pq g5]) (pv (po g9 1) (lR (iv pb) S34 2 1 (g_ (gv_callC (f:=143) (args:=#[iv pb,pq c_,pq g1,pq g5]) (caps:=#[pq c_,pq g1,pq g5]) rfl Try.func143 kr_ rfl kr_ kr_ (Calls.mono (cand_ro (p:=p) (S34.blk 5 rfl) (S34.blk 1 rfl) (S34.blk 4 rfl) (S34.blk 3 rfl) hm hk hq ((pend_facts S34 8 rfl hj hne).elim fun a h=>h.elim fun b h=>h.elim fun c h=>⟨a,b,c,h.1,h.2.1,h.2.2.1⟩) hAb) ?_))))))))
  rintro _ _ ⟨rfl,rfl⟩
  refine ⟨_,rfl,(g_ (gv_copy (e:=5) (off:=0) (dLen:=512) (dCap:=512) (sLen:=512) (sCap:=cab) (A:=Ab) (B:=(List.replicate 512 0)) (l:=((x::p.ws.map (·.2)).getD (pb.toNat%(p.ws.length+1)) [])) S34 0 rfl rfl kr_ kr_ kr_ kr_ hlb.symm (hRb.out _ [row g31 (bvs (List.replicate 512 0)) 5,row c_ #[p.v] 42,row g9 #[iv pa,iv pb,iv pc] 145,row g5 #[nI_ p.at_] 3,row g1 #[pq g] 22] S34) (by rw [List.length_replicate];omega) (L':=(row g31 (bvs ((x::p.ws.map (·.2)).getD (pb.toNat%(p.ws.length+1)) [])) 5::row c_ #[p.v] 42::row g9 #[iv pa,iv pb,iv pc] 145::row g5 #[nI_ p.at_] 3::row g1 #[pq g] 22::dR g gd (512*m) gm fused left life r wr fl rf pn::row gd (bvs D) 5::pt gm (mapO (es.map PEnt.ent) clock)::stars (es.map PEnt.ast)::L)) (by rw [copy512 hlb];rfl) (fun w35 m37 S36=>wE (nS (wp_region_phu (γ:=Int) 8 [7] (fun (c2_:Int) (i_:Nat)=>(match i_ with|0=>sl g31 0 512 512|1=>nI_ (pc.toNat%513)|2=>sl g31 0 (pc.toNat%513) 512|3=>.func (.func 143) #[] #[pq c_,pq g1,pq g5]|4=>pq g9|5=>iv pa|6=>.slice Aa 512 caa|7=>goInt c2_|_=>undef:Value)) (fun (c2_:Int) (p_:Nat) (w_:World)=>(match p_ with|0=>St F w0 w_ (row g31 (bvs ((x::p.ws.map (·.2)).getD (pb.toNat%(p.ws.length+1)) [])) 5::row c_ #[p.v] 42::row g9 #[iv pa,iv pb,iv pc] 145::row g5 #[nI_ p.at_] 3::row g1 #[pq g] 22::dR g gd (512*m) gm fused left life r wr fl rf pn::row gd (bvs D) 5::pt gm (mapO (es.map PEnt.ent) clock)::stars (es.map PEnt.ast)::L)|_=>St F w0 w_ (row g31 (bvs (tornS (x::p.ws.map (·.2)) (pa,pb,pc))) 5::row c_ #[p.v] 42::row g9 #[iv pa,iv pb,iv pc] 145::row g5 #[nI_ p.at_] 3::row g1 #[pq g] 22::dR g gd (512*m) gm fused left life r wr fl rf pn::row gd (bvs D) 5::pt gm (mapO (es.map PEnt.ent) clock)::stars (es.map PEnt.ast)::L):Prop)) (0) kr_ kr_ kr_ kr_ (S36.drew) ?_ ?_ ?_)))))⟩
  ·intro i_ c2_ p_ vals_ w1 hi_ hiE_ hp_ hk_ hu_ hPh_ hd_
   rcases i_ with _|_|_|_|_|_|_|_|i_
   ·exact tG_ rfl hd_ (gV (sl g31 0 512 512) ⟨rfl,rfl⟩)
   ·exact tG_ rfl hd_ (gV (nI_ (pc.toNat%513)) ⟨rfl,rfl⟩)
   ·exact tG_ rfl hd_ (gv_cutTo (e:=5) (sz:=1) (A:=(some ⟨g31,0,none⟩)) (n:=512) (c:=512) (kh:=.i64) (v:=((pc.toNat%513:Nat):Int)) (hi:=(pc.toNat%513)) rfl kr_ kr_ kr_ kr_ rfl om_ ⟨rfl,rfl⟩)
   ·exact tG_ rfl hd_ (gV (.func (.func 143) #[] #[pq c_,pq g1,pq g5]) ⟨rfl,rfl⟩)
   ·exact tG_ rfl hd_ (gV (pq g9) ⟨rfl,rfl⟩)
   ·rcases p_ with _|_|p_
    ·have S43:=St.id hPh_
     exact tG_ rfl hd_ (gL (iv pa) rfl (((S43.blk 2 rfl).cell 0).trans rfl) ⟨rfl,rfl⟩)
    ·exact absurd (hu_ 0 dc_ kr_) dc_
    ·exact absurd hp_ (by simp)
   ·rcases p_ with _|_|p_
    ·have S44:=St.id hPh_
     refine tG_ rfl hd_ (gv_callC (f:=143) (args:=#[iv pa,pq c_,pq g1,pq g5]) (caps:=#[pq c_,pq g1,pq g5]) rfl Try.func143 kr_ rfl kr_ kr_ (Calls.mono (cand_ro (p:=p) (S44.blk 5 rfl) (S44.blk 1 rfl) (S44.blk 4 rfl) (S44.blk 3 rfl) hm hk hq ((pend_facts S44 8 rfl hj hne).elim fun a h=>h.elim fun b h=>h.elim fun c h=>⟨a,b,c,h.1,h.2.1,h.2.2.1⟩) hAa) ?_))
     rintro _ _ ⟨rfl,rfl⟩
     exact ⟨_,rfl,⟨rfl,rfl⟩⟩
    ·exact absurd (hu_ 0 dc_ kr_) dc_
    ·exact absurd hp_ (by simp)
   ·exact absurd hiE_ dc_
   ·exact absurd hi_ om_
  ·intro k_ c2_ vals_ w1 hk_ hPh_ hd_
   rcases k_ with _|k_
   ·have S45:=St.id hPh_
    refine tG_ rfl hd_ (gv_copy (e:=5) (off:=0) (dLen:=(pc.toNat%513)) (dCap:=512) (sLen:=512) (sCap:=caa) (A:=Aa) (B:=((x::p.ws.map (·.2)).getD (pb.toNat%(p.ws.length+1)) [])) (l:=((x::p.ws.map (·.2)).getD (pa.toNat%(p.ws.length+1)) [])) S45 0 rfl rfl kr_ kr_ kr_ kr_ hla.symm (hRa.out _ [row g31 (bvs ((x::p.ws.map (·.2)).getD (pb.toNat%(p.ws.length+1)) [])) 5,row c_ #[p.v] 42,row g9 #[iv pa,iv pb,iv pc] 145,row g5 #[nI_ p.at_] 3,row g1 #[pq g] 22] S45) (by rw [hlb];omega) (L':=(row g31 (bvs (tornS (x::p.ws.map (·.2)) (pa,pb,pc))) 5::row c_ #[p.v] 42::row g9 #[iv pa,iv pb,iv pc] 145::row g5 #[nI_ p.at_] 3::row g1 #[pq g] 22::dR g gd (512*m) gm fused left life r wr fl rf pn::row gd (bvs D) 5::pt gm (mapO (es.map PEnt.ent) clock)::stars (es.map PEnt.ast)::L)) (by rw [show splice ((x::p.ws.map (·.2)).getD (pb.toNat%(p.ws.length+1)) []) 0 (List.take (pc.toNat%513) ((x::p.ws.map (·.2)).getD (pa.toNat%(p.ws.length+1)) []))=(tornS (x::p.ws.map (·.2)) (pa,pb,pc)) from by unfold tornS splice;rw [hlen,List.take_zero,List.nil_append,Nat.zero_add,List.length_take,hla,Nat.min_eq_left om_]];rfl) (fun w46 m48 S47=> ?_))
    refine ⟨(m48),rfl, ?_,S47⟩
    intro i_ hi_ hne_ hdp_
    rcases i_ with _|_|_|_|_|_|_|_|i_
    ·rfl
    ·rfl
    ·rfl
    ·rfl
    ·rfl
    ·rfl
    ·rfl
    ·exact absurd rfl hne_
    ·exact absurd hi_ om_
   ·exact absurd hk_ (by simp)
  ·intro c2_ w1 hPh_
   have S49:=St.id hPh_
   refine (wE ?_)
   refine nSR (pv (sl g31 0 512 512) (pv (sl g31 0 512 512) (wE (then_n (wp_ret (bA (sl g31 0 512 512) ?_))))))
   have S50:=St.pm 9 [0,5,6,7,8] S49
   exact ⟨_,rfl,S50⟩
theorem nodup_sub {α:Type}[BEq α][LawfulBEq α]:∀(l m:List α),l.Nodup→(∀x∈l,x∈m)→l.length≤m.length
 |[],_,_,_=>Nat.zero_le _
 |x::r,m,hn,h=>by
  have hx:=h x List.mem_cons_self
  have h1:=nodup_sub r (m.erase x) (List.nodup_cons.1 hn).2 fun y hy=>(List.mem_erase_of_ne (fun e=>(List.nodup_cons.1 hn).1 (by subst e;exact hy))).2 (h y (List.mem_cons_of_mem _ hy))
  rw [List.length_erase_of_mem hx] at h1
  have:=List.length_pos_of_mem hx
  rw [List.length_cons];omega
theorem PFacts.few {s:Dsk}{clock:Nat}{es:List PEnt}{fused:Bool}{left:Int}(h:PFacts s clock es fused left){ps:List PEnt}(hps:∀p∈ps,p∈es)(hnd:(ps.map (·.b)).Nodup):ps.length≤2048:=by
 have h1:=nodup_sub (ps.map (·.b)) (es.map (·.b)) hnd fun x hx=>by
  obtain ⟨p,hp,rfl⟩:=List.mem_map.1 hx
  exact List.mem_map.2 ⟨p,hps p hp,rfl⟩
 have h2:=nodup_sub (es.map (·.at_)) (List.range s.last.length) h.keyN fun x hx=>by
  obtain ⟨p,hp,rfl⟩:=List.mem_map.1 hx
  obtain ⟨j,_,_,_,_,hk,_⟩:=h.find_mem hp
  exact List.mem_range.2 hk
 have:=h.n2
 simp only [List.length_map,List.length_range] at h1 h2;omega
theorem St.vec_rdv {F:Nat→Prop}{w0 w:World}{L:List Ast}{e:TypeId}{A:Option Addr}{n c:Nat}{vals:List Value}(S:St F w0 w L)(i:Nat)(hi:L[i]?=some (vec e 1 (.slice A n c) n vals)):RdV w A vals:=by
 have S1:=S.mem i hi
 rcases S1.vec_cases with ⟨h,rfl,rfl,_⟩|⟨g,c',junk,h,_,h3,_,S2⟩
 ·exact fun h=>absurd h (Nat.lt_irrefl 0)
 ·simp at h
  obtain ⟨rfl,_⟩:=h
  exact fun _=>⟨_,rfl,fun j u hu=>by
   rw [Addr.add_lit,Nat.zero_add,(S2.blk 0 rfl).cell,List.getElem?_toArray,List.getElem?_append_left (List.getElem?_eq_some_iff.1 hu).1];exact hu⟩
theorem pd_crash {F:Nat→Prop}{w0 w:World}{L:List Ast}{g:Nat}{s:Dsk}{A:Option Addr}{ps:List Pick}{n c:Nat}(S:St F w0 w (PDisk g s::L))(hr:RoV F w0 L A (picksV ps))(hn:n=ps.length)(hpm:ps.length≤9223372036854775807):
  Calls Try.prog 64 #[pq g,.slice A n c] w fun e w'=>e=.returned (.tuple #[])∧St F w0 w' (PDisk g (s.crashR ps)::L):=by
 obtain ⟨gd,gm,clock,es,fused,left,hf,S⟩:=St.popen S
 have hn2:=hf.n2
 have hol:=hf.out_len ps
 have hkl:=keysTo_len s s.last.length
 change (crashKeys s).length≤_ at hkl
 have hA:∀i,(applyP s.last ((crashOuts s ps).take i)).length=s.last.length∧∀l∈applyP s.last ((crashOuts s ps).take i),l.length=512:=fun i=>⟨length_applyP _ _,applyP_all _ _ hf.len (fun x hx=>hol x (List.mem_of_mem_take hx))⟩
 have hD:∀i,(applyP s.last ((crashOuts s ps).take i)).flatten.length=512*s.last.length:=fun i=>(flat_len (hA i).2).trans (by rw [(hA i).1])
 change St F w0 w (dR g gd (512*s.last.length) gm fused left s.life s.rd s.wr s.fl s.rf (s.pend.length:Int)::row gd (bvs s.last.flatten) 5::pt gm (mapO (es.map PEnt.ent) clock)::stars (es.map PEnt.ast)::L) at S
 refine eN (fr [pq g,.slice A n c] 60) Try.func64 rfl (sR (pv (nS_) (wE (nS (sR (pv (pq g) (pv (pq g) (pv (po g 1) (lR (.map (some gm)) S 0 1 ?_)))))))))
 have S1:St F w0 w (vec 3 1 (nS_) 0 []::dR g gd (512*s.last.length) gm fused left s.life s.rd s.wr s.fl s.rf (s.pend.length:Int)::row gd (bvs s.last.flatten) 5::pt gm (mapO (es.map PEnt.ent) clock)::stars (es.map PEnt.ast)::L):=St.vec_nil S
 refine g_ (gv_range (kT:=3) (eT:=42) (g:=gm) (clock:=clock) (es:=es.map PEnt.ent) S1 3 rfl rfl kr_ kr_ (fun gi2 w3 hg4 S5=> ?_))
 have S6:St F w0 w3 (vec 3 1 (nS_) 0 []::pt gi2 (iterO gm clock [])::dR g gd (512*s.last.length) gm fused left s.life s.rd s.wr s.fl s.rf (s.pend.length:Int)::row gd (bvs s.last.flatten) 5::pt gm (mapO (es.map PEnt.ent) clock)::stars (es.map PEnt.ast)::L):=St.pm 6 [1,0,2,3,4,5] S5
 refine wE (then_n (wp_block (wp_loop_g (G:=List PEnt×Value) (fun (g_:List PEnt×Value) (a_:Act) (w_:World)=>∃J:Nat→Value,a_=(fr ([pq g,.slice A n c,ud,ud,g_.2,J 5,ud,ud,ud,pq g,pq g,po g 1,.map (some gm),pq gi2]++jR J 14 8) 40)∧St F w0 w_ (vec 3 1 g_.2 g_.1.length ((g_.1.map fun p=>((p.at_:Nat):Int)).map (Value.int .i64))::pt gi2 (iterO gm clock (g_.1.map (·.b)))::dR g gd (512*s.last.length) gm fused left s.life s.rd s.wr s.fl s.rf (s.pend.length:Int)::row gd (bvs s.last.flatten) 5::pt gm (mapO (es.map PEnt.ent) clock)::stars (es.map PEnt.ast)::L)∧((∀p∈g_.1,p∈es)∧(g_.1.map (·.b)).Nodup)) (fun g_=>(leftE (es.map PEnt.ent) (g_.1.map (·.b))).length) ([],nS_) (jE_ ⟨S6,⟨(fun p hp=>by cases hp),List.nodup_nil⟩⟩) ?_)))
 rintro ⟨es1,v⟩ a_ w7 ⟨J,rfl,S8,hI9⟩
 skip
 have S8:St F w0 w7 (vec 3 1 v es1.length ((es1.map fun p=>((p.at_:Nat):Int)).map (Value.int .i64))::pt gi2 (iterO gm clock (es1.map (·.b)))::dR g gd (512*s.last.length) gm fused left s.life s.rd s.wr s.fl s.rf (s.pend.length:Int)::row gd (bvs s.last.flatten) 5::pt gm (mapO (es.map PEnt.ent) clock)::stars (es.map PEnt.ast)::L):=S8
 have hI9:((∀p∈es1,p∈es)∧(es1.map (·.b)).Nodup):=hI9
 refine sR ?_
 have hfw:=hf.few hI9.1 hI9.2
 refine g_ (gv_next (g:=gm) (clock:=clock) (es:=es.map PEnt.ent) (gi:=gi2) (seen:=es1.map (·.b)) S8 1 4 rfl rfl (fun e he=>by obtain ⟨p,hp,rfl⟩:=List.mem_map.1 he;exact hf.born p hp) rfl kr_ (fun hl=> ?_) (fun e w10 hel S11=> ?_))
 ·refine pv fv (wE (nS (cF (wp_exit (then_x (then_x (inb_x (nSR (pv v (sP Try.func113 #[v] (sort_own S8 om_) fun w12 S13=> ?_))))))))))
  have hso:=hf.sorted hI9.1 hI9.2 hl
  have hkn:es1.length=(crashKeys s).length:=by have:=congrArg List.length hso;rw [List.length_mergeSort,List.length_map,List.length_map] at this;exact this
  rw [hso,hkn] at S13
  obtain ⟨A1,c1,rfl⟩:=S13.vec_val
  have S14:St F w0 w12 (vec 3 1 (.slice A1 (crashKeys s).length c1) (crashKeys s).length (((crashKeys s).map fun a=>((a:Nat):Int)).map (Value.int .i64))::dR g gd (512*s.last.length) gm fused left s.life s.rd s.wr s.fl s.rf (s.pend.length:Int)::row gd (bvs s.last.flatten) 5::pt gm (mapO (es.map PEnt.ent) clock)::stars (es.map PEnt.ast)::L):=St.pm 6 [0,2,3,4,5] S13
  have e0:s.last.flatten=(applyP s.last ((crashOuts s ps).take 0)).flatten:=by rw [List.take_zero];rfl
  rw [e0] at S14
  refine wE (nS (sR (pv (.slice A1 ((crashKeys s).length) c1) (pv (iv ((crashKeys s).length:Nat)) (pv (iv 0) (wE (then_n (wp_block (wp_loop_g (G:=Nat) (fun (g_:Nat) (a_:Act) (w_:World)=>∃J:Nat→Value,a_=(fr ([pq g,.slice A n c,ud,ud,.slice A1 ((crashKeys s).length) c1]++jR J 5 4++[pq g,pq g,po g 1,.map (some gm),pq gi2,.tuple #[fv],fv]++jR J 16 6++[.slice A1 ((crashKeys s).length) c1,.tuple #[],.slice A1 ((crashKeys s).length) c1,iv ((crashKeys s).length:Nat),nI_ g_]++jR J 27 23) 12)∧St F w0 w_ (vec 3 1 (.slice A1 (crashKeys s).length c1) (crashKeys s).length (((crashKeys s).map fun a=>((a:Nat):Int)).map (Value.int .i64))::dR g gd (512*s.last.length) gm fused left s.life s.rd s.wr s.fl s.rf (s.pend.length:Int)::row gd (bvs (applyP s.last ((crashOuts s ps).take g_)).flatten) 5::pt gm (mapO (es.map PEnt.ent) clock)::stars (es.map PEnt.ast)::L)∧(g_≤(crashKeys s).length)) (fun g_=>(crashKeys s).length-g_) 0 (jE_ ⟨S14,(Nat.zero_le _)⟩) ?_)))))))))
  rintro k a_ w15 ⟨J,rfl,S16,hI17⟩
  skip
  have S16:St F w0 w15 (vec 3 1 (.slice A1 (crashKeys s).length c1) (crashKeys s).length (((crashKeys s).map fun a=>((a:Nat):Int)).map (Value.int .i64))::dR g gd (512*s.last.length) gm fused left s.life s.rd s.wr s.fl s.rf (s.pend.length:Int)::row gd (bvs (applyP s.last ((crashOuts s ps).take k)).flatten) 5::pt gm (mapO (es.map PEnt.ent) clock)::stars (es.map PEnt.ast)::L):=S16
  have hI17:(k≤(crashKeys s).length):=hI17
  refine sR (dC ((((k:Nat):Int):Int)<((crashKeys s).length:Nat)) (fun hb18=> ?_) fun hb18=> ?_)
  ·have hkk:k<(crashKeys s).length:=by omega
   obtain ⟨p,hpe,hat⟩:=hf.key_mem.1 (List.getElem_mem hkk)
   have hK:(crashKeys s)[k]?=some p.at_:=by rw [List.getElem?_eq_getElem hkk,hat]
   obtain ⟨j,hj,hje,hke,hfe,hk,hne,hx512,hle⟩:=hf.find_mem hpe
   have hq:p.ws.length≤4611686018427387904:=by have:=hf.pn;omega
   have hgd:(applyP s.last ((crashOuts s ps).take k))[p.at_]?=some (s.last.getD p.at_ []):=by rw [←applyP_getD _ _ _ (out_fst hK)];exact mem_getD (by rw [(hA k).1];exact hk)
   have hx:=(flat_sec (hA k).2 p.at_ _ hgd).symm
   have hx5:=(hA k).2 _ (List.mem_of_getElem? hgd)
   have hcs:s.last.getD p.at_ []::p.ws.map (·.2)=candS s p.at_:=by rw [hf.ws p hpe];rfl
   have htl:(tornS (candS s p.at_) (pickAt ps k)).length=512:=tornS_len (hf.cand_len hk) (by simp [candS])
   have hDk:=hD k
   obtain ⟨ad1,hAd1,hrd⟩:=(St.vec_rdv S16 0 rfl) (by simp;omega)
   refine wE (nS (cT (wp_skip (nS (wp_block (sR (pv (nI_ k) (g_ (gv_ixB (e:=3) (sz:=1) (n:=((crashKeys s).length)) (c:=c1) (i:=((k:Nat):Int)) (k:=.i64) (ad:=ad1) (ad':=(ad1.add k)) (j:=k) rfl kr_ kr_ (by rw [←hAd1];kernel_rfl) kr_ rfl om_ (by rw [Nat.mul_one]) (lQ (nI_ p.at_) (hrd k _ (by rw [List.getElem?_map,List.getElem?_map,hK];rfl)) ?_))))))))))
   refine pv (nI_ k) (pv (nI_ p.at_) (wER (nW rfl (.agg #[iv 0,iv 0,iv 0]) S16 fun g19 w20 hg21 S22=>wE (nS (sR (pv (.slice A n c) (pv (iv (n:Nat)) (dC (((n:Nat):Int)>0) (fun hb23=> ?_) fun hb23=> ?_))))))))
   ·have hp0:0<ps.length:=by omega
    have hn1:n=n-1+1:=by omega
    obtain ⟨ad,hAd,hrp⟩:=hr.out _ [row g19 #[.int .i64 0,.int .i64 0,.int .i64 0] 145,vec 3 1 (.slice A1 (crashKeys s).length c1) (crashKeys s).length (((crashKeys s).map fun a=>((a:Nat):Int)).map (Value.int .i64)),row g #[.slice (some ⟨gd,0,none⟩) (512*s.last.length) (512*s.last.length),.map (some gm),.bool fused,.int .i64 left,.int .i64 s.life,.int .i64 s.rd,.int .i64 s.wr,.int .i64 s.fl,.int .i64 s.rf,.int .i64 (s.pend.length:Int)] 135,row gd (bvs (applyP s.last ((crashOuts s ps).take k)).flatten) 5,pt gm (mapO (es.map PEnt.ent) clock),stars (es.map PEnt.ast)] S22 (by rw [length_picksV];omega)
    have hrq:RdV w20 (some ad) (picksV ps):=fun _=>⟨ad,rfl,hrp⟩
    have hkm:k%ps.length<ps.length:=Nat.mod_lt _ hp0
    have hpk:ps[k%ps.length]?=some (pickAt ps k):=by unfold pickAt;rw [if_neg om_,List.getD_eq_getElem?_getD,List.getElem?_eq_getElem hkm];rfl
    refine wE (nCT (wp_region_lit (pv (.slice A n c) (pv (nI_ k) (pv (.slice A n c) (pv (iv (n:Nat)) (g_ (gv_int (k:=.i64) (z:=Int.tmod ((k:Nat):Int) (n:Nat)) (z':=((k%ps.length:Nat):Int)) (by rw [hn1];kernel_rfl) (tmod_nat rfl om_) (g_ (gv_ixB (e:=145) (sz:=3) (n:=n) (c:=c) (i:=((k%ps.length:Nat):Int)) (k:=.i64) (ad:=ad) (ad':=(ad.add ((k%ps.length)*3))) (j:=(k%ps.length)) rfl kr_ kr_ (by rw [←hAd];kernel_rfl) kr_ rfl om_ rfl (g_ (gv_ldRA (ad:=ad.add (k%ps.length*3)) (vs:=[iv ((pickAt ps k).1),iv ((pickAt ps k).2.1),iv ((pickAt ps k).2.2)]) (n:=3) rfl kr_ kr_ rfl (RoV.cells hrq (k%ps.length*3) (fun j u hu=>picksV_at ps _ _ hpk j u hu) (Nat.succ_pos _)) (g_ (gv_stA (k:=0) (vs:=[iv ((pickAt ps k).1),iv ((pickAt ps k).2.1),iv ((pickAt ps k).2.2)]) S22 0 rfl rfl kr_ kr_ kr_ rfl (by simp [Value.oneCell']) (Nat.le_of_ble_eq_true kr_) (L':=(row g19 #[iv ((pickAt ps k).1),iv ((pickAt ps k).2.1),iv ((pickAt ps k).2.2)] 145::vec 3 1 (.slice A1 (crashKeys s).length c1) (crashKeys s).length (((crashKeys s).map fun a=>((a:Nat):Int)).map (Value.int .i64))::dR g gd (512*s.last.length) gm fused left s.life s.rd s.wr s.fl s.rf (s.pend.length:Int)::row gd (bvs (applyP s.last ((crashOuts s ps).take k)).flatten) 5::pt gm (mapO (es.map PEnt.ent) clock)::stars (es.map PEnt.ast)::L)) rfl (fun w24 S25=> ?_)))))))))))))))
    refine wE (then_n ?_)
    have S26:St F w0 w24 (dR g gd (512*s.last.length) gm fused left s.life s.rd s.wr s.fl s.rf (s.pend.length:Int)::row gd (bvs (applyP s.last ((crashOuts s ps).take k)).flatten) 5::pt gm (mapO (es.map PEnt.ent) clock)::stars (es.map PEnt.ast)::row g19 #[iv ((pickAt ps k).1),iv ((pickAt ps k).2.1),iv ((pickAt ps k).2.2)] 145::vec 3 1 (.slice A1 (crashKeys s).length c1) (crashKeys s).length (((crashKeys s).map fun a=>((a:Nat):Int)).map (Value.int .i64))::L):=St.pm 6 [2,3,4,5,0,1] S25
    refine wp_region_phu (γ:=Nat×Int) 8 [6,7] (fun (c_:Nat×Int) (i_:Nat)=>(match i_ with|0=>pq g|1=>nI_ p.at_|2=>.slice (some ⟨gd,512*p.at_,none⟩) 512 (512*s.last.length-512*p.at_)|3=>pq g|4=>nI_ p.at_|5=>.agg #[iv ((pickAt ps k).1),iv ((pickAt ps k).2.1),iv ((pickAt ps k).2.2)]|6=>sl c_.1 0 512 512|7=>goInt c_.2|_=>undef:Value)) (fun (c_:Nat×Int) (p_:Nat) (w_:World)=>(match p_ with|0=>St F w0 w_ (dR g gd (512*s.last.length) gm fused left s.life s.rd s.wr s.fl s.rf (s.pend.length:Int)::row gd (bvs (applyP s.last ((crashOuts s ps).take k)).flatten) 5::pt gm (mapO (es.map PEnt.ent) clock)::stars (es.map PEnt.ast)::row g19 #[iv ((pickAt ps k).1),iv ((pickAt ps k).2.1),iv ((pickAt ps k).2.2)] 145::vec 3 1 (.slice A1 (crashKeys s).length c1) (crashKeys s).length (((crashKeys s).map fun a=>((a:Nat):Int)).map (Value.int .i64))::L)|1=>St F w0 w_ (row c_.1 (bvs (tornS (candS s p.at_) (pickAt ps k))) 5::dR g gd (512*s.last.length) gm fused left s.life s.rd s.wr s.fl s.rf (s.pend.length:Int)::row gd (bvs (applyP s.last ((crashOuts s ps).take k)).flatten) 5::pt gm (mapO (es.map PEnt.ent) clock)::stars (es.map PEnt.ast)::row g19 #[iv ((pickAt ps k).1),iv ((pickAt ps k).2.1),iv ((pickAt ps k).2.2)] 145::vec 3 1 (.slice A1 (crashKeys s).length c1) (crashKeys s).length (((crashKeys s).map fun a=>((a:Nat):Int)).map (Value.int .i64))::L)|_=>St F w0 w_ (row c_.1 (bvs (tornS (candS s p.at_) (pickAt ps k))) 5::dR g gd (512*s.last.length) gm fused left s.life s.rd s.wr s.fl s.rf (s.pend.length:Int)::row gd (bvs ((applyP s.last ((crashOuts s ps).take (k+1))).flatten)) 5::pt gm (mapO (es.map PEnt.ent) clock)::stars (es.map PEnt.ast)::row g19 #[iv ((pickAt ps k).1),iv ((pickAt ps k).2.1),iv ((pickAt ps k).2.2)] 145::vec 3 1 (.slice A1 (crashKeys s).length c1) (crashKeys s).length (((crashKeys s).map fun a=>((a:Nat):Int)).map (Value.int .i64))::L):Prop)) (0,0) kr_ kr_ kr_ kr_ (S26.drew) ?_ ?_ ?_
    ·intro i_ c_ p_ vals_ w1 hi_ hiE_ hp_ hk_ hu_ hPh_ hd_
     rcases i_ with _|_|_|_|_|_|_|_|i_
     ·exact tG_ rfl hd_ (gV (pq g) ⟨rfl,rfl⟩)
     ·exact tG_ rfl hd_ (gV (nI_ p.at_) ⟨rfl,rfl⟩)
     ·rcases p_ with _|_|_|p_
      ·have S29:=St.id hPh_
       refine tG_ rfl hd_ (gv_call (args:=#[pq g,nI_ p.at_]) rfl Try.func114 kr_ rfl rfl kr_ (Calls.mono (home_ro (S29.blk 0 rfl) rfl rfl hn2 hk) ?_))
       rintro _ _ ⟨rfl,rfl⟩
       exact ⟨_,rfl,⟨rfl,rfl⟩⟩
      ·exact absurd (hu_ 0 dc_ kr_) dc_
      ·exact absurd (hu_ 0 dc_ kr_) dc_
      ·exact absurd hp_ (by simp)
     ·exact tG_ rfl hd_ (gV (pq g) ⟨rfl,rfl⟩)
     ·exact tG_ rfl hd_ (gV (nI_ p.at_) ⟨rfl,rfl⟩)
     ·rcases p_ with _|_|_|p_
      ·have S32:=St.id hPh_
       exact tG_ rfl hd_ (gv_ldA (k:=0) (n:=3) (vs:=[iv ((pickAt ps k).1),iv ((pickAt ps k).2.1),iv ((pickAt ps k).2.2)]) S32 4 rfl rfl kr_ kr_ rfl rfl ⟨rfl,rfl⟩)
      ·exact absurd (hu_ 0 dc_ kr_) dc_
      ·exact absurd (hu_ 0 dc_ kr_) dc_
      ·exact absurd hp_ (by simp)
     ·exact absurd hiE_ dc_
     ·exact absurd hiE_ dc_
     ·exact absurd hi_ om_
    ·intro k_ c_ vals_ w1 hk_ hPh_ hd_
     rcases k_ with _|_|k_
     ·have S33:=St.id hPh_
      refine tG_ rfl hd_ (gv_call (args:=#[pq g,nI_ p.at_,.agg #[iv ((pickAt ps k).1),iv ((pickAt ps k).2.1),iv ((pickAt ps k).2.2)]]) rfl Try.func115 kr_ rfl rfl kr_ (Calls.mono (outcome_own S33 hj hje hke hfe hne hx hx5 hx512 hn2 hk hq) ?_))
      rintro _ w35 ⟨g34,rfl,S36⟩
      rw [hcs] at S36
      refine ⟨_,rfl,⟨(g34,c_.2),rfl, ?_,S36⟩⟩
      intro i_ hi_ hne_ hdp_
      rcases i_ with _|_|_|_|_|_|_|_|i_
      ·rfl
      ·rfl
      ·rfl
      ·rfl
      ·rfl
      ·rfl
      ·exact absurd rfl hne_
      ·exact dN_ hdp_
      ·exact absurd hi_ om_
     ·have S37:=St.id hPh_
      refine tG_ rfl hd_ (gv_copy (e:=5) (off:=512*p.at_) (dLen:=512) (dCap:=(512*s.last.length-512*p.at_)) (sLen:=512) (sCap:=512) (A:=(some ⟨c_.1,0,none⟩)) (B:=((applyP s.last ((crashOuts s ps).take k)).flatten)) (l:=(tornS (candS s p.at_) (pickAt ps k))) S37 2 rfl rfl kr_ kr_ kr_ kr_ htl.symm (RdB.row (S37.blk 0 rfl) 0 512 _ (by rw [List.drop_zero,List.take_of_length_le om_])) (by rw [hDk];omega) (L':=(row c_.1 (bvs (tornS (candS s p.at_) (pickAt ps k))) 5::dR g gd (512*s.last.length) gm fused left s.life s.rd s.wr s.fl s.rf (s.pend.length:Int)::row gd (bvs ((applyP s.last ((crashOuts s ps).take (k+1))).flatten)) 5::pt gm (mapO (es.map PEnt.ent) clock)::stars (es.map PEnt.ast)::row g19 #[iv ((pickAt ps k).1),iv ((pickAt ps k).2.1),iv ((pickAt ps k).2.2)] 145::vec 3 1 (.slice A1 (crashKeys s).length c1) (crashKeys s).length (((crashKeys s).map fun a=>((a:Nat):Int)).map (Value.int .i64))::L)) (by rw [List.take_of_length_le (l:=tornS (candS s p.at_) (pickAt ps k)) (Nat.le_of_eq htl),flat_set (hA k).2 _ _ (by rw [(hA k).1];exact hk) htl,out_take hK,applyP_snoc];rfl) (fun w38 m40 S39=> ?_))
      refine ⟨(c_.1,m40),rfl, ?_,S39⟩
      intro i_ hi_ hne_ hdp_
      rcases i_ with _|_|_|_|_|_|_|_|i_
      ·rfl
      ·rfl
      ·rfl
      ·rfl
      ·rfl
      ·rfl
      ·rfl
      ·exact absurd rfl hne_
      ·exact absurd hi_ om_
     ·exact absurd hk_ (by simp)
    ·intro c_ w1 hPh_
     have S41:=St.id hPh_
     refine (wE ?_)
     refine inb_n (nR (gI .i64 (IntKind.i64.wrap (((k:Nat):Int)+1)) (((k:Nat):Int)+1) (wr_ok om_ om_) (pv (iv (((k:Nat):Int)+1)) ?_)))
     have S42:=St.pm 7 [6,1,2,3,4] S41
     exact wE (then_n ⟨k+1,(jE_ ⟨S42,om_⟩),(by show (crashKeys s).length-(k+1)<(crashKeys s).length-k;omega)⟩)
   ·have hpk:pickAt ps k=(0,0,0):=if_pos om_
    have S43:St F w0 w20 (row g19 #[iv ((pickAt ps k).1),iv ((pickAt ps k).2.1),iv ((pickAt ps k).2.2)] 145::vec 3 1 (.slice A1 (crashKeys s).length c1) (crashKeys s).length (((crashKeys s).map fun a=>((a:Nat):Int)).map (Value.int .i64))::dR g gd (512*s.last.length) gm fused left s.life s.rd s.wr s.fl s.rf (s.pend.length:Int)::row gd (bvs (applyP s.last ((crashOuts s ps).take k)).flatten) 5::pt gm (mapO (es.map PEnt.ent) clock)::stars (es.map PEnt.ast)::L):=(by rw [hpk];exact S22)
    refine wE (nCF (kN ?_))
    have S44:St F w0 w20 (dR g gd (512*s.last.length) gm fused left s.life s.rd s.wr s.fl s.rf (s.pend.length:Int)::row gd (bvs (applyP s.last ((crashOuts s ps).take k)).flatten) 5::pt gm (mapO (es.map PEnt.ent) clock)::stars (es.map PEnt.ast)::row g19 #[iv ((pickAt ps k).1),iv ((pickAt ps k).2.1),iv ((pickAt ps k).2.2)] 145::vec 3 1 (.slice A1 (crashKeys s).length c1) (crashKeys s).length (((crashKeys s).map fun a=>((a:Nat):Int)).map (Value.int .i64))::L):=St.pm 6 [2,3,4,5,0,1] S43
    refine wp_region_phu (γ:=Nat×Int) 8 [6,7] (fun (c2_:Nat×Int) (i_:Nat)=>(match i_ with|0=>pq g|1=>nI_ p.at_|2=>.slice (some ⟨gd,512*p.at_,none⟩) 512 (512*s.last.length-512*p.at_)|3=>pq g|4=>nI_ p.at_|5=>.agg #[iv ((pickAt ps k).1),iv ((pickAt ps k).2.1),iv ((pickAt ps k).2.2)]|6=>sl c2_.1 0 512 512|7=>goInt c2_.2|_=>undef:Value)) (fun (c2_:Nat×Int) (p_:Nat) (w_:World)=>(match p_ with|0=>St F w0 w_ (dR g gd (512*s.last.length) gm fused left s.life s.rd s.wr s.fl s.rf (s.pend.length:Int)::row gd (bvs (applyP s.last ((crashOuts s ps).take k)).flatten) 5::pt gm (mapO (es.map PEnt.ent) clock)::stars (es.map PEnt.ast)::row g19 #[iv ((pickAt ps k).1),iv ((pickAt ps k).2.1),iv ((pickAt ps k).2.2)] 145::vec 3 1 (.slice A1 (crashKeys s).length c1) (crashKeys s).length (((crashKeys s).map fun a=>((a:Nat):Int)).map (Value.int .i64))::L)|1=>St F w0 w_ (row c2_.1 (bvs (tornS (candS s p.at_) (pickAt ps k))) 5::dR g gd (512*s.last.length) gm fused left s.life s.rd s.wr s.fl s.rf (s.pend.length:Int)::row gd (bvs (applyP s.last ((crashOuts s ps).take k)).flatten) 5::pt gm (mapO (es.map PEnt.ent) clock)::stars (es.map PEnt.ast)::row g19 #[iv ((pickAt ps k).1),iv ((pickAt ps k).2.1),iv ((pickAt ps k).2.2)] 145::vec 3 1 (.slice A1 (crashKeys s).length c1) (crashKeys s).length (((crashKeys s).map fun a=>((a:Nat):Int)).map (Value.int .i64))::L)|_=>St F w0 w_ (row c2_.1 (bvs (tornS (candS s p.at_) (pickAt ps k))) 5::dR g gd (512*s.last.length) gm fused left s.life s.rd s.wr s.fl s.rf (s.pend.length:Int)::row gd (bvs ((applyP s.last ((crashOuts s ps).take (k+1))).flatten)) 5::pt gm (mapO (es.map PEnt.ent) clock)::stars (es.map PEnt.ast)::row g19 #[iv ((pickAt ps k).1),iv ((pickAt ps k).2.1),iv ((pickAt ps k).2.2)] 145::vec 3 1 (.slice A1 (crashKeys s).length c1) (crashKeys s).length (((crashKeys s).map fun a=>((a:Nat):Int)).map (Value.int .i64))::L):Prop)) (0,0) kr_ kr_ kr_ kr_ (S44.drew) ?_ ?_ ?_
    ·intro i_ c2_ p_ vals_ w1 hi_ hiE_ hp_ hk_ hu_ hPh_ hd_
     rcases i_ with _|_|_|_|_|_|_|_|i_
     ·exact tG_ rfl hd_ (gV (pq g) ⟨rfl,rfl⟩)
     ·exact tG_ rfl hd_ (gV (nI_ p.at_) ⟨rfl,rfl⟩)
     ·rcases p_ with _|_|_|p_
      ·have S47:=St.id hPh_
       refine tG_ rfl hd_ (gv_call (args:=#[pq g,nI_ p.at_]) rfl Try.func114 kr_ rfl rfl kr_ (Calls.mono (home_ro (S47.blk 0 rfl) rfl rfl hn2 hk) ?_))
       rintro _ _ ⟨rfl,rfl⟩
       exact ⟨_,rfl,⟨rfl,rfl⟩⟩
      ·exact absurd (hu_ 0 dc_ kr_) dc_
      ·exact absurd (hu_ 0 dc_ kr_) dc_
      ·exact absurd hp_ (by simp)
     ·exact tG_ rfl hd_ (gV (pq g) ⟨rfl,rfl⟩)
     ·exact tG_ rfl hd_ (gV (nI_ p.at_) ⟨rfl,rfl⟩)
     ·rcases p_ with _|_|_|p_
      ·have S50:=St.id hPh_
       exact tG_ rfl hd_ (gv_ldA (k:=0) (n:=3) (vs:=[iv ((pickAt ps k).1),iv ((pickAt ps k).2.1),iv ((pickAt ps k).2.2)]) S50 4 rfl rfl kr_ kr_ rfl rfl ⟨rfl,rfl⟩)
      ·exact absurd (hu_ 0 dc_ kr_) dc_
      ·exact absurd (hu_ 0 dc_ kr_) dc_
      ·exact absurd hp_ (by simp)
     ·exact absurd hiE_ dc_
     ·exact absurd hiE_ dc_
     ·exact absurd hi_ om_
    ·intro k_ c2_ vals_ w1 hk_ hPh_ hd_
     rcases k_ with _|_|k_
     ·have S51:=St.id hPh_
      refine tG_ rfl hd_ (gv_call (args:=#[pq g,nI_ p.at_,.agg #[iv ((pickAt ps k).1),iv ((pickAt ps k).2.1),iv ((pickAt ps k).2.2)]]) rfl Try.func115 kr_ rfl rfl kr_ (Calls.mono (outcome_own S51 hj hje hke hfe hne hx hx5 hx512 hn2 hk hq) ?_))
      rintro _ w53 ⟨g52,rfl,S54⟩
      rw [hcs] at S54
      refine ⟨_,rfl,⟨(g52,c2_.2),rfl, ?_,S54⟩⟩
      intro i_ hi_ hne_ hdp_
      rcases i_ with _|_|_|_|_|_|_|_|i_
      ·rfl
      ·rfl
      ·rfl
      ·rfl
      ·rfl
      ·rfl
      ·exact absurd rfl hne_
      ·exact dN_ hdp_
      ·exact absurd hi_ om_
     ·have S55:=St.id hPh_
      refine tG_ rfl hd_ (gv_copy (e:=5) (off:=512*p.at_) (dLen:=512) (dCap:=(512*s.last.length-512*p.at_)) (sLen:=512) (sCap:=512) (A:=(some ⟨c2_.1,0,none⟩)) (B:=((applyP s.last ((crashOuts s ps).take k)).flatten)) (l:=(tornS (candS s p.at_) (pickAt ps k))) S55 2 rfl rfl kr_ kr_ kr_ kr_ htl.symm (RdB.row (S55.blk 0 rfl) 0 512 _ (by rw [List.drop_zero,List.take_of_length_le om_])) (by rw [hDk];omega) (L':=(row c2_.1 (bvs (tornS (candS s p.at_) (pickAt ps k))) 5::dR g gd (512*s.last.length) gm fused left s.life s.rd s.wr s.fl s.rf (s.pend.length:Int)::row gd (bvs ((applyP s.last ((crashOuts s ps).take (k+1))).flatten)) 5::pt gm (mapO (es.map PEnt.ent) clock)::stars (es.map PEnt.ast)::row g19 #[iv ((pickAt ps k).1),iv ((pickAt ps k).2.1),iv ((pickAt ps k).2.2)] 145::vec 3 1 (.slice A1 (crashKeys s).length c1) (crashKeys s).length (((crashKeys s).map fun a=>((a:Nat):Int)).map (Value.int .i64))::L)) (by rw [List.take_of_length_le (l:=tornS (candS s p.at_) (pickAt ps k)) (Nat.le_of_eq htl),flat_set (hA k).2 _ _ (by rw [(hA k).1];exact hk) htl,out_take hK,applyP_snoc];rfl) (fun w56 m58 S57=> ?_))
      refine ⟨(c2_.1,m58),rfl, ?_,S57⟩
      intro i_ hi_ hne_ hdp_
      rcases i_ with _|_|_|_|_|_|_|_|i_
      ·rfl
      ·rfl
      ·rfl
      ·rfl
      ·rfl
      ·rfl
      ·rfl
      ·exact absurd rfl hne_
      ·exact absurd hi_ om_
     ·exact absurd hk_ (by simp)
    ·intro c2_ w1 hPh_
     have S59:=St.id hPh_
     refine (wE (inb_n (nR (gI .i64 (IntKind.i64.wrap (((k:Nat):Int)+1)) (((k:Nat):Int)+1) (wr_ok om_ om_) ?_))))
     refine pv (iv (((k:Nat):Int)+1)) ?_
     have S60:=St.pm 7 [6,1,2,3,4] S59
     exact wE (then_n ⟨k+1,(jE_ ⟨S60,om_⟩),(by show (crashKeys s).length-(k+1)<(crashKeys s).length-k;omega)⟩)
  ·refine wE (nS (cF (wp_exit (then_x (then_x (inb_x (nSR (pv (pq g) (g_ (gv_call (args:=#[pq g]) rfl Try.func116 kr_ rfl rfl kr_ ?_))))))))))
   have hkL:k=(crashKeys s).length:=by omega
   have hfin:(crashOuts s ps).take k=crashOuts s ps:=List.take_of_length_le (by rw [hkL];unfold crashOuts;rw [List.length_mapIdx];exact Nat.le_refl _)
   rw [hfin] at S16
   have S61:St F w0 w15 (dR g gd (512*s.last.length) gm fused left s.life s.rd s.wr s.fl s.rf (s.pend.length:Int)::row gd (bvs (applyP s.last (crashOuts s ps)).flatten) 5::pt gm (mapO (es.map PEnt.ent) clock)::L):=St.pm 5 [1,2,3] S16
   refine Calls.mono (settle_own S61) ?_
   rintro _ w62 ⟨rfl,S63⟩
   refine ⟨_,rfl,(wER (pv (pq g) (pv (pq g) (pv (po g 2) (sS S63 0 rfl 2 (.bool false) fun w64 S65=>wE (nR (pv (pq g) (pv (pq g) (pv (po g 4) (lR (iv s.life) S65 0 4 (pv (iv (inc s.life)) (pv (pq g) ?_))))))))))))⟩
   refine pv (po g 4) (sS S65 0 rfl 4 (iv (inc s.life)) fun w66 S67=>wE (bodyPost_end (v:=.tuple #[]) (results_none rfl _ _ _) rfl ?_))
   have hlf:(applyP s.last (crashOuts s ps)).length=s.last.length:=length_applyP _ _
   rw [←hlf] at S67
   have S9:=St.rot (LA:=[_,_,_]) (St.star_nil S67)
   exact ⟨rfl,St.pclose (gd:=gd) (gm:=gm) (clock:=clock) (es:=[]) (fused:=false) (left:=left) (s:=s.crashR ps) S9 (PFacts.settled (s':=s.crashR ps) hf hlf (applyP_all _ _ hf.len hol) rfl rfl (fun h=>absurd (show (0:Int)≤ -1 from h) dc_) (show (-1:Int)≤ -1∧(-1:Int)≤9223372036854775807 by decide))⟩
 ·obtain ⟨p,hpe,rfl,hpn⟩:=mem_left hel
  refine pv tv (wE (nS (cT (kN (wp_block (sR (g_ (gv_entry (g:=gm) (clock:=clock) (es:=es.map PEnt.ent) (gi:=gi2) (seen:=es1.map (·.b)) (e:=p.ent) S11 1 4 rfl rfl rfl kr_ (List.mem_map.2 ⟨p,hpe,rfl⟩) (fun y hy hb=>by obtain ⟨q,hq,rfl⟩:=List.mem_map.1 hy;rw [hf.injB hq hpe hb]) (pv (nI_ p.at_) (pv (nI_ p.at_) (wE (nR (pv v (pv (nI_ p.at_) ?_))))))))))))))
  refine g_ (gv_slit (e:=3) (sz:=1) (z:=iv 0) (by_:=8) (vs:=#[(0,nI_ p.at_)]) (cells:=#[nI_ p.at_]) S11 rfl kr_ ⟨by kernel_rfl⟩ kr_ kr_ kr_ kr_ (fun g68 w69 hg70 S71=>g_ (gv_append (e:=3) (sz:=1) (n:=es1.length) (v:=v) (vals:=((es1.map fun p=>((p.at_:Nat):Int)).map (Value.int .i64))) (z:=iv 0) (by_:=8) (m:=1) (c':=1) (ad:=⟨g68,0,none⟩) (news:=[nI_ p.at_]) (St.swap S71) rfl kr_ ⟨by kernel_rfl⟩ rfl kr_ kr_ dc_ rfl (row_news (S71.blk 0 rfl)) (by intro u hu;simp at hu;subst hu;rfl) om_ om_ (fun v73 w72 S74=>pv v73 (wE (iN ?_))))))
  have S75:St F w0 w72 (vec 3 1 v73 (es1.length+1) ((es1.map fun p=>((p.at_:Nat):Int)).map (Value.int .i64)++[nI_ p.at_])::pt gi2 (iterO gm clock (es1.map (·.b)++[p.b]))::dR g gd (512*s.last.length) gm fused left s.life s.rd s.wr s.fl s.rf (s.pend.length:Int)::row gd (bvs s.last.flatten) 5::pt gm (mapO (es.map PEnt.ent) clock)::stars (es.map PEnt.ast)::L):=St.pm 7 [0,2,3,4,5,6] S74
  rw [show es1.map (·.b)++[p.b]=(es1++[p]).map (·.b) from by rw [List.map_append];rfl,show (es1.map fun p=>((p.at_:Nat):Int)).map (Value.int .i64)++[nI_ p.at_]=((es1++[p]).map fun p=>((p.at_:Nat):Int)).map (Value.int .i64) from by rw [List.map_append,List.map_append];rfl,show es1.length+1=(es1++[p]).length from by rw [List.length_append];rfl] at S75
  exact ⟨(es1++[p],v73),(jE_ ⟨S75,⟨fun q hq=>(List.mem_append.1 hq).elim (hI9.1 q) (fun h=>(List.mem_singleton.1 h)▸hpe),(by rw [List.map_append];exact List.nodup_append.2 ⟨hI9.2,List.nodup_cons.2 ⟨List.not_mem_nil,List.nodup_nil⟩,fun a ha b hb=>by rw [List.map_singleton,List.mem_singleton] at hb;subst hb;exact fun e=>hpn (e▸ha)⟩)⟩⟩),(by show (leftE _ ((es1++[p]).map (·.b))).length<_;rw [List.map_append];exact left_less hel)⟩
theorem pd_read {at_:Int}{F:Nat→Prop}{w0 w:World}{L:List Ast}{g:Nat}{s:Dsk}(S:St F w0 w (PDisk g s::L)):Calls Try.prog 26 #[.pointer (some ⟨g,0,none⟩),.int .i64 at_] w fun e w'=>∃v,e=.returned (.tuple #[v,.int .i64 (s.readR at_).2.2])∧St F w0 w' (bytesA v (s.readR at_).2.1::PDisk g (s.readR at_).1::L):=by
 obtain ⟨gd,gm,clock,es,fused,left,hf,S⟩:=St.popen S
 have hn2:=hf.n2
 have hbu:=hf.burnt
 by_cases hz:s.left=0
 ·have e:s.readR at_=(s,[],3):=by unfold Dsk.readR;rw [if_pos hz]
  rw [e]
  have hb:(fused&&decide (left=0))=true:=by rw [hbu];exact decide_eq_true hz
  change St F w0 w (dR g gd (512*s.last.length) gm fused left s.life s.rd s.wr s.fl s.rf (s.pend.length:Int)::row gd (bvs s.last.flatten) 5::pt gm (mapO (es.map PEnt.ent) clock)::stars (es.map PEnt.ast)::L) at S
  refine eN (fr [pq g,iv at_] 28) Try.func26 rfl (sR (pv (nS_) (pv (iv 0) (wE (nS (sR (pv (pq g) (pv (iv at_) (sP Try.func79 #[pq g,iv at_] (there_dead hb S) fun w1 S2=>pv (iv 3) (wER (pv (iv 3) (dN 3 0 (fun _=> ?_) fun hd3=>False.elim om_))))))))))))
  exact wE (nCT (sR (pv (iv 3) (pv (nS_) (pv (iv 3) (wE (then_n (rR (bB (nS_) (iv 3) ⟨_,rfl,St.bytes_nil (St.pclose (gd:=gd) (gm:=gm) (clock:=clock) (es:=es) (fused:=fused) (left:=left) (s:=s) S2 (hf.congr rfl rfl rfl))⟩)))))))))
 have hb:(fused&&decide (left=0))=false:=by rw [hbu];exact decide_eq_false hz
 by_cases ho:at_<0∨(s.last.length:Int)≤at_
 ·have e:s.readR at_=({s with rf:=inc s.rf},[],11):=by unfold Dsk.readR;rw [if_neg hz,if_pos ho]
  rw [e]
  change St F w0 w (dR g gd (512*s.last.length) gm fused left s.life s.rd s.wr s.fl s.rf (s.pend.length:Int)::row gd (bvs s.last.flatten) 5::pt gm (mapO (es.map PEnt.ent) clock)::stars (es.map PEnt.ast)::L) at S
  refine eN (fr [pq g,iv at_] 28) Try.func26 rfl (sR (pv (nS_) (pv (iv 0) (wE (nS (sR (pv (pq g) (pv (iv at_) (sP Try.func79 #[pq g,iv at_] (there_out hb rfl hn2 ho S) fun w1 S2=>pv (iv 11) (wER (pv (iv 11) (dN 11 0 (fun _=> ?_) fun hd3=>False.elim om_))))))))))))
  exact wE (nCT (sR (pv (iv 11) (pv (nS_) (pv (iv 11) (wE (then_n (rR (bB (nS_) (iv 11) ⟨_,rfl,St.bytes_nil (St.pclose (gd:=gd) (gm:=gm) (clock:=clock) (es:=es) (fused:=fused) (left:=left) (s:={s with rf:=inc s.rf}) S2 (hf.congr rfl rfl rfl))⟩)))))))))
 obtain ⟨k,rfl⟩:∃k:Nat,at_=(k:Int):=⟨at_.toNat,by omega⟩
 have hk:k<s.last.length:=by omega
 have hsk:=mem_getD hk
 have hl5:=hf.len _ (List.mem_of_getElem? hsk)
 have hfl:=flat_sec hf.len k _ hsk
 have e:s.readR (k:Int)=({s with rd:=inc s.rd},s.now k,0):=by unfold Dsk.readR;rw [if_neg hz,if_neg ho,Int.toNat_natCast]
 rw [e]
 rcases hf.find k with ⟨hp,hno⟩|⟨j,p,hj,hat,hp,hne,hje,hke,hfe⟩
 ·rw [Dsk.now_none hp]
  change St F w0 w (dR g gd (512*s.last.length) gm fused left s.life s.rd s.wr s.fl s.rf (s.pend.length:Int)::row gd (bvs s.last.flatten) 5::pt gm (mapO (es.map PEnt.ent) clock)::stars (es.map PEnt.ast)::L) at S
  refine eN (fr [pq g,nI_ k] 28) Try.func26 rfl (sR (pv (nS_) (pv (iv 0) (wE (nS (sR (pv (pq g) (pv (nI_ k) (sP Try.func79 #[pq g,nI_ k] (there_in hb rfl hn2 hk S) fun w1 S2=>pv (iv 0) (wER (pv (iv 0) (dN 0 0 (fun hd3=>False.elim om_) fun _=> ?_))))))))))))
  refine wE (nCF (wp_skip (nSR (pv (pq g) (pv (pq g) (pv (po g 5) (pv (po g 5) (lR (iv s.rd) S2 0 5 (pv (iv (inc s.rd)) (pv (pq g) (pv (po g 5) (pv (po g 5) (sS S2 0 rfl 5 (iv (inc s.rd)) fun w4 S5=> ?_)))))))))))))
  refine wER (g_ (gv_make (e:=5) (u:=512) (v:=512) (z:=.int .u8 0) (sz:=1) (by_:=1) (n:=512) (c:=512) (cs:=(bvs (List.replicate 512 0))) S5 rfl kr_ ⟨by kernel_rfl⟩ kr_ kr_ rfl rfl (Nat.le_refl _) dc_ dc_ (mk_bytes _) (fun g6 w7 hg8 S9=>pv (sl g6 0 512 512) (wER (pv (sl g6 0 512 512) (pv (pq g) (pv (nI_ k) (sO Try.func80 #[pq g,nI_ k] (now_home (S9.blk 1 rfl) rfl rfl hn2 hk (S9.get 3 rfl) hno) (g_ (gv_copy (e:=5) (off:=0) (dLen:=512) (dCap:=512) (sLen:=512) (sCap:=(512*s.last.length-512*k)) (A:=(some ⟨gd,512*k,none⟩)) (B:=(List.replicate 512 0)) (l:=(s.last.getD k [])) S9 0 rfl rfl kr_ kr_ kr_ kr_ hl5.symm (RdB.row (S9.blk 2 rfl) _ 512 _ hfl.symm) (by simp) (L':=(row g6 (bvs (s.last.getD k [])) 5::dR g gd (512*s.last.length) gm fused left s.life (inc s.rd) s.wr s.fl s.rf (s.pend.length:Int)::row gd (bvs s.last.flatten) 5::pt gm (mapO (es.map PEnt.ent) clock)::stars (es.map PEnt.ast)::L)) (by rw [copy512 hl5];rfl) (fun w10 m12 S11=>wER (pv (sl g6 0 512 512) (pv (sl g6 0 512 512) (pv (iv 0) (wE ?_)))))))))))))))
  exact then_n (wp_ret (bB (sl g6 0 512 512) (iv 0) ⟨_,rfl,St.bytes_row (St.swap (St.pclose (gd:=gd) (gm:=gm) (clock:=clock) (es:=es) (fused:=fused) (left:=left) (s:={s with rd:=inc s.rd}) (St.rot (LA:=pdParts g gd gm clock es fused left ({s with rd:=inc s.rd})) S11) (hf.congr rfl rfl rfl))) hl5.symm hl5.symm⟩))
 ·obtain ⟨x,hx,hxl,hxm⟩:=last_some (f:=Prod.snd) hne
  rw [Dsk.now_some hp hxl]
  have hx5:x.2.length=512:=by
   have h1:x.2∈pendOf s k:=by rw [hp];exact List.mem_map.2 ⟨x,hxm,rfl⟩
   obtain ⟨y,hy,e1⟩:=List.mem_map.1 h1
   rw [←e1];exact (hf.plen y (List.mem_filter.1 hy).1).1
  have hq0:=List.length_pos_iff.2 hne
  have hqm:p.ws.length≤9223372036854775807:=by
   have h1:=hf.pn
   have h2:p.ws.length=(pendOf s k).length:=by rw [hp,List.length_map]
   have h3:(pendOf s k).length≤s.pend.length:=by unfold pendOf;rw [List.length_map];exact List.length_filter_le _ _
   omega
  change St F w0 w (dR g gd (512*s.last.length) gm fused left s.life s.rd s.wr s.fl s.rf (s.pend.length:Int)::row gd (bvs s.last.flatten) 5::pt gm (mapO (es.map PEnt.ent) clock)::stars (es.map PEnt.ast)::L) at S
  refine eN (fr [pq g,nI_ k] 28) Try.func26 rfl (sR (pv (nS_) (pv (iv 0) (wE (nS (sR (pv (pq g) (pv (nI_ k) (sP Try.func79 #[pq g,nI_ k] (there_in hb rfl hn2 hk S) fun w1 S2=>pv (iv 0) (wER (pv (iv 0) (dN 0 0 (fun hd3=>False.elim om_) fun _=> ?_))))))))))))
  refine wE (nCF (wp_skip (nSR (pv (pq g) (pv (pq g) (pv (po g 5) (pv (po g 5) (lR (iv s.rd) S2 0 5 (pv (iv (inc s.rd)) (pv (pq g) (pv (po g 5) (pv (po g 5) (sS S2 0 rfl 5 (iv (inc s.rd)) fun w4 S5=> ?_)))))))))))))
  refine wER (g_ (gv_make (e:=5) (u:=512) (v:=512) (z:=.int .u8 0) (sz:=1) (by_:=1) (n:=512) (c:=512) (cs:=(bvs (List.replicate 512 0))) S5 rfl kr_ ⟨by kernel_rfl⟩ kr_ kr_ rfl rfl (Nat.le_refl _) dc_ dc_ (mk_bytes _) (fun g6 w7 hg8 S9=>pv (sl g6 0 512 512) (wER (pv (sl g6 0 512 512) (pv (pq g) (pv (nI_ k) (g_ (gv_call (args:=#[pq g,nI_ k]) rfl Try.func80 kr_ rfl rfl kr_ ?_)))))))))
  obtain ⟨gb,cb,cells,hv,HV,hcell,hdat⟩:=pend_facts S9 4 rfl hj hne
  refine Calls.mono (now_pend (S9.blk 1 rfl) (S9.get 3 rfl) hje hke hfe hv hq0 hqm HV (hcell _ _ hx)) ?_
  rintro _ _ ⟨rfl,rfl⟩
  exact ⟨_,rfl,(g_ (gv_copy (e:=5) (off:=0) (dLen:=512) (dCap:=512) (sLen:=512) (sCap:=512) (A:=(some ⟨x.1,0,none⟩)) (B:=(List.replicate 512 0)) (l:=x.2) S9 0 rfl rfl kr_ kr_ kr_ kr_ hx5.symm (RdB.row (hdat x hxm) 0 512 _ (by rw [List.drop_zero,List.take_of_length_le om_])) (by simp) (L':=(row g6 (bvs x.2) 5::dR g gd (512*s.last.length) gm fused left s.life (inc s.rd) s.wr s.fl s.rf (s.pend.length:Int)::row gd (bvs s.last.flatten) 5::pt gm (mapO (es.map PEnt.ent) clock)::stars (es.map PEnt.ast)::L)) (by rw [copy512 hx5];rfl) (fun w10 m12 S11=>wER (pv (sl g6 0 512 512) (pv (sl g6 0 512 512) (pv (iv 0) (wE (then_n (wp_ret (bB (sl g6 0 512 512) (iv 0) ⟨_,rfl,St.bytes_row (St.swap (St.pclose (gd:=gd) (gm:=gm) (clock:=clock) (es:=es) (fused:=fused) (left:=left) (s:={s with rd:=inc s.rd}) (St.rot (LA:=pdParts g gd gm clock es fused left ({s with rd:=inc s.rd})) S11) (hf.congr rfl rfl rfl))) hx5.symm hx5.symm⟩))))))))))⟩
theorem pd_write {F:Nat→Prop}{w0 w:World}{L:List Ast}{g:Nat}{s:Dsk}{at_:Int}{A:Option Addr}{d:List UInt8}{cd:Nat}(S:St F w0 w (PDisk g s::L))(hr:RoT F w0 L A d)(hdm:d.length≤9223372036854775807)(hpn:s.pend.length<4398046511104):
  Calls Try.prog 33 #[pq g,iv at_,.slice A d.length cd] w fun e w'=>e=.returned (iv (s.writeR at_ d).2)∧St F w0 w' (PDisk g (s.writeR at_ d).1::L):=by
 obtain ⟨gd,gm,clock,es,fused,left,hf,S⟩:=St.popen S
 have hn2:=hf.n2
 have hbu:=hf.burnt
 by_cases hz:s.left=0
 ·have e:s.writeR at_ d=(s,3):=by unfold Dsk.writeR;rw [if_pos hz]
  rw [e]
  have hb:(fused&&decide (left=0))=true:=by rw [hbu];exact decide_eq_true hz
  change St F w0 w (dR g gd (512*s.last.length) gm fused left s.life s.rd s.wr s.fl s.rf (s.pend.length:Int)::row gd (bvs s.last.flatten) 5::pt gm (mapO (es.map PEnt.ent) clock)::stars (es.map PEnt.ast)::L) at S
  refine eN (fr [pq g,iv at_,.slice A d.length cd] 62) Try.func33 rfl (sR (pv (iv 0) (wE (nS (sR (pv (pq g) (pv (iv at_) (sP Try.func79 #[pq g,iv at_] (there_dead hb S) fun w1 S2=>pv (iv 3) (wER (pv (iv 3) (dN 3 0 (fun _=>wE ?_) fun hd3=>False.elim om_)))))))))))
  exact nCT (sR (pv (iv 3) (pv (iv 3) (wE (then_n (rR (bA (iv 3) ⟨rfl,St.pclose (gd:=gd) (gm:=gm) (clock:=clock) (es:=es) (fused:=fused) (left:=left) (s:=s) S2 (hf.congr rfl rfl rfl)⟩)))))))
 have hb:(fused&&decide (left=0))=false:=by rw [hbu];exact decide_eq_false hz
 by_cases ho:at_<0∨(s.last.length:Int)≤at_
 ·have e:s.writeR at_ d=({s with rf:=inc s.rf},11):=by unfold Dsk.writeR;rw [if_neg hz,if_pos ho]
  rw [e]
  change St F w0 w (dR g gd (512*s.last.length) gm fused left s.life s.rd s.wr s.fl s.rf (s.pend.length:Int)::row gd (bvs s.last.flatten) 5::pt gm (mapO (es.map PEnt.ent) clock)::stars (es.map PEnt.ast)::L) at S
  refine eN (fr [pq g,iv at_,.slice A d.length cd] 62) Try.func33 rfl (sR (pv (iv 0) (wE (nS (sR (pv (pq g) (pv (iv at_) (sP Try.func79 #[pq g,iv at_] (there_out hb rfl hn2 ho S) fun w1 S2=>pv (iv 11) (wER (pv (iv 11) (dN 11 0 (fun _=>wE ?_) fun hd3=>False.elim om_)))))))))))
  exact nCT (sR (pv (iv 11) (pv (iv 11) (wE (then_n (rR (bA (iv 11) ⟨rfl,St.pclose (gd:=gd) (gm:=gm) (clock:=clock) (es:=es) (fused:=fused) (left:=left) (s:={s with rf:=inc s.rf}) S2 (hf.congr rfl rfl rfl)⟩)))))))
 obtain ⟨k,rfl⟩:∃k:Nat,at_=(k:Int):=⟨at_.toNat,by omega⟩
 have hk:k<s.last.length:=by omega
 by_cases hd5:d.length≠512
 ·have e:s.writeR (k:Int) d=({s with rf:=inc s.rf},2):=by unfold Dsk.writeR;rw [if_neg hz,if_neg ho,if_pos hd5]
  rw [e]
  change St F w0 w (dR g gd (512*s.last.length) gm fused left s.life s.rd s.wr s.fl s.rf (s.pend.length:Int)::row gd (bvs s.last.flatten) 5::pt gm (mapO (es.map PEnt.ent) clock)::stars (es.map PEnt.ast)::L) at S
  refine eN (fr [pq g,nI_ k,.slice A d.length cd] 62) Try.func33 rfl (sR (pv (iv 0) (wE (nS (sR (pv (pq g) (pv (nI_ k) (sP Try.func79 #[pq g,nI_ k] (there_in hb rfl hn2 hk S) fun w1 S2=>pv (iv 0) (wER (pv (iv 0) (dN 0 0 (fun hd3=>False.elim om_) fun _=>wE ?_)))))))))))
  refine nCF (wp_skip (nS (sR (pv (.slice A d.length cd) (pv (iv (d.length:Nat)) (dN (d.length:Nat) 512 (fun _=>wE (nCT (sR (pv (pq g) (pv (pq g) (pv (po g 5) (pv (po g 8) ?_))))))) fun hd4=>False.elim om_))))))
  exact lR (iv s.rf) S2 0 8 (pv (iv (inc s.rf)) (pv (pq g) (pv (po g 5) (pv (po g 8) (sS S2 0 rfl 8 (iv (inc s.rf)) fun w5 S6=>wER (pv (iv 2) (wE (then_n (rR (bA (iv 2) ⟨rfl,St.pclose (gd:=gd) (gm:=gm) (clock:=clock) (es:=es) (fused:=fused) (left:=left) (s:={s with rf:=inc s.rf}) S6 (hf.congr rfl rfl rfl)⟩))))))))))
 have hd:d.length=512:=by omega
 have e:s.writeR (k:Int) d=({s with pend:=s.pend++[(k,d)],wr:=inc s.wr,left:=spent s.left},0):=by unfold Dsk.writeR;rw [if_neg hz,if_neg ho,if_neg hd5,Int.toNat_natCast]
 rw [e]
 have hsp:=hf.spend hz
 have hlb:=spent_lb hf.lb hz
 rcases hf.find k with ⟨hp,hno⟩|⟨j,p,hj,hat,hp,hne,hje,hke,hfe⟩
 ·rcases hsp with ⟨rfl,hdc,hde⟩|⟨rfl,hdc,hde⟩
  ·change St F w0 w (dR g gd (512*s.last.length) gm true left s.life s.rd s.wr s.fl s.rf (s.pend.length:Int)::row gd (bvs s.last.flatten) 5::pt gm (mapO (es.map PEnt.ent) clock)::stars (es.map PEnt.ast)::L) at S
   refine eN (fr [pq g,nI_ k,.slice A d.length cd] 62) Try.func33 rfl (sR (pv (iv 0) (wE (nS (sR (pv (pq g) (pv (nI_ k) (sP Try.func79 #[pq g,nI_ k] (there_in hb rfl hn2 hk S) fun w1 S2=>pv (iv 0) (wER (pv (iv 0) (dN 0 0 (fun hd3=>False.elim om_) fun _=>wE ?_)))))))))))
   refine nCF (wp_skip (nS (sR (pv (.slice A d.length cd) (pv (iv (d.length:Nat)) (dN (d.length:Nat) 512 (fun hd4=>False.elim om_) fun _=>wE (nCF (wp_skip (nSR (g_ (gv_make (e:=5) (u:=512) (v:=512) (z:=.int .u8 0) (sz:=1) (by_:=1) (n:=512) (c:=512) (cs:=(bvs (List.replicate 512 0))) S2 rfl kr_ ⟨by kernel_rfl⟩ kr_ kr_ rfl rfl (Nat.le_refl _) dc_ dc_ (mk_bytes _) (fun g5 w6 hg7 S8=>pv (sl g5 0 512 512) (wER ?_)))))))))))))
   refine pv (sl g5 0 512 512) (pv (.slice A d.length cd) (g_ (gv_copy (e:=5) (off:=0) (dLen:=512) (dCap:=512) (sLen:=d.length) (sCap:=cd) (A:=A) (B:=(List.replicate 512 0)) (l:=d) S8 0 rfl rfl kr_ kr_ kr_ kr_ rfl (hr.out _ [row g5 (bvs (List.replicate 512 0)) 5,dR g gd (512*s.last.length) gm true left s.life s.rd s.wr s.fl s.rf (s.pend.length:Int),row gd (bvs s.last.flatten) 5,pt gm (mapO (es.map PEnt.ent) clock),stars (es.map PEnt.ast)] S8) (by simp) (L':=(row g5 (bvs d) 5::dR g gd (512*s.last.length) gm true left s.life s.rd s.wr s.fl s.rf (s.pend.length:Int)::row gd (bvs s.last.flatten) 5::pt gm (mapO (es.map PEnt.ent) clock)::stars (es.map PEnt.ast)::L)) (by rw [copy512 hd];rfl) (fun w9 m11 S10=>wE (nS ?_)))))
   have S12:St F w0 w9 (vec 31 1 (nS_) 0 []::row g5 (bvs d) 5::dR g gd (512*s.last.length) gm true left s.life s.rd s.wr s.fl s.rf (s.pend.length:Int)::row gd (bvs s.last.flatten) 5::pt gm (mapO (es.map PEnt.ent) clock)::stars (es.map PEnt.ast)::L):=St.vec_nil S10
   refine wp_region_phu (γ:=Nat×Value) 14 [12,13] (fun (c_:Nat×Value) (i_:Nat)=>(match i_ with|0=>pq g|1=>pq g|2=>po g 1|3=>.map (some gm)|4=>nI_ k|5=>pq g|6=>pq g|7=>po g 1|8=>.map (some gm)|9=>nI_ k|10=>nS_|11=>sl g5 0 512 512|12=>sl c_.1 0 1 1|13=>c_.2|_=>undef:Value)) (fun (c_:Nat×Value) (p_:Nat) (w_:World)=>(match p_ with|0=>St F w0 w_ (vec 31 1 (nS_) 0 []::row g5 (bvs d) 5::dR g gd (512*s.last.length) gm true left s.life s.rd s.wr s.fl s.rf (s.pend.length:Int)::row gd (bvs s.last.flatten) 5::pt gm (mapO (es.map PEnt.ent) clock)::stars (es.map PEnt.ast)::L)|1=>St F w0 w_ (row c_.1 #[sl g5 0 512 512] 31::vec 31 1 (nS_) 0 []::row g5 (bvs d) 5::dR g gd (512*s.last.length) gm true left s.life s.rd s.wr s.fl s.rf (s.pend.length:Int)::row gd (bvs s.last.flatten) 5::pt gm (mapO (es.map PEnt.ent) clock)::stars (es.map PEnt.ast)::L)|_=>St F w0 w_ (vec 31 1 c_.2 1 [sl g5 0 512 512]::row c_.1 #[sl g5 0 512 512] 31::row g5 (bvs d) 5::dR g gd (512*s.last.length) gm true left s.life s.rd s.wr s.fl s.rf (s.pend.length:Int)::row gd (bvs s.last.flatten) 5::pt gm (mapO (es.map PEnt.ent) clock)::stars (es.map PEnt.ast)::L):Prop)) (0,undef) kr_ kr_ kr_ kr_ (S12.drew) ?_ ?_ ?_
   ·intro i_ c_ p_ vals_ w1 hi_ hiE_ hp_ hk_ hu_ hPh_ hd_
    rcases i_ with _|_|_|_|_|_|_|_|_|_|_|_|_|_|i_
    ·exact tG_ rfl hd_ (gV (pq g) ⟨rfl,rfl⟩)
    ·exact tG_ rfl hd_ (gV (pq g) ⟨rfl,rfl⟩)
    ·exact tG_ rfl hd_ (gV (po g 1) ⟨rfl,rfl⟩)
    ·rcases p_ with _|_|_|p_
     ·have S16:=St.id hPh_
      exact tG_ rfl hd_ (gL (.map (some gm)) rfl (((S16.blk 2 rfl).cell 1).trans rfl) ⟨rfl,rfl⟩)
     ·have S17:=St.id hPh_
      exact tG_ rfl hd_ (gL (.map (some gm)) rfl (((S17.blk 3 rfl).cell 1).trans rfl) ⟨rfl,rfl⟩)
     ·have S18:=St.id hPh_
      exact tG_ rfl hd_ (gL (.map (some gm)) rfl (((S18.blk 3 rfl).cell 1).trans rfl) ⟨rfl,rfl⟩)
     ·exact absurd hp_ (by simp)
    ·exact tG_ rfl hd_ (gV (nI_ k) ⟨rfl,rfl⟩)
    ·exact tG_ rfl hd_ (gV (pq g) ⟨rfl,rfl⟩)
    ·exact tG_ rfl hd_ (gV (pq g) ⟨rfl,rfl⟩)
    ·exact tG_ rfl hd_ (gV (po g 1) ⟨rfl,rfl⟩)
    ·rcases p_ with _|_|_|p_
     ·have S23:=St.id hPh_
      exact tG_ rfl hd_ (gL (.map (some gm)) rfl (((S23.blk 2 rfl).cell 1).trans rfl) ⟨rfl,rfl⟩)
     ·have S24:=St.id hPh_
      exact tG_ rfl hd_ (gL (.map (some gm)) rfl (((S24.blk 3 rfl).cell 1).trans rfl) ⟨rfl,rfl⟩)
     ·exact absurd (hu_ 1 dc_ kr_) dc_
     ·exact absurd hp_ (by simp)
    ·exact tG_ rfl hd_ (gV (nI_ k) ⟨rfl,rfl⟩)
    ·rcases p_ with _|_|_|p_
     ·have S26:=St.id hPh_
      exact tG_ rfl hd_ (gv_look_none (kT:=3) (eT:=42) (k:=((k:Nat):Int)) (z:=nS_) (S26.get 4 rfl) rfl kr_ kr_ kr_ kr_ kr_ hno ⟨rfl,rfl⟩)
     ·have S27:=St.id hPh_
      exact tG_ rfl hd_ (gv_look_none (kT:=3) (eT:=42) (k:=((k:Nat):Int)) (z:=nS_) (S27.get 5 rfl) rfl kr_ kr_ kr_ kr_ kr_ hno ⟨rfl,rfl⟩)
     ·exact absurd (hu_ 1 dc_ kr_) dc_
     ·exact absurd hp_ (by simp)
    ·exact tG_ rfl hd_ (gV (sl g5 0 512 512) ⟨rfl,rfl⟩)
    ·exact absurd hiE_ dc_
    ·exact absurd hiE_ dc_
    ·exact absurd hi_ om_
   ·intro k_ c_ vals_ w1 hk_ hPh_ hd_
    rcases k_ with _|_|k_
    ·have S29:=St.id hPh_
     refine tG_ rfl hd_ (gv_slit (e:=31) (sz:=1) (z:=nS_) (by_:=24) (vs:=#[(0,sl g5 0 512 512)]) (cells:=#[sl g5 0 512 512]) S29 rfl kr_ ⟨by kernel_rfl⟩ kr_ kr_ kr_ kr_ (fun g30 w31 hg32 S33=>⟨(g30,c_.2),rfl, ?_,S33⟩))
     intro i_ hi_ hne_ hdp_
     rcases i_ with _|_|_|_|_|_|_|_|_|_|_|_|_|_|i_
     ·rfl
     ·rfl
     ·rfl
     ·rfl
     ·rfl
     ·rfl
     ·rfl
     ·rfl
     ·rfl
     ·rfl
     ·rfl
     ·rfl
     ·exact absurd rfl hne_
     ·exact dN_ hdp_
     ·exact absurd hi_ om_
    ·have S34:=St.id hPh_
     refine tG_ rfl hd_ (gv_append (e:=31) (sz:=1) (n:=0) (v:=(nS_)) (vals:=[]) (z:=nS_) (by_:=24) (m:=1) (c':=1) (ad:=⟨c_.1,0,none⟩) (news:=[sl g5 0 512 512]) (St.swap S34) rfl kr_ ⟨by kernel_rfl⟩ rfl kr_ kr_ dc_ rfl (row_news (S34.blk 0 rfl)) (by intro u hu;simp at hu;subst hu;rfl) om_ om_ (fun v36 w35 S37=>⟨(c_.1,v36),rfl, ?_,S37⟩))
     intro i_ hi_ hne_ hdp_
     rcases i_ with _|_|_|_|_|_|_|_|_|_|_|_|_|_|i_
     ·rfl
     ·rfl
     ·rfl
     ·rfl
     ·rfl
     ·rfl
     ·rfl
     ·rfl
     ·rfl
     ·rfl
     ·rfl
     ·rfl
     ·rfl
     ·exact absurd rfl hne_
     ·exact absurd hi_ om_
    ·exact absurd hk_ (by simp)
   ·intro c_ w1 hPh_
    have S38:=St.id hPh_
    refine (g_ (gv_put_new (kT:=3) (eT:=42) (g:=gm) (clock:=clock) (es:=es.map PEnt.ent) (k:=((k:Nat):Int)) (v:=c_.2) S38 5 rfl rfl kr_ kr_ kr_ kr_ kr_ hno (L':=(vec 31 1 c_.2 1 [sl g5 0 512 512]::row c_.1 #[sl g5 0 512 512] 31::row g5 (bvs d) 5::dR g gd (512*s.last.length) gm true left s.life s.rd s.wr s.fl s.rf (s.pend.length:Int)::row gd (bvs s.last.flatten) 5::pt gm (mapO (es.map PEnt.ent++[⟨((k:Nat):Int),c_.2,clock⟩]) (clock+1))::stars (es.map PEnt.ast)::L)) rfl (fun w39 S40=>wE ?_)))
    refine nSR (pv (pq g) (pv (pq g) (pv (po g 5) (pv (po g 6) (lR (iv s.wr) S40 3 6 (pv (iv (inc s.wr)) (pv (pq g) (pv (po g 5) (pv (po g 6) (sS S40 3 rfl 6 (iv (inc s.wr)) fun w41 S42=>wER (pv (pq g) (pv (pq g) ?_))))))))))))
    refine pv (po g 5) (pv (po g 9) (lR (iv (s.pend.length:Int)) S42 3 9 (gI .i64 (IntKind.i64.wrap ((s.pend.length:Int)+1)) ((s.pend.length+1:Nat):Int) wq_ (pv (pq g) (pv (po g 5) (pv (po g 9) (sS S42 3 rfl 9 (nI_ (s.pend.length+1)) fun w43 S44=>wER (pv (pq g) (g_ (gv_call (args:=#[pq g]) rfl Try.func83 kr_ rfl rfl kr_ ?_))))))))))
    have S45:St F w0 w43 (vec 31 1 c_.2 1 [sl g5 0 512 512]::row g5 (bvs d) 5::dR g gd (512*s.last.length) gm true left s.life s.rd (inc s.wr) s.fl s.rf ((s.pend.length+1:Nat):Int)::row gd (bvs s.last.flatten) 5::pt gm (mapO (es.map PEnt.ent++[⟨((k:Nat):Int),c_.2,clock⟩]) (clock+1))::stars (es.map PEnt.ast)::L):=St.pm 7 [0,2,3,4,5,6] S44
    have em:es.map PEnt.ent++[⟨((k:Nat):Int),c_.2,clock⟩]=(es++[(⟨k,c_.2,clock,[(g5,d)]⟩:PEnt)]).map PEnt.ent:=by rw [List.map_append];rfl
    have S46:St F w0 w43 (dR g gd (512*s.last.length) gm true left s.life s.rd (inc s.wr) s.fl s.rf ((s.pend.length+1:Nat):Int)::row gd (bvs s.last.flatten) 5::pt gm (mapO (es.map PEnt.ent++[⟨((k:Nat):Int),c_.2,clock⟩]) (clock+1))::stars ((es++[(⟨k,c_.2,clock,[(g5,d)]⟩:PEnt)]).map PEnt.ast)::L):=entry_new S45
    rw [em] at S46
    refine Calls.mono (spend_true S46) ?_
    rintro _ w47 ⟨rfl,S48⟩
    refine ⟨_,rfl,(wER (pv (iv 0) (wE (then_n (wp_ret (bA (iv 0) ?_))))))⟩
    have hl1:((s.pend.length+1:Nat):Int)=((s.pend++[(k,d)]).length:Nat):=by rw [List.length_append];rfl
    rw [hl1] at S48
    exact ⟨rfl,St.pclose (gd:=gd) (gm:=gm) (clock:=clock+1) (es:=es++[(⟨k,c_.2,clock,[(g5,d)]⟩:PEnt)]) (fused:=true) (left:=dec left) (s:={s with pend:=s.pend++[(k,d)],wr:=inc s.wr,left:=spent s.left}) S48 (PFacts.refuse (s':={s with pend:=s.pend++[(k,d)],wr:=inc s.wr,left:=spent s.left}) (hf.write_new (s':={s with pend:=s.pend++[(k,d)]}) (go:=g5) (d:=d) (v':=c_.2) hp hno hk hd hpn rfl rfl rfl) rfl rfl hdc.symm (fun _=>hde) hlb)⟩
  ·change St F w0 w (dR g gd (512*s.last.length) gm false left s.life s.rd s.wr s.fl s.rf (s.pend.length:Int)::row gd (bvs s.last.flatten) 5::pt gm (mapO (es.map PEnt.ent) clock)::stars (es.map PEnt.ast)::L) at S
   refine eN (fr [pq g,nI_ k,.slice A d.length cd] 62) Try.func33 rfl (sR (pv (iv 0) (wE (nS (sR (pv (pq g) (pv (nI_ k) (sP Try.func79 #[pq g,nI_ k] (there_in hb rfl hn2 hk S) fun w1 S2=>pv (iv 0) (wER (pv (iv 0) (dN 0 0 (fun hd3=>False.elim om_) fun _=>wE ?_)))))))))))
   refine nCF (wp_skip (nS (sR (pv (.slice A d.length cd) (pv (iv (d.length:Nat)) (dN (d.length:Nat) 512 (fun hd4=>False.elim om_) fun _=>wE (nCF (wp_skip (nSR (g_ (gv_make (e:=5) (u:=512) (v:=512) (z:=.int .u8 0) (sz:=1) (by_:=1) (n:=512) (c:=512) (cs:=(bvs (List.replicate 512 0))) S2 rfl kr_ ⟨by kernel_rfl⟩ kr_ kr_ rfl rfl (Nat.le_refl _) dc_ dc_ (mk_bytes _) (fun g5 w6 hg7 S8=>pv (sl g5 0 512 512) (wER ?_)))))))))))))
   refine pv (sl g5 0 512 512) (pv (.slice A d.length cd) (g_ (gv_copy (e:=5) (off:=0) (dLen:=512) (dCap:=512) (sLen:=d.length) (sCap:=cd) (A:=A) (B:=(List.replicate 512 0)) (l:=d) S8 0 rfl rfl kr_ kr_ kr_ kr_ rfl (hr.out _ [row g5 (bvs (List.replicate 512 0)) 5,dR g gd (512*s.last.length) gm false left s.life s.rd s.wr s.fl s.rf (s.pend.length:Int),row gd (bvs s.last.flatten) 5,pt gm (mapO (es.map PEnt.ent) clock),stars (es.map PEnt.ast)] S8) (by simp) (L':=(row g5 (bvs d) 5::dR g gd (512*s.last.length) gm false left s.life s.rd s.wr s.fl s.rf (s.pend.length:Int)::row gd (bvs s.last.flatten) 5::pt gm (mapO (es.map PEnt.ent) clock)::stars (es.map PEnt.ast)::L)) (by rw [copy512 hd];rfl) (fun w9 m11 S10=>wE (nS ?_)))))
   have S12:St F w0 w9 (vec 31 1 (nS_) 0 []::row g5 (bvs d) 5::dR g gd (512*s.last.length) gm false left s.life s.rd s.wr s.fl s.rf (s.pend.length:Int)::row gd (bvs s.last.flatten) 5::pt gm (mapO (es.map PEnt.ent) clock)::stars (es.map PEnt.ast)::L):=St.vec_nil S10
   refine wp_region_phu (γ:=Nat×Value) 14 [12,13] (fun (c_:Nat×Value) (i_:Nat)=>(match i_ with|0=>pq g|1=>pq g|2=>po g 1|3=>.map (some gm)|4=>nI_ k|5=>pq g|6=>pq g|7=>po g 1|8=>.map (some gm)|9=>nI_ k|10=>nS_|11=>sl g5 0 512 512|12=>sl c_.1 0 1 1|13=>c_.2|_=>undef:Value)) (fun (c_:Nat×Value) (p_:Nat) (w_:World)=>(match p_ with|0=>St F w0 w_ (vec 31 1 (nS_) 0 []::row g5 (bvs d) 5::dR g gd (512*s.last.length) gm false left s.life s.rd s.wr s.fl s.rf (s.pend.length:Int)::row gd (bvs s.last.flatten) 5::pt gm (mapO (es.map PEnt.ent) clock)::stars (es.map PEnt.ast)::L)|1=>St F w0 w_ (row c_.1 #[sl g5 0 512 512] 31::vec 31 1 (nS_) 0 []::row g5 (bvs d) 5::dR g gd (512*s.last.length) gm false left s.life s.rd s.wr s.fl s.rf (s.pend.length:Int)::row gd (bvs s.last.flatten) 5::pt gm (mapO (es.map PEnt.ent) clock)::stars (es.map PEnt.ast)::L)|_=>St F w0 w_ (vec 31 1 c_.2 1 [sl g5 0 512 512]::row c_.1 #[sl g5 0 512 512] 31::row g5 (bvs d) 5::dR g gd (512*s.last.length) gm false left s.life s.rd s.wr s.fl s.rf (s.pend.length:Int)::row gd (bvs s.last.flatten) 5::pt gm (mapO (es.map PEnt.ent) clock)::stars (es.map PEnt.ast)::L):Prop)) (0,undef) kr_ kr_ kr_ kr_ (S12.drew) ?_ ?_ ?_
   ·intro i_ c_ p_ vals_ w1 hi_ hiE_ hp_ hk_ hu_ hPh_ hd_
    rcases i_ with _|_|_|_|_|_|_|_|_|_|_|_|_|_|i_
    ·exact tG_ rfl hd_ (gV (pq g) ⟨rfl,rfl⟩)
    ·exact tG_ rfl hd_ (gV (pq g) ⟨rfl,rfl⟩)
    ·exact tG_ rfl hd_ (gV (po g 1) ⟨rfl,rfl⟩)
    ·rcases p_ with _|_|_|p_
     ·have S16:=St.id hPh_
      exact tG_ rfl hd_ (gL (.map (some gm)) rfl (((S16.blk 2 rfl).cell 1).trans rfl) ⟨rfl,rfl⟩)
     ·have S17:=St.id hPh_
      exact tG_ rfl hd_ (gL (.map (some gm)) rfl (((S17.blk 3 rfl).cell 1).trans rfl) ⟨rfl,rfl⟩)
     ·have S18:=St.id hPh_
      exact tG_ rfl hd_ (gL (.map (some gm)) rfl (((S18.blk 3 rfl).cell 1).trans rfl) ⟨rfl,rfl⟩)
     ·exact absurd hp_ (by simp)
    ·exact tG_ rfl hd_ (gV (nI_ k) ⟨rfl,rfl⟩)
    ·exact tG_ rfl hd_ (gV (pq g) ⟨rfl,rfl⟩)
    ·exact tG_ rfl hd_ (gV (pq g) ⟨rfl,rfl⟩)
    ·exact tG_ rfl hd_ (gV (po g 1) ⟨rfl,rfl⟩)
    ·rcases p_ with _|_|_|p_
     ·have S23:=St.id hPh_
      exact tG_ rfl hd_ (gL (.map (some gm)) rfl (((S23.blk 2 rfl).cell 1).trans rfl) ⟨rfl,rfl⟩)
     ·have S24:=St.id hPh_
      exact tG_ rfl hd_ (gL (.map (some gm)) rfl (((S24.blk 3 rfl).cell 1).trans rfl) ⟨rfl,rfl⟩)
     ·exact absurd (hu_ 1 dc_ kr_) dc_
     ·exact absurd hp_ (by simp)
    ·exact tG_ rfl hd_ (gV (nI_ k) ⟨rfl,rfl⟩)
    ·rcases p_ with _|_|_|p_
     ·have S26:=St.id hPh_
      exact tG_ rfl hd_ (gv_look_none (kT:=3) (eT:=42) (k:=((k:Nat):Int)) (z:=nS_) (S26.get 4 rfl) rfl kr_ kr_ kr_ kr_ kr_ hno ⟨rfl,rfl⟩)
     ·have S27:=St.id hPh_
      exact tG_ rfl hd_ (gv_look_none (kT:=3) (eT:=42) (k:=((k:Nat):Int)) (z:=nS_) (S27.get 5 rfl) rfl kr_ kr_ kr_ kr_ kr_ hno ⟨rfl,rfl⟩)
     ·exact absurd (hu_ 1 dc_ kr_) dc_
     ·exact absurd hp_ (by simp)
    ·exact tG_ rfl hd_ (gV (sl g5 0 512 512) ⟨rfl,rfl⟩)
    ·exact absurd hiE_ dc_
    ·exact absurd hiE_ dc_
    ·exact absurd hi_ om_
   ·intro k_ c_ vals_ w1 hk_ hPh_ hd_
    rcases k_ with _|_|k_
    ·have S29:=St.id hPh_
     refine tG_ rfl hd_ (gv_slit (e:=31) (sz:=1) (z:=nS_) (by_:=24) (vs:=#[(0,sl g5 0 512 512)]) (cells:=#[sl g5 0 512 512]) S29 rfl kr_ ⟨by kernel_rfl⟩ kr_ kr_ kr_ kr_ (fun g30 w31 hg32 S33=>⟨(g30,c_.2),rfl, ?_,S33⟩))
     intro i_ hi_ hne_ hdp_
     rcases i_ with _|_|_|_|_|_|_|_|_|_|_|_|_|_|i_
     ·rfl
     ·rfl
     ·rfl
     ·rfl
     ·rfl
     ·rfl
     ·rfl
     ·rfl
     ·rfl
     ·rfl
     ·rfl
     ·rfl
     ·exact absurd rfl hne_
     ·exact dN_ hdp_
     ·exact absurd hi_ om_
    ·have S34:=St.id hPh_
     refine tG_ rfl hd_ (gv_append (e:=31) (sz:=1) (n:=0) (v:=(nS_)) (vals:=[]) (z:=nS_) (by_:=24) (m:=1) (c':=1) (ad:=⟨c_.1,0,none⟩) (news:=[sl g5 0 512 512]) (St.swap S34) rfl kr_ ⟨by kernel_rfl⟩ rfl kr_ kr_ dc_ rfl (row_news (S34.blk 0 rfl)) (by intro u hu;simp at hu;subst hu;rfl) om_ om_ (fun v36 w35 S37=>⟨(c_.1,v36),rfl, ?_,S37⟩))
     intro i_ hi_ hne_ hdp_
     rcases i_ with _|_|_|_|_|_|_|_|_|_|_|_|_|_|i_
     ·rfl
     ·rfl
     ·rfl
     ·rfl
     ·rfl
     ·rfl
     ·rfl
     ·rfl
     ·rfl
     ·rfl
     ·rfl
     ·rfl
     ·rfl
     ·exact absurd rfl hne_
     ·exact absurd hi_ om_
    ·exact absurd hk_ (by simp)
   ·intro c_ w1 hPh_
    have S38:=St.id hPh_
    refine (g_ (gv_put_new (kT:=3) (eT:=42) (g:=gm) (clock:=clock) (es:=es.map PEnt.ent) (k:=((k:Nat):Int)) (v:=c_.2) S38 5 rfl rfl kr_ kr_ kr_ kr_ kr_ hno (L':=(vec 31 1 c_.2 1 [sl g5 0 512 512]::row c_.1 #[sl g5 0 512 512] 31::row g5 (bvs d) 5::dR g gd (512*s.last.length) gm false left s.life s.rd s.wr s.fl s.rf (s.pend.length:Int)::row gd (bvs s.last.flatten) 5::pt gm (mapO (es.map PEnt.ent++[⟨((k:Nat):Int),c_.2,clock⟩]) (clock+1))::stars (es.map PEnt.ast)::L)) rfl (fun w39 S40=>wE ?_)))
    refine nSR (pv (pq g) (pv (pq g) (pv (po g 5) (pv (po g 6) (lR (iv s.wr) S40 3 6 (pv (iv (inc s.wr)) (pv (pq g) (pv (po g 5) (pv (po g 6) (sS S40 3 rfl 6 (iv (inc s.wr)) fun w41 S42=>wER (pv (pq g) (pv (pq g) ?_))))))))))))
    refine pv (po g 5) (pv (po g 9) (lR (iv (s.pend.length:Int)) S42 3 9 (gI .i64 (IntKind.i64.wrap ((s.pend.length:Int)+1)) ((s.pend.length+1:Nat):Int) wq_ (pv (pq g) (pv (po g 5) (pv (po g 9) (sS S42 3 rfl 9 (nI_ (s.pend.length+1)) fun w43 S44=>wER (pv (pq g) (g_ (gv_call (args:=#[pq g]) rfl Try.func83 kr_ rfl rfl kr_ ?_))))))))))
    have S45:St F w0 w43 (vec 31 1 c_.2 1 [sl g5 0 512 512]::row g5 (bvs d) 5::dR g gd (512*s.last.length) gm false left s.life s.rd (inc s.wr) s.fl s.rf ((s.pend.length+1:Nat):Int)::row gd (bvs s.last.flatten) 5::pt gm (mapO (es.map PEnt.ent++[⟨((k:Nat):Int),c_.2,clock⟩]) (clock+1))::stars (es.map PEnt.ast)::L):=St.pm 7 [0,2,3,4,5,6] S44
    have em:es.map PEnt.ent++[⟨((k:Nat):Int),c_.2,clock⟩]=(es++[(⟨k,c_.2,clock,[(g5,d)]⟩:PEnt)]).map PEnt.ent:=by rw [List.map_append];rfl
    have S46:St F w0 w43 (dR g gd (512*s.last.length) gm false left s.life s.rd (inc s.wr) s.fl s.rf ((s.pend.length+1:Nat):Int)::row gd (bvs s.last.flatten) 5::pt gm (mapO (es.map PEnt.ent++[⟨((k:Nat):Int),c_.2,clock⟩]) (clock+1))::stars ((es++[(⟨k,c_.2,clock,[(g5,d)]⟩:PEnt)]).map PEnt.ast)::L):=entry_new S45
    rw [em] at S46
    refine Calls.mono (spend_false S46) ?_
    rintro _ w47 ⟨rfl,S48⟩
    refine ⟨_,rfl,(wER (pv (iv 0) (wE (then_n (wp_ret (bA (iv 0) ?_))))))⟩
    have hl1:((s.pend.length+1:Nat):Int)=((s.pend++[(k,d)]).length:Nat):=by rw [List.length_append];rfl
    rw [hl1] at S48
    exact ⟨rfl,St.pclose (gd:=gd) (gm:=gm) (clock:=clock+1) (es:=es++[(⟨k,c_.2,clock,[(g5,d)]⟩:PEnt)]) (fused:=false) (left:=left) (s:={s with pend:=s.pend++[(k,d)],wr:=inc s.wr,left:=spent s.left}) S48 (PFacts.refuse (s':={s with pend:=s.pend++[(k,d)],wr:=inc s.wr,left:=spent s.left}) (hf.write_new (s':={s with pend:=s.pend++[(k,d)]}) (go:=g5) (d:=d) (v':=c_.2) hp hno hk hd hpn rfl rfl rfl) rfl rfl hdc.symm (fun h=>absurd h (of_decide_eq_false hdc)) hlb)⟩
 ·have hqm:p.ws.length≤s.pend.length:=by
   have h2:p.ws.length=(pendOf s k).length:=by rw [hp,List.length_map]
   have h3:(pendOf s k).length≤s.pend.length:=by unfold pendOf;rw [List.length_map];exact List.length_filter_le _ _
   omega
  subst hat
  rcases hsp with ⟨rfl,hdc,hde⟩|⟨rfl,hdc,hde⟩
  ·change St F w0 w (dR g gd (512*s.last.length) gm true left s.life s.rd s.wr s.fl s.rf (s.pend.length:Int)::row gd (bvs s.last.flatten) 5::pt gm (mapO (es.map PEnt.ent) clock)::stars (es.map PEnt.ast)::L) at S
   refine eN (fr [pq g,nI_ p.at_,.slice A d.length cd] 62) Try.func33 rfl (sR (pv (iv 0) (wE (nS (sR (pv (pq g) (pv (nI_ p.at_) (sP Try.func79 #[pq g,nI_ p.at_] (there_in hb rfl hn2 hk S) fun w1 S2=>pv (iv 0) (wER (pv (iv 0) (dN 0 0 (fun hd3=>False.elim om_) fun _=>wE ?_)))))))))))
   refine nCF (wp_skip (nS (sR (pv (.slice A d.length cd) (pv (iv (d.length:Nat)) (dN (d.length:Nat) 512 (fun hd4=>False.elim om_) fun _=>wE (nCF (wp_skip (nSR (g_ (gv_make (e:=5) (u:=512) (v:=512) (z:=.int .u8 0) (sz:=1) (by_:=1) (n:=512) (c:=512) (cs:=(bvs (List.replicate 512 0))) S2 rfl kr_ ⟨by kernel_rfl⟩ kr_ kr_ rfl rfl (Nat.le_refl _) dc_ dc_ (mk_bytes _) (fun g5 w6 hg7 S8=>pv (sl g5 0 512 512) (wER ?_)))))))))))))
   refine pv (sl g5 0 512 512) (pv (.slice A d.length cd) (g_ (gv_copy (e:=5) (off:=0) (dLen:=512) (dCap:=512) (sLen:=d.length) (sCap:=cd) (A:=A) (B:=(List.replicate 512 0)) (l:=d) S8 0 rfl rfl kr_ kr_ kr_ kr_ rfl (hr.out _ [row g5 (bvs (List.replicate 512 0)) 5,dR g gd (512*s.last.length) gm true left s.life s.rd s.wr s.fl s.rf (s.pend.length:Int),row gd (bvs s.last.flatten) 5,pt gm (mapO (es.map PEnt.ent) clock),stars (es.map PEnt.ast)] S8) (by simp) (L':=(row g5 (bvs d) 5::dR g gd (512*s.last.length) gm true left s.life s.rd s.wr s.fl s.rf (s.pend.length:Int)::row gd (bvs s.last.flatten) 5::pt gm (mapO (es.map PEnt.ent) clock)::stars (es.map PEnt.ast)::L)) (by rw [copy512 hd];rfl) (fun w9 m11 S10=>wE (nS ?_)))))
   have S12:St F w0 w9 (vec 31 1 p.v p.ws.length (p.ws.map PEnt.val)::stars (p.ws.map PEnt.row)::stars ((es.take j).map PEnt.ast)::stars ((es.drop (j+1)).map PEnt.ast)::row g5 (bvs d) 5::dR g gd (512*s.last.length) gm true left s.life s.rd s.wr s.fl s.rf (s.pend.length:Int)::row gd (bvs s.last.flatten) 5::pt gm (mapO (es.map PEnt.ent) clock)::L):=entry_out [row g5 (bvs d) 5,dR g gd (512*s.last.length) gm true left s.life s.rd s.wr s.fl s.rf (s.pend.length:Int),row gd (bvs s.last.flatten) 5,pt gm (mapO (es.map PEnt.ent) clock)] S10 hj
   refine wp_region_phu (γ:=Nat×Value) 14 [12,13] (fun (c_:Nat×Value) (i_:Nat)=>(match i_ with|0=>pq g|1=>pq g|2=>po g 1|3=>.map (some gm)|4=>nI_ p.at_|5=>pq g|6=>pq g|7=>po g 1|8=>.map (some gm)|9=>nI_ p.at_|10=>p.v|11=>sl g5 0 512 512|12=>sl c_.1 0 1 1|13=>c_.2|_=>undef:Value)) (fun (c_:Nat×Value) (p_:Nat) (w_:World)=>(match p_ with|0=>St F w0 w_ (vec 31 1 p.v p.ws.length (p.ws.map PEnt.val)::stars (p.ws.map PEnt.row)::stars ((es.take j).map PEnt.ast)::stars ((es.drop (j+1)).map PEnt.ast)::row g5 (bvs d) 5::dR g gd (512*s.last.length) gm true left s.life s.rd s.wr s.fl s.rf (s.pend.length:Int)::row gd (bvs s.last.flatten) 5::pt gm (mapO (es.map PEnt.ent) clock)::L)|1=>St F w0 w_ (row c_.1 #[sl g5 0 512 512] 31::vec 31 1 p.v p.ws.length (p.ws.map PEnt.val)::stars (p.ws.map PEnt.row)::stars ((es.take j).map PEnt.ast)::stars ((es.drop (j+1)).map PEnt.ast)::row g5 (bvs d) 5::dR g gd (512*s.last.length) gm true left s.life s.rd s.wr s.fl s.rf (s.pend.length:Int)::row gd (bvs s.last.flatten) 5::pt gm (mapO (es.map PEnt.ent) clock)::L)|_=>St F w0 w_ (vec 31 1 c_.2 (p.ws.length+1) (p.ws.map PEnt.val++[sl g5 0 512 512])::row c_.1 #[sl g5 0 512 512] 31::stars (p.ws.map PEnt.row)::stars ((es.take j).map PEnt.ast)::stars ((es.drop (j+1)).map PEnt.ast)::row g5 (bvs d) 5::dR g gd (512*s.last.length) gm true left s.life s.rd s.wr s.fl s.rf (s.pend.length:Int)::row gd (bvs s.last.flatten) 5::pt gm (mapO (es.map PEnt.ent) clock)::L):Prop)) (0,undef) kr_ kr_ kr_ kr_ (S12.drew) ?_ ?_ ?_
   ·intro i_ c_ p_ vals_ w1 hi_ hiE_ hp_ hk_ hu_ hPh_ hd_
    rcases i_ with _|_|_|_|_|_|_|_|_|_|_|_|_|_|i_
    ·exact tG_ rfl hd_ (gV (pq g) ⟨rfl,rfl⟩)
    ·exact tG_ rfl hd_ (gV (pq g) ⟨rfl,rfl⟩)
    ·exact tG_ rfl hd_ (gV (po g 1) ⟨rfl,rfl⟩)
    ·rcases p_ with _|_|_|p_
     ·have S16:=St.id hPh_
      exact tG_ rfl hd_ (gL (.map (some gm)) rfl (((S16.blk 5 rfl).cell 1).trans rfl) ⟨rfl,rfl⟩)
     ·have S17:=St.id hPh_
      exact tG_ rfl hd_ (gL (.map (some gm)) rfl (((S17.blk 6 rfl).cell 1).trans rfl) ⟨rfl,rfl⟩)
     ·have S18:=St.id hPh_
      exact tG_ rfl hd_ (gL (.map (some gm)) rfl (((S18.blk 6 rfl).cell 1).trans rfl) ⟨rfl,rfl⟩)
     ·exact absurd hp_ (by simp)
    ·exact tG_ rfl hd_ (gV (nI_ p.at_) ⟨rfl,rfl⟩)
    ·exact tG_ rfl hd_ (gV (pq g) ⟨rfl,rfl⟩)
    ·exact tG_ rfl hd_ (gV (pq g) ⟨rfl,rfl⟩)
    ·exact tG_ rfl hd_ (gV (po g 1) ⟨rfl,rfl⟩)
    ·rcases p_ with _|_|_|p_
     ·have S23:=St.id hPh_
      exact tG_ rfl hd_ (gL (.map (some gm)) rfl (((S23.blk 5 rfl).cell 1).trans rfl) ⟨rfl,rfl⟩)
     ·have S24:=St.id hPh_
      exact tG_ rfl hd_ (gL (.map (some gm)) rfl (((S24.blk 6 rfl).cell 1).trans rfl) ⟨rfl,rfl⟩)
     ·exact absurd (hu_ 1 dc_ kr_) dc_
     ·exact absurd hp_ (by simp)
    ·exact tG_ rfl hd_ (gV (nI_ p.at_) ⟨rfl,rfl⟩)
    ·rcases p_ with _|_|_|p_
     ·have S26:=St.id hPh_
      exact tG_ rfl hd_ (gv_look_some (kT:=3) (eT:=42) (k:=((p.at_:Nat):Int)) (S26.get 7 rfl) rfl kr_ kr_ kr_ kr_ hje hke hfe ⟨rfl,rfl⟩)
     ·have S27:=St.id hPh_
      exact tG_ rfl hd_ (gv_look_some (kT:=3) (eT:=42) (k:=((p.at_:Nat):Int)) (S27.get 8 rfl) rfl kr_ kr_ kr_ kr_ hje hke hfe ⟨rfl,rfl⟩)
     ·exact absurd (hu_ 1 dc_ kr_) dc_
     ·exact absurd hp_ (by simp)
    ·exact tG_ rfl hd_ (gV (sl g5 0 512 512) ⟨rfl,rfl⟩)
    ·exact absurd hiE_ dc_
    ·exact absurd hiE_ dc_
    ·exact absurd hi_ om_
   ·intro k_ c_ vals_ w1 hk_ hPh_ hd_
    rcases k_ with _|_|k_
    ·have S29:=St.id hPh_
     refine tG_ rfl hd_ (gv_slit (e:=31) (sz:=1) (z:=nS_) (by_:=24) (vs:=#[(0,sl g5 0 512 512)]) (cells:=#[sl g5 0 512 512]) S29 rfl kr_ ⟨by kernel_rfl⟩ kr_ kr_ kr_ kr_ (fun g30 w31 hg32 S33=>⟨(g30,c_.2),rfl, ?_,S33⟩))
     intro i_ hi_ hne_ hdp_
     rcases i_ with _|_|_|_|_|_|_|_|_|_|_|_|_|_|i_
     ·rfl
     ·rfl
     ·rfl
     ·rfl
     ·rfl
     ·rfl
     ·rfl
     ·rfl
     ·rfl
     ·rfl
     ·rfl
     ·rfl
     ·exact absurd rfl hne_
     ·exact dN_ hdp_
     ·exact absurd hi_ om_
    ·have S34:=St.id hPh_
     refine tG_ rfl hd_ (gv_append (e:=31) (sz:=1) (n:=p.ws.length) (v:=p.v) (vals:=(p.ws.map PEnt.val)) (z:=nS_) (by_:=24) (m:=1) (c':=1) (ad:=⟨c_.1,0,none⟩) (news:=[sl g5 0 512 512]) (St.swap S34) rfl kr_ ⟨by kernel_rfl⟩ rfl kr_ kr_ dc_ rfl (row_news (S34.blk 0 rfl)) (by intro u hu;simp at hu;subst hu;rfl) om_ om_ (fun v36 w35 S37=>⟨(c_.1,v36),rfl, ?_,S37⟩))
     intro i_ hi_ hne_ hdp_
     rcases i_ with _|_|_|_|_|_|_|_|_|_|_|_|_|_|i_
     ·rfl
     ·rfl
     ·rfl
     ·rfl
     ·rfl
     ·rfl
     ·rfl
     ·rfl
     ·rfl
     ·rfl
     ·rfl
     ·rfl
     ·rfl
     ·exact absurd rfl hne_
     ·exact absurd hi_ om_
    ·exact absurd hk_ (by simp)
   ·intro c_ w1 hPh_
    have S38:=St.id hPh_
    refine (g_ (gv_put_old (kT:=3) (eT:=42) (g:=gm) (clock:=clock) (es:=es.map PEnt.ent) (k:=((p.at_:Nat):Int)) (v:=c_.2) S38 8 rfl rfl kr_ kr_ kr_ kr_ kr_ hje hke hfe (L':=(vec 31 1 c_.2 (p.ws.length+1) (p.ws.map PEnt.val++[sl g5 0 512 512])::row c_.1 #[sl g5 0 512 512] 31::stars (p.ws.map PEnt.row)::stars ((es.take j).map PEnt.ast)::stars ((es.drop (j+1)).map PEnt.ast)::row g5 (bvs d) 5::dR g gd (512*s.last.length) gm true left s.life s.rd s.wr s.fl s.rf (s.pend.length:Int)::row gd (bvs s.last.flatten) 5::pt gm (mapO ((es.map PEnt.ent).set j ⟨((p.at_:Nat):Int),c_.2,p.b⟩) clock)::L)) rfl (fun w39 S40=>wE ?_)))
    refine nSR (pv (pq g) (pv (pq g) (pv (po g 5) (pv (po g 6) (lR (iv s.wr) S40 6 6 (pv (iv (inc s.wr)) (pv (pq g) (pv (po g 5) (pv (po g 6) (sS S40 6 rfl 6 (iv (inc s.wr)) fun w41 S42=>wER (pv (pq g) (pv (pq g) ?_))))))))))))
    refine pv (po g 5) (pv (po g 9) (lR (iv (s.pend.length:Int)) S42 6 9 (gI .i64 (IntKind.i64.wrap ((s.pend.length:Int)+1)) ((s.pend.length+1:Nat):Int) wq_ (pv (pq g) (pv (po g 5) (pv (po g 9) (sS S42 6 rfl 9 (nI_ (s.pend.length+1)) fun w43 S44=>wER (pv (pq g) (g_ (gv_call (args:=#[pq g]) rfl Try.func83 kr_ rfl rfl kr_ ?_))))))))))
    have S45:St F w0 w43 (vec 31 1 c_.2 (p.ws.length+1) (p.ws.map PEnt.val++[sl g5 0 512 512])::stars (p.ws.map PEnt.row)::stars ((es.take j).map PEnt.ast)::stars ((es.drop (j+1)).map PEnt.ast)::row g5 (bvs d) 5::dR g gd (512*s.last.length) gm true left s.life s.rd (inc s.wr) s.fl s.rf ((s.pend.length+1:Nat):Int)::row gd (bvs s.last.flatten) 5::pt gm (mapO ((es.map PEnt.ent).set j ⟨((p.at_:Nat):Int),c_.2,p.b⟩) clock)::L):=St.pm 9 [0,2,3,4,5,6,7,8] S44
    have em:(es.map PEnt.ent).set j ⟨((p.at_:Nat):Int),c_.2,p.b⟩=(es.set j ⟨p.at_,c_.2,p.b,p.ws++[(g5,d)]⟩).map PEnt.ent:=by rw [map_set];rfl
    have S46:St F w0 w43 (dR g gd (512*s.last.length) gm true left s.life s.rd (inc s.wr) s.fl s.rf ((s.pend.length+1:Nat):Int)::row gd (bvs s.last.flatten) 5::pt gm (mapO ((es.map PEnt.ent).set j ⟨((p.at_:Nat):Int),c_.2,p.b⟩) clock)::stars ((es.set j ⟨p.at_,c_.2,p.b,p.ws++[(g5,d)]⟩).map PEnt.ast)::L):=entry_in hj S45
    rw [em] at S46
    refine Calls.mono (spend_true S46) ?_
    rintro _ w47 ⟨rfl,S48⟩
    refine ⟨_,rfl,(wER (pv (iv 0) (wE (then_n (wp_ret (bA (iv 0) ?_))))))⟩
    have hl1:((s.pend.length+1:Nat):Int)=((s.pend++[(p.at_,d)]).length:Nat):=by rw [List.length_append];rfl
    rw [hl1] at S48
    exact ⟨rfl,St.pclose (gd:=gd) (gm:=gm) (clock:=clock) (es:=es.set j ⟨p.at_,c_.2,p.b,p.ws++[(g5,d)]⟩) (fused:=true) (left:=dec left) (s:={s with pend:=s.pend++[(p.at_,d)],wr:=inc s.wr,left:=spent s.left}) S48 (PFacts.refuse (s':={s with pend:=s.pend++[(p.at_,d)],wr:=inc s.wr,left:=spent s.left}) (hf.write_old (s':={s with pend:=s.pend++[(p.at_,d)]}) (go:=g5) (d:=d) (v':=c_.2) hj rfl hk hd hpn rfl rfl rfl) rfl rfl hdc.symm (fun _=>hde) hlb)⟩
  ·change St F w0 w (dR g gd (512*s.last.length) gm false left s.life s.rd s.wr s.fl s.rf (s.pend.length:Int)::row gd (bvs s.last.flatten) 5::pt gm (mapO (es.map PEnt.ent) clock)::stars (es.map PEnt.ast)::L) at S
   refine eN (fr [pq g,nI_ p.at_,.slice A d.length cd] 62) Try.func33 rfl (sR (pv (iv 0) (wE (nS (sR (pv (pq g) (pv (nI_ p.at_) (sP Try.func79 #[pq g,nI_ p.at_] (there_in hb rfl hn2 hk S) fun w1 S2=>pv (iv 0) (wER (pv (iv 0) (dN 0 0 (fun hd3=>False.elim om_) fun _=>wE ?_)))))))))))
   refine nCF (wp_skip (nS (sR (pv (.slice A d.length cd) (pv (iv (d.length:Nat)) (dN (d.length:Nat) 512 (fun hd4=>False.elim om_) fun _=>wE (nCF (wp_skip (nSR (g_ (gv_make (e:=5) (u:=512) (v:=512) (z:=.int .u8 0) (sz:=1) (by_:=1) (n:=512) (c:=512) (cs:=(bvs (List.replicate 512 0))) S2 rfl kr_ ⟨by kernel_rfl⟩ kr_ kr_ rfl rfl (Nat.le_refl _) dc_ dc_ (mk_bytes _) (fun g5 w6 hg7 S8=>pv (sl g5 0 512 512) (wER ?_)))))))))))))
   refine pv (sl g5 0 512 512) (pv (.slice A d.length cd) (g_ (gv_copy (e:=5) (off:=0) (dLen:=512) (dCap:=512) (sLen:=d.length) (sCap:=cd) (A:=A) (B:=(List.replicate 512 0)) (l:=d) S8 0 rfl rfl kr_ kr_ kr_ kr_ rfl (hr.out _ [row g5 (bvs (List.replicate 512 0)) 5,dR g gd (512*s.last.length) gm false left s.life s.rd s.wr s.fl s.rf (s.pend.length:Int),row gd (bvs s.last.flatten) 5,pt gm (mapO (es.map PEnt.ent) clock),stars (es.map PEnt.ast)] S8) (by simp) (L':=(row g5 (bvs d) 5::dR g gd (512*s.last.length) gm false left s.life s.rd s.wr s.fl s.rf (s.pend.length:Int)::row gd (bvs s.last.flatten) 5::pt gm (mapO (es.map PEnt.ent) clock)::stars (es.map PEnt.ast)::L)) (by rw [copy512 hd];rfl) (fun w9 m11 S10=>wE (nS ?_)))))
   have S12:St F w0 w9 (vec 31 1 p.v p.ws.length (p.ws.map PEnt.val)::stars (p.ws.map PEnt.row)::stars ((es.take j).map PEnt.ast)::stars ((es.drop (j+1)).map PEnt.ast)::row g5 (bvs d) 5::dR g gd (512*s.last.length) gm false left s.life s.rd s.wr s.fl s.rf (s.pend.length:Int)::row gd (bvs s.last.flatten) 5::pt gm (mapO (es.map PEnt.ent) clock)::L):=entry_out [row g5 (bvs d) 5,dR g gd (512*s.last.length) gm false left s.life s.rd s.wr s.fl s.rf (s.pend.length:Int),row gd (bvs s.last.flatten) 5,pt gm (mapO (es.map PEnt.ent) clock)] S10 hj
   refine wp_region_phu (γ:=Nat×Value) 14 [12,13] (fun (c_:Nat×Value) (i_:Nat)=>(match i_ with|0=>pq g|1=>pq g|2=>po g 1|3=>.map (some gm)|4=>nI_ p.at_|5=>pq g|6=>pq g|7=>po g 1|8=>.map (some gm)|9=>nI_ p.at_|10=>p.v|11=>sl g5 0 512 512|12=>sl c_.1 0 1 1|13=>c_.2|_=>undef:Value)) (fun (c_:Nat×Value) (p_:Nat) (w_:World)=>(match p_ with|0=>St F w0 w_ (vec 31 1 p.v p.ws.length (p.ws.map PEnt.val)::stars (p.ws.map PEnt.row)::stars ((es.take j).map PEnt.ast)::stars ((es.drop (j+1)).map PEnt.ast)::row g5 (bvs d) 5::dR g gd (512*s.last.length) gm false left s.life s.rd s.wr s.fl s.rf (s.pend.length:Int)::row gd (bvs s.last.flatten) 5::pt gm (mapO (es.map PEnt.ent) clock)::L)|1=>St F w0 w_ (row c_.1 #[sl g5 0 512 512] 31::vec 31 1 p.v p.ws.length (p.ws.map PEnt.val)::stars (p.ws.map PEnt.row)::stars ((es.take j).map PEnt.ast)::stars ((es.drop (j+1)).map PEnt.ast)::row g5 (bvs d) 5::dR g gd (512*s.last.length) gm false left s.life s.rd s.wr s.fl s.rf (s.pend.length:Int)::row gd (bvs s.last.flatten) 5::pt gm (mapO (es.map PEnt.ent) clock)::L)|_=>St F w0 w_ (vec 31 1 c_.2 (p.ws.length+1) (p.ws.map PEnt.val++[sl g5 0 512 512])::row c_.1 #[sl g5 0 512 512] 31::stars (p.ws.map PEnt.row)::stars ((es.take j).map PEnt.ast)::stars ((es.drop (j+1)).map PEnt.ast)::row g5 (bvs d) 5::dR g gd (512*s.last.length) gm false left s.life s.rd s.wr s.fl s.rf (s.pend.length:Int)::row gd (bvs s.last.flatten) 5::pt gm (mapO (es.map PEnt.ent) clock)::L):Prop)) (0,undef) kr_ kr_ kr_ kr_ (S12.drew) ?_ ?_ ?_
   ·intro i_ c_ p_ vals_ w1 hi_ hiE_ hp_ hk_ hu_ hPh_ hd_
    rcases i_ with _|_|_|_|_|_|_|_|_|_|_|_|_|_|i_
    ·exact tG_ rfl hd_ (gV (pq g) ⟨rfl,rfl⟩)
    ·exact tG_ rfl hd_ (gV (pq g) ⟨rfl,rfl⟩)
    ·exact tG_ rfl hd_ (gV (po g 1) ⟨rfl,rfl⟩)
    ·rcases p_ with _|_|_|p_
     ·have S16:=St.id hPh_
      exact tG_ rfl hd_ (gL (.map (some gm)) rfl (((S16.blk 5 rfl).cell 1).trans rfl) ⟨rfl,rfl⟩)
     ·have S17:=St.id hPh_
      exact tG_ rfl hd_ (gL (.map (some gm)) rfl (((S17.blk 6 rfl).cell 1).trans rfl) ⟨rfl,rfl⟩)
     ·have S18:=St.id hPh_
      exact tG_ rfl hd_ (gL (.map (some gm)) rfl (((S18.blk 6 rfl).cell 1).trans rfl) ⟨rfl,rfl⟩)
     ·exact absurd hp_ (by simp)
    ·exact tG_ rfl hd_ (gV (nI_ p.at_) ⟨rfl,rfl⟩)
    ·exact tG_ rfl hd_ (gV (pq g) ⟨rfl,rfl⟩)
    ·exact tG_ rfl hd_ (gV (pq g) ⟨rfl,rfl⟩)
    ·exact tG_ rfl hd_ (gV (po g 1) ⟨rfl,rfl⟩)
    ·rcases p_ with _|_|_|p_
     ·have S23:=St.id hPh_
      exact tG_ rfl hd_ (gL (.map (some gm)) rfl (((S23.blk 5 rfl).cell 1).trans rfl) ⟨rfl,rfl⟩)
     ·have S24:=St.id hPh_
      exact tG_ rfl hd_ (gL (.map (some gm)) rfl (((S24.blk 6 rfl).cell 1).trans rfl) ⟨rfl,rfl⟩)
     ·exact absurd (hu_ 1 dc_ kr_) dc_
     ·exact absurd hp_ (by simp)
    ·exact tG_ rfl hd_ (gV (nI_ p.at_) ⟨rfl,rfl⟩)
    ·rcases p_ with _|_|_|p_
     ·have S26:=St.id hPh_
      exact tG_ rfl hd_ (gv_look_some (kT:=3) (eT:=42) (k:=((p.at_:Nat):Int)) (S26.get 7 rfl) rfl kr_ kr_ kr_ kr_ hje hke hfe ⟨rfl,rfl⟩)
     ·have S27:=St.id hPh_
      exact tG_ rfl hd_ (gv_look_some (kT:=3) (eT:=42) (k:=((p.at_:Nat):Int)) (S27.get 8 rfl) rfl kr_ kr_ kr_ kr_ hje hke hfe ⟨rfl,rfl⟩)
     ·exact absurd (hu_ 1 dc_ kr_) dc_
     ·exact absurd hp_ (by simp)
    ·exact tG_ rfl hd_ (gV (sl g5 0 512 512) ⟨rfl,rfl⟩)
    ·exact absurd hiE_ dc_
    ·exact absurd hiE_ dc_
    ·exact absurd hi_ om_
   ·intro k_ c_ vals_ w1 hk_ hPh_ hd_
    rcases k_ with _|_|k_
    ·have S29:=St.id hPh_
     refine tG_ rfl hd_ (gv_slit (e:=31) (sz:=1) (z:=nS_) (by_:=24) (vs:=#[(0,sl g5 0 512 512)]) (cells:=#[sl g5 0 512 512]) S29 rfl kr_ ⟨by kernel_rfl⟩ kr_ kr_ kr_ kr_ (fun g30 w31 hg32 S33=>⟨(g30,c_.2),rfl, ?_,S33⟩))
     intro i_ hi_ hne_ hdp_
     rcases i_ with _|_|_|_|_|_|_|_|_|_|_|_|_|_|i_
     ·rfl
     ·rfl
     ·rfl
     ·rfl
     ·rfl
     ·rfl
     ·rfl
     ·rfl
     ·rfl
     ·rfl
     ·rfl
     ·rfl
     ·exact absurd rfl hne_
     ·exact dN_ hdp_
     ·exact absurd hi_ om_
    ·have S34:=St.id hPh_
     refine tG_ rfl hd_ (gv_append (e:=31) (sz:=1) (n:=p.ws.length) (v:=p.v) (vals:=(p.ws.map PEnt.val)) (z:=nS_) (by_:=24) (m:=1) (c':=1) (ad:=⟨c_.1,0,none⟩) (news:=[sl g5 0 512 512]) (St.swap S34) rfl kr_ ⟨by kernel_rfl⟩ rfl kr_ kr_ dc_ rfl (row_news (S34.blk 0 rfl)) (by intro u hu;simp at hu;subst hu;rfl) om_ om_ (fun v36 w35 S37=>⟨(c_.1,v36),rfl, ?_,S37⟩))
     intro i_ hi_ hne_ hdp_
     rcases i_ with _|_|_|_|_|_|_|_|_|_|_|_|_|_|i_
     ·rfl
     ·rfl
     ·rfl
     ·rfl
     ·rfl
     ·rfl
     ·rfl
     ·rfl
     ·rfl
     ·rfl
     ·rfl
     ·rfl
     ·rfl
     ·exact absurd rfl hne_
     ·exact absurd hi_ om_
    ·exact absurd hk_ (by simp)
   ·intro c_ w1 hPh_
    have S38:=St.id hPh_
    refine (g_ (gv_put_old (kT:=3) (eT:=42) (g:=gm) (clock:=clock) (es:=es.map PEnt.ent) (k:=((p.at_:Nat):Int)) (v:=c_.2) S38 8 rfl rfl kr_ kr_ kr_ kr_ kr_ hje hke hfe (L':=(vec 31 1 c_.2 (p.ws.length+1) (p.ws.map PEnt.val++[sl g5 0 512 512])::row c_.1 #[sl g5 0 512 512] 31::stars (p.ws.map PEnt.row)::stars ((es.take j).map PEnt.ast)::stars ((es.drop (j+1)).map PEnt.ast)::row g5 (bvs d) 5::dR g gd (512*s.last.length) gm false left s.life s.rd s.wr s.fl s.rf (s.pend.length:Int)::row gd (bvs s.last.flatten) 5::pt gm (mapO ((es.map PEnt.ent).set j ⟨((p.at_:Nat):Int),c_.2,p.b⟩) clock)::L)) rfl (fun w39 S40=>wE ?_)))
    refine nSR (pv (pq g) (pv (pq g) (pv (po g 5) (pv (po g 6) (lR (iv s.wr) S40 6 6 (pv (iv (inc s.wr)) (pv (pq g) (pv (po g 5) (pv (po g 6) (sS S40 6 rfl 6 (iv (inc s.wr)) fun w41 S42=>wER (pv (pq g) (pv (pq g) ?_))))))))))))
    refine pv (po g 5) (pv (po g 9) (lR (iv (s.pend.length:Int)) S42 6 9 (gI .i64 (IntKind.i64.wrap ((s.pend.length:Int)+1)) ((s.pend.length+1:Nat):Int) wq_ (pv (pq g) (pv (po g 5) (pv (po g 9) (sS S42 6 rfl 9 (nI_ (s.pend.length+1)) fun w43 S44=>wER (pv (pq g) (g_ (gv_call (args:=#[pq g]) rfl Try.func83 kr_ rfl rfl kr_ ?_))))))))))
    have S45:St F w0 w43 (vec 31 1 c_.2 (p.ws.length+1) (p.ws.map PEnt.val++[sl g5 0 512 512])::stars (p.ws.map PEnt.row)::stars ((es.take j).map PEnt.ast)::stars ((es.drop (j+1)).map PEnt.ast)::row g5 (bvs d) 5::dR g gd (512*s.last.length) gm false left s.life s.rd (inc s.wr) s.fl s.rf ((s.pend.length+1:Nat):Int)::row gd (bvs s.last.flatten) 5::pt gm (mapO ((es.map PEnt.ent).set j ⟨((p.at_:Nat):Int),c_.2,p.b⟩) clock)::L):=St.pm 9 [0,2,3,4,5,6,7,8] S44
    have em:(es.map PEnt.ent).set j ⟨((p.at_:Nat):Int),c_.2,p.b⟩=(es.set j ⟨p.at_,c_.2,p.b,p.ws++[(g5,d)]⟩).map PEnt.ent:=by rw [map_set];rfl
    have S46:St F w0 w43 (dR g gd (512*s.last.length) gm false left s.life s.rd (inc s.wr) s.fl s.rf ((s.pend.length+1:Nat):Int)::row gd (bvs s.last.flatten) 5::pt gm (mapO ((es.map PEnt.ent).set j ⟨((p.at_:Nat):Int),c_.2,p.b⟩) clock)::stars ((es.set j ⟨p.at_,c_.2,p.b,p.ws++[(g5,d)]⟩).map PEnt.ast)::L):=entry_in hj S45
    rw [em] at S46
    refine Calls.mono (spend_false S46) ?_
    rintro _ w47 ⟨rfl,S48⟩
    refine ⟨_,rfl,(wER (pv (iv 0) (wE (then_n (wp_ret (bA (iv 0) ?_))))))⟩
    have hl1:((s.pend.length+1:Nat):Int)=((s.pend++[(p.at_,d)]).length:Nat):=by rw [List.length_append];rfl
    rw [hl1] at S48
    exact ⟨rfl,St.pclose (gd:=gd) (gm:=gm) (clock:=clock) (es:=es.set j ⟨p.at_,c_.2,p.b,p.ws++[(g5,d)]⟩) (fused:=false) (left:=left) (s:={s with pend:=s.pend++[(p.at_,d)],wr:=inc s.wr,left:=spent s.left}) S48 (PFacts.refuse (s':={s with pend:=s.pend++[(p.at_,d)],wr:=inc s.wr,left:=spent s.left}) (hf.write_old (s':={s with pend:=s.pend++[(p.at_,d)]}) (go:=g5) (d:=d) (v':=c_.2) hj rfl hk hd hpn rfl rfl rfl) rfl rfl hdc.symm (fun h=>absurd h (of_decide_eq_false hdc)) hlb)⟩
end Go.Proofs
end
section
open Go Go.RowKit Go.Proofs.YtgeioealgidkiaaW.PrintWords Go.Proofs.YtgeioealgidkiaaW.PrintMore
namespace Go.Proofs
open Go.Vel
set_option linter.unusedVariables false
section
def Dsk.rdd (s:Dsk)(r:Int):Dsk:={s with rd:=r}
def PW (g:Nat)(s:Dsk):Ast:=fun h=>∃r:Int,PDisk g (s.rdd r) h
theorem writeR_rd (s:Dsk)(r at_:Int)(d:List UInt8):(s.rdd r).writeR at_ d=((s.writeR at_ d).1.rdd r,(s.writeR at_ d).2):=by
 by_cases h1:s.left=0
 ·simp [Dsk.writeR,Dsk.rdd,h1]
 ·by_cases h2:at_<0∨(s.last.length:Int)≤at_
  ·simp [Dsk.writeR,Dsk.rdd,h1,h2]
  ·by_cases h3:d.length≠512
   ·simp [Dsk.writeR,Dsk.rdd,h1,h2,h3]
   ·simp [Dsk.writeR,Dsk.rdd,h1,h2,h3]
theorem flushR_rd (s:Dsk)(r:Int):(s.rdd r).flushR=(s.flushR.1.rdd r,s.flushR.2):=by
 by_cases h1:s.left=0
 ·simp [Dsk.flushR,Dsk.rdd,h1]
 ·simp [Dsk.flushR,Dsk.rdd,h1]
def Dsk.take (s:Dsk):Dsk:={s with life:=inc s.life}
structure DOk (s:Dsk):Prop where
 len:∀l∈s.last,l.length=512
 plen:∀x∈s.pend,x.2.length=512∧x.1<s.last.length
 n1:1≤s.last.length
 n2:s.last.length≤2048
 lb: -1≤s.left∧s.left≤9223372036854775807
section
variable {F:Nat→Prop}{w0 w:World}{L:List Ast}{g:Nat}{s:Dsk}
theorem St.pw (S:St F w0 w (PW g s::L)):∃r,St F w0 w (PDisk g (s.rdd r)::L):=S.ex
theorem St.wp {r:Int}(S:St F w0 w (PDisk g (s.rdd r)::L)):St F w0 w (PW g s::L):=S.map1 fun _ h=>⟨r,h⟩
theorem St.pw0 (S:St F w0 w (PDisk g s::L)):St F w0 w (PW g s::L):=S.map1 fun _ h=>⟨s.rd,h⟩
theorem St.pw_ok (S:St F w0 w (PW g s::L)):DOk s:=by
 obtain ⟨r,S⟩:=St.pw S
 obtain ⟨gd,gm,clock,es,fused,left,hf,_⟩:=St.popen S
 exact ⟨hf.len,hf.plen,hf.n1,hf.n2,hf.lb⟩
theorem pw_read {k:Nat}(S:St F w0 w (PW g s::L))(hz:s.left≠0)(hk:k<s.last.length):Calls Try.prog 26 #[.pointer (some ⟨g,0,none⟩),.int .i64 ((k:Nat):Int)] w fun e w'=>∃A,e=.returned (.tuple #[.slice A 512 512,.int .i64 0])∧St F w0 w' (bytesA (.slice A 512 512) (s.now k)::PW g s::L):=by
 have hok:=St.pw_ok S
 obtain ⟨r,S⟩:=St.pw S
 refine (pd_read (at_:=((k:Nat):Int)) S).mono fun e w' h=> ?_
 obtain ⟨v,h1,h2⟩:=h
 rw [Dsk.readR_ok (s:=s.rdd r) (d:=s.now k) hz hk rfl] at h1 h2
 obtain ⟨A,rfl,h3⟩:=St.bytes_eq h2
 have hl:(s.now k).length=512:=by
  unfold Dsk.now
  cases hp:(pendOf s k).getLast? with
  |some d=>
   have:=List.mem_of_getLast? hp
   unfold pendOf at this
   obtain ⟨x,hx,rfl⟩:=List.mem_map.1 this
   exact (hok.plen x (List.mem_filter.1 hx).1).1
  |none=>
   show (s.last.getD k []).length=512
   rw [List.getD_eq_getElem?_getD,List.getElem?_eq_getElem hk]
   exact hok.len _ (List.getElem_mem hk)
 have h4:St F w0 w' (bytesA (.slice A 512 512) (s.now k)::PDisk g ({s.rdd r with rd:=inc (s.rdd r).rd})::L):=by rw [hl] at h3;exact h3
 exact ⟨A,by rw [h1,hl],(St.wp (r:=inc r) (s:=s) h4.swap).swap⟩
theorem pw_write {at_:Int}{A:Option Addr}{d:List UInt8}{cd:Nat}(S:St F w0 w (PW g s::L))(hr:RoT F w0 L A d)(hdm:d.length≤9223372036854775807)(hpn:s.pend.length<4398046511104):
  Calls Try.prog 33 #[pq g,iv at_,.slice A d.length cd] w fun e w'=>e=.returned (iv (s.writeR at_ d).2)∧St F w0 w' (PW g (s.writeR at_ d).1::L):=by
 obtain ⟨r,S⟩:=St.pw S
 refine (pd_write (at_:=at_) S hr hdm hpn).mono fun e w' h=> ?_
 rw [writeR_rd] at h
 exact ⟨h.1,St.wp h.2⟩
theorem pw_flush (S:St F w0 w (PW g s::L)):Calls Try.prog 87 #[.pointer (some ⟨g,0,none⟩)] w fun e w'=>e=.returned (.int .i64 s.flushR.2)∧St F w0 w' (PW g s.flushR.1::L):=by
 obtain ⟨r,S⟩:=St.pw S
 refine (pd_flush S).mono fun e w' h=> ?_
 rw [flushR_rd] at h
 exact ⟨h.1,St.wp h.2⟩
end
end
theorem now_congr {s s':Dsk}(h1:s'.last=s.last)(h2:s'.pend=s.pend)(k:Nat):s'.now k=s.now k:=by
 unfold Dsk.now pendOf;rw [h1,h2]
theorem now_nil {s:Dsk}(h:s.pend=[])(k:Nat):s.now k=s.last.getD k []:=Dsk.now_none (by unfold pendOf;rw [h];rfl)
theorem writeR_ok {s:Dsk}{a:Int}{d:List UInt8}(h:(s.writeR a d).2=0):0≤a∧a<s.last.length∧d.length=512∧s.left≠0∧(s.writeR a d).1={s with pend:=s.pend++[(a.toNat,d)],wr:=inc s.wr,left:=spent s.left}:=by
 unfold Dsk.writeR at h ⊢
 by_cases h1:s.left=0
 ·rw [if_pos h1] at h;exact absurd (show (_:Int)=0 from h) om_
 ·rw [if_neg h1] at h ⊢
  by_cases h2:a<0∨(s.last.length:Int)≤a
  ·rw [if_pos h2] at h;exact absurd (show (_:Int)=0 from h) om_
  ·rw [if_neg h2] at h ⊢
   by_cases h3:d.length≠512
   ·rw [if_pos h3] at h;exact absurd (show (_:Int)=0 from h) om_
   ·rw [if_neg h3] at h ⊢
    exact ⟨by omega,by omega,by omega,h1,rfl⟩
theorem writeR_no {s:Dsk}{a:Int}{d:List UInt8}(h:(s.writeR a d).2≠0):(s.writeR a d).1.last=s.last∧(s.writeR a d).1.pend=s.pend∧(s.writeR a d).1.left=s.left∧(0≤a→a<s.last.length→d.length=512→(s.writeR a d).2=3∧s.left=0)∧(s.left=0→(s.writeR a d).2=3):=by
 unfold Dsk.writeR at h ⊢
 by_cases h1:s.left=0
 ·rw [if_pos h1];exact ⟨rfl,rfl,rfl,fun _ _ _=>⟨rfl,h1⟩,fun _=>rfl⟩
 ·rw [if_neg h1] at h ⊢
  by_cases h2:a<0∨(s.last.length:Int)≤a
  ·rw [if_pos h2];exact ⟨rfl,rfl,rfl,fun q1 q2 _=>by omega,fun q=>absurd q h1⟩
  ·rw [if_neg h2] at h ⊢
   by_cases h3:d.length≠512
   ·rw [if_pos h3];exact ⟨rfl,rfl,rfl,fun _ _ q3=>absurd q3 h3,fun q=>absurd q h1⟩
   ·rw [if_neg h3] at h;exact absurd rfl h
theorem readR_ok {s:Dsk}{a:Int}(h:(s.readR a).2.2=0):0≤a∧a<s.last.length∧s.left≠0∧(s.readR a).2.1=s.now a.toNat:=by
 unfold Dsk.readR at h ⊢
 by_cases h1:s.left=0
 ·rw [if_pos h1] at h;exact absurd (show (3:Int)=0 from h) om_
 ·rw [if_neg h1] at h ⊢
  by_cases h2:a<0∨(s.last.length:Int)≤a
  ·rw [if_pos h2] at h;exact absurd (show (11:Int)=0 from h) om_
  ·rw [if_neg h2];exact ⟨by omega,by omega,h1,rfl⟩
theorem now_write {s s':Dsk}{k:Nat}{d:List UInt8}(h1:s'.last=s.last)(h2:s'.pend=s.pend++[(k,d)])(j:Nat):s'.now j=if k=j then d else s.now j:=by
 have hp:=pendOf_snoc s k j d s' h2
 unfold Dsk.now
 rw [hp,h1]
 by_cases hk:k=j
 ·rw [if_pos hk,if_pos hk,List.getLast?_append];rfl
 ·rw [if_neg hk,if_neg hk,List.append_nil]
theorem now_flush {s s':Dsk}(h1:s'.last=applyP s.last s.pend)(h2:s'.pend=[]){k:Nat}(hk:k<s.last.length):s'.now k=s.now k:=by
 rw [now_nil h2,h1,List.getD_eq_getElem?_getD,get_applyP]
 unfold newest Dsk.now pendOf
 cases hq:((s.pend.filter fun x=>x.1==k).map (·.2)).getLast? with
 |none=>rw [List.getD_eq_getElem?_getD]
 |some d=>simp only [];rw [if_pos hk];rfl
theorem flushR_cases (s:Dsk):(s.left=0∧s.flushR=(s,3))∨(s.left≠0∧s.flushR=({s with last:=applyP s.last s.pend,pend:=[],fl:=inc s.fl,left:=spent s.left},0)):=by
 unfold Dsk.flushR
 by_cases h:s.left=0
 ·rw [if_pos h];exact .inl ⟨h,rfl⟩
 ·rw [if_neg h];exact .inr ⟨h,rfl⟩
theorem fuseR_same (s:Dsk)(n:Int):(s.fuseR n).last=s.last∧(s.fuseR n).pend=s.pend:=by unfold Dsk.fuseR;split<;>exact ⟨rfl,rfl⟩
theorem crashR_len (s:Dsk)(ps:List Pick):(s.crashR ps).last.length=s.last.length:=length_applyP _ _
end Go.Proofs
end
