/- WalApart: for every two numbers of sectors, every script and every list of turns the Go function WalApart answers true, and changes nothing that was there. No condition. -/
import Derived.Test.YtgelippmcflppaaGreatRows
import Derived.Test.YtgelippmcflppaaGreatM6
import Derived.WalkKit
import Derived.ProofKit
import Derived.OpenShut
import Derived.ShutString
import Derived.ChangeOld
import Derived.Below
import Derived.SizedLaws
namespace Go.Proofs.YtgelippmcflppaaGreat.walApart
open Go.ChangeShapes Go.WideShapes Go.ChangeAt Go.RowKit Go.Vel Go.Proofs.YtgelippmcflppaaGreatW.PrintWords
set_option linter.unusedVariables false
theorem own:ownKnob Tryz.prog.godebug=none:=by kernel_rfl
theorem laidOut:laidOutB Tryz.prog=true:=by kernel_rfl
set_option maxRecDepth 100000 in
theorem lifted (os:Os)(started:os.Started)(H:Type)(enc:TypeId×Value→H):
  ReturnsInHanded {} Tryz.checked os 4 .any (Rows.walApartSpec.pre6 enc Tryz.prog Tryz.f4 Rows.walApartRow.domain false) (Rows.walApartSpec.post enc Tryz.prog Tryz.f4 false true false false):=by
 refine returnsInHanded_of_change_sized (C:=Tryz.checked) own started kr_ Tryz.func4
  (ChangeSpec.witness6 (enc:=enc) (C:=Tryz.checked) false ⟨#[],#[.int .i64 0,.int .i64 0,.slice none 0 0,.slice none 0 0],[]⟩ 8 kr_ kr_ kr_ kr_) ?_
 intro W base args ds gs before hval0 hW hcnd hsz0 _
 have hsz:(DataW.weightsEach Tryz.prog (Tryz.f4.params.toList++Rows.walApartSpec.plain.varTypes Tryz.prog) (ds++gs)).all (·≤reachBytes)=true:=hsz0
 have hval:∀(j:Nat) t v,Tryz.f4.params[j]?=some t→args[j]?=some v→Value.okWide Tryz.prog W .any base t v:=hval0
 have hW':=hW
 obtain ⟨p,q,hA0,hV,rfl,hfz,hnd⟩:=hW
 have hA:DataW.TrodAll enc Tryz.prog W 0 (fun _=>true) true Tryz.f4.params.toList args.toList ds p:=hA0
 rw [Tryz.params4] at hA hval hsz
 obtain ⟨v0,vs0,d0,ds0,p0,q0,hargs,rfl,rfl,h0,r0⟩:=trodAll_cons hA
 obtain ⟨v1,vs1,d1,ds1,p1,q1,rfl,rfl,rfl,h1,r1⟩:=trodAll_cons r0
 obtain ⟨v2,vs2,d2,ds2,p2,q2,rfl,rfl,rfl,h2,r2⟩:=trodAll_cons r1
 obtain ⟨v3,vs3,d3,ds3,p3,q3,rfl,rfl,rfl,h3,r3⟩:=trodAll_cons r2
 obtain ⟨rfl,rfl,rfl⟩:=trodAll_nil r3
 obtain rfl:args=#[v0,v1,v2,v3]:=by cases args;simp_all
 obtain ⟨rfl,rfl⟩:=trodVars_none hV
 have hwt:∀(j:Nat) t d,[3,3,23,26][j]?=some t→[d0,d1,d2,d3][j]?=some d→∀n∈d.weights Tryz.prog t,n≤reachBytes:=fun j t d h1 h2 n hn=>by
  have h3:=List.all_eq_true.1 hsz n (DataW.weights_mem_each (j:=j) (t:=t) (d:=d) ?_ ?_ n hn)
  ·exact of_decide_eq_true h3
  ·exact List.getElem?_append_left (by have:=(List.getElem?_eq_some_iff.1 h1).1;simpa using this)|>.trans h1
  ·exact List.getElem?_append_left (by have:=(List.getElem?_eq_some_iff.1 h2).1;simpa using this)|>.trans h2
 obtain ⟨a0,rfl,rfl,rfl,w0⟩:=open_int Tryz.underlying3 (hval 0 3 v0 rfl rfl) h0
 obtain ⟨a1,rfl,rfl,rfl,w1⟩:=open_int Tryz.underlying3 (hval 1 3 v1 rfl rfl) h1
 obtain ⟨A2,len2,c2,rfl⟩:=okWide_slice Tryz.underlying23 (hval 2 23 v2 rfl rfl)
 have k2:=h2
 have lt2:∀x∈p2,x.block<W.heap.size:=by obtain ⟨m,hm⟩:=k2;exact DataW.trod_lt m _ _ _ hm
 obtain ⟨o2,rfl,ho2,hm2,hk2⟩:=open_ope h2 (hwt 2 _ _ rfl rfl)
 obtain ⟨A3,len3,c3,rfl⟩:=okWide_slice Tryz.underlying26 (hval 3 26 v3 rfl rfl)
 have k3:=h3
 have lt3:∀x∈p3,x.block<W.heap.size:=by obtain ⟨m,hm⟩:=k3;exact DataW.trod_lt m _ _ _ hm
 obtain ⟨z3,rfl,hz3,hn3⟩:=open_ints h3 (hwt 3 _ _ rfl rfl)
 clear hA0 hval0 hsz0 hsz
 refine (walApart_all W a0 a1 ho2 hm2 hk2 hz3 hn3).mono fun e W' ⟨he,bel⟩=> ?_
 subst he
 exact ⟨_,rfl,_,_,_,[],_,[],hW',trodAll_mk1 (shut_bool Tryz.underlying4 _),(trodAll_cons_mk (shut_int Tryz.underlying3 w0) (trodAll_cons_mk (shut_int Tryz.underlying3 w1) (trodAll_cons_mk (Below.trod laidOut kr_ (of_decide_eq_true kr_) k2 bel lt2) (trodAll_cons_mk (Below.trod laidOut kr_ (of_decide_eq_true kr_) k3 bel lt3) trodAll_mk0)))),rfl,bel.frame _,fun h=>by cases h⟩
theorem over:Rows.walApartRow.holds Tryz.pinned (OpenSpec.ofChange Rows.walApartSpec):=
 OpenClaim.holds_of_wide 4 Tryz.f4 rfl rfl rfl rfl rfl rfl rfl ⟨rfl,rfl,rfl,rfl,rfl⟩ rfl rfl rfl rfl rfl kr_ Tryz.func4 kr_
  (of_decide_eq_true kr_) (by unfold Func.isWrapper;first|(rw [if_pos (by decide+kernel)];kernel_rfl)|(rw [if_neg (by decide+kernel)];exact ⟨rfl,rfl⟩))
  (fun os started H enc _=>lifted os started H enc)
theorem proved:Rows.WalApartSaid:=over
#print axioms proved
end Go.Proofs.YtgelippmcflppaaGreat.walApart
