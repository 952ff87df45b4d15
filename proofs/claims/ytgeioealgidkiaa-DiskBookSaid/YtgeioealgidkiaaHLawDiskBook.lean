/- DiskBook: for every image and every script the Go function DiskBook answers true, and changes nothing that was there. No condition. -/
import Derived.Test.YtgeioealgidkiaaRows
import Derived.Test.YtgeioealgidkiaaM4
import Derived.WalkKit
import Derived.ProofKit
import Derived.OpenShut
import Derived.ShutString
import Derived.ChangeOld
import Derived.Below
import Derived.SizedLaws
namespace Go.Proofs.Ytgeioealgidkiaa.diskBook
open Go.ChangeShapes Go.WideShapes Go.ChangeAt Go.RowKit Go.Vel Go.Proofs.YtgeioealgidkiaaW.PrintWords
set_option linter.unusedVariables false
theorem own:ownKnob Try.prog.godebug=none:=by kernel_rfl
theorem laidOut:laidOutB Try.prog=true:=by kernel_rfl
set_option maxRecDepth 100000 in
theorem lifted (os:Os)(started:os.Started)(H:Type)(enc:TypeId×Value→H):
  ReturnsInHanded {} Try.checked os 4 .any (Rows.diskBookSpec.pre6 enc Try.prog Try.f4 Rows.diskBookRow.domain false) (Rows.diskBookSpec.post enc Try.prog Try.f4 false true false false):=by
 refine returnsInHanded_of_change_sized (C:=Try.checked) own started kr_ Try.func4
  (ChangeSpec.witness6 (enc:=enc) (C:=Try.checked) false ⟨#[],#[.slice none 0 0,.slice none 0 0],[]⟩ 8 kr_ kr_ kr_ kr_) ?_
 intro W base args ds gs before hval0 hW hcnd hsz0 _
 have hsz:(DataW.weightsEach Try.prog (Try.f4.params.toList++Rows.diskBookSpec.plain.varTypes Try.prog) (ds++gs)).all (·≤reachBytes)=true:=hsz0
 have hval:∀(j:Nat) t v,Try.f4.params[j]?=some t→args[j]?=some v→Value.okWide Try.prog W .any base t v:=hval0
 have hW':=hW
 obtain ⟨p,q,hA0,hV,rfl,hfz,hnd⟩:=hW
 have hA:DataW.TrodAll enc Try.prog W 0 (fun _=>true) true Try.f4.params.toList args.toList ds p:=hA0
 rw [Try.params4] at hA hval hsz
 obtain ⟨v0,vs0,d0,ds0,p0,q0,hargs,rfl,rfl,h0,r0⟩:=trodAll_cons hA
 obtain ⟨v1,vs1,d1,ds1,p1,q1,rfl,rfl,rfl,h1,r1⟩:=trodAll_cons r0
 obtain ⟨rfl,rfl,rfl⟩:=trodAll_nil r1
 obtain rfl:args=#[v0,v1]:=by cases args;simp_all
 obtain ⟨rfl,rfl⟩:=trodVars_none hV
 have hwt:∀(j:Nat) t d,[31,34][j]?=some t→[d0,d1][j]?=some d→∀n∈d.weights Try.prog t,n≤reachBytes:=fun j t d h1 h2 n hn=>by
  have h3:=List.all_eq_true.1 hsz n (DataW.weights_mem_each (j:=j) (t:=t) (d:=d) ?_ ?_ n hn)
  ·exact of_decide_eq_true h3
  ·exact List.getElem?_append_left (by have:=(List.getElem?_eq_some_iff.1 h1).1;simpa using this)|>.trans h1
  ·exact List.getElem?_append_left (by have:=(List.getElem?_eq_some_iff.1 h2).1;simpa using this)|>.trans h2
 obtain ⟨A0,len0,c0,rfl⟩:=okWide_slice Try.underlying31 (hval 0 31 v0 rfl rfl)
 have k0:=h0
 have lt0:∀x∈p0,x.block<W.heap.size:=by obtain ⟨m,hm⟩:=k0;exact DataW.trod_lt m _ _ _ hm
 obtain ⟨b0,rfl,hc0,hr0,hm0⟩:=open_bytes9 h0 (hwt 0 _ _ rfl rfl)
 obtain ⟨A1,len1,c1,rfl⟩:=okWide_slice Try.underlying34 (hval 1 34 v1 rfl rfl)
 have k1:=h1
 have lt1:∀x∈p1,x.block<W.heap.size:=by obtain ⟨m,hm⟩:=k1;exact DataW.trod_lt m _ _ _ hm
 obtain ⟨o1,rfl,ho1,hm1,hk1⟩:=open_opks h1 (hwt 1 _ _ rfl rfl)
 clear hA0 hval0 hsz0 hsz
 refine (diskBook_all W hr0 hm0 hc0 ho1 hm1 hk1).mono fun e W' ⟨he,bel⟩=> ?_
 subst he
 exact ⟨_,rfl,_,_,_,[],_,[],hW',trodAll_mk1 (shut_bool Try.underlying4 _),(trodAll_cons_mk (Below.trod laidOut kr_ (of_decide_eq_true kr_) k0 bel lt0) (trodAll_cons_mk (Below.trod laidOut kr_ (of_decide_eq_true kr_) k1 bel lt1) trodAll_mk0)),rfl,bel.frame _,fun h=>by cases h⟩
theorem over:Rows.diskBookRow.holds Try.pinned (OpenSpec.ofChange Rows.diskBookSpec):=
 OpenClaim.holds_of_wide 4 Try.f4 rfl rfl rfl rfl rfl rfl rfl ⟨rfl,rfl,rfl,rfl,rfl⟩ rfl rfl rfl rfl rfl kr_ Try.func4 kr_
  (of_decide_eq_true kr_) (by unfold Func.isWrapper;first|(rw [if_pos (by decide+kernel)];kernel_rfl)|(rw [if_neg (by decide+kernel)];exact ⟨rfl,rfl⟩))
  (fun os started H enc _=>lifted os started H enc)
theorem proved:Rows.DiskBookSaid:=over
#print axioms proved
end Go.Proofs.Ytgeioealgidkiaa.diskBook
