/- WalAny: for every image and all numbers the Go function WalAny answers true, and changes nothing that was there. No condition. -/
import Derived.Test.YtgeioealgidkiaaRows
import Derived.Test.YtgeioealgidkiaaM5
import Derived.WalkKit
import Derived.ProofKit
import Derived.OpenShut
import Derived.ShutString
import Derived.ChangeOld
import Derived.Below
import Derived.SizedLaws
namespace Go.Proofs.Ytgeioealgidkiaa.walAny
open Go.ChangeShapes Go.WideShapes Go.ChangeAt Go.RowKit Go.Vel Go.Proofs.YtgeioealgidkiaaW.PrintWords
set_option linter.unusedVariables false
theorem own:ownKnob Try.prog.godebug=none:=by kernel_rfl
theorem laidOut:laidOutB Try.prog=true:=by kernel_rfl
set_option maxRecDepth 100000 in
theorem lifted (os:Os)(started:os.Started)(H:Type)(enc:TypeId×Value→H):
  ReturnsInHanded {} Try.checked os 12 .any (Rows.walAnySpec.pre6 enc Try.prog Try.f12 Rows.walAnyRow.domain false) (Rows.walAnySpec.post enc Try.prog Try.f12 false true false false):=by
 refine returnsInHanded_of_change_sized (C:=Try.checked) own started kr_ Try.func12
  (ChangeSpec.witness6 (enc:=enc) (C:=Try.checked) false ⟨#[],#[.slice none 0 0,.int .i64 0,.int .i64 0],[]⟩ 8 kr_ kr_ kr_ kr_) ?_
 intro W base args ds gs before hval0 hW hcnd hsz0 _
 have hsz:(DataW.weightsEach Try.prog (Try.f12.params.toList++Rows.walAnySpec.plain.varTypes Try.prog) (ds++gs)).all (·≤reachBytes)=true:=hsz0
 have hval:∀(j:Nat) t v,Try.f12.params[j]?=some t→args[j]?=some v→Value.okWide Try.prog W .any base t v:=hval0
 have hW':=hW
 obtain ⟨p,q,hA0,hV,rfl,hfz,hnd⟩:=hW
 have hA:DataW.TrodAll enc Try.prog W 0 (fun _=>true) true Try.f12.params.toList args.toList ds p:=hA0
 rw [Try.params12] at hA hval hsz
 obtain ⟨v0,vs0,d0,ds0,p0,q0,hargs,rfl,rfl,h0,r0⟩:=trodAll_cons hA
 obtain ⟨v1,vs1,d1,ds1,p1,q1,rfl,rfl,rfl,h1,r1⟩:=trodAll_cons r0
 obtain ⟨v2,vs2,d2,ds2,p2,q2,rfl,rfl,rfl,h2,r2⟩:=trodAll_cons r1
 obtain ⟨rfl,rfl,rfl⟩:=trodAll_nil r2
 obtain rfl:args=#[v0,v1,v2]:=by cases args;simp_all
 obtain ⟨rfl,rfl⟩:=trodVars_none hV
 have hwt:∀(j:Nat) t d,[31,3,3][j]?=some t→[d0,d1,d2][j]?=some d→∀n∈d.weights Try.prog t,n≤reachBytes:=fun j t d h1 h2 n hn=>by
  have h3:=List.all_eq_true.1 hsz n (DataW.weights_mem_each (j:=j) (t:=t) (d:=d) ?_ ?_ n hn)
  ·exact of_decide_eq_true h3
  ·exact List.getElem?_append_left (by have:=(List.getElem?_eq_some_iff.1 h1).1;simpa using this)|>.trans h1
  ·exact List.getElem?_append_left (by have:=(List.getElem?_eq_some_iff.1 h2).1;simpa using this)|>.trans h2
 obtain ⟨A0,len0,c0,rfl⟩:=okWide_slice Try.underlying31 (hval 0 31 v0 rfl rfl)
 have k0:=h0
 have lt0:∀x∈p0,x.block<W.heap.size:=by obtain ⟨m,hm⟩:=k0;exact DataW.trod_lt m _ _ _ hm
 obtain ⟨b0,rfl,hc0,hr0,hm0⟩:=open_bytes9 h0 (hwt 0 _ _ rfl rfl)
 obtain ⟨a1,rfl,rfl,rfl,w1⟩:=open_int Try.underlying3 (hval 1 3 v1 rfl rfl) h1
 obtain ⟨a2,rfl,rfl,rfl,w2⟩:=open_int Try.underlying3 (hval 2 3 v2 rfl rfl) h2
 clear hA0 hval0 hsz0 hsz
 refine (Cnt.walAny_all W hr0 hm0 a1 a2).mono fun e W' ⟨he,bel⟩=> ?_
 subst he
 exact ⟨_,rfl,_,_,_,[],_,[],hW',trodAll_mk1 (shut_bool Try.underlying4 _),(trodAll_cons_mk (Below.trod laidOut kr_ (of_decide_eq_true kr_) k0 bel lt0) (trodAll_cons_mk (shut_int Try.underlying3 w1) (trodAll_cons_mk (shut_int Try.underlying3 w2) trodAll_mk0))),rfl,bel.frame _,fun h=>by cases h⟩
theorem over:Rows.walAnyRow.holds Try.pinned (OpenSpec.ofChange Rows.walAnySpec):=
 OpenClaim.holds_of_wide 12 Try.f12 rfl rfl rfl rfl rfl rfl rfl ⟨rfl,rfl,rfl,rfl,rfl⟩ rfl rfl rfl rfl rfl kr_ Try.func12 kr_
  (of_decide_eq_true kr_) (by unfold Func.isWrapper;first|(rw [if_pos (by decide+kernel)];kernel_rfl)|(rw [if_neg (by decide+kernel)];exact ⟨rfl,rfl⟩))
  (fun os started H enc _=>lifted os started H enc)
theorem proved:Rows.WalAnySaid:=over
#print axioms proved
end Go.Proofs.Ytgeioealgidkiaa.walAny
