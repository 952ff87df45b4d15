/- Part 1 of 4 of what the proof stands on: the words, the laws of the walk, the walks, the plain laws; each section is one text. -/
import Derived.KernelRfl
import Derived.WalkKit
import Derived.Below
import Derived.Deep.Draws
import Derived.Deep.AppendLies
import Derived.Maps.AppendAt
import Derived.OwnWalk
import Derived.Laws.BytesArg
import Derived.Laws.MakeOwn
import Derived.Laws.OwnMore
import Derived.Deep.OwnRows
import Derived.Tactics
import Derived.Lib.ConvBytes
import Derived.Laws.Slices
import Derived.RowKit3
import Derived.Deep.LoopGhost
import Derived.Deep.QuietTactic
import Derived.BigQuiet
import Derived.WideLaws
import Derived.Deep.DeepCutAuto
import Derived.Deep.CutBlock
import Derived.Deep.RegionHeld3
import Derived.Laws.Rows
import Derived.Lib.AppendStr
import Derived.ArgAppend
import Derived.Laws.IdiomCopy
import Derived.RowKit
import Derived.OrdersHeld
import Derived.Laws.BitsLemmas
import Derived.WalkSpells
import Derived.WalkLawsBesides
import Derived.Laws.CopyOwn
import Derived.Tactics2
import Derived.Orders
import Derived.StillTail
import Derived.ChangeKeysEq
import Derived.Great.BuildSlice
import Derived.Laws.CopyRow
import Derived.Test.YtgeioealgidkiaaProg
import Derived.Shelf.Sort.Plain
import Derived.Shelf.Slices.In.SortNone
section
open Go
theorem kr_ {p : Prop} (h : p := by kernel_rfl) : p := h
theorem om_ {p : Prop} (h : p := by omega) : p := h
theorem dc_ {p : Prop} (h : p := by decide) : p := h
abbrev nS_ : Value := .slice none 0 0
abbrev nI_ (n : Nat) : Value := .int .i64 (n : Int)
def jof_ (a : Act) (k : Nat) : Value := a.tmps.getD k undef
theorem jE_ {f : (Nat → Value) → Act} {a : Act} {R : Prop} (h2 : R) (h : a = f (jof_ a) := by kernel_rfl) : ∃ J, a = f J ∧ R := ⟨_, h, h2⟩
theorem jF_ (f : Nat → Act) {x y : Nat} (e : x = y) {g : (Nat → Value) → Act} {a : Act} {R : Prop} (h2 : R) (h : a = f x := by kernel_rfl) (h3 : f y = g (jof_ (f y)) := by kernel_rfl) : ∃ J, a = g J ∧ R := ⟨_, h.trans (e ▸ h3), h2⟩
end
section
set_option linter.unusedVariables false
set_option linter.unusedSimpArgs false
namespace Go.Proofs.YtgeioealgidkiaaW.PrintWords
open Go.RowKit
theorem pw_cell_below {w w1:World}(h:Below w.heap.size w w1){a:Addr}{v:Value}(hc:w.cell? a=some v):w1.cell? a=some v:=(h.cell (World.block_lt_of_cell? w a hc)).trans hc
theorem own_base {w:World}{base:Nat}{e:TypeId}{size n:Nat}{v:Value}{xs:List Value}(h:w.ownsRow base e size v n xs)(k:Nat)(hk:v.ownBlock=some k):base≤k:=by
 rcases h.2 with ⟨rfl,_⟩|⟨g,cap,cur,rfl,hb,_⟩
 ·simp [Value.ownBlock] at hk
 ·have:g=k:=by simpa [Value.ownBlock] using hk
  omega
theorem own_lt {w:World}{base:Nat}{e:TypeId}{size n:Nat}{v:Value}{xs:List Value}(h:w.ownsRow base e size v n xs)(k:Nat)(hk:v.ownBlock=some k):k<w.heap.size:=by
 rcases h.2 with ⟨rfl,_⟩|⟨g,cap,cur,rfl,hb,hh,_⟩
 ·simp [Value.ownBlock] at hk
 ·have:g=k:=by simpa [Value.ownBlock] using hk
  subst this
  exact (Array.getElem?_eq_some_iff.1 hh).1
section
end
section
variable {P:Program}
end
section
end
def Reps {α:Type}(R:α→List Value→Prop)(size:Nat)(ps:List α)(cs:List Value):Prop:=
 cs.length=ps.length*size∧∀j p,ps[j]?=some p→R p ((cs.drop (j*size)).take size)
theorem Reps.imp_ {α:Type}{R R':α→List Value→Prop}{size:Nat}{ps:List α}{cs:List Value}(h:Reps R size ps cs)(hR:∀p c,R p c→R' p c):Reps R' size ps cs:=⟨h.1,fun j p hj=>hR _ _ (h.2 j p hj)⟩
def ReadsRow {α:Type}(R:α→List Value→Prop)(size:Nat)(w:World)(A:Option Addr)(n:Nat)(ps:List α):Prop:=
 ps.length=n∧n≤9223372036854775807∧(0<n→∃ad,A=some ad∧∀j p,ps[j]?=some p→∃c,c.length=size∧R p c∧∀i u,c[i]?=some u→w.cell? (ad.add (j*size+i))=some u)
theorem ReadsRow.imp_ {α:Type}{R R':α→List Value→Prop}{size:Nat}{w w1:World}{A:Option Addr}{n:Nat}{ps:List α}(h:ReadsRow R size w A n ps)(hb:Below w.heap.size w w1)(hR:∀p c,R p c→R' p c):ReadsRow R' size w1 A n ps:=
 ⟨h.1,h.2.1,fun hn=>by
  obtain ⟨ad,e,hc⟩:=h.2.2 hn
  refine ⟨ad,e,fun j p hj=> ?_⟩
  obtain ⟨c,hs,hr,hcell⟩:=hc j p hj
  exact ⟨c,hs,hR _ _ hr,fun i u hu=>pw_cell_below hb (hcell i u hu)⟩⟩
theorem own_reads_row {α:Type}{R:α→List Value→Prop}{w:World}{base n size:Nat}{e:TypeId}{v:Value}{ps:List α}{cs:List Value}(h:w.ownsRow base e size v n cs)(hR:Reps R size ps cs)(hn:ps.length=n):
  ∃A c,v=.slice A n c∧ReadsRow R size w A n ps:=by
 rcases Nat.eq_zero_or_pos n with h0|h0
 ·rcases h.2 with ⟨rfl,rfl⟩|⟨g,cap,cur,rfl,_⟩
  ·exact ⟨none,0,rfl,hn,by omega,fun hp=>absurd hp om_⟩
  ·exact ⟨_,cap,rfl,hn,by omega,fun hp=>absurd hp om_⟩
 ·obtain ⟨g,cap,rfl,_,_⟩:=h.form h0
  have hm:n≤9223372036854775807:=by
   rcases h.2 with ⟨_,h1⟩|⟨g',cap',cur,he,_,_,h1,h2,_⟩
   ·omega
   ·simp only [maxLen] at h2
    omega
  refine ⟨_,cap,rfl,hn,hm,fun _=>⟨_,rfl,fun j p hj=>⟨(cs.drop (j*size)).take size, ?_,hR.2 j p hj,fun i u hu=> ?_⟩⟩⟩
  ·have hjl:=(List.getElem?_eq_some_iff.1 hj).1
   have h1:j*size+size≤cs.length:=by rw [hR.1,←Nat.succ_mul];exact Nat.mul_le_mul_right _ hjl
   rw [List.length_take,List.length_drop]
   omega
  ·refine h.cells (g:=g) rfl _ u ?_
   rw [List.getElem?_take] at hu
   split at hu
   ·rw [List.getElem?_drop] at hu
    exact hu
   ·cases hu
section
end
theorem blk_set {w:World}{g:Nat}{t:TypeId}{cs:Array Value}(h:w.heap[g]?=some (.cells cs t (0,0)))(i:Nat)(u:Value):(w.setCell ⟨g,i,none⟩ u).heap[g]?=some (.cells (cs.setIfInBounds i u) t (0,0)):=by
 simp [World.setCell,Array.getElem?_modify,h]
section
end
theorem own_weaken {w:World}{base base':Nat}{e:TypeId}{size n:Nat}{v:Value}{xs:List Value}(h:w.ownsRow base e size v n xs)(hb:base'≤base):w.ownsRow base' e size v n xs:=by
 obtain ⟨h1,h2⟩:=h
 refine ⟨h1, ?_⟩
 rcases h2 with h2|⟨g,cap,cur,rfl,hg,r⟩
 ·exact .inl h2
 ·exact .inr ⟨g,cap,cur,rfl,Nat.le_trans hb hg,r⟩
section
variable {α:Type}{enc:α→Value}{d:α}
end
section
end
section
variable {P:Program}
end
theorem own_le {w:World}{base n m c size:Nat}{e:TypeId}{A:Option Addr}{xs:List Value}(h:w.ownsRow base e size (.slice A m c) n xs):m≤c:=by
 rcases h.2 with ⟨he,_⟩|⟨g,cap,cur,he,_,_,hnc,_⟩
 ·injection he with _ h2 h3
  omega
 ·injection he with _ h2 h3
  omega
def OwnRow {α:Type}(R:α→List Value→Prop)(e:TypeId)(size:Nat)(w:World)(base:Nat)(v:Value)(ps:List α):Prop:=
 ∃inner,w.ownsRow base e size v ps.length inner∧Reps R size ps inner
section
variable {α:Type}{R R':α→List Value→Prop}{e:TypeId}{size:Nat}{w w1:World}{base:Nat}{v:Value}{ps:List α}
theorem OwnRow.imp_ (h:OwnRow R e size w base v ps)(hR:∀p c,R p c→R' p c):OwnRow R' e size w base v ps:=by
 obtain ⟨inner,ho,hr⟩:=h
 exact ⟨inner,ho,hr.imp_ hR⟩
theorem OwnRow.reads (h:OwnRow R e size w base v ps):∃A c,v=.slice A ps.length c∧ps.length≤c∧ReadsRow R size w A ps.length ps:=by
 obtain ⟨inner,ho,hr⟩:=h
 obtain ⟨A,c,rfl,hrow⟩:=own_reads_row ho hr rfl
 exact ⟨A,c,rfl,own_le ho,hrow⟩
end
section
end
section
end
section
variable {α:Type}{P:Program}
end
section
end
structure Kd (α:Type) where
 sz:Nat
 E:List Nat
 K:World→α→List Value→Prop
 M:World→Nat→(Nat→Prop)→α→List Value→Prop
 K_len:∀{w x cs},K w x cs→cs.length=sz
 K_one:∀{w x cs},K w x cs→∀u∈cs,u.oneCell'=true
 K_below:∀{w w1:World} {x cs},Below w.heap.size w w1→K w x cs→K w1 x cs
 K_of_M:∀{w base ok x cs},M w base ok x cs→K w x cs
 M_mono:∀{w base ok ok' x cs},(∀k,ok k→ok' k)→M w base ok x cs→M w base ok' x cs
 M_bound:∀{w:World} {base ok x cs},M w base ok x cs→M w base (fun k=>ok k∧base≤k∧k<w.heap.size∧∃q,q∈E∧∃cells,w.heap[k]?=some (.cells cells q (0,0))) x cs
 M_move:∀{w w1:World} {base ok x cs},(∀k,ok k→w1.heap[k]?=w.heap[k]?)→M w base ok x cs→M w1 base ok x cs
 M_lower:∀{w base base' ok x cs},base'≤base→M w base ok x cs→M w base' ok x cs
theorem own_move {w w1:World}{base:Nat}{e:TypeId}{size n:Nat}{v:Value}{xs:List Value}(h:w.ownsRow base e size v n xs)(hm:∀k,v.ownBlock=some k→w1.heap[k]?=w.heap[k]?):w1.ownsRow base e size v n xs:=by
 obtain ⟨h1,h2⟩:=h
 refine ⟨h1, ?_⟩
 rcases h2 with h2|⟨g,cap,cur,rfl,hg,hh,r⟩
 ·exact .inl h2
 ·exact .inr ⟨g,cap,cur,rfl,hg,(hm g (by simp [Value.ownBlock])).trans hh,r⟩
theorem own_typed {w:World}{base:Nat}{e:TypeId}{size n:Nat}{v:Value}{xs:List Value}(h:w.ownsRow base e size v n xs)(k:Nat)(hk:v.ownBlock=some k):∃cells,w.heap[k]?=some (.cells cells e (0,0)):=by
 rcases h.2 with ⟨rfl,_⟩|⟨g,cap,cur,rfl,hg,hh,r⟩
 ·simp [Value.ownBlock] at hk
 ·have:g=k:=by simpa [Value.ownBlock] using hk
  subst this
  exact ⟨cur,hh⟩
namespace Kd
def C {α:Type}(d:Kd α)(w:World)(A:Option Addr)(n:Nat)(xs:List α):Prop:=ReadsRow (d.K w) d.sz w A n xs
def R {α:Type}(d:Kd α)(e:Nat)(w:World)(base:Nat)(ok:Nat→Prop)(v:Value)(xs:List α):Prop:=
 (∀k,v.ownBlock=some k→ok k)∧OwnRow (d.M w base (fun k=>ok k∧some k≠v.ownBlock)) e d.sz w base v xs
section
variable {α:Type}{d:Kd α}{e:Nat}{w w1:World}{base:Nat}{ok ok':Nat→Prop}{v:Value}{xs:List α}
theorem C_below {A:Option Addr}{n:Nat}(h:d.C w A n xs)(hb:Below w.heap.size w w1):d.C w1 A n xs:=ReadsRow.imp_ h hb (fun _ _ hp=>d.K_below hb hp)
theorem R_mono (h:d.R e w base ok v xs)(hok:∀k,ok k→ok' k):d.R e w base ok' v xs:=⟨fun k hk=>hok k (h.1 k hk),h.2.imp_ (fun _ _ hp=>d.M_mono (fun k hk=>⟨hok k hk.1,hk.2⟩) hp)⟩
theorem R_bound (h:d.R e w base ok v xs):d.R e w base (fun k=>ok k∧base≤k∧k<w.heap.size∧∃q,q∈e::d.E∧∃cells,w.heap[k]?=some (.cells cells q (0,0))) v xs:=by
 obtain ⟨h0,inner,ho,hr⟩:=h
 refine ⟨fun k hk=> ?_,inner,ho,hr.imp_ (fun _ _ hp=>d.M_mono (fun k hk=> ?_) (d.M_bound hp))⟩
 ·obtain ⟨cells,hc⟩:=own_typed ho k hk
  exact ⟨h0 k hk,own_base ho k hk,own_lt ho k hk,e,List.mem_cons_self,cells,hc⟩
 ·obtain ⟨⟨h1,h2⟩,h3,h4,q,hq,hc⟩:=hk
  exact ⟨⟨h1,h3,h4,q,List.mem_cons_of_mem _ hq,hc⟩,h2⟩
theorem R_move (h:d.R e w base ok v xs)(hm:∀k,ok k→w1.heap[k]?=w.heap[k]?):d.R e w1 base ok v xs:=by
 obtain ⟨h0,inner,ho,hr⟩:=h
 exact ⟨h0,inner,own_move ho (fun k hk=>hm k (h0 k hk)),hr.imp_ (fun _ _ hp=>d.M_move (fun k hk=>hm k hk.1) hp)⟩
theorem R_lower {base':Nat}(h:d.R e w base ok v xs)(hb:base'≤base):d.R e w base' ok v xs:=by
 obtain ⟨h0,inner,ho,hr⟩:=h
 exact ⟨h0,inner,own_weaken ho hb,hr.imp_ (fun _ _ hp=>d.M_lower hb hp)⟩
theorem R_reads (h:d.R e w base ok v xs):∃A c,v=.slice A xs.length c∧xs.length≤c∧d.C w A xs.length xs:=by
 obtain ⟨A,c,he,hl,hr⟩:=OwnRow.reads h.2
 exact ⟨A,c,he,hl,hr.imp_ (Below.refl _ _) (fun _ _ hp=>d.K_of_M hp)⟩
end
def scalar {α:Type}(enc:α→Value)(h1:∀x,(enc x).oneCell'=true):Kd α where
 sz:=1
 E:=[]
 K:=fun _ x cs=>cs=[enc x]
 M:=fun _ _ _ x cs=>cs=[enc x]
 K_len:=fun h=>by rw [h];rfl
 K_one:=fun h u hu=>by
  rw [h] at hu
  rw [List.mem_singleton.1 hu]
  exact h1 _
 K_below:=fun _ h=>h
 K_of_M:=fun h=>h
 M_mono:=fun _ h=>h
 M_bound:=fun h=>h
 M_move:=fun _ h=>h
 M_lower:=fun _ h=>h
def int (k:IntKind):Kd Int:=scalar (Value.int k) (fun _=>rfl)
def bool:Kd Bool:=scalar Value.bool (fun _=>rfl)
def slice {α:Type}(e:Nat)(d:Kd α):Kd (List α) where
 sz:=1
 E:=e::d.E
 K:=fun w xs cs=>∃A c,cs=[.slice A xs.length c]∧xs.length≤c∧d.C w A xs.length xs
 M:=fun w base ok xs cs=>∃v,cs=[v]∧d.R e w base ok v xs
 K_len:=by
  rintro w x cs ⟨A,c,rfl,_⟩
  rfl
 K_one:=by
  rintro w x cs ⟨A,c,rfl,_⟩ u hu
  rw [List.mem_singleton.1 hu]
  rfl
 K_below:=by
  rintro w w1 x cs hb ⟨A,c,rfl,hl,hr⟩
  exact ⟨A,c,rfl,hl,C_below hr hb⟩
 K_of_M:=by
  rintro w base ok x cs ⟨v,rfl,h⟩
  obtain ⟨A,c,rfl,hl,hr⟩:=R_reads h
  exact ⟨A,c,rfl,hl,hr⟩
 M_mono:=by
  rintro w base ok ok' x cs hok ⟨v,rfl,h⟩
  exact ⟨v,rfl,R_mono h hok⟩
 M_bound:=by
  rintro w base ok x cs ⟨v,rfl,h⟩
  exact ⟨v,rfl,R_bound h⟩
 M_move:=by
  rintro w w1 base ok x cs hm ⟨v,rfl,h⟩
  exact ⟨v,rfl,R_move h hm⟩
 M_lower:=by
  rintro w base base' ok x cs hb ⟨v,rfl,h⟩
  exact ⟨v,rfl,R_lower h hb⟩
section
end
section
end
end Kd
namespace Kd
section
end
end Kd
namespace Kd
end Kd
namespace Kd
section
variable {α β:Type}{d:Kd α}{d':Kd β}{e e':Nat}{w w1 W:World}{base b b':Nat}{ok ok' okv oku:Nat→Prop}{v u:Value}{xs:List α}{ys:List β}
end
section
variable {w W:World}{A:Option Addr}{n:Nat}
variable {α:Type}{enc:α→Value}{h1:∀x,(enc x).oneCell'=true}{e base g cap:Nat}{ok:Nat→Prop}{xs:List α}
end
section
variable {α:Type}
end
end Kd
section
variable {P:Program}
end
section
variable {w w1:World}{base n size:Nat}{e:TypeId}{v:Value}{xs:List Value}
theorem setCells_far {g:Nat}:∀(vs:List Value) (o:Nat) {w:World} (k:Nat),k≠g→(w.setCells g o vs).heap[k]?=w.heap[k]?
 |[],_,_,_,_=>rfl
 |v::r,o,w,k,hk=>by
  rw [World.setCells,setCells_far r (o+1) k hk]
  exact Below.heap_setCell w ⟨g,o,none⟩ v k hk
theorem setCells_same (g:Nat):∀(vs:List Value) (o:Nat) (w:World),(w.setCells g o vs).os=w.os∧(w.setCells g o vs).tape=w.tape∧(w.setCells g o vs).output=w.output∧(w.setCells g o vs).heap.size=w.heap.size
 |[],_,_=>⟨rfl,rfl,rfl,rfl⟩
 |v::r,o,w=>by
  obtain ⟨h1,h2,h3,h4⟩:=setCells_same g r (o+1) (w.setCell ⟨g,o,none⟩ v)
  rw [World.setCells]
  exact ⟨h1,h2,h3,by rw [h4];simp [World.setCell]⟩
theorem setCells_row {g:Nat}{e:TypeId}:∀(vs:List Value) (o:Nat) (w:World) (cur:Array Value),w.heap[g]?=some (.cells cur e (0,0))→o+vs.length≤cur.size→
  ∃cur',(w.setCells g o vs).heap[g]?=some (.cells cur' e (0,0))∧cur'.size=cur.size∧cur'.toList=cur.toList.take o++vs++cur.toList.drop (o+vs.length)
 |[],o,w,cur,h,_=>⟨cur,h,rfl,by simp⟩
 |v::r,o,w,cur,h,hl=>by
  have h2:=blk_set h o v
  simp only [List.length_cons] at hl
  obtain ⟨cur',h3,h4,h5⟩:=setCells_row r (o+1) (w.setCell ⟨g,o,none⟩ v) _ h2 (by simp;omega)
  refine ⟨cur',h3,by rw [h4];simp, ?_⟩
  rw [h5,Array.toList_setIfInBounds]
  have ho:o<cur.toList.length:=by rw [Array.length_toList];omega
  rw [List.take_set,List.drop_set_of_lt om_]
  simp only [List.length_cons]
  rw [show o+1+r.length=o+(r.length+1) by omega]
  congr 1
  rw [List.take_succ_eq_append_getElem ho,List.set_append_right _ _ (by rw [List.length_take];omega)]
  have ho':o<cur.size:=by omega
  simp [Nat.min_eq_left (Nat.le_of_lt ho')]
end
section
variable {P:Program}
end
namespace Kd
section
variable {α:Type}{d:Kd α}{e:Nat}{w w1 W:World}{base:Nat}{ok ok':Nat→Prop}{v:Value}{xs:List α}
end
section
variable {P:Program}{ops:Array Oper}{rest:List Oper}{o:Oper}{a:Act}{Q':Exit→Act→World→Prop}{Kc:Act→World→Prop}{α:Type}
end
end Kd
namespace Kd
section
variable {α:Type}{d:Kd α}{e e':Nat}{w w1 W:World}{base:Nat}{ok:Nat→Prop}{u v:Value}{xs:List α}
end
end Kd
namespace Kd
section
variable {α:Type}{d:Kd α}{e base g n cap:Nat}{ok okp:Nat→Prop}{W:World}{xs:List α}
end
end Kd
namespace Kd
section
end
end Kd
namespace Kd
section
end
end Kd
namespace Kd
section
end
end Kd
namespace Kd
section
variable {α:Type}{k:Kd α}{w:World}{A:Option Addr}{xs:List α}{m c:Nat}
end
end Kd
section
variable {P:Program}
end
namespace Kd
section
variable {α β:Type}{d:Kd α}{d':Kd β}{e e' base base' n:Nat}{ok ok':Nat→Prop}{w W w1 W1:World}{v u:Value}{xs:List α}{ys:List β}{A:Option Addr}{c:Nat}
end
section
variable {α:Type}{enc:α→Value}{h1:∀x,(enc x).oneCell'=true}{w W:World}{A:Option Addr}{n g:Nat}{xs:List α}
end
end Kd
namespace Kd
section
variable {α:Type}{d:Kd α}{e base g:Nat}{ok:Nat→Prop}{w w1:World}{v:Value}{xs:List α}{o:Obj}
end
end Kd
section
end
namespace Kd
section
variable {α:Type}{enc:α→Value}{h1:∀x,(enc x).oneCell'=true}{e base g n cap:Nat}{ok:Nat→Prop}{W:World}{xs:List α}
end
end Kd
section
end
namespace Kd
section
variable {α:Type}{enc:α→Value}{h1:∀x,(enc x).oneCell'=true}{e base g n cap:Nat}{ok:Nat→Prop}{W:World}{xs:List α}
end
end Kd
section
end
section
namespace Kd
variable {α:Type}
end Kd
end
section
variable {P:Program}{tmps:Array Value}{w:World}
end
namespace Kd
section
variable {P:Program}{α:Type}
end
section
end
end Kd
end Go.Proofs.YtgeioealgidkiaaW.PrintWords
end
section
open Go Go.RowKit Go.Proofs.YtgeioealgidkiaaW.PrintWords
namespace Go.Vel
section
def ofB (b:List UInt8):List Int:=b.map (fun x=>(x.toNat:Int))
theorem len_ofB (b:List UInt8):(ofB b).length=b.length:=by simp [ofB]
def bv (b:UInt8):Value:=.int .u8 (b.toNat:Int)
def bvs (l:List UInt8):Array Value:=(l.map bv).toArray
theorem size_bvs (l:List UInt8):(bvs l).size=l.length:=by simp [bvs]
theorem get_bvs (l:List UInt8)(i:Nat):(bvs l)[i]?=l[i]?.map bv:=by simp [bvs]
theorem bvs_one (l:List UInt8):∀v∈(bvs l).toList,v.oneCell'=true:=by
 intro v hv
 simp [bvs] at hv
 obtain ⟨b,_,rfl⟩:=hv
 rfl
structure Blk (w:World)(g:Nat)(cs:Array Value)(t:TypeId):Prop where
 out:w.heap[g]?=some (.cells cs t (0,0))
theorem Blk.lt {w:World}{g:Nat}{cs:Array Value}{t:TypeId}(h:Blk w g cs t):g<w.heap.size:=(Array.getElem?_eq_some_iff.1 h.out).1
theorem Blk.below {w w1:World}{g:Nat}{cs:Array Value}{t:TypeId}(h:Blk w g cs t)(hb:Below w.heap.size w w1):Blk w1 g cs t:=⟨(hb.block g h.lt).trans h.out⟩
theorem Blk.cell {w:World}{g:Nat}{cs:Array Value}{t:TypeId}(h:Blk w g cs t)(i:Nat):w.cell? ⟨g,i,none⟩=cs[i]?:=cell_of_row w g i cs t (0,0) h.out
theorem Blk.frozen {w:World}{g:Nat}{cs:Array Value}{t:TypeId}(h:Blk w g cs t)(i:Nat):w.frozen? ⟨g,i,none⟩=false:=frozen_of_row w g i cs t h.out
structure Only (g:Nat)(w w':World):Prop where
 os:w'.os=w.os
 tape:w'.tape=w.tape
 output:w'.output=w.output
 size:w'.heap.size=w.heap.size
 block:∀k,k≠g→w'.heap[k]?=w.heap[k]?
theorem Only.refl (g:Nat)(w:World):Only g w w:=⟨rfl,rfl,rfl,rfl,fun _ _=>rfl⟩
theorem Only.trans {g:Nat}{w w1 w2:World}(h:Only g w w1)(k:Only g w1 w2):Only g w w2:=
 ⟨k.os.trans h.os,k.tape.trans h.tape,k.output.trans h.output,k.size.trans h.size,fun i hi=>(k.block i hi).trans (h.block i hi)⟩
theorem Only.below {g B:Nat}{w w1:World}(h:Only g w w1)(hB:B≤g):Below B w w1:=⟨h.os,h.tape,h.output,Nat.le_of_eq h.size.symm,fun k hk=>h.block k om_⟩
theorem only_setCell (w:World)(g i:Nat)(v:Value):Only g w (w.setCell ⟨g,i,none⟩ v):=⟨rfl,rfl,rfl,by simp,fun k hk=>heap_setCell_other w _ k v hk⟩
section
variable {P:Program}{ops:Array Oper}{rest:List Oper}{o o2:Oper}{a:Act}{Q:Exit→Act→World→Prop}{w:World}
structure Agg (P:Program)(T:TypeId)(z:Array Value):Prop where
 d:∃D,P.underlying T=some D∧(match D with|.struct _|.array _ _=>true|_=>false)=true
 size:(P.info? T).map (·.size)=some z.size
 zero:(P.info? T).map (·.zero)=some (some (.agg z))
theorem run_alloc {T:TypeId}{z:Array Value}(h:Agg P T z)(w:World):(Instr.alloc T true (.tuple #[])).run P w=.ok (.pointer (some ⟨w.heap.size,0,none⟩)) (w.alloc (.cells z T)):=by
 have hz:=h.zero
 cases hq:P.info? T with
 |none=>simp [hq] at hz
 |some i=>
  have hz':i.zero=some (.agg z):=by simpa [hq] using hz
  simp [Instr.alloc,zeroValue,typeInfo,hq,hz',newVar,newRow,Value.cells]
theorem cells_C {A:Option Addr}{l:List UInt8}(h:(Kd.int .u8).C w A (ofB l).length (ofB l))(h0:0<l.length):∃ad,A=some ad∧∀j v,(l.map bv)[j]?=some v→w.cell? (ad.add j)=some v:=by
 obtain ⟨_,_,h3⟩:=h
 obtain ⟨ad,e,hc⟩:=h3 (by rw [len_ofB];exact h0)
 refine ⟨ad,e,fun j v hv=> ?_⟩
 rw [List.getElem?_map] at hv
 cases hl:l[j]? with
 |none=>simp [hl] at hv
 |some b=>
  simp [hl] at hv
  subst hv
  obtain ⟨c,hc1,hc2,hc3⟩:=hc j (b.toNat:Int) (by simp [ofB,hl])
  have h4:c=[.int .u8 (b.toNat:Int)]:=hc2
  subst h4
  have h5:=hc3 0 _ rfl
  change w.cell? (ad.add (j*1+0))=_ at h5
  rwa [Nat.mul_one,Nat.add_zero] at h5
theorem map_bv_one (l:List UInt8):∀v∈l.map bv,v.oneCell'=true:=by
 intro v hv
 obtain ⟨b,_,rfl⟩:=List.mem_map.1 hv
 rfl
end
end
end Go.Vel
end
section
open Go Go.RowKit
namespace Go.Vel
section
abbrev PH:=Nat→Option Obj
abbrev Ast:=PH→Prop
def emp:Ast:=fun h=>∀k,h k=none
def pt (g:Nat)(o:Obj):Ast:=fun h=>∀k,h k=if k=g then some o else none
def row (g:Nat)(cs:Array Value)(t:TypeId):Ast:=pt g (.cells cs t (0,0))
structure Fr (F:Nat→Prop)(w w':World):Prop where
 os:w'.os=w.os
 tape:w'.tape=w.tape
 output:w'.output=w.output
 size:w.heap.size≤w'.heap.size
 block:∀k,k<w.heap.size→¬F k→w'.heap[k]?=w.heap[k]?
def none':Nat→Prop:=fun _=>False
theorem Fr.refl (F:Nat→Prop)(w:World):Fr F w w:=⟨rfl,rfl,rfl,Nat.le_refl _,fun _ _ _=>rfl⟩
theorem Fr.trans {F:Nat→Prop}{w w1 w2:World}(h:Fr F w w1)(k:Fr F w1 w2):Fr F w w2:=
 ⟨k.os.trans h.os,k.tape.trans h.tape,k.output.trans h.output,Nat.le_trans h.size k.size,fun i hi hf=>(k.block i (Nat.lt_of_lt_of_le hi h.size) hf).trans (h.block i hi hf)⟩
theorem Fr.step {F F1:Nat→Prop}{w0 w w':World}(h:Fr F w0 w)(k:Fr F1 w w')(hF:∀i,F1 i→F i∨w0.heap.size≤i):Fr F w0 w':=
 ⟨k.os.trans h.os,k.tape.trans h.tape,k.output.trans h.output,Nat.le_trans h.size k.size,fun i hi hf=>(k.block i (Nat.lt_of_lt_of_le hi h.size) (fun h1=>(hF i h1).elim hf (fun h2=>absurd hi (Nat.not_lt.2 h2)))).trans (h.block i hi hf)⟩
theorem Fr.mono {F F':Nat→Prop}{w w':World}(h:Fr F w w')(hF:∀i,F i→F' i):Fr F' w w':=⟨h.os,h.tape,h.output,h.size,fun i hi hf=>h.block i hi (fun h1=>hf (hF i h1))⟩
theorem Fr.of_below {F:Nat→Prop}{w w':World}(h:Below w.heap.size w w'):Fr F w w':=⟨h.os,h.tape,h.output,h.size,fun i hi _=>h.block i hi⟩
theorem Fr.below {w w':World}(h:Fr none' w w'):Below w.heap.size w w':=⟨h.os,h.tape,h.output,h.size,fun i hi=>h.block i hi (fun h=>h)⟩
def Own (D:Nat→Prop)(w:World)(L:List Ast):Prop:=
 ∃hs:Nat→PH,(∀(i:Nat) (A:Ast),L[i]?=some A→A (hs i))∧(∀i j,i<L.length→j<L.length→i≠j→∀k,hs i k=none∨hs j k=none)∧(∀i,i<L.length→∀k o,hs i k=some o→w.heap[k]?=some o∧D k)
theorem lt_of_some {w:World}{k:Nat}{o:Obj}(h:w.heap[k]?=some o):k<w.heap.size:=(Array.getElem?_eq_some_iff.1 h).1
section
variable {D D1 D2:Nat→Prop}{w w':World}{L L1 L2:List Ast}
theorem Own.nil (D:Nat→Prop)(w:World):Own D w []:=⟨fun _ _=>none,fun _ _ h=>by simp at h,fun i _ h=>by simp at h,fun i h=>by simp at h⟩
theorem Own.mono (h:Own D w L)(hD:∀k,D k→k<w.heap.size→D1 k):Own D1 w L:=by
 obtain ⟨hs,h1,h2,h3⟩:=h
 exact ⟨hs,h1,h2,fun i hi k o hk=>⟨(h3 i hi k o hk).1,hD k (h3 i hi k o hk).2 (lt_of_some (h3 i hi k o hk).1)⟩⟩
theorem Own.frame (h:Own D w L)(hw:∀k,D k→k<w.heap.size→w'.heap[k]?=w.heap[k]?):Own D w' L:=by
 obtain ⟨hs,h1,h2,h3⟩:=h
 exact ⟨hs,h1,h2,fun i hi k o hk=>⟨(hw k (h3 i hi k o hk).2 (lt_of_some (h3 i hi k o hk).1)).trans (h3 i hi k o hk).1,(h3 i hi k o hk).2⟩⟩
theorem Own.one {A:Ast}{h:PH}(hA:A h)(hh:∀k o,h k=some o→w.heap[k]?=some o∧D k):Own D w [A]:=by
 refine ⟨fun _=>h,fun i B hi=> ?_,fun i j hi hj hne=> ?_,fun i hi=>hh⟩
 ·cases i with
  |zero=>simp at hi;subst hi;exact hA
  |succ i=>simp at hi
 ·simp at hi hj;omega
theorem Own.pt {g:Nat}{o:Obj}(h:w.heap[g]?=some o):Own (fun k=>k=g) w [pt g o]:=
 Own.one (h:=fun k=>if k=g then some o else none) (fun _=>rfl) fun k x hk=>by
  split at hk
  ·rename_i e;subst e;cases hk;exact ⟨h,rfl⟩
  ·cases hk
theorem Own.append (h:Own D1 w L1)(k:Own D2 w L2)(hd:∀i,D1 i→D2 i→i<w.heap.size→False):Own (fun i=>D1 i∨D2 i) w (L1++L2):=by
 obtain ⟨hs,a1,a2,a3⟩:=h
 obtain ⟨ks,b1,b2,b3⟩:=k
 have cross:∀i j,i<L1.length→j<L2.length→∀k,hs i k=none∨ks j k=none:=fun i j hi hj k=>by
  cases e1:hs i k with
  |none=>exact .inl rfl
  |some x=>
   cases e2:ks j k with
   |none=>exact .inr rfl
   |some y=>exact (hd k (a3 i hi k x e1).2 (b3 j hj k y e2).2 (lt_of_some (a3 i hi k x e1).1)).elim
 refine ⟨fun i=>if i<L1.length then hs i else ks (i-L1.length),fun i A hi=> ?_,fun i j hi hj hne k=> ?_,fun i hi k o hk=> ?_⟩
 ·by_cases hl:i<L1.length
  ·rw [List.getElem?_append_left hl] at hi
   simp only [hl,if_true];exact a1 i A hi
  ·rw [List.getElem?_append_right (Nat.le_of_not_lt hl)] at hi
   simp only [hl,if_false];exact b1 _ A hi
 ·rw [List.length_append] at hi hj
  by_cases hl:i<L1.length
  ·by_cases hl':j<L1.length
   ·simp only [hl,hl',if_true];exact a2 i j hl hl' hne k
   ·simp only [hl,hl',if_true,if_false];exact cross i _ hl om_ k
  ·by_cases hl':j<L1.length
   ·simp only [hl,hl',if_true,if_false];exact (cross j _ hl' om_ k).symm
   ·simp only [hl,hl',if_false];exact b2 _ _ om_ om_ om_ k
 ·rw [List.length_append] at hi
  by_cases hl:i<L1.length
  ·simp only [hl,if_true] at hk
   exact ⟨(a3 i hl k o hk).1,.inl (a3 i hl k o hk).2⟩
  ·simp only [hl,if_false] at hk
   exact ⟨(b3 _ om_ k o hk).1,.inr (b3 _ om_ k o hk).2⟩
theorem Own.split (h:Own D w (L1++L2)):∃D1 D2,Own D1 w L1∧Own D2 w L2∧(∀i,D1 i→D2 i→False)∧(∀i,D1 i→D i)∧(∀i,D2 i→D i):=by
 obtain ⟨hs,h1,h2,h3⟩:=h
 rw [List.length_append] at h2 h3
 refine ⟨fun k=>∃i,i<L1.length∧hs i k≠none,fun k=>∃i,i<L2.length∧hs (L1.length+i) k≠none,⟨hs,fun i A hi=>h1 i A ?_,fun i j hi hj=>h2 i j om_ om_,fun i hi k o hk=>⟨(h3 i om_ k o hk).1,i,hi,by rw [hk];simp⟩⟩,
  ⟨fun i=>hs (L1.length+i),fun i A hi=>h1 _ A ?_,fun i j hi hj hne=>h2 _ _ om_ om_ om_,fun i hi k o hk=>⟨(h3 _ om_ k o hk).1,i,hi,(fun h=>by rw [show hs (L1.length+i) k=some o from hk] at h;cases h)⟩⟩, ?_, ?_, ?_⟩
 ·rw [List.getElem?_append_left (List.getElem?_eq_some_iff.1 hi).1];exact hi
 ·rw [List.getElem?_append_right om_];simpa using hi
 ·rintro k ⟨i,hi,hk⟩ ⟨j,hj,hk'⟩
  rcases h2 i (L1.length+j) om_ om_ om_ k with h|h
  ·exact hk h
  ·exact hk' h
 ·rintro k ⟨i,hi,hk⟩
  cases e:hs i k with
  |none=>exact absurd e hk
  |some o=>exact (h3 i om_ k o e).2
 ·rintro k ⟨i,hi,hk⟩
  cases e:hs (L1.length+i) k with
  |none=>exact absurd e hk
  |some o=>exact (h3 _ om_ k o e).2
theorem Own.pick (h:Own D w L)(idx:List Nat)(hn:idx.Nodup)(hb:∀i∈idx,i<L.length):Own D w (idx.map fun i=>L.getD i emp):=by
 obtain ⟨hs,h1,h2,h3⟩:=h
 have hg:∀j,j<idx.length→idx.getD j 0<L.length:=fun j hj=>by
  rw [List.getD_eq_getElem?_getD,List.getElem?_eq_getElem hj];exact hb _ (List.getElem_mem hj)
 refine ⟨fun j=>hs (idx.getD j 0),fun j A hj=> ?_,fun i j hi hj hne=> ?_,fun j hj k o hk=> ?_⟩
 ·rw [List.getElem?_map] at hj
  cases e:idx[j]? with
  |none=>simp [e] at hj
  |some i=>
   have hi:i<L.length:=hb i (List.mem_of_getElem? e)
   simp only [e,Option.map_some,Option.some.injEq] at hj
   show A (hs (idx.getD j 0))
   rw [List.getD_eq_getElem?_getD,e]
   refine h1 i A ?_
   rw [←hj,List.getD_eq_getElem?_getD,List.getElem?_eq_getElem hi];rfl
 ·rw [List.length_map] at hi hj
  refine h2 _ _ (hg i hi) (hg j hj) fun e=>hne ?_
  rw [List.getD_eq_getElem?_getD,List.getD_eq_getElem?_getD,List.getElem?_eq_getElem hi,List.getElem?_eq_getElem hj] at e
  have hp:=List.pairwise_iff_getElem.1 hn
  rcases Nat.lt_trichotomy i j with h|h|h
  ·exact absurd e (hp i j hi hj h)
  ·exact h
  ·exact absurd e.symm (hp j i hj hi h)
 ·rw [List.length_map] at hj
  exact h3 _ (hg j hj) k o hk
theorem Own.get {g:Nat}{o:Obj}(h:Own D w L)(i:Nat)(hi:L[i]?=some (Vel.pt g o)):w.heap[g]?=some o∧D g:=by
 obtain ⟨hs,h1,_,h3⟩:=h
 have hp:=h1 i _ hi g
 rw [if_pos rfl] at hp
 exact h3 i (List.getElem?_eq_some_iff.1 hi).1 g o hp
theorem Own.upd {g:Nat}{o o':Obj}(h:Own D w L)(i:Nat)(hi:L[i]?=some (Vel.pt g o))(hw:∀k,k≠g→w'.heap[k]?=w.heap[k]?)(hg:w'.heap[g]?=some o'):Own D w' (L.set i (Vel.pt g o')):=by
 have hm:=(h.get i hi).2
 obtain ⟨hs,h1,h2,h3⟩:=h
 have hil:=(List.getElem?_eq_some_iff.1 hi).1
 have hp:=h1 i _ hi
 have hdom:∀j,j<L.length→j≠i→hs j g=none:=fun j hj hne=>by
  rcases h2 j i hj hil hne g with h|h
  ·exact h
  ·rw [hp g,if_pos rfl] at h;cases h
 refine ⟨fun j=>if j=i then (fun k=>if k=g then some o' else none) else hs j,fun j A hj=> ?_,fun j j' hj hj' hne k=> ?_,fun j hj k x hx=> ?_⟩
 ·by_cases hji:j=i
  ·subst hji
   rw [List.getElem?_set_self hil] at hj
   cases hj
   intro k;simp
  ·rw [List.getElem?_set_ne (fun h=>hji h.symm)] at hj
   simp only [hji,if_false]
   exact h1 j A hj
 ·rw [List.length_set] at hj hj'
  by_cases hji:j=i
  ·subst hji
   have:j'≠j:=fun h=>hne h.symm
   simp only [this,if_false,if_true]
   by_cases hk:k=g
   ·subst hk;exact .inr (hdom j' hj' this)
   ·simp [hk]
  ·by_cases hji':j'=i
   ·subst hji'
    simp only [hji,if_false,if_true]
    by_cases hk:k=g
    ·subst hk;exact .inl (hdom j hj hji)
    ·simp [hk]
   ·simp only [hji,hji',if_false]
    exact h2 j j' hj hj' hne k
 ·rw [List.length_set] at hj
  by_cases hji:j=i
  ·subst hji
   simp only [if_true] at hx
   split at hx
   ·rename_i hk;subst hk;cases hx;exact ⟨hg,hm⟩
   ·cases hx
  ·simp only [hji,if_false] at hx
   have h4:=h3 j hj k x hx
   refine ⟨(hw k ?_).trans h4.1,h4.2⟩
   rintro rfl
   rw [hdom j hj hji] at hx;cases hx
def stars (L:List Ast):Ast:=fun h=>∃hs:Nat→PH,(∀(i:Nat) (A:Ast),L[i]?=some A→A (hs i))∧(∀i j,i<L.length→j<L.length→i≠j→∀k,hs i k=none∨hs j k=none)∧(∀k o,h k=some o↔∃i,i<L.length∧hs i k=some o)
theorem Own.flat (h:Own D w [stars L]):Own D w L:=by
 obtain ⟨hs,h1,_,h3⟩:=h
 obtain ⟨ks,k1,k2,k3⟩:=h1 0 _ rfl
 exact ⟨ks,k1,k2,fun i hi k o hk=>h3 0 (by simp) k o ((k3 k o).2 ⟨i,hi,hk⟩)⟩
theorem Own.star (h:Own D w L):Own D w [stars L]:=by
 obtain ⟨hs,h1,h2,h3⟩:=h
 have key:∀k:Nat,∃r:Option Obj,∀o,r=some o↔∃i,i<L.length∧hs i k=some o:=fun k=>by
  by_cases he:∃i,i<L.length∧hs i k≠none
  ·obtain ⟨i,hi,hk⟩:=he
   refine ⟨hs i k,fun o=>⟨fun h=>⟨i,hi,h⟩,fun ⟨j,hj,h⟩=> ?_⟩⟩
   by_cases hij:i=j
   ·subst hij;exact h
   ·rcases h2 i j hi hj hij k with h4|h4
    ·exact absurd h4 hk
    ·rw [h] at h4;cases h4
  ·refine ⟨none,fun o=>⟨(fun h=>by cases h),fun ⟨i,hi,h⟩=>(he ⟨i,hi,by rw [h];simp⟩).elim⟩⟩
 obtain ⟨f,hf⟩:=Classical.axiomOfChoice key
 refine Own.one (h:=f) ⟨hs,h1,h2,hf⟩ fun k o hk=> ?_
 obtain ⟨i,hi,hk'⟩:=(hf k o).1 hk
 exact h3 i hi k o hk'
theorem Own.map1 {A B:Ast}(h:Own D w [A])(hAB:∀p,A p→B p):Own D w [B]:=by
 obtain ⟨hs,h1,h2,h3⟩:=h
 refine ⟨hs,fun i C hi=> ?_,h2,h3⟩
 cases i with
 |zero=>simp at hi;subst hi;exact hAB _ (h1 0 _ rfl)
 |succ i=>simp at hi
theorem Own.holds {A:Ast}(h:Own D w (A::L)):∃p,A p:=by
 obtain ⟨hs,h1,_⟩:=h
 exact ⟨hs 0,h1 0 _ rfl⟩
end
structure St (F:Nat→Prop)(w0 w:World)(L:List Ast):Prop where
 fr:Fr F w0 w
 own:Own (fun k=>F k∨w0.heap.size≤k) w L
section
variable {F:Nat→Prop}{w0 w w':World}{L LA LB:List Ast}
theorem St.init (F:Nat→Prop)(w:World):St F w w []:=⟨Fr.refl _ _,Own.nil _ _⟩
theorem St.get {g:Nat}{o:Obj}(S:St F w0 w L)(i:Nat)(hi:L[i]?=some (pt g o)):w.heap[g]?=some o:=(S.own.get i hi).1
theorem St.blk {g:Nat}{cs:Array Value}{t:TypeId}(S:St F w0 w L)(i:Nat)(hi:L[i]?=some (row g cs t)):Blk w g cs t:=⟨S.get i hi⟩
theorem St.mine {g:Nat}{o:Obj}(S:St F w0 w L)(i:Nat)(hi:L[i]?=some (pt g o)):F g∨w0.heap.size≤g:=(S.own.get i hi).2
theorem St.below (S:St F w0 w L)(hb:Below w.heap.size w w'):St F w0 w' L:=⟨S.fr.trans (Fr.of_below hb),S.own.frame fun k _ hk=>hb.block k hk⟩
theorem St.drew (S:St F w0 w L):St F w0 w.drew L:=S.below ((Below.refl _ _).drew)
theorem St.upd {g:Nat}{o o':Obj}(S:St F w0 w L)(i:Nat)(hi:L[i]?=some (pt g o))(hw:Only g w w')(hg:w'.heap[g]?=some o'):St F w0 w' (L.set i (pt g o')):=by
 have hm:=S.mine i hi
 refine ⟨⟨hw.os.trans S.fr.os,hw.tape.trans S.fr.tape,hw.output.trans S.fr.output,hw.size▸S.fr.size,fun k hk hf=> ?_⟩,S.own.upd i hi hw.block hg⟩
 have hkg:k≠g:=by rintro rfl;exact hm.elim hf (fun h=>absurd hk (Nat.not_lt.2 h))
 exact (hw.block k hkg).trans (S.fr.block k hk hf)
theorem St.new {g:Nat}{o:Obj}(S:St F w0 w L)(hb:Below w.heap.size w w')(hg:w.heap.size≤g)(ho:w'.heap[g]?=some o):St F w0 w' (pt g o::L):=by
 refine ⟨S.fr.trans (Fr.of_below hb), ?_⟩
 have h1:Own (fun k=>(F k∨w0.heap.size≤k)∧k<w.heap.size) w' L:=(S.own.mono (D1:=fun k=>(F k∨w0.heap.size≤k)∧k<w.heap.size) fun k hk hl=>⟨hk,hl⟩).frame fun k _ hk=>hb.block k hk
 exact ((Own.pt ho).append h1 fun i hi hj _=>by subst hi;omega).mono fun k hk _=>hk.elim (fun h=>.inr (by subst h;exact Nat.le_trans S.fr.size hg)) (fun h=>h.1)
theorem St.pick (S:St F w0 w L)(idx:List Nat)(hn:idx.Nodup)(hb:∀i∈idx,i<L.length):St F w0 w (idx.map fun i=>L.getD i emp):=⟨S.fr,S.own.pick idx hn hb⟩
theorem St.split_own (S:St F w0 w (LA++LB)):∃F1,St F1 w w LA∧(∀k,F1 k→F k∨w0.heap.size≤k)∧(∀w' L',St F1 w w' L'→St F w0 w' (L'++LB))∧∀w',Fr F1 w w'→Own (fun _=>True) w' LB:=by
 obtain ⟨D1,D2,h1,h2,h3,h4,h5⟩:=S.own.split
 have fr2:∀w',Fr D1 w w'→Own D2 w' LB:=fun w' hf=>h2.frame fun k hk hl=>hf.block k hl (fun h=>h3 k h hk)
 refine ⟨D1,⟨Fr.refl _ _,h1.mono fun k hk _=>.inl hk⟩,h4,fun w' L' S'=>⟨S.fr.step S'.fr h4, ?_⟩,fun w' hf=>(fr2 w' hf).mono fun _ _ _=>trivial⟩
 have h2':Own (fun k=>D2 k∧k<w.heap.size) w' LB:=(h2.mono (D1:=fun k=>D2 k∧k<w.heap.size) fun k hk hl=>⟨hk,hl⟩).frame fun k hk _=>S'.fr.block k hk.2 (fun h=>h3 k h hk.1)
 refine (S'.own.append h2' fun i hi hj _=>hi.elim (fun h=>h3 i h hj.1) (fun h=>absurd hj.2 (Nat.not_lt.2 h))).mono fun k hk _=> ?_
 rcases hk with (h|h)|h
 ·exact h4 k h
 ·exact .inr (Nat.le_trans S.fr.size h)
 ·exact h5 k h.1
theorem St.call (S:St F w0 w (LA++LB)):∃F1,St F1 w w LA∧(∀k,F1 k→F k∨w0.heap.size≤k)∧(∀w' L',St F1 w w' L'→St F w0 w' (L'++LB))∧∀(i g:Nat) (o:Obj),LB[i]?=some (pt g o)→∀w',Fr F1 w w'→w'.heap[g]?=some o:=by
 obtain ⟨F1,h1,h2,h3,h4⟩:=S.split_own
 exact ⟨F1,h1,h2,h3,fun i g o hi w' hf=>((h4 w' hf).get i hi).1⟩
theorem St.flat (S:St F w0 w (stars LA::LB)):St F w0 w (LA++LB):=by
 obtain ⟨D1,D2,h1,h2,h3,h4,h5⟩:=Own.split (L1:=[stars LA]) (L2:=LB) S.own
 exact ⟨S.fr,(h1.flat.append h2 fun i hi hj _=>h3 i hi hj).mono fun k hk _=>hk.elim (h4 k) (h5 k)⟩
theorem St.star (S:St F w0 w (LA++LB)):St F w0 w (stars LA::LB):=by
 obtain ⟨D1,D2,h1,h2,h3,h4,h5⟩:=S.own.split
 exact ⟨S.fr,((Own.star h1).append h2 fun i hi hj _=>h3 i hi hj).mono fun k hk _=>hk.elim (h4 k) (h5 k)⟩
theorem St.map1 {A B:Ast}(S:St F w0 w (A::L))(h:∀p,A p→B p):St F w0 w (B::L):=by
 obtain ⟨D1,D2,h1,h2,h3,h4,h5⟩:=Own.split (L1:=[A]) (L2:=L) S.own
 exact ⟨S.fr,((h1.map1 h).append h2 fun i hi hj _=>h3 i hi hj).mono fun k hk _=>hk.elim (h4 k) (h5 k)⟩
theorem St.ex {α:Sort _}{A:α→Ast}(S:St F w0 w ((fun p=>∃x,A x p)::L)):∃x,St F w0 w (A x::L):=by
 obtain ⟨fr,hs,h1,h2,h3⟩:=S
 obtain ⟨x,hx⟩:=h1 0 _ rfl
 refine ⟨x,fr,hs,fun i B hi=> ?_,h2,h3⟩
 cases i with
 |zero=>simp at hi;subst hi;exact hx
 |succ i=>exact h1 (i+1) B hi
theorem St.fact {p:Prop}{A:Ast}(S:St F w0 w ((fun h=>p∧A h)::L)):p∧St F w0 w (A::L):=by
 obtain ⟨q,hq⟩:=S.own.holds
 exact ⟨hq.1,S.map1 fun _ h=>h.2⟩
end
end
section
def waits (o:Oper)(j:Nat):Bool:=o.after.any fun e=>Region.binds .any e&&e.on==j
def fill (l:List Oper)(sel:Nat→Bool)(vals:Nat→Value)(a:Act):Act:=
 {a with tmps:=a.tmps.mapIdx fun t v=>match (List.range l.length).find? (fun i=>sel i&&((l[i]?).bind (·.dst)==some t)) with|some i=>vals i|none=>v}
def relyB (l:List Oper)(n:Nat):Bool:=
 Region.noSelect l.toArray&&
 decide (n≤l.length)&&
 (List.range l.length).all (fun i=>(List.range l.length).all fun j=>
  match l[i]?,l[j]? with
  |some oi,some oj=>
   (i==j||oi.dst.isNone||oi.dst !=oj.dst)&&
   (match oj.dst with
    |some t=> !((oi.looksAt l.toArray).contains t)||waits oi j||waits oj i||i==j&&false
    |none=>true)&&
   (!(decide (n≤i)&&decide (j<i))||waits oi j)
  |_,_=>true)
def gives (P:Program)(K:Value→World→Prop):Result Next→Prop
 |.ok (.value v) w'=>K v w'
 |.ok .skip w'=>K undef w'
 |.ok (.enter f args) w'=>Calls P f args w' fun e w''=>∃v,e=.returned v∧K v w''
 |_=>False
section
variable {P:Program}{l:List Oper}{Q:Exit→Act→World→Prop}{a:Act}{n:Nat}
theorem find_congr {α:Type}{p q:α→Bool}:∀{l:List α},(∀x,x∈l→p x=q x)→l.find? p=l.find? q
 |[],_=>rfl
 |x::l,h=>by
  simp only [List.find?_cons,h x List.mem_cons_self,find_congr (fun y hy=>h y (List.mem_cons_of_mem _ hy))]
theorem find_sel {m:Nat}{p:Nat→Bool}{i:Nat}(h:(List.range m).find? p=some i):i<m∧p i=true:=
 ⟨List.mem_range.1 (List.mem_of_find?_eq_some h),List.find?_some h⟩
theorem fill_size (sel:Nat→Bool)(vals:Nat→Value):(fill l sel vals a).tmps.size=a.tmps.size:=by simp [fill]
theorem fill_get (sel:Nat→Bool)(vals:Nat→Value)(t:Nat):(fill l sel vals a).tmps[t]?=(a.tmps[t]?).map fun v=>match (List.range l.length).find? (fun i=>sel i&&((l[i]?).bind (·.dst)==some t)) with|some i=>vals i|none=>v:=by
 simp [fill]
theorem act_ext {x y:Act}(h1:∀t:Nat,x.tmps[t]?=y.tmps[t]?)(h2:x.defers=y.defers):x=y:=by
 cases x;cases y
 simp only [Act.mk.injEq]
 exact ⟨Array.ext_getElem? h1,h2⟩
theorem relyB_spec (h:relyB l n=true):Region.noSelect l.toArray=true∧n≤l.length∧∀i j oi oj,l[i]?=some oi→l[j]?=some oj→
  (i≠j→∀t,oi.dst=some t→oj.dst≠some t)∧(∀t,oj.dst=some t→t∈oi.looksAt l.toArray→waits oi j=true∨waits oj i=true)∧(n≤i→j<i→waits oi j=true):=by
 simp only [relyB,Bool.and_eq_true,decide_eq_true_eq] at h
 obtain ⟨⟨h1,h2⟩,h3⟩:=h
 refine ⟨h1,h2,fun i j oi oj hi hj=> ?_⟩
 have hil:i<l.length:=(List.getElem?_eq_some_iff.1 hi).1
 have hjl:j<l.length:=(List.getElem?_eq_some_iff.1 hj).1
 have h4:=List.all_eq_true.1 (List.all_eq_true.1 h3 i (List.mem_range.2 hil)) j (List.mem_range.2 hjl)
 simp only [hi,hj,Bool.and_eq_true] at h4
 obtain ⟨⟨h5,h6⟩,h7⟩:=h4
 refine ⟨fun hne t ht he=> ?_,fun t ht hl=> ?_,fun hn hlt=> ?_⟩
 ·simp [hne,ht,he] at h5
 ·simp only [ht] at h6
  have hc:(oi.looksAt l.toArray).contains t=true:=by simpa using hl
  simp only [hc,Bool.not_true,Bool.false_or,Bool.and_false,Bool.or_false,Bool.or_eq_true] at h6
  exact h6
 ·simpa [hn,hlt] using h7
theorem run_same {o:Oper}{x y:Act}(hs:∀cs b,o.op≠.select cs b)(h:∀t:Nat,t∈o.looksAt l.toArray→x.tmps[t]?=y.tmps[t]?):
  execOp x.eval o=execOp y.eval o∧Region.wanted o (yielded l.toArray x.tmps)=Region.wanted o (yielded l.toArray y.tmps):=by
 constructor
 ·refine execOp_congr o hs (fun op hop=> ?_)
  cases op with
  |tmp t=>
   have hm:t∈o.looksAt l.toArray:=by
    unfold Oper.looksAt
    refine List.mem_append_left _ (List.mem_filterMap.2 ⟨.tmp t,by simpa using hop,rfl⟩)
   simp only [Act.eval,Array.getD_eq_getD_getElem?]
   rw [h t hm]
  |_=>rfl
 ·unfold Region.wanted
  cases hg:o.guard with
  |none=>rfl
  |some gd=>
   obtain ⟨g,want⟩:=gd
   have e:yielded l.toArray x.tmps g=yielded l.toArray y.tmps g:=by
    unfold yielded
    cases hgd:(l.toArray[g]?).bind (·.dst) with
    |none=>rfl
    |some t=>
     have hm:t∈o.looksAt l.toArray:=by
      unfold Oper.looksAt
      refine List.mem_append_right _ ?_
      simp only [hg,hgd,Option.toList]
      exact List.mem_singleton.2 rfl
     simp only [Option.bind_some,h t hm]
   show (yielded l.toArray x.tmps g==some want)=_
   rw [e]
theorem gives_mono {K K':Value→World→Prop}(h:∀v w,K v w→K' v w){r:Result Next}(hr:gives P K r):gives P K' r:=by
 cases r with
 |halt x w=>exact hr
 |ok x w=>
  cases x<;>first
   |exact h _ _ hr
   |exact hr
   |exact Calls.mono hr (fun e w'' ⟨v,he,hk⟩=>⟨v,he,h _ _ hk⟩)
theorem wp_of_gives {o:Oper}{x:Act}{w:World}{K:Act→World→Prop}(h:gives P (fun v w'=>K (x.put o.dst v) w') ((execOp x.eval o).run P w)):o.wp P x w K Q:=by
 unfold Oper.wp
 generalize (execOp x.eval o).run P w=r at h
 cases r with
 |halt y w'=>exact h.elim
 |ok y w'=>
  cases y<;>first
   |exact h
   |exact h.elim
   |exact Calls.mono h (fun e w'' ⟨v,he,hk⟩=>by subst he;exact hk)
def cnt (f:Nat→Bool):Nat→Nat
 |0=>0
 |n+1=>cnt f n+(if f n then 0 else 1)
theorem cnt_set {f g:Nat→Bool}{i:Nat}(hf:f i=false)(hg:g i=true)(he:∀j,j≠i→g j=f j):∀n,cnt f n=cnt g n+(if i<n then 1 else 0)
 |0=>by simp [cnt]
 |n+1=>by
  have ih:=cnt_set hf hg he n
  simp only [cnt]
  by_cases h:n=i
  ·subst h
   rw [hf,hg,ih]
   simp
  ·rw [he n h,ih]
   rcases Nat.lt_or_ge i n with hlt|hge
   ·have h2:i<n+1:=by omega
    simp only [hlt,h2,if_true];omega
   ·have h1:¬i<n:=by omega
    have h2:¬i<n+1:=by omega
    simp only [h1,h2,if_false];omega
theorem cnt_zero {f:Nat→Bool}:∀{n:Nat},cnt f n=0→∀i,i<n→f i=true
 |0,_,i,hi=>by omega
 |n+1,h,i,hi=>by
  simp only [cnt] at h
  have h1:cnt f n=0:=by omega
  by_cases he:i=n
  ·subst he
   cases hf:f i with
   |true=>rfl
   |false=>simp [hf] at h
  ·exact cnt_zero h1 i om_
theorem cnt_pos {f:Nat→Bool}:∀{n:Nat},0<cnt f n→∃i,i<n∧f i=false∧∀j,j<i→f j=true
 |0,h=>by simp [cnt] at h
 |n+1,h=>by
  by_cases h1:0<cnt f n
  ·obtain ⟨i,hi,hf,hj⟩:=cnt_pos h1
   exact ⟨i,by omega,hf,hj⟩
  ·simp only [cnt] at h
   refine ⟨n,by omega, ?_,fun j hj=>cnt_zero om_ j hj⟩
   cases hf:f n with
   |false=>rfl
   |true=>simp [hf] at h;omega
def relyC (l:List Oper)(n:Nat):Bool:=
 (List.range l.length).all (fun i=>match l[i]? with|some oi=>oi.after.all (fun e=> !Region.binds .any e||decide (e.on<i))|none=>true)&&
 Region.seqB .any l.toArray (l.length-n) n (((List.range l.length).map fun i=>decide (i<n)).toArray)
theorem waits_of {o:Oper}{e:Edge}(he:e∈o.after)(hb:Region.binds .any e=true):waits o e.on=true:=by
 unfold waits
 exact Array.any_eq_true'.2 ⟨e,he,by simp [hb]⟩
theorem of_waits {o:Oper}{j:Nat}(h:waits o j=true):∃e∈o.after,Region.binds .any e=true∧e.on=j:=by
 obtain ⟨e,he,h2⟩:=Array.any_eq_true'.1 h
 simp only [Bool.and_eq_true,beq_iff_eq] at h2
 exact ⟨e,he,h2.1,h2.2⟩
theorem getD_listed {listed:Array Bool}{i j:Nat}{d:Bool}(hj:j<listed.size):(listed.setIfInBounds i true).getD j d=(if i=j then true else listed.getD j d):=by
 simp only [Array.getD_eq_getD_getElem?,Array.getElem?_setIfInBounds]
 by_cases h:i=j
 ·subst h;simp [hj]
 ·simp [h]
variable {w:World}{Cls:World→Prop}{S:Nat→Value→World→Prop}
end
end
end Go.Vel
end
section
open Go Go.RowKit Go.Proofs.YtgeioealgidkiaaW.PrintWords
namespace Go.Vel
section
section
variable {P:Program}{l:List Oper}{a:Act}{o:Oper}{ρ:Operand→Value}{w:World}{K:Value→World→Prop}
theorem fill_hit {sel:Nat→Bool}{vals:Nat→Value}{t k:Nat}(h:(List.range l.length).find? (fun i=>sel i&&((l[i]?).bind (·.dst)==some t))=some k)(ht:t<a.tmps.size):(fill l sel vals a).eval (.tmp t)=vals k:=by
 show (fill l sel vals a).tmps.getD t undef=_
 rw [Array.getD_eq_getD_getElem?,fill_get,h,Array.getElem?_eq_getElem ht];rfl
theorem fill_miss {sel:Nat→Bool}{vals:Nat→Value}{t:Nat}(h:(List.range l.length).find? (fun i=>sel i&&((l[i]?).bind (·.dst)==some t))=none):(fill l sel vals a).eval (.tmp t)=a.eval (.tmp t):=by
 show (fill l sel vals a).tmps.getD t undef=a.tmps.getD t undef
 rw [Array.getD_eq_getD_getElem?,Array.getD_eq_getD_getElem?,fill_get,h]
 cases a.tmps[t]?<;>rfl
theorem gv_val {v:Value}{w':World}(hr:(execOp ρ o).run P w=.ok (.value v) w')(h:K v w'):gives P K ((execOp ρ o).run P w):=by
 rw [hr];exact h
theorem gv_load {T:TypeId}{x:Operand}{ad:Addr}{v:Value}{d:TypeDesc}(ho:o.op=.load T x)(hd:(match d with|.struct _|.array _ _=>true|_=>false)=false)(hT:P.underlying T=some d)(hx:ρ x=.pointer (some ad))(hc:w.cell? ad=some v)(h:K v w):gives P K ((execOp ρ o).run P w):=by
 refine gv_val (w':=w) ?_ h
 simp only [execOp,ho,hx,Instr.loadAt,Instr.sureAddr]
 have e:(isAgg T).run P w=.ok false w:=by
  unfold isAgg
  rw [Sem.run_bind,run_underlying hT w]
  cases d<;>simp_all
 simp [loadVar,e,hc]
theorem gv_call {f:FuncId}{xs:Array Operand}{ts:Array TypeId}{fn:Func}{c:Code}{args:Array Value}(ho:o.op=.call {callee:=.value (.func f),args:=xs,argTypes:=ts})(hf:P.funcs[f]?=some fn)(hname:(fn.name=="runtime.NumGoroutine")=false)(hb:fn.body=some c)(hρ:ρ (.func f)=.func (.func f) #[] #[])
  (hx:xs.map ρ=args) (h:Calls P f args w fun e w''=>∃v,e=.returned v∧K v w''):gives P K ((execOp ρ o).run P w):=by
 have h1:fn.name≠"runtime.NumGoroutine":=by simpa using hname
 have e:(execOp ρ o).run P w=.ok (.enter f args) w:=by
  simp only [execOp,ho,resolve,hρ,hx]
  simp [Deferred.ofValue,invoke,callFunc,hf,h1,hb]
 rw [e];exact h
theorem gv_alloc {T:TypeId}{z:Array Value}(ho:o.op=.alloc T)(hT:Agg P T z)(h:∀g w',Blk w' g z T→w.heap.size≤g→Below w.heap.size w w'→K (.pointer (some ⟨g,0,none⟩)) w'):gives P K ((execOp ρ o).run P w):=by
 refine gv_val (v:=.pointer (some ⟨w.heap.size,0,none⟩)) (w':=w.alloc (.cells z T)) ?_ (h _ _ ⟨heap_alloc_new w _⟩ (Nat.le_refl _) ((Below.refl _ _).alloc (Nat.le_refl _) _))
 simp [execOp,ho,run_alloc hT]
end
def look (l:List Oper)(a:Act)(vals:Nat→Value)(i:Nat)(x:Operand):Value:=
 match l[i]? with
 |some o=>(fill l (waits o) vals a).eval x
 |none=>undef
def waitsAt (l:List Oper)(i j:Nat):Bool:=match l[i]? with|some o=>waits o j|none=>false
structure StepOK (P:Program)(l:List Oper)(a:Act)(Cls:World→Prop)(S:Nat→Value→World→Prop)(vals:Nat→Value)(w:World)(i:Nat):Prop where
 out:∀o,l[i]?=some o→if Region.wanted o (yielded l.toArray (fill l (waits o) vals a).tmps)=true then gives P (fun v w2=>Below w.heap.size w w2∧Cls w2∧S i v w2) ((execOp (fill l (waits o) vals a).eval o).run P w) else S i undef w
section
variable {P:Program}{l:List Oper}{a:Act}{Cls:World→Prop}{S:Nat→Value→World→Prop}{vals:Nat→Value}{w:World}{i:Nat}
structure Runs (l:List Oper)(a:Act)(vals:Nat→Value)(i:Nat)(f:Op):Prop where
 out:∀o,l[i]?=some o→o.op=f∧Region.wanted o (yielded l.toArray (fill l (waits o) vals a).tmps)=true
theorem Runs.free {f:Op}(ho:(l[i]?).map (fun o=>(o.op,o.guard))=some (f,none)):Runs l a vals i f:=by
 refine ⟨fun o hq=> ?_⟩
 rw [hq] at ho
 simp only [Option.map_some,Option.some.injEq,Prod.mk.injEq] at ho
 exact ⟨ho.1,by unfold Region.wanted;rw [ho.2]⟩
theorem StepOK.intro {f:Op}(H:Runs l a vals i f)
  (h:∀(o:Oper),o.op=f→look l a vals i=(fill l (waits o) vals a).eval→gives P (fun v w2=>Below w.heap.size w w2∧Cls w2∧S i v w2) ((execOp (fill l (waits o) vals a).eval o).run P w)):StepOK P l a Cls S vals w i:=by
 refine ⟨fun o hq=> ?_⟩
 obtain ⟨h1,h2⟩:=H.out o hq
 rw [if_pos h2]
 refine h o h1 ?_
 funext x
 unfold look
 rw [hq]
theorem StepOK.load {T:TypeId}{x:Operand}{ad:Addr}{v:Value}{d:TypeDesc}(H:Runs l a vals i (.load T x))(hc:Cls w)(hd:(match d with|.struct _|.array _ _=>true|_=>false)=false)(hT:P.underlying T=some d)(hx:look l a vals i x=.pointer (some ad))(hcell:w.cell? ad=some v)(h:S i v w):StepOK P l a Cls S vals w i:=
 .intro H fun _ e1 e2=>gv_load e1 hd hT (by rw [←e2];exact hx) hcell ⟨Below.refl _ _,hc,h⟩
theorem StepOK.alloc {T:TypeId}{z:Array Value}(H:Runs l a vals i (.alloc T))(hT:Agg P T z)(h:∀g w',Blk w' g z T→w.heap.size≤g→Below w.heap.size w w'→Cls w'∧S i (.pointer (some ⟨g,0,none⟩)) w'):StepOK P l a Cls S vals w i:=
 .intro H fun _ e1 _=>gv_alloc e1 hT fun g w' h1 h2 h3=>⟨h3,h g w' h1 h2 h3⟩
theorem StepOK.call {f:FuncId}{xs:Array Operand}{ts:Array TypeId}{fn:Func}{c:Code}{args:Array Value}(H:Runs l a vals i (.call {callee:=.value (.func f),args:=xs,argTypes:=ts}))(hf:P.funcs[f]?=some fn)(hname:(fn.name=="runtime.NumGoroutine")=false)(hb:fn.body=some c)
  (hx:xs.map (look l a vals i)=args) (h:Calls P f args w fun e w''=>∃v,e=.returned v∧Below w.heap.size w w''∧Cls w''∧S i v w''):StepOK P l a Cls S vals w i:=
 .intro H fun _ e1 e2=>gv_call e1 hf hname hb rfl (by rw [←e2];exact hx) h
theorem StepOK.val {f:Op}{v:Value}(H:Runs l a vals i f)(hc:Cls w)(hr:∀(o:Oper),o.op=f→(execOp (look l a vals i) o).run P w=.ok (.value v) w)(h:S i v w):StepOK P l a Cls S vals w i:=
 .intro H fun o e1 e2=>gv_val (w':=w) (by rw [←e2];exact hr o e1) ⟨Below.refl _ _,hc,h⟩
theorem StepOK.pick {x y z:Operand}{b:Bool}{u v:Value}(H:Runs l a vals i (.pick x y z))(hc:Cls w)(hx:look l a vals i x=.bool b)(hy:look l a vals i y=u)(hz:look l a vals i z=v)(h:S i (if b then u else v) w):StepOK P l a Cls S vals w i:=
 .val H hc (fun o e=>by simp only [execOp,e,hx,hy,hz];cases b<;>simp [asBool]) h
theorem wl_frame {ops:Array Oper}{rest:List Oper}{Q:Exit→Act→World→Prop}(b:Act)(h:a=b)(h2:wpList P ops Q rest b w):wpList P ops Q rest a w:=h▸h2
end
section
variable {P:Program}
end
end
section
section
variable {P:Program}{ops:Array Oper}{rest:List Oper}{o:Oper}{a:Act}{Q:Exit→Act→World→Prop}{w:World}
theorem madeCells_zero (n:Nat):madeCells #[Value.int .u8 0] n=bvs (List.replicate n 0):=by
 apply Array.ext'
 simp [madeCells,bvs,bv]
 apply List.ext_getElem?
 intro k
 rw [List.getElem?_map,List.getElem?_replicate]
 by_cases hk:k<n
 ·rw [List.getElem?_range hk];simp [hk,Nat.mod_one]
 ·rw [List.getElem?_eq_none (by simpa using hk)];simp [hk]
end
end
end Go.Vel
end
section
open Go Go.RowKit Go.Proofs.YtgeioealgidkiaaW.PrintWords
namespace Go.Vel
set_option linter.unusedVariables false
set_option linter.unusedSimpArgs false
section
def oneB (P:Program)(T:TypeId):Bool:=match P.underlying T with|some (.struct _)|some (.array _ _)|none=>false|some _=>true
def aggB (P:Program)(T:TypeId)(n:Nat):Bool:=(match P.underlying T with|some (.struct _)|some (.array _ _)=>true|_=>false)&&((P.info? T).map (·.size)==some n)
theorem oneB_run {P:Program}{T:TypeId}(h:oneB P T=true)(w:World):(isAgg T).run P w=.ok false w:=by
 unfold oneB at h
 cases hd:P.underlying T with
 |none=>simp [hd] at h
 |some d=>cases d<;>simp_all [isAgg,run_underlying hd]
theorem aggB_run {P:Program}{T:TypeId}{n:Nat}(h:aggB P T n=true)(w:World):(isAgg T).run P w=.ok true w∧∃i,P.info? T=some i∧i.size=n:=by
 unfold aggB at h
 rw [Bool.and_eq_true] at h
 obtain ⟨h1,h2⟩:=h
 constructor
 ·cases hd:P.underlying T with
  |none=>simp [hd] at h1
  |some d=>cases d<;>simp_all [isAgg,run_underlying hd]
 ·cases hi:P.info? T with
  |none=>simp [hi] at h2
  |some i=>exact ⟨i,rfl,by simpa [hi] using h2⟩
structure Elt (P:Program)(e:TypeId)(z:Value)(sz by_:Nat):Prop where
 info:(P.info? e).map (fun i=>(i.zero,i.size,i.bytes))=some (some z,sz,by_)
theorem Elt.get {P:Program}{e:TypeId}{z:Value}{sz by_:Nat}(h:Elt P e z sz by_):∃i,P.info? e=some i∧i.zero=some z∧i.size=sz∧i.bytes=by_:=by
 obtain ⟨i,hi,hz⟩:=Option.map_eq_some_iff.1 h.info
 simp only [Prod.mk.injEq] at hz
 exact ⟨i,hi,hz.1,hz.2.1,hz.2.2⟩
def RdB (w:World)(A:Option Addr)(l:List UInt8):Prop:=0<l.length→∃ad,A=some ad∧∀j v,(l.map bv)[j]?=some v→w.cell? (ad.add j)=some v
theorem RdB.of_C {w:World}{A:Option Addr}{l:List UInt8}(h:(Kd.int .u8).C w A (ofB l).length (ofB l)):RdB w A l:=fun h0=>cells_C h h0
theorem RdB.nil {w:World}{A:Option Addr}:RdB w A []:=fun h=>absurd h (Nat.lt_irrefl 0)
theorem RdB.row {w:World}{g:Nat}{L:List UInt8}{t:TypeId}(h:Blk w g (bvs L) t)(o n:Nat)(l:List UInt8)(hl:l=(L.drop o).take n):RdB w (some ⟨g,o,none⟩) l:=by
 intro _
 refine ⟨_,rfl,fun j v hv=> ?_⟩
 subst hl
 rw [Addr.add_lit,h.cell,get_bvs]
 rw [List.getElem?_map,List.getElem?_take] at hv
 split at hv
 ·rw [List.getElem?_drop] at hv;exact hv
 ·simp at hv
theorem RdB.fr {F:Nat→Prop}{w w':World}{A:Option Addr}{l:List UInt8}(h:RdB w A l)(hf:Fr F w w')(hA:∀ad,A=some ad→0<l.length→¬F ad.block):RdB w' A l:=by
 intro h0
 obtain ⟨ad,e,hc⟩:=h h0
 refine ⟨ad,e,fun j v hv=> ?_⟩
 have h1:=hc j v hv
 have hb:(ad.add j).block=ad.block:=by unfold Addr.add;split<;>rfl
 have hlt:=World.block_lt_of_cell? w _ h1
 rw [hb] at hlt
 have h2:=hf.block ad.block hlt (hA ad e h0)
 unfold World.cell? at h1 ⊢
 rw [hb] at h1 ⊢
 rw [h2];exact h1
structure Ro (F:Nat→Prop)(w:World)(A:Option Addr)(l:List UInt8):Prop where
 out:∀w',Fr F w w'→RdB w' A l
theorem Ro.step {F F1:Nat→Prop}{w0 w:World}{A:Option Addr}{l:List UInt8}(h:Ro F w0 A l)(hf:Fr F w0 w)(hF:∀k,F1 k→F k∨w0.heap.size≤k):Ro F1 w A l:=⟨fun w' h'=>h.out w' (hf.step h' hF)⟩
theorem Ro.of_C {F:Nat→Prop}{w:World}{A:Option Addr}{l:List UInt8}(h:RdB w A l)(hF:∀k,F k→False):Ro F w A l:=⟨fun w' hf=>h.fr hf (fun _ _ _ hk=>hF _ hk)⟩
section
variable {P:Program}{ops:Array Oper}{rest:List Oper}{o:Oper}{a:Act}{Q:Exit→Act→World→Prop}{w w0:World}{F:Nat→Prop}{L:List Ast}{ρ:Operand→Value}{K:Value→World→Prop}{next:Act→World→Prop}
theorem wl_gv (hg:o.guard=none)(h:gives P (fun v w'=>wpList P ops Q rest (a.put o.dst v) w') ((execOp a.eval o).run P w)):wpList P ops Q (o::rest) a w:=
 wpList_plain hg fun _ hK=>wp_of_gives (gives_mono (fun _ _ h=>hK _ _ h) h)
abbrev ud:Value:=undef
abbrev iv (z:Int):Value:=.int .i64 z
abbrev tv:Value:=.bool true
abbrev fv:Value:=.bool false
abbrev pn:Value:=.pointer none
abbrev pq (g:Nat):Value:=.pointer (some ⟨g,0,none⟩)
abbrev po (g o:Nat):Value:=.pointer (some ⟨g,o,none⟩)
abbrev sl (g o n c:Nat):Value:=.slice (some ⟨g,o,none⟩) n c
abbrev fr (l:List Value)(n:Nat):Act:=⟨(l++List.replicate n undef).toArray,[]⟩
abbrev jl (l:List Value)(i:Nat):Value:=l.getD i undef
theorem pv (v:Value)(h:wpList P ops Q rest (a.put o.dst v) w)(hg:o.guard=none:=by rfl)(hr:(execOp a.eval o).run P w=.ok (.value v) w:=by kernel_rfl):wpList P ops Q (o::rest) a w:=
 wl_gv hg (gv_val hr h)
theorem wl_when (hw:Region.wanted o (yielded ops a.tmps)=true)(h:gives P (fun v w'=>wpList P ops Q rest (a.put o.dst v) w') ((execOp a.eval o).run P w)):wpList P ops Q (o::rest) a w:=by
 unfold wpList
 rw [if_pos hw]
 exact .inl (wp_of_gives h)
theorem wl_not (hw:Region.wanted o (yielded ops a.tmps)=false)(h:wpList P ops Q rest (a.put o.dst undef) w):wpList P ops Q (o::rest) a w:=wpList_skip hw h
theorem wl_end (b:Act)(h:a=b)(h2:Q .normal b w):wpList P ops Q [] a w:=by subst h;exact h2
theorem then_n (h:next a w):Exit.then next Q .normal a w:=h
theorem then_x {i:Nat}(h:Q (.exit i) a w):Exit.then next Q (.exit i) a w:=h
theorem then_r (h:Q .ret a w):Exit.then next Q .ret a w:=h
theorem inb_n {i:Nat}(h:Q .normal a w):Exit.inBlock i Q .normal a w:=h
theorem inb_r {i:Nat}(h:Q .ret a w):Exit.inBlock i Q .ret a w:=h
theorem inb_x {i:Nat}(h:Q .normal a w):Exit.inBlock i Q (.exit i) a w:=by simp only [Exit.inBlock,if_true];exact h
theorem wp_enter {f:FuncId}{fn:Func}{c:Code}{args:Array Value}{R:Ending→World→Prop}(b:Act)(hf:P.funcs[f]?=some fn)(hb:fn.body=some c)(he:({tmps:=args++Array.replicate (fn.ntmps-args.size) undef,defers:=[]}:Act)=b)(h:c.wp P (bodyPost P fn R) b w):Calls P f args w R:=
 calls_of_wp hf hb (he▸h)
theorem wp_loop_g {G:Type}{c:Code}(I:G→Act→World→Prop)(μ:G→Nat)(g0:G)(h0:I g0 a w)(round:∀g a w,I g a w→c.wp P (Exit.then (fun a' w'=>∃g',I g' a' w'∧μ g'<μ g) Q) a w):(Code.loop c).wp P Q a w:=by
 refine wp_loop_ghost (fun n a w=>∃g,μ g=n∧I g a w) (μ g0) ⟨g0,rfl,h0⟩ ?_
 rintro n a w ⟨g,rfl,hI⟩
 refine Code.wp_mono ?_ (round g a w hI)
 intro e a' w' hq
 cases e<;>first
  |exact hq
  |(obtain ⟨g',h1,h2⟩:=hq;exact ⟨μ g',h2,g',rfl,h1⟩)
theorem gv_int {k:IntKind}{z z':Int}(hr:(execOp ρ o).run P w=.ok (.value (.int k z)) w)(hz:z=z')(h:K (.int k z') w):gives P K ((execOp ρ o).run P w):=by subst hz;exact gv_val hr h
theorem gv_boolv {b:Bool}(hr:(execOp ρ o).run P w=.ok (.value (.bool b)) w)(ht:b=true→K (.bool true) w)(hf:b=false→K (.bool false) w):gives P K ((execOp ρ o).run P w):=by
 cases b with
 |true=>exact gv_val hr (ht rfl)
 |false=>exact gv_val hr (hf rfl)
theorem gv_dec {p:Prop}[Decidable p](hr:(execOp ρ o).run P w=.ok (.value (.bool (decide p))) w)(ht:p→K (.bool true) w)(hf:¬p→K (.bool false) w):gives P K ((execOp ρ o).run P w):=
 gv_boolv hr (fun h=>ht (of_decide_eq_true h)) (fun h=>hf (of_decide_eq_false h))
theorem gv_eq {x y:Int}(hr:(execOp ρ o).run P w=.ok (.value (.bool (x==y))) w)(ht:x=y→K (.bool true) w)(hf:¬x=y→K (.bool false) w):gives P K ((execOp ρ o).run P w):=
 gv_boolv hr (fun h=>ht (by simpa using h)) (fun h=>hf (by simpa using h))
theorem gv_ne {x y:Int}(hr:(execOp ρ o).run P w=.ok (.value (.bool (x !=y))) w)(ht:¬x=y→K (.bool true) w)(hf:x=y→K (.bool false) w):gives P K ((execOp ρ o).run P w):=
 gv_boolv hr (fun h=>ht (by simpa using h)) (fun h=>hf (by simpa using h))
theorem gv_ldR {T:TypeId}{x:Operand}{ad:Addr}{v:Value}(ho:o.op=.load T x)(hT:oneB P T=true)(hx:ρ x=.pointer (some ad))(hc:w.cell? ad=some v)(h:K v w):gives P K ((execOp ρ o).run P w):=by
 refine gv_val (w':=w) ?_ h
 simp only [execOp,ho,hx,Instr.loadAt,Instr.sureAddr]
 simp [loadVar,oneB_run hT,hc]
theorem gv_ldRA {T:TypeId}{x:Operand}{ad:Addr}{vs:List Value}{n:Nat}(ho:o.op=.load T x)(hT:aggB P T n=true)(hx:ρ x=.pointer (some ad))(hn:vs.length=n)(hc:∀j v,vs[j]?=some v→w.cell? (ad.add j)=some v)(h:K (.agg vs.toArray) w):gives P K ((execOp ρ o).run P w):=by
 refine gv_val (w':=w) ?_ h
 obtain ⟨h1,i,hi,hs⟩:=aggB_run hT w
 have hl:=run_loadCells_list (P:=P) w ad vs hc
 rw [hn] at hl
 simp only [execOp,ho,hx,Instr.loadAt,Instr.sureAddr]
 simp [loadVar,h1,sizeOf,typeInfo,hi,hs,hl]
theorem gv_ldA {T:TypeId}{x:Operand}{g k n:Nat}{cs:Array Value}{t:TypeId}{vs:List Value}(S:St F w0 w L)(i:Nat)(hi:L[i]?=some (row g cs t))(ho:o.op=.load T x)(hT:aggB P T n=true)(hx:ρ x=.pointer (some ⟨g,k,none⟩))(hn:vs.length=n)(hk:(cs.toList.drop k).take n=vs)(h:K (.agg vs.toArray) w):gives P K ((execOp ρ o).run P w):=by
 refine gv_ldRA ho hT hx hn (fun j v hv=> ?_) h
 rw [Addr.add_lit,(S.blk i hi).cell]
 rw [←hk,List.getElem?_take] at hv
 split at hv
 ·rw [List.getElem?_drop] at hv;simpa using hv
 ·cases hv
theorem gv_st {T:TypeId}{x y:Operand}{g k:Nat}{cs:Array Value}{t:TypeId}{v:Value}(S:St F w0 w L)(i:Nat)(hi:L[i]?=some (row g cs t))(ho:o.op=.store T x y)(hT:(P.info? T).map (·.size)=some 1)(hx:ρ x=.pointer (some ⟨g,k,none⟩))(hy:ρ y=v)(hv:v.oneCell'=true)(hk:Nat.blt k cs.size=true){L':List Ast}(hL:L.set i (row g (cs.setIfInBounds k v) t)=L')(h:∀w',St F w0 w' L'→K undef w'):gives P K ((execOp ρ o).run P w):=by
 have hB:=S.blk i hi
 have hk':k<cs.size:=Nat.le_of_ble_eq_true hk
 have hst:(store (⟨g,k,none⟩:Addr) v).run P w=.ok () (w.setCell ⟨g,k,none⟩ v):=by
  rw [run_store P w _ v _ hv,hB.cell,hB.frozen,Array.getElem?_eq_getElem hk'];rfl
 have hc:v.cells=#[v]:=by cases v<;>first|rfl|simp [Value.oneCell'] at hv
 have hr:(execOp ρ o).run P w=.ok .skip (w.setCell ⟨g,k,none⟩ v):=by
  cases hq:P.info? T with
  |none=>simp [hq] at hT
  |some e=>
   have he:e.size=1:=by simpa [hq] using hT
   simp only [execOp,ho,Instr.storeAt,hx,hy]
   simp [Instr.sureAddr,storeVar,sizeOf,typeInfo,hq,he,hc,storeCells,Addr.add_zero',hst]
 rw [hr]
 subst hL
 exact h _ (S.upd i hi (only_setCell w g k v) (heap_setCell_same w g k cs t v hB.out))
theorem gv_stA {T:TypeId}{x y:Operand}{g k n:Nat}{cs:Array Value}{t:TypeId}{vs:List Value}(S:St F w0 w L)(i:Nat)(hi:L[i]?=some (row g cs t))(ho:o.op=.store T x y)(hT:(P.info? T).map (·.size)=some n)(hx:ρ x=.pointer (some ⟨g,k,none⟩))(hy:ρ y=.agg vs.toArray)(hn:vs.length=n)(h1:∀v∈vs,v.oneCell'=true)(hk:k+n≤cs.size){L':List Ast}(hL:L.set i (row g (splice cs.toList k vs).toArray t)=L')(h:∀w',St F w0 w' L'→K undef w'):gives P K ((execOp ρ o).run P w):=by
 have hB:=S.blk i hi
 have hst:=run_storeCells_cells (P:=P) g k vs 0 w (fun j hj=>by rw [Nat.add_zero,hB.cell,Array.getElem?_eq_getElem om_];rfl) (fun j _=>hB.frozen _) h1
 rw [Nat.add_zero] at hst
 obtain ⟨cur',h3,h4,h5⟩:=setCells_row vs k w cs hB.out om_
 have hcur:cur'=(splice cs.toList k vs).toArray:=by
  apply Array.ext'
  rw [h5];simp [splice]
 obtain ⟨q1,q2,q3,q4⟩:=setCells_same g vs k w
 have hr:(execOp ρ o).run P w=.ok .skip (w.setCells g k vs):=by
  cases hq:P.info? T with
  |none=>simp [hq] at hT
  |some e=>
   have he:e.size=n:=by simpa [hq] using hT
   simp only [execOp,ho,Instr.storeAt,hx,hy]
   simp [Instr.sureAddr,storeVar,sizeOf,typeInfo,hq,he,Value.cells,hn,hst]
 rw [hr]
 subst hL
 exact h _ (S.upd i hi ⟨q1,q2,q3,q4,fun k' hk'=>setCells_far _ _ k' hk'⟩ (by rw [h3,hcur]))
theorem gv_new {T:TypeId}{z:Value}(S:St F w0 w L)(ho:o.op=.alloc T)(hz:(P.info? T).map (·.zero)=some (some z))(h:∀g w',w.heap.size≤g→St F w0 w' (row g z.cells T::L)→K (.pointer (some ⟨g,0,none⟩)) w'):gives P K ((execOp ρ o).run P w):=by
 have hr:(execOp ρ o).run P w=.ok (.value (.pointer (some ⟨w.heap.size,0,none⟩))) (w.alloc (.cells z.cells T)):=by
  cases hq:P.info? T with
  |none=>simp [hq] at hz
  |some i=>
   have hz':i.zero=some z:=by simpa [hq] using hz
   simp [execOp,ho,Instr.alloc,zeroValue,typeInfo,hq,hz',newVar,newRow]
 rw [hr]
 exact h _ _ (Nat.le_refl _) (S.new ((Below.refl _ _).alloc (Nat.le_refl _) _) (Nat.le_refl _) (heap_alloc_new w _))
theorem gv_box {T:TypeId}{x:Operand}{v:Value}(S:St F w0 w L)(ho:o.op=.box T x)(hx:ρ x=v)(h:∀g w',w.heap.size≤g→St F w0 w' (row g v.cells T::L)→K (.pointer (some ⟨g,0,none⟩)) w'):gives P K ((execOp ρ o).run P w):=by
 have hr:(execOp ρ o).run P w=.ok (.value (.pointer (some ⟨w.heap.size,0,none⟩))) (w.alloc (.cells v.cells T)):=by
  simp [execOp,ho,hx,Instr.box,newVar,newRow]
 rw [hr]
 exact h _ _ (Nat.le_refl _) (S.new ((Below.refl _ _).alloc (Nat.le_refl _) _) (Nat.le_refl _) (heap_alloc_new w _))
theorem gv_make {T e:TypeId}{x y:Operand}{z:Value}{sz by_:Nat}{u v:Int}{n c:Nat}(S:St F w0 w L)(ho:o.op=.makeSlice T x y)(ht:P.underlying T=some (.slice e))(hE:Elt P e z sz by_)(hx:ρ x=.int .i64 u)(hy:ρ y=.int .i64 v)(hu:u=(n:Int))(hv:v=(c:Int))(hnc:n≤c)(hc:by_*c≤281474976710656)(h63:c≤9223372036854775807){cs:Array Value}(hcs:madeCells z.cells (c*sz)=cs)
  (h:∀g w',w.heap.size≤g→St F w0 w' (row g cs e::L)→K (.slice (some ⟨g,0,none⟩) n c) w'):gives P K ((execOp ρ o).run P w):=by
 subst hu hv hcs
 obtain ⟨i,hi,hz0,hz1,hz2⟩:=hE.get
 have hrun:=run_make (P:=P) w T e i z ht hi hz0 .i64 .i64 (n:Int) (c:Int) om_ om_ (by rw [hz2,←Int.natCast_mul];omega) om_
 rw [hz1,Int.toNat_natCast,Int.toNat_natCast] at hrun
 have hr:(execOp ρ o).run P w=.ok (.value (.slice (some ⟨w.heap.size,0,none⟩) n c)) (w.alloc (.cells (madeCells z.cells (c*sz)) e)):=by
  simp [execOp,ho,hx,hy,hrun]
 rw [hr]
 exact h _ _ (Nat.le_refl _) (S.new ((Below.refl _ _).alloc (Nat.le_refl _) _) (Nat.le_refl _) (heap_alloc_new w _))
theorem gv_map {T:TypeId}(S:St F w0 w L)(ho:o.op=.makeMap T none)(h:∀g w',w.heap.size≤g→St F w0 w' (pt g (.map #[] 0)::L)→K (.map (some g)) w'):gives P K ((execOp ρ o).run P w):=by
 have hr:(execOp ρ o).run P w=.ok (.value (.map (some w.heap.size))) (w.alloc (.map #[] 0)):=by
  simp [execOp,ho,Instr.makeMap]
 rw [hr]
 exact h _ _ (Nat.le_refl _) (S.new ((Below.refl _ _).alloc (Nat.le_refl _) _) (Nat.le_refl _) (heap_alloc_new w _))
theorem gv_slit {T e:TypeId}{len:Nat}{parts:Array (Nat×Operand)}{vs:Array (Nat×Value)}{cells:Array Value}{z:Value}{sz by_:Nat}(S:St F w0 w L)(ho:o.op=.buildSlice T len parts)(ht:P.underlying T=some (.slice e))(hE:Elt P e z sz by_)(hp:(parts.map fun p=>(p.1,ρ p.2))=vs)(hsmall:Nat.ble (len*sz) 16000000=true)(hpos:(len*sz==0)=false)
  (hc:Instr.fill (fun i=>some (i*sz,sz)) ((Array.range (len*sz)).map (z.cells[·%z.cells.size]!)) vs.toList=some cells) (h:∀g w',w.heap.size≤g→St F w0 w' (row g cells e::L)→K (.slice (some ⟨g,0,none⟩) len len) w'):gives P K ((execOp ρ o).run P w):=by
 obtain ⟨i,hi,hz0,hz1,hz2⟩:=hE.get
 have hpos':¬len*sz=0:=by simpa using hpos
 have hsm:=Nat.le_of_ble_eq_true hsmall
 subst hz1 hp
 have hrun:=run_buildSlice (P:=P) w T e len _ cells i z ht hi hz0 om_ hpos' hc
 have hr:(execOp ρ o).run P w=.ok (.value (.slice (some ⟨w.heap.size,0,none⟩) len len)) (w.alloc (.cells cells e)):=by
  simp only [execOp,ho]
  simp only [Sem.run_bind,hrun,Result.andThen_ok,Sem.run_pure]
 rw [hr]
 exact h _ _ (Nat.le_refl _) (S.new ((Below.refl _ _).alloc (Nat.le_refl _) _) (Nat.le_refl _) (heap_alloc_new w _))
theorem gv_ix {T e:TypeId}{x y:Operand}{g off n c sz:Nat}{i:Int}{k:IntKind}(ho:o.op=.indexAddr T x y)(hT:P.underlying T=some (.slice e))(hs:(P.info? e).map (·.size)=some sz)(hx:ρ x=.slice (some ⟨g,off,none⟩) n c)(hy:ρ y=.int k i){j:Nat}(hi:i=(j:Int))(hj:j<n)(h:K (.pointer (some ⟨g,off+j*sz,none⟩)) w):gives P K ((execOp ρ o).run P w):=by
 subst hi
 refine gv_val (w':=w) ?_ h
 have hT':P.underlying T=some (.slice (P.elem T)):=by simp [Program.elem,hT]
 have he:P.elem T=e:=by simp [Program.elem,hT]
 cases hq:P.info? e with
 |none=>simp [hq] at hs
 |some i=>
  have hsz:i.size=sz:=by simpa [hq] using hs
  simp only [execOp,ho,hx,hy]
  simp [run_indexAt_slice _ _ _ _ _ _ _ hT',sizeOf,typeInfo,he,hq,hsz,hj,Addr.add_lit]
theorem gv_ixA {T e:TypeId}{x y:Operand}{ad:Addr}{n c sz:Nat}{i:Int}{k:IntKind}(ho:o.op=.indexAddr T x y)(hT:P.underlying T=some (.slice e))(hs:(P.info? e).map (·.size)=some sz)(hx:ρ x=.slice (some ad) n c)(hy:ρ y=.int k i){j:Nat}(hi:i=(j:Int))(hj:j<n)(h:K (.pointer (some (ad.add (j*sz)))) w):gives P K ((execOp ρ o).run P w):=by
 subst hi
 refine gv_val (w':=w) ?_ h
 have hT':P.underlying T=some (.slice (P.elem T)):=by simp [Program.elem,hT]
 have he:P.elem T=e:=by simp [Program.elem,hT]
 cases hq:P.info? e with
 |none=>simp [hq] at hs
 |some i=>
  have hsz:i.size=sz:=by simpa [hq] using hs
  simp only [execOp,ho,hx,hy]
  simp [run_indexAt_slice _ _ _ _ _ _ _ hT',sizeOf,typeInfo,he,hq,hsz,hj]
end
end
section
def vec (e:TypeId)(sz:Nat)(v:Value)(n:Nat)(vals:List Value):Ast:=fun h=>
 (v=.slice none 0 0∧n=0∧vals=[]∧emp h)∨∃g c junk,v=.slice (some ⟨g,0,none⟩) n c∧n≤c∧vals.length=n*sz∧(vals++junk).length=c*sz∧row g (vals++junk).toArray e h
section
variable {P:Program}{ops:Array Oper}{rest:List Oper}{o:Oper}{a:Act}{w w0:World}{F:Nat→Prop}{L:List Ast}{ρ:Operand→Value}{K:Value→World→Prop}{e:TypeId}{sz n:Nat}{v:Value}{vals:List Value}
theorem St.vec_cases (S:St F w0 w (vec e sz v n vals::L)):(v=.slice none 0 0∧n=0∧vals=[]∧St F w0 w L)∨∃g c junk,v=.slice (some ⟨g,0,none⟩) n c∧n≤c∧vals.length=n*sz∧(vals++junk).length=c*sz∧St F w0 w (row g (vals++junk).toArray e::L):=by
 obtain ⟨fr,hs,h1,h2,h3⟩:=S
 rcases h1 0 _ rfl with ⟨r1,r2,r3,_⟩|⟨g,c,junk,r1,r2,r3,r4,r5⟩
 ·refine .inl ⟨r1,r2,r3,fr,fun i=>hs (i+1),fun i A hi=>h1 (i+1) A hi,fun i j hi hj hne=>h2 (i+1) (j+1) (by simp;omega) (by simp;omega) om_,fun i hi=>h3 (i+1) (by simp;omega)⟩
 ·refine .inr ⟨g,c,junk,r1,r2,r3,r4,fr,hs,fun i A hi=> ?_,h2,h3⟩
  cases i with
  |zero=>simp at hi;subst hi;exact r5
  |succ i=>exact h1 (i+1) A hi
theorem St.vec_open (S:St F w0 w (vec e sz v n vals::L))(h0:0<n):∃g c junk,v=.slice (some ⟨g,0,none⟩) n c∧n≤c∧vals.length=n*sz∧(vals++junk).length=c*sz∧St F w0 w (row g (vals++junk).toArray e::L):=by
 rcases S.vec_cases with ⟨_,h,_⟩|h
 ·omega
 ·exact h
theorem St.vec_mk {g c:Nat}{junk:List Value}(S:St F w0 w (row g (vals++junk).toArray e::L))(h1:n≤c)(h2:vals.length=n*sz)(h3:(vals++junk).length=c*sz):St F w0 w (vec e sz (.slice (some ⟨g,0,none⟩) n c) n vals::L):=
 S.map1 fun p hp=>.inr ⟨g,c,junk,rfl,h1,h2,h3,hp⟩
theorem St.vec_nil (S:St F w0 w L):St F w0 w (vec e sz (.slice none 0 0) 0 []::L):=by
 obtain ⟨fr,hs,h1,h2,h3⟩:=S
 refine ⟨fr,fun i=>if i=0 then (fun _=>none) else hs (i-1),fun i A hi=> ?_,fun i j hi hj hne k=> ?_,fun i hi k o hk=> ?_⟩
 ·cases i with
  |zero=>simp at hi;subst hi;exact .inl ⟨rfl,rfl,rfl,fun _=>rfl⟩
  |succ i=>exact h1 i A hi
 ·cases i with
  |zero=>exact .inl rfl
  |succ i=>
   cases j with
   |zero=>exact .inr rfl
   |succ j=>exact h2 i j (by simpa using hi) (by simpa using hj) om_ k
 ·cases i with
  |zero=>cases hk
  |succ i=>exact h3 i (by simpa using hi) k o hk
theorem St.tail {A:Ast}(S:St F w0 w (A::L)):St F w0 w L:=by
 obtain ⟨fr,hs,h1,h2,h3⟩:=S
 exact ⟨fr,fun i=>hs (i+1),fun i A hi=>h1 (i+1) A hi,fun i j hi hj hne=>h2 (i+1) (j+1) (by simp;omega) (by simp;omega) om_,fun i hi=>h3 (i+1) (by simp;omega)⟩
theorem St.vec_val (S:St F w0 w (vec e sz v n vals::L)):∃A c,v=.slice A n c:=by
 rcases S.vec_cases with ⟨r1,r2,_⟩|⟨g,c,junk,r1,_⟩
 ·exact ⟨none,0,by rw [r1,r2]⟩
 ·exact ⟨_,c,r1⟩
theorem St.vec_len (S:St F w0 w (vec e sz v n vals::L)):vals.length=n*sz:=by
 rcases S.vec_cases with ⟨r1,r2,r3,_⟩|⟨g,c,junk,r1,_,r3,_⟩
 ·rw [r2,r3];simp
 ·exact r3
theorem length_zeroCells (z:Array Value)(n:Nat):(Builtin.zeroCells z n).toList.length=n*z.size:=by simp [Builtin.zeroCells]
theorem gv_append {s x:Operand}{t:TypeId}{z:Value}{by_ m c':Nat}{ad:Addr}{news:List Value}(S:St F w0 w (vec e sz v n vals::L))(ho:o.op=.call {callee:=.builtin .append,args:=#[s,x],argTypes:=#[t,t]})(ht:P.underlying t=some (.slice e))(hE:Elt P e z sz by_)(hzs:z.cells.size=sz)
  (hs:ρ s=v) (hx:ρ x=.slice (some ad) m c') (hm:0<m) (hn:news.length=m*sz) (hcell:∀j u,news[j]?=some u→w.cell? (ad.add j)=some u) (h1:∀u∈news,u.oneCell'=true) (hfit:(n+m)*by_≤140737488355328) (h63:n+m≤9223372036854775807)
  (h:∀v' w',St F w0 w' (vec e sz v' (n+m) (vals++news)::L)→K v' w'):gives P K ((execOp ρ o).run P w):=by
 obtain ⟨i,hi,hz0,hz1,hz2⟩:=hE.get
 have hop:∀r w',(Builtin.append_ #[t,t] o.type #[v,.slice (some ad) m c']).run P w=.ok r w'→(execOp ρ o).run P w=.ok (.value r) w':=fun r w' hr=>by
  simp [execOp,ho,resolve,invoke,builtin,hs,hx,hr]
 rcases S.vec_cases with ⟨r1,r2,r3,S1⟩|⟨g,c,junk,r1,r2,r3,r4,S1⟩
 ·subst r1 r2 r3
  rw [Nat.zero_add] at hfit h63 h
  have hrun:=run_append_nil (P:=P) w t o.type e i z ht hi hz0 ad m c' news (by rw [hz1];exact hn) hcell hm om_ (by rw [hz2];omega)
  rw [hop _ _ hrun]
  have hge:=grownCap_ge w m 0 e
  refine h _ _ ?_
  have S2:St F w0 (w.drew.alloc (.cells (news.toArray++Builtin.zeroCells z.cells (grownCap w m 0 e-m)) e)) (row w.heap.size ((news++(Builtin.zeroCells z.cells (grownCap w m 0 e-m)).toList)).toArray e::L):=by
   have S3:=S1.new (w':=w.drew.alloc (.cells (news.toArray++Builtin.zeroCells z.cells (grownCap w m 0 e-m)) e)) ((Below.refl _ _).drew.alloc (Nat.le_refl _) _) (Nat.le_refl _) (heap_alloc_new w.drew _)
   have e1:news.toArray++Builtin.zeroCells z.cells (grownCap w m 0 e-m)=(news++(Builtin.zeroCells z.cells (grownCap w m 0 e-m)).toList).toArray:=by apply Array.ext';simp
   rw [e1] at S3 ⊢
   exact S3
  exact S2.vec_mk hge hn (by rw [List.length_append,length_zeroCells,hzs,hn,←Nat.add_mul];congr 1;omega)
 ·subst r1
  have hB:=S1.blk 0 rfl
  by_cases hroom:n+m≤c
  ·have hle:n*sz+m*sz≤c*sz:=by rw [←Nat.add_mul];exact Nat.mul_le_mul_right _ hroom
   have hrun:=run_append_room_cells (P:=P) w t o.type e i ht hi g 0 n c ad m c' news (by rw [hz1];exact hn) hcell h1 hroom
    (fun j hj=>by
     rw [hz1,Nat.zero_add,hB.cell,Array.getElem?_eq_getElem (by simp only [List.size_toArray];rw [r4];omega)];rfl)
    (fun j hj=>hB.frozen _)
   rw [hz1,Nat.zero_add] at hrun
   rw [hop _ _ hrun]
   obtain ⟨cur',h3,h4,h5⟩:=setCells_row news (n*sz) w _ hB.out (by simp only [List.size_toArray];rw [r4];omega)
   have hcur:cur'=(vals++news++(vals++junk).drop (n*sz+m*sz)).toArray:=by
    apply Array.ext'
    rw [h5,←r3,hn]
    simp
   rw [hcur] at h3
   obtain ⟨q1,q2,q3,q4⟩:=setCells_same g news (n*sz) w
   have S2:St F w0 (w.setCells g (n*sz) news) (row g (vals++news++(vals++junk).drop (n*sz+m*sz)).toArray e::L):=S1.upd 0 rfl ⟨q1,q2,q3,q4,fun k hk=>setCells_far _ _ k hk⟩ h3
   refine h _ _ (S2.vec_mk hroom (by rw [List.length_append,r3,hn,Nat.add_mul]) ?_)
   rw [List.length_append,List.length_append,List.length_drop,r4,r3,hn]
   omega
  ·have holds:∀j u,vals[j]?=some u→w.cell? ((⟨g,0,none⟩:Addr).add j)=some u:=fun j u hu=>by
    rw [Addr.add_lit,Nat.zero_add,hB.cell,List.getElem?_toArray,List.getElem?_append_left (List.getElem?_eq_some_iff.1 hu).1];exact hu
   have hrun:=run_append_grow (P:=P) w t o.type e i z ht hi hz0 ⟨g,0,none⟩ n c vals (by rw [hz1];exact r3) holds ad m c' news (by rw [hz1];exact hn) hcell om_ om_ (growslice_fits om_ (by rw [hz2];omega))
   rw [hop _ _ hrun]
   have hge:=grownCap_ge w (n+m) c e
   have S3:=S1.tail.new (w':=w.drew.alloc (.cells (vals.toArray++news.toArray++Builtin.zeroCells z.cells (grownCap w (n+m) c e-(n+m))) e)) ((Below.refl _ _).drew.alloc (Nat.le_refl _) _) (Nat.le_refl _) (heap_alloc_new w.drew _)
   have e1:vals.toArray++news.toArray++Builtin.zeroCells z.cells (grownCap w (n+m) c e-(n+m))=(vals++news++(Builtin.zeroCells z.cells (grownCap w (n+m) c e-(n+m))).toList).toArray:=by apply Array.ext';simp
   rw [e1] at S3 ⊢
   refine h _ _ (St.vec_mk (junk:=(Builtin.zeroCells z.cells (grownCap w (n+m) c e-(n+m))).toList) S3 hge (by rw [List.length_append,r3,hn,Nat.add_mul]) ?_)
   rw [List.length_append,List.length_append,length_zeroCells,hzs,r3,hn,←Nat.add_mul,←Nat.add_mul]
   congr 1;omega
theorem gv_copyV {d s:Operand}{dT sT:TypeId}{g off dLen dCap sLen sCap:Nat}{A:Option Addr}{cs:List Value}{t:TypeId}{news:List Value}(S:St F w0 w L)(i:Nat)(hi:L[i]?=some (row g cs.toArray t))(ho:o.op=.call {callee:=.builtin .copy,args:=#[d,s],argTypes:=#[dT,sT]})(ht:P.underlying dT=some (.slice e))(hsz:(P.info? e).map (·.size)=some sz)
  (hd:ρ d=.slice (some ⟨g,off,none⟩) dLen dCap) (hs:ρ s=.slice A sLen sCap) (hn:news.length=Nat.min sLen dLen*sz) (hcell:0<news.length→∃ad,A=some ad∧∀j u,news[j]?=some u→w.cell? (ad.add j)=some u) (h1:∀u∈news,u.oneCell'=true) (hfit:off+news.length≤cs.length)
  {L':List Ast} (hL:L.set i (row g (splice cs off news).toArray t)=L') (h:∀w' m,St F w0 w' L'→K (goInt m) w'):gives P K ((execOp ρ o).run P w):=by
 have hB:=S.blk i hi
 obtain ⟨q1,q2,q3,q4⟩:=setCells_same g news off w
 obtain ⟨cur',h3,h4,h5⟩:=setCells_row news off w _ hB.out (by simpa using hfit)
 have hcur:cur'=(splice cs off news).toArray:=by
  apply Array.ext'
  rw [h5];simp [splice]
 have hst:=run_storeCells_cells (P:=P) g off news 0 w (fun j hj=>by rw [Nat.add_zero,hB.cell,Array.getElem?_eq_getElem (by simp;omega)];rfl) (fun j _=>hB.frozen _) h1
 rw [Nat.add_zero] at hst
 have hf:(Builtin.firstCells sz (Nat.min sLen dLen) (.slice A sLen sCap)).run P w=.ok news.toArray w:=by
  by_cases h0:news.length=0
  ·have e0:news=[]:=List.eq_nil_of_length_eq_zero h0
   subst e0
   cases A with
   |none=>simp [Builtin.firstCells]
   |some ad=>exact run_firstCells_some (P:=P) w sz _ ad sLen sCap [] hn (by simp)
  ·obtain ⟨ad,rfl,hc⟩:=hcell om_
   exact run_firstCells_some (P:=P) w sz _ ad sLen sCap news hn hc
 have hr:(execOp ρ o).run P w=.ok (.value (goInt (Nat.min sLen dLen))) (w.setCells g off news):=by
  cases hq:P.info? e with
  |none=>simp [hq] at hsz
  |some ie=>
   have he:ie.size=sz:=by simpa [hq] using hsz
   simp only [execOp,ho,resolve,invoke,builtin]
   simp [hd,hs,Builtin.copy_,run_underlying ht,sizeOf,typeInfo,hq,he,Builtin.lenOf,hf,hst]
 rw [hr]
 subst hL
 exact h _ _ (S.upd i hi ⟨q1,q2,q3,q4,fun k hk=>setCells_far _ _ k hk⟩ (by rw [h3,hcur]))
theorem gv_copy {d s:Operand}{dT sT:TypeId}{g off dLen dCap sLen sCap:Nat}{A:Option Addr}{B l:List UInt8}{t:TypeId}(S:St F w0 w L)(i:Nat)(hi:L[i]?=some (row g (bvs B) t))(ho:o.op=.call {callee:=.builtin .copy,args:=#[d,s],argTypes:=#[dT,sT]})(ht:P.underlying dT=some (.slice e))(hsz:(P.info? e).map (·.size)=some 1)
  (hd:ρ d=.slice (some ⟨g,off,none⟩) dLen dCap) (hs:ρ s=.slice A sLen sCap) (hl:sLen=l.length) (hr:RdB w A l) (hfit:off+dLen≤B.length)
  {L':List Ast} (hL:L.set i (row g (bvs (splice B off (l.take dLen))) t)=L') (h:∀w' m,St F w0 w' L'→K (goInt m) w'):gives P K ((execOp ρ o).run P w):=by
 subst hl
 refine gv_copyV (cs:=B.map bv) (news:=(l.take dLen).map bv) (sz:=1) S i hi ho ht hsz hd hs ?_ ?_ (map_bv_one _) ?_ (L':=L') ?_ h
 ·rw [List.length_map,List.length_take,Nat.mul_one];exact Nat.min_comm _ _
 ·intro h0
  rw [List.length_map,List.length_take] at h0
  obtain ⟨ad,e1,hc⟩:=hr om_
  refine ⟨ad,e1,fun j u hu=>hc j u ?_⟩
  rw [List.getElem?_map] at hu ⊢
  rw [List.getElem?_take] at hu
  split at hu
  ·exact hu
  ·simp at hu
 ·rw [List.length_map,List.length_map,List.length_take];omega
 ·rw [←hL]
  congr 2
  simp [bvs,splice,List.map_take,List.map_drop]
theorem gv_cut {T:TypeId}{x p q:Operand}{g off n c lo hi:Nat}{kl kh:IntKind}(ho:o.op=.slice T x (some p) (some q) none)(hT:P.underlying T=some (.slice e))(hsz:(P.info? e).map (·.size)=some sz)(hx:ρ x=.slice (some ⟨g,off,none⟩) n c){u v:Int}(hp:ρ p=.int kl u)(hq:ρ q=.int kh v)(hu:u=(lo:Int))(hv:v=(hi:Int))(h1:lo≤hi)(h2:hi≤c)(h3:lo<c)(h:K (.slice (some ⟨g,off+lo*sz,none⟩) (hi-lo) (c-lo)) w):gives P K ((execOp ρ o).run P w):=by
 subst hu hv
 refine gv_val (w':=w) ?_ h
 have hne:¬c=lo:=by omega
 cases hq2:P.info? e with
 |none=>simp [hq2] at hsz
 |some ie=>
  have he:ie.size=sz:=by simpa [hq2] using hsz
  simp only [execOp,ho,hx,hp,hq,Option.map_some,Option.map_none]
  simp [Instr.sliceAt,Instr.slice,Instr.sliceBounds,Instr.sliceBound,asIntOf,run_underlying hT,sizeOf,typeInfo,hq2,he,h1,h2,hne,Addr.add_lit]
theorem gv_cutTo {T:TypeId}{x q:Operand}{A:Option Addr}{n c hi:Nat}{kh:IntKind}(ho:o.op=.slice T x none (some q) none)(hT:P.underlying T=some (.slice e))(hsz:(P.info? e).map (·.size)=some sz)(hx:ρ x=.slice A n c){v:Int}(hq:ρ q=.int kh v)(hv:v=(hi:Int))(h2:hi≤c)(h:K (.slice A hi c) w):gives P K ((execOp ρ o).run P w):=by
 subst hv
 refine gv_val (w':=w) ?_ h
 cases hq2:P.info? e with
 |none=>simp [hq2] at hsz
 |some ie=>
  have he:ie.size=sz:=by simpa [hq2] using hsz
  simp only [execOp,ho,hx,hq,Option.map_some,Option.map_none]
  simp [Instr.sliceAt,Instr.slice,Instr.sliceBounds,Instr.sliceBound,asIntOf,run_underlying hT,sizeOf,typeInfo,hq2,he,h2]
  intro _
  cases A<;>simp [Addr.add_zero']
end
end
section
structure Ent where
 k:Int
 v:Value
 b:Nat
def Ent.me (e:Ent):MapEntry:={key:=.int .i64 e.k,val:=e.v,born:=e.b}
def mapO (es:List Ent)(clock:Nat):Obj:=.map (es.map Ent.me).toArray clock
theorem findNow_none {k:Int}:∀(es:List Ent) (i:Nat),(∀e∈es,e.k≠k)→Instr.findNow (.int .i64) (.int .i64 k) (es.map Ent.me) i=some none
 |[],_,_=>rfl
 |e::es,i,h=>by
  have h1:(k==e.k)=false:=by have:=h e List.mem_cons_self;simpa using fun h=>this h.symm
  simp only [List.map_cons,Instr.findNow,Ent.me,Instr.sameNow,h1,if_true]
  exact findNow_none es (i+1) (fun x hx=>h x (List.mem_cons_of_mem _ hx))
theorem findNow_some {k:Int}:∀(es:List Ent) (i j:Nat) (e0:Ent),es[j]?=some e0→e0.k=k→(∀m e,m<j→es[m]?=some e→e.k≠k)→Instr.findNow (.int .i64) (.int .i64 k) (es.map Ent.me) i=some (some (i+j,e0.v))
 |[],_,_,_,h,_,_=>by simp at h
 |e::es,i,0,e0,h,hk,_=>by
  simp at h
  subst h
  have h1:(k==e.k)=true:=by simp [hk]
  simp only [List.map_cons,Instr.findNow,Ent.me,Instr.sameNow,h1,if_true,Nat.add_zero]
 |e::es,i,j+1,e0,h,hk,hf=>by
  have h1:(k==e.k)=false:=by have:=hf 0 e om_ rfl;simpa using fun h=>this h.symm
  simp only [List.map_cons,Instr.findNow,Ent.me,Instr.sameNow,h1,if_true]
  rw [findNow_some es (i+1) j e0 (by simpa using h) hk (fun m x hm hx=>hf (m+1) x om_ (by simpa using hx))]
  congr 3;omega
section
variable {P:Program}{o:Oper}{w w0:World}{F:Nat→Prop}{L:List Ast}{ρ:Operand→Value}{K:Value→World→Prop}{T kT eT:TypeId}{g clock:Nat}{es:List Ent}
theorem run_getMap (h:w.heap[g]?=some (mapO es clock)):(getObj g).run P w=.ok (mapO es clock) w:=by
 simp [getObj,Sem.run,h,mapO]
theorem run_setMap {o':Obj}(h:w.heap[g]?=some (mapO es clock)):(setObj g o').run P w=.ok () {w with heap:=w.heap.setIfInBounds g o'}:=by
 simp [setObj,Sem.run,h,mapO]
theorem only_setObj (w:World)(g:Nat)(o':Obj):Only g w {w with heap:=w.heap.setIfInBounds g o'}:=⟨rfl,rfl,rfl,by simp,fun k hk=>by
 show (w.heap.setIfInBounds g o')[k]?=w.heap[k]?
 rw [Array.getElem?_setIfInBounds,if_neg (fun h=>hk h.symm)]⟩
theorem heap_setObj {o' x:Obj}(h:w.heap[g]?=some x):({w with heap:=w.heap.setIfInBounds g o'}:World).heap[g]?=some o':=by
 have:=lt_of_some h
 show (w.heap.setIfInBounds g o')[g]?=some o'
 rw [Array.getElem?_setIfInBounds,if_pos rfl];simp [this]
theorem checkKey_int {k:Int}{b:Bool}{n:Nat}(hk:P.underlying kT=some (.int .i64)):(Instr.checkKey b (n+1) kT (.int .i64 k)).run P w=.ok () w:=by
 simp [Instr.checkKey,run_underlying hk]
theorem gv_look_none {x y:Operand}{k:Int}{z:Value}(hg:w.heap[g]?=some (mapO es clock))(ho:o.op=.lookup T x y false)(hT:P.underlying T=some (.map kT eT))(hk:P.underlying kT=some (.int .i64))(hz:(P.info? eT).map (·.zero)=some (some z))(hx:ρ x=.map (some g))(hy:ρ y=.int .i64 k)(hno:∀e∈es,e.k≠k)(h:K z w):gives P K ((execOp ρ o).run P w):=by
 refine gv_val (w':=w) ?_ h
 cases hq:P.info? eT with
 |none=>simp [hq] at hz
 |some ie=>
  have hz':ie.zero=some z:=by simpa [hq] using hz
  simp only [execOp,ho,hx,hy]
  simp [Instr.lookup,run_underlying hT,run_getMap hg,mapO,checkKey_int hk,Instr.findKey,run_underlying hk,findNow_none es 0 hno,zeroValue,typeInfo,hq,hz']
theorem gv_look_some {x y:Operand}{k:Int}{j:Nat}{e0:Ent}(hg:w.heap[g]?=some (mapO es clock))(ho:o.op=.lookup T x y false)(hT:P.underlying T=some (.map kT eT))(hk:P.underlying kT=some (.int .i64))(hx:ρ x=.map (some g))(hy:ρ y=.int .i64 k)(hj:es[j]?=some e0)(he:e0.k=k)(hf:∀m e,m<j→es[m]?=some e→e.k≠k)(h:K e0.v w):gives P K ((execOp ρ o).run P w):=by
 refine gv_val (w':=w) ?_ h
 simp only [execOp,ho,hx,hy]
 simp [Instr.lookup,run_underlying hT,run_getMap hg,mapO,checkKey_int hk,Instr.findKey,run_underlying hk,findNow_some es 0 j e0 hj he hf]
theorem gv_put_new {m x y:Operand}{k:Int}{v:Value}(S:St F w0 w L)(i:Nat)(hi:L[i]?=some (pt g (mapO es clock)))(ho:o.op=.mapUpdate T m x y)(hT:P.underlying T=some (.map kT eT))(hk:P.underlying kT=some (.int .i64))(hm:ρ m=.map (some g))(hx:ρ x=.int .i64 k)(hy:ρ y=v)(hno:∀e∈es,e.k≠k){L':List Ast}(hL:L.set i (pt g (mapO (es++[⟨k,v,clock⟩]) (clock+1)))=L')(h:∀w',St F w0 w' L'→K undef w'):gives P K ((execOp ρ o).run P w):=by
 have hg:=S.get i hi
 have hr:(execOp ρ o).run P w=.ok .skip {w with heap:=w.heap.setIfInBounds g (mapO (es++[⟨k,v,clock⟩]) (clock+1))}:=by
  have e1:(es.map Ent.me).toArray.push {key:=.int .i64 k,val:=v,born:=clock}=((es++[(⟨k,v,clock⟩:Ent)]).map Ent.me).toArray:=by simp [Ent.me]
  have hs:=run_setMap (P:=P) (o':=mapO (es++[⟨k,v,clock⟩]) (clock+1)) hg
  rw [mapO,←e1] at hs
  rw [mapO,←e1]
  simp only [execOp,ho,hm,hx,hy]
  simp [Instr.mapUpdate,run_underlying hT,run_getMap hg,mapO,checkKey_int hk,Instr.findKey,run_underlying hk,findNow_none es 0 hno] at hs ⊢
  simp [hs]
 rw [hr]
 subst hL
 exact h _ (S.upd i hi (only_setObj w g _) (heap_setObj hg))
theorem gv_put_old {m x y:Operand}{k:Int}{v:Value}{j:Nat}{e0:Ent}(S:St F w0 w L)(i:Nat)(hi:L[i]?=some (pt g (mapO es clock)))(ho:o.op=.mapUpdate T m x y)(hT:P.underlying T=some (.map kT eT))(hk:P.underlying kT=some (.int .i64))(hm:ρ m=.map (some g))(hx:ρ x=.int .i64 k)(hy:ρ y=v)(hj:es[j]?=some e0)(he:e0.k=k)(hf:∀m e,m<j→es[m]?=some e→e.k≠k){L':List Ast}(hL:L.set i (pt g (mapO (es.set j ⟨k,v,e0.b⟩) clock))=L')(h:∀w',St F w0 w' L'→K undef w'):gives P K ((execOp ρ o).run P w):=by
 have hg:=S.get i hi
 have hjl:=(List.getElem?_eq_some_iff.1 hj).1
 have hr:(execOp ρ o).run P w=.ok .skip {w with heap:=w.heap.setIfInBounds g (mapO (es.set j ⟨k,v,e0.b⟩) clock)}:=by
  have e1:(es.map Ent.me).toArray.modify j (fun e=>{e with key:=.int .i64 k,val:=v})=((es.set j ⟨k,v,e0.b⟩).map Ent.me).toArray:=by
   apply Array.ext_getElem?
   intro m
   rw [Array.getElem?_modify,List.getElem?_toArray,List.getElem?_toArray,List.getElem?_map,List.getElem?_map,List.getElem?_set]
   by_cases hm:j=m
   ·subst hm
    rw [if_pos rfl,if_pos rfl,hj]
    simp [hjl,Ent.me]
   ·rw [if_neg hm,if_neg hm]
  have hs:=run_setMap (P:=P) (o':=mapO (es.set j ⟨k,v,e0.b⟩) clock) hg
  rw [mapO,←e1] at hs
  rw [mapO,←e1]
  have hkey:((es.map Ent.me)[j]?).map (·.key)=some (.int .i64 k):=by rw [List.getElem?_map,hj];simp [Ent.me,he]
  simp only [execOp,ho,hm,hx,hy]
  simp [Instr.mapUpdate,run_underlying hT,run_getMap hg,mapO,checkKey_int hk,Instr.findKey,run_underlying hk,findNow_some es 0 j e0 hj he hf,Instr.keyThatStays,Instr.sameBits,hj,Ent.me,he] at hs ⊢
  simp [hs]
 rw [hr]
 subst hL
 exact h _ (S.upd i hi (only_setObj w g _) (heap_setObj hg))
theorem gv_clear {x:Operand}(S:St F w0 w L)(i:Nat)(hi:L[i]?=some (pt g (mapO es clock)))(ho:o.op=.call {callee:=.builtin .clear,args:=#[x],argTypes:=#[T]})(hT:P.underlying T=some (.map kT eT))(hx:ρ x=.map (some g)){L':List Ast}(hL:L.set i (pt g (mapO [] clock))=L')(h:∀w',St F w0 w' L'→K (.tuple #[]) w'):gives P K ((execOp ρ o).run P w):=by
 have hg:=S.get i hi
 have hs:=run_setMap (P:=P) (o':=mapO [] clock) hg
 have hr:(execOp ρ o).run P w=.ok (.value (.tuple #[])) {w with heap:=w.heap.setIfInBounds g (mapO [] clock)}:=by
  simp only [execOp,ho,resolve,invoke,builtin]
  simp [hx,Builtin.clear_,run_underlying hT,run_getMap hg,mapO] at hs ⊢
  simp [hs]
 rw [hr]
 subst hL
 exact h _ (S.upd i hi (only_setObj w g _) (heap_setObj hg))
def iterO (g since:Nat)(seen:List Nat):Obj:=.mapIter (some g) since seen.toArray since
theorem gv_range {x:Operand}(S:St F w0 w L)(i:Nat)(hi:L[i]?=some (pt g (mapO es clock)))(ho:o.op=.range T x)(hT:P.underlying T=some (.map kT eT))(hx:ρ x=.map (some g))(h:∀gi w',w.heap.size≤gi→St F w0 w' (pt gi (iterO g clock [])::L)→K (.pointer (some ⟨gi,0,none⟩)) w'):gives P K ((execOp ρ o).run P w):=by
 have hg:=S.get i hi
 have hr:(execOp ρ o).run P w=.ok (.value (.pointer (some ⟨w.heap.size,0,none⟩))) (w.alloc (iterO g clock [])):=by
  simp only [execOp,ho,hx]
  simp [Instr.range,run_underlying hT,run_getMap hg,mapO,iterO]
 rw [hr]
 exact h _ _ (Nat.le_refl _) (S.new ((Below.refl _ _).alloc (Nat.le_refl _) _) (Nat.le_refl _) (heap_alloc_new w _))
theorem run_getIter {gi since:Nat}{seen:List Nat}(h:w.heap[gi]?=some (iterO g since seen)):(getObj gi).run P w=.ok (iterO g since seen) w:=by
 simp [getObj,Sem.run,h,iterO]
theorem run_setIter {gi since:Nat}{seen:List Nat}{o':Obj}(h:w.heap[gi]?=some (iterO g since seen)):(setObj gi o').run P w=.ok () {w with heap:=w.heap.setIfInBounds gi o'}:=by
 simp [setObj,Sem.run,h,iterO]
def leftE (es:List Ent)(seen:List Nat):List Ent:=es.filter fun e=> !seen.contains e.b
theorem gv_next {x:Operand}{gi:Nat}{seen:List Nat}(S:St F w0 w L)(i j:Nat)(hi:L[i]?=some (pt gi (iterO g clock seen)))(hj:L[j]?=some (pt g (mapO es clock)))(hb:∀e∈es,e.b<clock)(ho:o.op=.next x false)(hx:ρ x=.pointer (some ⟨gi,0,none⟩))
  (hover:leftE es seen=[]→K (.tuple #[.bool false]) w) (hstep:∀e w',e∈leftE es seen→St F w0 w' (L.set i (pt gi (iterO g clock (seen++[e.b]))))→K (.tuple #[.bool true,.int .i64 e.k,e.v]) w'):gives P K ((execOp ρ o).run P w):=by
 have hgi:=S.get i hi
 have hg:=S.get j hj
 have hold:((es.map Ent.me).toArray.filter fun e=> !seen.toArray.contains e.born)=((leftE es seen).map Ent.me).toArray:=by
  have hp:((fun e:MapEntry=> !seen.toArray.contains e.born) ∘ Ent.me)=fun e:Ent=> !seen.contains e.b:=by
   funext e
   show (!seen.toArray.contains e.b)=_
   rw [List.contains_toArray]
  rw [List.filter_toArray,List.filter_map,hp];rfl
 have h1:(((leftE es seen).map Ent.me).toArray.filter fun e=>decide (e.born<clock))=((leftE es seen).map Ent.me).toArray:=by
  apply Array.filter_eq_self.2
  intro e he
  simp [leftE] at he
  obtain ⟨x,⟨hx1,_⟩,rfl⟩:=he
  exact decide_eq_true (hb x hx1)
 have h2:(((leftE es seen).map Ent.me).toArray.filter fun e=>decide (e.born≥clock))=#[]:=by
  apply Array.filter_eq_empty_iff.2
  intro e he
  simp [leftE] at he
  obtain ⟨x,⟨hx1,_⟩,rfl⟩:=he
  have:=hb x hx1
  simp [Ent.me];omega
 have h3:(!seen.toArray.isEmpty&& !(es.map Ent.me).toArray.isEmpty&&(es.map Ent.me).toArray.all (fun e=>decide (e.born≥clock)))=false:=by
  cases es with
  |nil=>simp
  |cons e r=>
   have:=hb e List.mem_cons_self
   have h4:decide (e.b≥clock)=false:=decide_eq_false om_
   have h5:(((e::r).map Ent.me).toArray.all fun e=>decide (e.born≥clock))=false:=by
    rw [List.all_toArray]
    simp only [List.map_cons,List.all_cons,Ent.me,h4,Bool.false_and]
   rw [h5,Bool.and_false]
 have key:(Instr.next (.pointer (some ⟨gi,0,none⟩)) false o.type).run P w=(choose (.mapNext ((if ((leftE es seen).map Ent.me).toArray.isEmpty then #[none] else #[])++(((leftE es seen).map Ent.me).toArray++#[]).map some).size)>>=fun idx=>
   match ((if ((leftE es seen).map Ent.me).toArray.isEmpty then #[none] else #[])++(((leftE es seen).map Ent.me).toArray++#[]).map some)[idx]? with
   |some (some e)=>(do setObj gi (.mapIter (some g) clock (seen.toArray.push e.born) clock);pure (.tuple #[.bool true,e.key,e.val]))
   |some none=>pure (.tuple #[.bool false])
   |none=>stuck "Next: no such candidate":Sem Value).run P w:=by
  have e1:(Instr.next (.pointer (some ⟨gi,0,none⟩)) false o.type)=(do
    match←getObj gi,false with
    |.stringIter s pos,true=>
     if pos<s.size then
      let (c,width):=Utf8.decode s pos
      setObj gi (.stringIter s (pos+width))
      pure (.tuple #[.bool true,goInt pos,.int .i32 c])
     else pure (.tuple #[.bool false])
    |.mapIter none _ _ _,false=>pure (.tuple #[.bool false])
    |.mapIter (some m) since seen last,false=>
     let .map es clock←getObj m|stuck "Next: map expected"
     if !seen.isEmpty&& !es.isEmpty&&es.all (·.born≥last) then
      unsupported (.noEntry "instr/Next: every entry that the ranged map held at the last iteration is gone, and it holds new ones")
     let left:=es.filter fun e=> !seen.contains e.born
     let old:=left.filter (·.born<since)
     let new:=left.filter (·.born≥since)
     let candidates:=(if old.isEmpty then #[none] else #[])++(old++new).map some
     match candidates[←choose (.mapNext candidates.size)]? with
     |some (some e)=>
      setObj gi (.mapIter (some m) since (seen.push e.born) clock)
      pure (.tuple #[.bool true,e.key,e.val])
     |some none=>pure (.tuple #[.bool false])
     |none=>stuck "Next: no such candidate"
    |_,_=>stuck "Next: iterator of the other kind"):=rfl
  rw [e1,Sem.run_bind,run_getIter hgi,Result.andThen_ok]
  simp only [iterO]
  rw [Sem.run_bind,run_getMap hg,Result.andThen_ok]
  simp only [mapO]
  rw [if_neg (by rw [h3];decide),hold,h1,h2]
 have hex:∀r w',(Instr.next (.pointer (some ⟨gi,0,none⟩)) false o.type).run P w=.ok r w'→(execOp ρ o).run P w=.ok (.value r) w':=fun r w' hr=>by
  simp only [execOp,ho,hx,Sem.run_bind,hr,Result.andThen_ok,Sem.run_pure]
 cases hl:leftE es seen with
 |nil=>
  rw [hl] at key
  have hr:(Instr.next (.pointer (some ⟨gi,0,none⟩)) false o.type).run P w=.ok (.tuple #[.bool false]) w:=by
   rw [key]
   simp [choose,Sem.run,Question.forced]
  rw [hex _ _ hr]
  exact hover hl
 |cons e0 r0=>
  rw [hl] at key
  have hcand:((if (((e0::r0).map Ent.me).toArray.isEmpty=true) then #[none] else #[])++(((e0::r0).map Ent.me).toArray++#[]).map some)=((e0::r0).map fun e=>some (Ent.me e)).toArray:=by simp
  rw [hcand] at key
  have hsz:((e0::r0).map fun e=>some (Ent.me e)).toArray.size=r0.length+1:=by simp
  rw [hsz] at key
  obtain ⟨idx,w1,hch,hlt,hbel⟩:∃idx w1,(choose (.mapNext (r0.length+1))).run P w=.ok idx w1∧idx<r0.length+1∧Below w.heap.size w w1:=by
   by_cases hf:(Question.mapNext (r0.length+1)).forced=true
   ·exact ⟨0,w,by simp [choose,Sem.run,hf],by omega,Below.refl _ _⟩
   ·exact ⟨_,w.drew,(by simp only [choose,Sem.run];rw [if_neg hf];rfl),(by simp only [Question.cut];exact Nat.mod_lt _ om_),(Below.refl _ _).drew⟩
  have hidx:((e0::r0).map fun e=>some (Ent.me e)).toArray[idx]?=some (some (Ent.me ((e0::r0)[idx]'(by simpa using hlt)))):=by
   rw [List.getElem?_toArray,List.getElem?_map,List.getElem?_eq_getElem (by simpa using hlt)];rfl
  generalize he:(e0::r0)[idx]'(by simpa using hlt)=e at hidx
  have hmem:e∈leftE es seen:=by rw [hl,←he];exact List.getElem_mem _
  have S1:=S.below hbel
  have hgi1:=S1.get i hi
  have hset:=run_setIter (P:=P) (o':=iterO g clock (seen++[e.b])) hgi1
  have hr:(Instr.next (.pointer (some ⟨gi,0,none⟩)) false o.type).run P w=.ok (.tuple #[.bool true,.int .i64 e.k,e.v]) {w1 with heap:=w1.heap.setIfInBounds gi (iterO g clock (seen++[e.b]))}:=by
   rw [key,Sem.run_bind,hch,Result.andThen_ok,hidx]
   have e2:Obj.mapIter (some g) clock (seen.toArray.push (Ent.me e).born) clock=iterO g clock (seen++[e.b]):=by simp [iterO,Ent.me]
   simp only [e2]
   rw [Sem.run_bind,hset,Result.andThen_ok]
   rfl
  rw [hex _ _ hr]
  exact hstep e _ hmem (S1.upd i hi (only_setObj w1 gi _) (heap_setObj hgi1))
theorem gv_entry {x:Operand}{gi:Nat}{seen:List Nat}{e:Ent}(S:St F w0 w L)(i j:Nat)(hi:L[i]?=some (pt gi (iterO g clock (seen++[e.b]))))(hj:L[j]?=some (pt g (mapO es clock)))(ho:o.op=.entry x)(hx:ρ x=.pointer (some ⟨gi,0,none⟩))(he:e∈es)(hn:∀x∈es,x.b=e.b→x=e)(h:K (.tuple #[.int .i64 e.k,e.v]) w):gives P K ((execOp ρ o).run P w):=by
 refine gv_val (w':=w) ?_ h
 have hgi:=S.get i hi
 have hg:=S.get j hj
 have hfind:(es.map Ent.me).find? (fun x=>x.born==e.b)=some e.me:=by
  rw [List.find?_map]
  cases hq:es.find? ((fun x=>x.born==e.b) ∘ Ent.me) with
  |none=>
   have:=List.find?_eq_none.1 hq e he
   simp [Ent.me] at this
  |some y=>
   have h1:=List.find?_some hq
   have h2:=List.mem_of_find?_eq_some hq
   simp only [Function.comp,Ent.me,beq_iff_eq] at h1
   rw [hn y h2 h1];rfl
 simp only [execOp,ho,hx]
 simp [Instr.entry,run_getIter hgi,iterO,run_getMap hg,mapO,hfind]
 exact ⟨rfl,rfl⟩
end
end
end Go.Vel
end
section
open Go Go.RowKit Go.Proofs.YtgeioealgidkiaaW.PrintWords
namespace Go.Vel
set_option linter.unusedVariables false
section
theorem wr_ok {x:Int}(h1: -9223372036854775808≤x)(h2:x≤9223372036854775807):IntKind.i64.wrap x=x:=by
 rw [IntKind.wrap_i64];omega
theorem wr_eq {x y:Int}(h:x=y)(h1: -9223372036854775808≤y)(h2:y≤9223372036854775807):IntKind.i64.wrap x=y:=by
 subst h;exact wr_ok h1 h2
def inc (x:Int):Int:=IntKind.i64.wrap (x+1)
def dec (x:Int):Int:=IntKind.i64.wrap (x-1)
theorem mk_bytes (c:Nat):madeCells (Value.int .u8 0).cells (c*1)=bvs (List.replicate c 0):=by rw [Nat.mul_one];exact madeCells_zero c
theorem results_cell1 {P:Program}{fn:Func}{p:Tmp}{ty:TypeId}(h:fn.results=#[.cell p ty])(tmps:Array Value){w:World}{g:Nat}{cs:Array Value}{t:TypeId}(hg:w.heap[g]?=some (.cells cs t (0,0)))(hp:tmps.getD p undef=.pointer (some ⟨g,0,none⟩))(hT:aggB P ty cs.size=true):
  (results fn tmps).run P w=.ok (.agg cs) w:=by
 have hp':tmps[p]?.getD undef=.pointer (some ⟨g,0,none⟩):=by simpa using hp
 obtain ⟨h1,i,hi,hs⟩:=aggB_run hT w
 have hl:=run_loadCells_list (P:=P) w ⟨g,0,none⟩ cs.toList (fun j v hv=>by
  rw [Addr.add_lit,Nat.zero_add,cell_of_row w g j cs t (0,0) hg];simpa using hv)
 simp only [Array.length_toList,Array.toArray_toList] at hl
 simp [results,h,hp',asAddr,loadVar,h1,sizeOf,typeInfo,hi,hs,hl]
theorem results_t1 {P:Program}{fn:Func}{p:Tmp}(h:fn.results=#[.tmp p]){tmps:Array Value}{w:World}{a:Value}(ha:tmps.getD p undef=a):(results fn tmps).run P w=.ok a w:=by
 rw [results_tmp h,ha]
theorem results_t2 {P:Program}{fn:Func}{p q:Tmp}(h:fn.results=#[.tmp p,.tmp q]){tmps:Array Value}{w:World}{a b:Value}(ha:tmps.getD p undef=a)(hb:tmps.getD q undef=b):(results fn tmps).run P w=.ok (.tuple #[a,b]) w:=by
 rw [results_tmp2 h,ha,hb]
section
variable {P:Program}{o:Oper}{w:World}{ρ:Operand→Value}{K:Value→World→Prop}{e:TypeId}{sz:Nat}
theorem gv_cutE {T:TypeId}{x p q:Operand}{g off n c lo hi off' n' c':Nat}{kl kh:IntKind}(ho:o.op=.slice T x (some p) (some q) none)(hT:P.underlying T=some (.slice e))(hsz:(P.info? e).map (·.size)=some sz)(hx:ρ x=.slice (some ⟨g,off,none⟩) n c){u v:Int}(hp:ρ p=.int kl u)(hq:ρ q=.int kh v)(hu:u=(lo:Int))(hv:v=(hi:Int))(h1:lo≤hi)(h2:hi≤c)(h3:lo<c)(ha:off+lo*sz=off')(hn:hi-lo=n')(hc:c-lo=c')(h:K (.slice (some ⟨g,off',none⟩) n' c') w):gives P K ((execOp ρ o).run P w):=by
 subst ha hn hc;exact gv_cut ho hT hsz hx hp hq hu hv h1 h2 h3 h
theorem gv_cutA {T:TypeId}{x p q:Operand}{ad ad':Addr}{n c lo hi n' c':Nat}{kl kh:IntKind}(ho:o.op=.slice T x (some p) (some q) none)(hT:P.underlying T=some (.slice e))(hsz:(P.info? e).map (·.size)=some sz)(hx:ρ x=.slice (some ad) n c){u v:Int}(hp:ρ p=.int kl u)(hq:ρ q=.int kh v)(hu:u=(lo:Int))(hv:v=(hi:Int))(h1:lo≤hi)(h2:hi≤c)(h3:lo<c)(ha:ad.add (lo*sz)=ad')(hn:hi-lo=n')(hc:c-lo=c')(h:K (.slice (some ad') n' c') w):gives P K ((execOp ρ o).run P w):=by
 subst hu hv ha hn hc
 refine gv_val (w':=w) ?_ h
 have hne:¬c=lo:=by omega
 cases hq2:P.info? e with
 |none=>simp [hq2] at hsz
 |some ie=>
  have he:ie.size=sz:=by simpa [hq2] using hsz
  simp only [execOp,ho,hx,hp,hq,Option.map_some,Option.map_none]
  simp [Instr.sliceAt,Instr.slice,Instr.sliceBounds,Instr.sliceBound,asIntOf,run_underlying hT,sizeOf,typeInfo,hq2,he,h1,h2,hne]
theorem gv_ixB {T:TypeId}{x y:Operand}{ad ad':Addr}{n c sz:Nat}{i:Int}{k:IntKind}(ho:o.op=.indexAddr T x y)(hT:P.underlying T=some (.slice e))(hs:(P.info? e).map (·.size)=some sz)(hx:ρ x=.slice (some ad) n c)(hy:ρ y=.int k i){j:Nat}(hi:i=(j:Int))(hj:j<n)(ha:ad.add (j*sz)=ad')(h:K (.pointer (some ad')) w):gives P K ((execOp ρ o).run P w):=by
 subst ha;exact gv_ixA ho hT hs hx hy hi hj h
theorem gv_ixE {T:TypeId}{x y:Operand}{g off n c sz off':Nat}{i:Int}{k:IntKind}(ho:o.op=.indexAddr T x y)(hT:P.underlying T=some (.slice e))(hs:(P.info? e).map (·.size)=some sz)(hx:ρ x=.slice (some ⟨g,off,none⟩) n c)(hy:ρ y=.int k i){j:Nat}(hi:i=(j:Int))(hj:j<n)(ha:off+j*sz=off')(h:K (.pointer (some ⟨g,off',none⟩)) w):gives P K ((execOp ρ o).run P w):=by
 subst ha;exact gv_ix ho hT hs hx hy hi hj h
end
section
variable {F:Nat→Prop}{w0 w:World}{L LA LB:List Ast}
theorem St.mem {X:Ast}(S:St F w0 w L)(i:Nat)(hi:L[i]?=some X):St F w0 w [X]:=by
 have hl:=(List.getElem?_eq_some_iff.1 hi).1
 have h:=S.pick [i] (by simp) (by intro j hj;simp at hj;omega)
 simp only [List.map_cons,List.map_nil,List.getD_eq_getElem?_getD,hi,Option.getD_some] at h
 exact h
theorem St.star_mem {X:Ast}(S:St F w0 w [stars LA])(h:X∈LA):St F w0 w [X]:=by
 have h1:=St.flat (LB:=[]) S
 rw [List.append_nil] at h1
 obtain ⟨i,hi⟩:=List.getElem?_of_mem h
 exact h1.mem i hi
theorem St.unstar (S:St F w0 w [stars LA]):St F w0 w LA:=by
 have h1:=St.flat (LB:=[]) S
 rwa [List.append_nil] at h1
theorem St.star_join (S:St F w0 w (stars LA::stars LB::L)):St F w0 w (stars (LA++LB)::L):=by
 have h1:=S.flat
 obtain ⟨D1,D2,a1,a2,a3,a4,a5⟩:=h1.own.split
 obtain ⟨D3,D4,b1,b2,b3,b4,b5⟩:=Own.split (L1:=[stars LB]) (L2:=L) a2
 have h2:Own (fun k=>F k∨w0.heap.size≤k) w ((LA++LB)++L):=by
  have h3:=a1.append (b1.flat.append b2 fun i hi hj _=>b3 i hi hj) fun i hi hj _=>a3 i hi (hj.elim (b4 i) (b5 i))
  rw [←List.append_assoc] at h3
  exact h3.mono fun k hk _=>hk.elim (a4 k) (fun h=>a5 k (h.elim (b4 k) (b5 k)))
 exact St.star ⟨S.fr,h2⟩
theorem St.star_split (S:St F w0 w (stars (LA++LB)::L)):St F w0 w (stars LA::stars LB::L):=by
 have h1:=S.flat
 obtain ⟨D1,D2,a1,a2,a3,a4,a5⟩:=h1.own.split
 obtain ⟨D3,D4,b1,b2,b3,b4,b5⟩:=a1.split
 have h3:=(Own.star b1).append ((Own.star b2).append a2 fun i hi hj _=>a3 i (b5 i hi) hj) fun i hi hj _=>hj.elim (b3 i hi) (a3 i (b4 i hi))
 exact ⟨S.fr,h3.mono fun k hk _=>hk.elim (fun h=>a4 k (b4 k h)) (fun h=>h.elim (fun h=>a4 k (b5 k h)) (a5 k))⟩
theorem St.star_one {X:Ast}(S:St F w0 w (stars [X]::L)):St F w0 w (X::L):=S.flat
theorem St.star_nil (S:St F w0 w L):St F w0 w (stars []::L):=St.star (LA:=[]) S
theorem St.one_star {X:Ast}(S:St F w0 w (X::L)):St F w0 w (stars [X]::L):=St.star (LA:=[X]) S
theorem St.swap {X Y:Ast}(S:St F w0 w (X::Y::L)):St F w0 w (Y::X::L):=by
 obtain ⟨D1,D2,a1,a2,a3,a4,a5⟩:=Own.split (L1:=[X]) (L2:=Y::L) S.own
 obtain ⟨D3,D4,b1,b2,b3,b4,b5⟩:=Own.split (L1:=[Y]) (L2:=L) a2
 have h3:=b1.append (a1.append b2 fun i hi hj _=>a3 i hi (b5 i hj)) fun i hi hj _=>hj.elim (fun h=>a3 i h (b4 i hi)) (b3 i hi)
 exact ⟨S.fr,h3.mono fun k hk _=>hk.elim (fun h=>a5 k (b4 k h)) (fun h=>h.elim (a4 k) (fun h=>a5 k (b5 k h)))⟩
theorem St.rot {X:Ast}(S:St F w0 w (X::(LA++L))):St F w0 w (LA++(X::L)):=by
 obtain ⟨D1,D2,a1,a2,a3,a4,a5⟩:=Own.split (L1:=[X]) (L2:=LA++L) S.own
 obtain ⟨D3,D4,b1,b2,b3,b4,b5⟩:=a2.split
 have h3:=b1.append (a1.append b2 fun i hi hj _=>a3 i hi (b5 i hj)) fun i hi hj _=>hj.elim (fun h=>a3 i h (b4 i hi)) (b3 i hi)
 exact ⟨S.fr,h3.mono fun k hk _=>hk.elim (fun h=>a5 k (b4 k h)) (fun h=>h.elim (a4 k) (fun h=>a5 k (b5 k h)))⟩
theorem St.rot' {X:Ast}(S:St F w0 w (LA++(X::L))):St F w0 w (X::(LA++L)):=by
 obtain ⟨D3,D4,b1,b2,b3,b4,b5⟩:=S.own.split
 obtain ⟨D1,D2,a1,a2,a3,a4,a5⟩:=Own.split (L1:=[X]) (L2:=L) b2
 have h3:=a1.append (b1.append a2 fun i hi hj _=>b3 i hi (a5 i hj)) fun i hi hj _=>hj.elim (fun h=>b3 i h (a4 i hi)) (a3 i hi)
 exact ⟨S.fr,h3.mono fun k hk _=>hk.elim (fun h=>b5 k (a4 k h)) (fun h=>h.elim (b4 k) (fun h=>b5 k (a5 k h)))⟩
theorem St.permT (LA:List Ast)(idx:List Nat)(hn:idx.Nodup)(hb:(idx.all fun i=>Nat.blt i LA.length)=true)(S:St F w0 w (LA++L)):St F w0 w ((idx.map fun i=>LA.getD i emp)++L):=by
 obtain ⟨D1,D2,a1,a2,a3,a4,a5⟩:=S.own.split
 exact ⟨S.fr,((a1.pick idx hn (fun i hi=>Nat.le_of_ble_eq_true (List.all_eq_true.1 hb i hi))).append a2 fun i hi hj _=>a3 i hi hj).mono fun k hk _=>hk.elim (a4 k) (a5 k)⟩
theorem St.nth {α:Type}{f:α→Ast}{l:List α}{x:α}(S:St F w0 w (stars (l.map f)::L))(i:Nat)(hi:l[i]?=some x):St F w0 w (f x::stars ((l.take i).map f)::stars ((l.drop (i+1)).map f)::L):=by
 have hl:=(List.getElem?_eq_some_iff.1 hi).1
 have e:l=l.take i++([x]++l.drop (i+1)):=by
  have h1:l.drop i=x::l.drop (i+1):=by
   rw [List.drop_eq_getElem_cons hl];congr 1;exact (List.getElem?_eq_some_iff.1 hi).2
  rw [List.singleton_append,←h1,List.take_append_drop]
 rw [e] at S
 rw [List.map_append,List.map_append] at S
 exact (S.star_split.swap.star_split.star_one|>fun h=>by
  obtain ⟨D1,D2,a1,a2,a3,a4,a5⟩:=Own.split (L1:=[f x]) h.own
  have h2:St F w0 w (stars ((l.drop (i+1)).map f)::stars ((l.take i).map f)::L):=⟨h.fr,a2.mono fun k hk _=>a5 k hk⟩
  obtain ⟨D3,D4,b1,b2,b3,b4,b5⟩:=Own.split (L1:=[stars ((l.drop (i+1)).map f)]) a2
  obtain ⟨D5,D6,c1,c2,c3,c4,c5⟩:=Own.split (L1:=[stars ((l.take i).map f)]) b2
  have h3:=a1.append (c1.append (b1.append c2 fun i hi hj _=>b3 i hi (c5 i hj)) fun i hi hj _=>hj.elim (fun h=>b3 i h (c4 i hi)) (c3 i hi)) fun i hi hj _=>a3 i hi (hj.elim (fun h=>b5 i (c4 i h)) (fun h=>h.elim (b4 i) (fun h=>b5 i (c5 i h))))
  exact ⟨h.fr,h3.mono fun k hk _=>hk.elim (a4 k) (fun h=>a5 k (h.elim (fun h=>b5 k (c4 k h)) (fun h=>h.elim (b4 k) (fun h=>b5 k (c5 k h)))))⟩)
theorem St.fill {α:Type}{f:α→Ast}{l:List α}{x:α}(i:Nat)(hi:i<l.length)(S:St F w0 w (f x::stars ((l.take i).map f)::stars ((l.drop (i+1)).map f)::L)):St F w0 w (stars ((l.set i x).map f)::L):=by
 have e:l.set i x=l.take i++([x]++l.drop (i+1)):=by
  rw [List.set_eq_take_append_cons_drop];simp [hi]
 rw [e,List.map_append,List.map_append]
 have h1:=S.swap
 obtain ⟨D1,D2,a1,a2,a3,a4,a5⟩:=Own.split (L1:=[stars ((l.take i).map f)]) h1.own
 have a2':St F w0 w (f x::stars ((l.drop (i+1)).map f)::L):=⟨S.fr,a2.mono fun k hk _=>a5 k hk⟩
 have h3:=a1.append (L2:=stars ([x].map f++(l.drop (i+1)).map f)::L) (D2:=D2) ?_ fun i hi hj _=>a3 i hi hj
 ·exact St.star_join ⟨S.fr,h3.mono fun k hk _=>hk.elim (a4 k) (a5 k)⟩
 ·obtain ⟨D3,D4,b1,b2,b3,b4,b5⟩:=Own.split (L1:=[f x]) a2
  obtain ⟨D5,D6,c1,c2,c3,c4,c5⟩:=Own.split (L1:=[stars ((l.drop (i+1)).map f)]) b2
  have h4:=(Own.star (b1.append c1.flat fun i hi hj _=>b3 i hi (c4 i hj))).append c2 fun i hi hj _=>hi.elim (fun h=>b3 i h (c5 i hj)) (fun h=>c3 i h hj)
  exact h4.mono fun k hk _=>hk.elim (fun h=>h.elim (b4 k) (fun h=>b5 k (c4 k h))) (fun h=>b5 k (c5 k h))
theorem row_news {w:World}{g:Nat}{cs:Array Value}{t:TypeId}(h:Blk w g cs t):∀j u,cs.toList[j]?=some u→w.cell? ((⟨g,0,none⟩:Addr).add j)=some u:=fun j u hu=>by
 rw [Addr.add_lit,Nat.zero_add,h.cell];simpa using hu
theorem addr_add_add (a:Addr)(i j:Nat):(a.add i).add j=a.add (i+j):=by
 unfold Addr.add
 by_cases h0:i=0
 ·subst h0;simp
 ·by_cases h1:j=0
  ·subst h1;simp
  ·have h2:¬(i+j=0):=by omega
   simp only [h0,h1,h2,if_false,Nat.add_assoc]
theorem RdB.sub {w:World}{ad:Addr}{l:List UInt8}(h:RdB w (some ad) l)(o n:Nat):RdB w (some (ad.add o)) ((l.drop o).take n):=by
 intro h0
 obtain ⟨ad',e,hc⟩:=h (by rw [List.length_take,List.length_drop] at h0;omega)
 cases e
 refine ⟨_,rfl,fun j v hv=> ?_⟩
 rw [addr_add_add]
 refine hc _ v ?_
 rw [List.getElem?_map,List.getElem?_take] at hv
 rw [List.getElem?_map]
 split at hv
 ·rw [List.getElem?_drop] at hv;exact hv
 ·simp at hv
theorem RdB.at {w:World}{A:Option Addr}{l:List UInt8}(h:RdB w A l){k:Nat}(hk:k<l.length):∃ad,A=some ad:=by
 obtain ⟨ad,e,_⟩:=h om_;exact ⟨ad,e⟩
theorem RdB.cell {w:World}{ad:Addr}{l:List UInt8}(h:RdB w (some ad) l){k:Nat}(hk:k<l.length):w.cell? (ad.add k)=some (.int .u8 ((l.getD k 0).toNat:Int)):=by
 obtain ⟨ad',e,hc⟩:=h om_
 cases e
 refine hc k _ ?_
 rw [List.getElem?_map,List.getElem?_eq_getElem hk,List.getD_eq_getElem?_getD,List.getElem?_eq_getElem hk];rfl
structure RoT (F:Nat→Prop)(w0:World)(L:List Ast)(A:Option Addr)(l:List UInt8):Prop where
 out:∀w' L',St F w0 w' (L'++L)→RdB w' A l
theorem Ro.T {A:Option Addr}{l:List UInt8}(h:Ro F w0 A l):RoT F w0 L A l:=⟨fun w' _ S=>h.out w' S.fr⟩
theorem RoT.item {g:Nat}{B:List UInt8}{t:TypeId}(j:Nat)(hj:L[j]?=some (row g (bvs B) t))(o n:Nat)(l:List UInt8)(hl:l=(B.drop o).take n):RoT F w0 L (some ⟨g,o,none⟩) l:=⟨fun w' L' S=>by
 have h1:(L'++L)[L'.length+j]?=some (row g (bvs B) t):=by rw [List.getElem?_append_right om_];simpa using hj
 exact RdB.row (S.blk _ h1) o n l hl⟩
theorem RoT.now {A:Option Addr}{l:List UInt8}(h:RoT F w0 L A l)(S:St F w0 w L):RdB w A l:=h.out w [] S
theorem RoT.sub {ad:Addr}{l:List UInt8}(h:RoT F w0 L (some ad) l)(o n:Nat):RoT F w0 L (some (ad.add o)) ((l.drop o).take n):=⟨fun w' L' S=>(h.out w' L' S).sub o n⟩
theorem RoT.more {A:Option Addr}{l:List UInt8}{X:Ast}(h:RoT F w0 L A l):RoT F w0 (X::L) A l:=⟨fun w' L' S=>h.out w' (L'++[X]) (by rw [List.append_assoc];exact S)⟩
end
end
section
def dep (l:List Oper):Nat→Nat→Nat→Bool
 |0,_,_=>false
 |f+1,i,k=>match l[i]? with
  |none=>false
  |some o=>waits o k||(List.range l.length).any fun j=>waits o j&&dep l f j k
theorem dep_closed {l:List Oper}{D:Nat→Bool}(hc:∀j o k,l[j]?=some o→D j=true→waits o k=true→D k=true):∀(f i k:Nat),dep l f i k=true→D i=true→D k=true
 |0,_,_,h,_=>by simp [dep] at h
 |f+1,i,k,h,hi=>by
  unfold dep at h
  cases ho:l[i]? with
  |none=>simp [ho] at h
  |some o=>
   simp only [ho,Bool.or_eq_true,List.any_eq_true,Bool.and_eq_true] at h
   rcases h with h|⟨j,_,h1,h2⟩
   ·exact hc i o k ho hi h
   ·exact dep_closed hc f j k h2 (hc i o j ho hi h1)
section
variable {P:Program}{l:List Oper}{Q:Exit→Act→World→Prop}{a:Act}{n:Nat}{w:World}
structure RJ (l:List Oper)(n:Nat)(a:Act)(J:(Nat→Bool)→(Nat→Value)→World→Prop)(vals:Nat→Value)(listed:Array Bool)(x:Act)(w:World):Prop where
 size:listed.size=l.length
 inv:J (fun j=>listed.getD j false) vals w
 frame:x=fill l (fun i=>listed.getD i false) vals a
 tail:∀t,n≤t→listed.getD t false=false
 closed:∀j o k,l[j]?=some o→listed.getD j false=true→waits o k=true→listed.getD k false=true
theorem inv_key {J:(Nat→Bool)→(Nat→Value)→World→Prop}(hB:relyB l n=true)(hC:relyC l n=true)
  (hstep:∀i o (D:Nat→Bool) (vals:Nat→Value) w1,i<n→l[i]?=some o→D i=false→(∀j,waits o j=true→D j=true)→(∀j o' k,l[j]?=some o'→D j=true→waits o' k=true→D k=true)→J D vals w1→
   if Region.wanted o (yielded l.toArray (fill l (waits o) vals a).tmps)=true then gives P (fun v w2=>J (fun j=>if j=i then true else D j) (fun j=>if j=i then v else vals j) w2) ((execOp (fill l (waits o) vals a).eval o).run P w1) else J (fun j=>if j=i then true else D j) (fun j=>if j=i then undef else vals j) w1)
  (hend:∀D vals w1,(∀j,j<n→D j=true)→J D vals w1→wpList P l.toArray Q (l.drop n) (fill l (fun i=>decide (i<n)) vals a) w1):
  ∀(m:Nat) (vals:Nat→Value) (listed:Array Bool) (x:Act) (w:World),cnt (fun i=>listed.getD i false) n=m→RJ l n a J vals listed x w→wpAny P .any l.toArray Q (m+(l.length-n)) listed x w:=by
 obtain ⟨hsel,hnl,hB'⟩:=relyB_spec hB
 simp only [relyC,Bool.and_eq_true] at hC
 obtain ⟨hback,hseq⟩:=hC
 have back:∀i o k,l[i]?=some o→waits o k=true→k<i:=by
  intro i o k hi hw
  obtain ⟨e,he,hb,hon⟩:=of_waits hw
  have h1:=List.all_eq_true.1 hback i (List.mem_range.2 (List.getElem?_eq_some_iff.1 hi).1)
  simp only [hi] at h1
  have h2:=Array.all_eq_true_iff_forall_mem.1 h1 e he
  simp only [hb,Bool.not_true,Bool.false_or,decide_eq_true_eq] at h2
  omega
 intro m
 induction m with
 |zero=>
  intro vals listed x w hc inv
  have hall:=cnt_zero hc
  have el:listed=((List.range l.length).map fun i=>decide (i<n)).toArray:=by
   apply Array.ext_getElem?
   intro i
   by_cases hi:i<l.length
   ·have h1:listed[i]?=some (listed.getD i false):=by
     simp [inv.size,hi]
    rw [h1]
    simp only [List.getElem?_toArray,List.getElem?_map,List.getElem?_range hi,Option.map_some,Option.some.injEq]
    by_cases hin:i<n
    ·rw [hall i hin];simp [hin]
    ·rw [inv.tail i om_];simp [hin]
   ·rw [Array.getElem?_eq_none (by rw [inv.size];omega),Array.getElem?_eq_none (by simp;omega)]
  have ef:x=fill l (fun i=>decide (i<n)) vals a:=by
   rw [inv.frame]
   unfold fill
   congr 2
   funext t v
   congr 2
   funext i
   by_cases hin:i<n
   ·have:=hall i hin
    simp only [this,hin,decide_true]
   ·have:=inv.tail i om_
    simp only [this,hin,decide_false]
  rw [Nat.zero_add,el,ef]
  have hd:l.length-n=(l.drop n).length:=by simp
  rw [hd]
  refine wpAny_of_seq (l.drop n) n _ _ _ (fun j=>by simp) ?_ (hend _ vals w hall inv.inv)
  rw [←hd]
  exact hseq
 |succ m ih=>
  intro vals listed x w hc inv
  rw [Nat.succ_add]
  obtain ⟨i0,hi0,hf0,hj0⟩:=cnt_pos (f:=fun i=>listed.getD i false) (n:=n) om_
  have hready:i0∈Region.ready .any l.toArray listed:=by
   have hil:i0<l.length:=by omega
   refine mem_ready.2 ⟨?_,l[i0],by simp [hil],fun e he hb=> ?_⟩
   ·have h1:listed.getD i0 false=false:=hf0
    rw [Array.getD_eq_getD_getElem?,Array.getElem?_eq_getElem (by rw [inv.size];exact hil)] at h1 ⊢
    exact h1
   ·exact hj0 e.on (back i0 _ _ (List.getElem?_eq_getElem hil) (waits_of he hb))
  refine ⟨fun h0=>(by rw [h0] at hready;cases hready),fun i hi=> ?_⟩
  obtain ⟨hun,o,ho,hdeps⟩:=mem_ready.1 hi
  have ho':l[i]?=some o:=by simpa using ho
  have hil:i<l.length:=(List.getElem?_eq_some_iff.1 ho').1
  have hun':listed.getD i false=false:=by
   rw [Array.getD_eq_getD_getElem?,Array.getElem?_eq_getElem (by rw [inv.size];exact hil)] at hun ⊢
   exact hun
  have hdep:∀j,waits o j=true→listed.getD j false=true:=fun j hj=>by
   obtain ⟨e,he,hb,hon⟩:=of_waits hj
   exact hon▸hdeps e he hb
  have hin:i<n:=by
   rcases Nat.lt_or_ge i n with h|h
   ·exact h
   ·have:=hdep i0 ((hB' i i0 o _ ho' (List.getElem?_eq_getElem (show i0<l.length by omega))).2.2 h om_)
    have hf0':listed.getD i0 false=false:=hf0
    rw [hf0'] at this
    cases this
  have hdn:∀j,waits o j=true→j<n:=fun j hj=>by have:=back i o j ho' hj;omega
  have agree:∀t:Nat,t∈o.looksAt l.toArray→(fill l (waits o) vals a).tmps[t]?=x.tmps[t]?:=by
   intro t ht
   rw [inv.frame,fill_get,fill_get]
   congr 1
   funext v
   have e:(List.range l.length).find? (fun i=>waits o i&&((l[i]?).bind (·.dst)==some t))=(List.range l.length).find? (fun i=>listed.getD i false&&((l[i]?).bind (·.dst)==some t)):=by
    refine find_congr (fun j hj=> ?_)
    have hjl:=List.mem_range.1 hj
    by_cases hd:(l[j]?).bind (·.dst)=some t
    ·rw [hd]
     simp only [beq_self_eq_true,Bool.and_true]
     have hlj:=List.getElem?_eq_getElem hjl
     rw [hlj] at hd
     have hor:=(hB' i j o _ ho' hlj).2.1 t (by simpa using hd) ht
     cases hw:waits o j with
     |true=>exact (hdep j hw).symm
     |false=>
      rw [hw] at hor
      simp only [Bool.false_eq_true,false_or] at hor
      cases hlj2:listed.getD j false with
      |false=>rfl
      |true=>
       have:=inv.closed j _ i hlj hlj2 hor
       rw [hun'] at this
       cases this
    ·have:((l[j]?).bind (·.dst)==some t)=false:=by simpa using hd
     rw [this];simp
   rw [e]
  obtain ⟨hex,hwant⟩:=run_same (Region.noSelect_spec hsel i o · · ho) agree
  have hst:=hstep i o (fun j=>listed.getD j false) vals w hin ho' hun' hdep inv.closed inv.inv
  rw [hex,hwant] at hst
  have next:∀v w2,J (fun j=>if j=i then true else listed.getD j false) (fun j=>if j=i then v else vals j) w2→wpAny P .any l.toArray Q (m+(l.length-n)) (listed.setIfInBounds i true) (x.put o.dst v) w2:=by
   intro v w2 hJ
   have gd:∀j,(listed.setIfInBounds i true).getD j false=if i=j then true else listed.getD j false:=by
    intro j
    by_cases hj:j<listed.size
    ·exact getD_listed hj
    ·have hij:i≠j:=by rw [inv.size] at hj;omega
     rw [if_neg hij]
     simp only [Array.getD_eq_getD_getElem?]
     rw [Array.getElem?_eq_none (by simpa using hj),Array.getElem?_eq_none (by simpa using hj)]
   refine ih (fun j=>if j=i then v else vals j) (listed.setIfInBounds i true) (x.put o.dst v) w2 ?_ ⟨by simp [inv.size], ?_, ?_,fun t ht=> ?_,fun j o' k hj hl hw=> ?_⟩
   ·have:=cnt_set (f:=fun j=>listed.getD j false) (g:=fun j=>(listed.setIfInBounds i true).getD j false) (i:=i) hun' (by rw [gd,if_pos rfl]) (fun j hj=>by rw [gd,if_neg (fun h=>hj h.symm)]) n
    rw [if_pos hin] at this
    omega
   ·have e:(fun j=>(listed.setIfInBounds i true).getD j false)=fun j=>if j=i then true else listed.getD j false:=by
     funext j
     rw [gd]
     by_cases hji:i=j
     ·subst hji;simp
     ·have:¬j=i:=fun h=>hji h.symm
      simp only [hji,this,if_false]
    rw [e];exact hJ
   ·rw [inv.frame]
    refine act_ext (fun t=> ?_) ?_
    ·rw [fill_get]
     cases hd:o.dst with
     |none=>
      show (fill l _ vals a).tmps[t]?=_
      rw [fill_get]
      congr 1
      funext u
      have e:∀j,j∈List.range l.length→(listed.getD j false&&((l[j]?).bind (·.dst)==some t))=((listed.setIfInBounds i true).getD j false&&((l[j]?).bind (·.dst)==some t)):=by
       intro j _
       by_cases hji:i=j
       ·subst hji
        have:((l[i]?).bind (·.dst)==some t)=false:=by rw [ho'];simp [hd]
        rw [this];simp
       ·rw [gd,if_neg hji]
      rw [find_congr e]
      cases hfi:(List.range l.length).find? (fun i_1=>(listed.setIfInBounds i true).getD i_1 false&&((l[i_1]?).bind (·.dst)==some t)) with
      |none=>rfl
      |some k=>
       have hk:=find_sel hfi
       simp only [Bool.and_eq_true,beq_iff_eq] at hk
       have hki:k≠i:=by
        rintro rfl
        rw [ho'] at hk
        simp [hd] at hk
       simp [hki]
     |some d=>
      show ((fill l _ vals a).tmps.setIfInBounds d v)[t]?=_
      rw [Array.getElem?_setIfInBounds]
      by_cases hdt:d=t
      ·subst hdt
       rw [if_pos rfl]
       have hfi:(List.range l.length).find? (fun i_1=>(listed.setIfInBounds i true).getD i_1 false&&((l[i_1]?).bind (·.dst)==some d))=some i:=by
        rw [List.find?_eq_some_iff_getElem]
        refine ⟨by rw [gd,if_pos rfl,ho'];simp [hd],i,by simp [hil],by simp,fun j hj=> ?_⟩
        have hjl:j<l.length:=by omega
        have hlj:=List.getElem?_eq_getElem hjl
        have hne:=(hB' i j o _ ho' hlj).1 om_ d hd
        simp only [List.getElem_range,hlj,Option.bind_some]
        have:(l[j].dst==some d)=false:=by simpa using hne
        rw [this];simp
       rw [hfi,fill_size]
       by_cases hsz:d<a.tmps.size
       ·simp [hsz]
       ·simp [hsz]
      ·rw [if_neg hdt,fill_get]
       congr 1
       funext u
       have e:∀j,j∈List.range l.length→(listed.getD j false&&((l[j]?).bind (·.dst)==some t))=((listed.setIfInBounds i true).getD j false&&((l[j]?).bind (·.dst)==some t)):=by
        intro j _
        by_cases hji:i=j
        ·subst hji
         have:((l[i]?).bind (·.dst)==some t)=false:=by rw [ho'];simp [hd,hdt]
         rw [this];simp
        ·rw [gd,if_neg hji]
       rw [find_congr e]
       cases hfi:(List.range l.length).find? (fun i_1=>(listed.setIfInBounds i true).getD i_1 false&&((l[i_1]?).bind (·.dst)==some t)) with
       |none=>rfl
       |some k=>
        have hk:=find_sel hfi
        simp only [Bool.and_eq_true,beq_iff_eq] at hk
        have hki:k≠i:=by
         rintro rfl
         rw [ho'] at hk
         simp [hd,hdt] at hk
        simp [hki]
    ·cases o.dst<;>rfl
   ·rw [gd,if_neg om_];exact inv.tail t ht
   ·by_cases hji:i=j
    ·subst hji
     have hoo:o'=o:=Option.some.inj (hj.symm.trans ho')
     subst hoo
     rw [gd]
     split
     ·rfl
     ·exact hdep k hw
    ·rw [gd,if_neg hji] at hl
     rw [gd]
     split
     ·rfl
     ·exact inv.closed j o' k hj hl hw
  unfold wpOp
  simp only [ho]
  split
  ·rename_i hw
   rw [if_pos hw] at hst
   exact .inl (wp_of_gives (gives_mono (fun v w2 h=>next v w2 h) hst))
  ·rename_i hw
   rw [if_neg hw] at hst
   exact next undef w hst
theorem wp_region_inv {id:Nat}(n:Nat)(J:(Nat→Bool)→(Nat→Value)→World→Prop)(hm:P.follows .mixedOrders=true)(hB:relyB l n=true)(hC:relyC l n=true)
  (h0:J (fun _=>false) (fun _=>undef) w.drew)
  (hstep:∀i o (D:Nat→Bool) (vals:Nat→Value) w1,i<n→l[i]?=some o→D i=false→(∀j,waits o j=true→D j=true)→(∀j o' k,l[j]?=some o'→D j=true→waits o' k=true→D k=true)→J D vals w1→
   if Region.wanted o (yielded l.toArray (fill l (waits o) vals a).tmps)=true then gives P (fun v w2=>J (fun j=>if j=i then true else D j) (fun j=>if j=i then v else vals j) w2) ((execOp (fill l (waits o) vals a).eval o).run P w1) else J (fun j=>if j=i then true else D j) (fun j=>if j=i then undef else vals j) w1)
  (hend:∀D vals w1,(∀j,j<n→D j=true)→J D vals w1→wpList P l.toArray Q (l.drop n) (fill l (fun i=>decide (i<n)) vals a) w1):
  (Code.region id l.toArray true).wp P Q a w:=by
 refine wp_region_any hm ?_
 obtain ⟨_,hnl,_⟩:=relyB_spec hB
 have gd:∀j,(Array.replicate l.toArray.size false).getD j false=false:=fun j=>getD_replicate_false _ _
 have hc:cnt (fun i=>(Array.replicate l.toArray.size false).getD i false) n=n:=by
  have:∀m,cnt (fun i=>(Array.replicate l.toArray.size false).getD i false) m=m:=by
   intro m
   induction m with
   |zero=>rfl
   |succ m ih=>
    show cnt _ m+(if (Array.replicate l.toArray.size false).getD m false=true then 0 else 1)=m+1
    rw [ih,gd,if_neg dc_]
  exact this n
 have h:=inv_key (Q:=Q) hB hC hstep hend n (fun _=>undef) (Array.replicate l.toArray.size false) a w.drew hc
  ⟨by simp, ?_, ?_,fun t _=>gd t,fun j o k _ hl=>(by rw [gd] at hl;cases hl)⟩
 ·have e:n+(l.length-n)=l.toArray.size:=by simp;omega
  rw [e] at h
  exact h
 ·have e:(fun j=>(Array.replicate l.toArray.size false).getD j false)=fun _=>false:=funext gd
  rw [e];exact h0
 ·refine act_ext (fun t=> ?_) rfl
  rw [fill_get]
  have e:(List.range l.length).find? (fun i=>(Array.replicate l.toArray.size false).getD i false&&((l[i]?).bind (·.dst)==some t))=none:=by
   rw [List.find?_eq_none]
   intro j _
   rw [gd];simp
  rw [e]
  simp
structure Told (P:Program)(l:List Oper)(a:Act)(i:Nat)(vals:Nat→Value)(K:Value→World→Prop)(w:World):Prop where
 out:∀o,l[i]?=some o→if Region.wanted o (yielded l.toArray (fill l (waits o) vals a).tmps)=true then gives P K ((execOp (fill l (waits o) vals a).eval o).run P w) else K undef w
theorem fill_congr {sel:Nat→Bool}{vals vals':Nat→Value}(h:∀i,i<l.length→sel i=true→vals i=vals' i):fill l sel vals a=fill l sel vals' a:=by
 refine act_ext (fun t=> ?_) rfl
 rw [fill_get,fill_get]
 congr 1
 funext v
 cases hf:(List.range l.length).find? (fun i=>sel i&&((l[i]?).bind (·.dst)==some t)) with
 |none=>rfl
 |some k=>
  have hk:=find_sel hf
  simp only [Bool.and_eq_true] at hk
  exact h k hk.1 hk.2.1
theorem wp_region_phu {γ:Type}{id:Nat}(n:Nat)(E:List Nat)(V:γ→Nat→Value)(Ph:γ→Nat→World→Prop)(c0:γ)(hm:P.follows .mixedOrders=true)(hB:relyB l n=true)(hC:relyC l n=true)
  (hE:(List.range E.length).all (fun k=>decide (E.getD k 0<n)&&(List.range k).all fun m=>dep l n (E.getD k 0) (E.getD m 0))=true)
  (h0:Ph c0 0 w.drew)
  (hpure:∀i c p vals w1,i<n→E.contains i=false→p≤E.length→(∀k,k<E.length→dep l n i (E.getD k 0)=true→k<p)→(∀k,k<E.length→dep l n (E.getD k 0) i=true→p≤k)→Ph c p w1→(∀j,waitsAt l i j=true→vals j=V c j)→Told P l a i vals (fun v w2=>v=V c i∧w2=w1) w1)
  (heff:∀k c vals w1,k<E.length→Ph c k w1→(∀j,waitsAt l (E.getD k 0) j=true→vals j=V c j)→Told P l a (E.getD k 0) vals (fun v w2=>∃c',v=V c' (E.getD k 0)∧(∀i,i<n→i≠E.getD k 0→dep l n i (E.getD k 0)=false→V c' i=V c i)∧Ph c' (k+1) w2) w1)
  (hend:∀c w1,Ph c E.length w1→wpList P l.toArray Q (l.drop n) (fill l (fun i=>decide (i<n)) (V c) a) w1):
  (Code.region id l.toArray true).wp P Q a w:=by
 have hE1:∀k,k<E.length→E.getD k 0<n:=fun k hk=>by
  have:=List.all_eq_true.1 hE k (List.mem_range.2 hk)
  rw [Bool.and_eq_true] at this
  exact of_decide_eq_true this.1
 have hE2:∀k m,k<E.length→m<k→dep l n (E.getD k 0) (E.getD m 0)=true:=fun k m hk hm=>by
  have:=List.all_eq_true.1 hE k (List.mem_range.2 hk)
  rw [Bool.and_eq_true] at this
  exact List.all_eq_true.1 this.2 m (List.mem_range.2 hm)
 have hln:n≤l.length:=(relyB_spec hB).2.1
 refine wp_region_inv n (fun D vals w=>∃c p,p≤E.length∧(∀k,k<E.length→(D (E.getD k 0)=true↔k<p))∧(∀i,i<n→D i=true→vals i=V c i)∧Ph c p w) hm hB hC ⟨c0,0,Nat.zero_le _,fun k _=>⟨(fun h=>by cases h),fun h=>absurd h (Nat.not_lt_zero _)⟩,(fun i _ h=>by cases h),h0⟩ ?_ ?_
 ·rintro i o D vals w1 hi ho hDi hdeps hcl ⟨c,p,hp,hDE,hV,hPh⟩
  have hdj:∀j,waitsAt l i j=true→vals j=V c j:=fun j hj=>by
   unfold waitsAt at hj
   rw [ho] at hj
   have hjn:j<n:=by
    simp only [relyC,Bool.and_eq_true] at hC
    obtain ⟨e,he,hb,hon⟩:=of_waits hj
    have h1:=List.all_eq_true.1 hC.1 i (List.mem_range.2 (List.getElem?_eq_some_iff.1 ho).1)
    simp only [ho] at h1
    have h2:=Array.all_eq_true_iff_forall_mem.1 h1 e he
    simp only [hb,Bool.not_true,Bool.false_or,decide_eq_true_eq] at h2
    omega
   exact hV j hjn (hdeps j hj)
  have hreach:∀f k,dep l f i k=true→D k=true:=fun f k h=>by
   cases f with
   |zero=>simp [dep] at h
   |succ f=>
    unfold dep at h
    rw [ho] at h
    simp only [Bool.or_eq_true,List.any_eq_true,Bool.and_eq_true] at h
    rcases h with h|⟨j,_,h1,h2⟩
    ·exact hdeps k h
    ·exact dep_closed hcl f j k h2 (hdeps j h1)
  by_cases hiE:E.contains i=true
  ·obtain ⟨k,hk⟩:=List.getElem?_of_mem (List.contains_iff_mem.1 hiE)
   have hkl:=(List.getElem?_eq_some_iff.1 hk).1
   have hek:E.getD k 0=i:=by rw [List.getD_eq_getElem?_getD,hk];rfl
   have hkp:k=p:=by
    rcases Nat.lt_trichotomy k p with h|h|h
    ·have:=(hDE k hkl).2 h
     rw [hek,hDi] at this;cases this
    ·exact h
    ·have h1:=hreach n (E.getD p 0) (hek▸hE2 k p hkl h)
     have:=(hDE p om_).1 h1
     omega
   subst hkp
   have ht:=(heff k c vals w1 hkl hPh (fun j hj=>hdj j (hek▸hj))).out o (by rw [hek];exact ho)
   rw [hek] at ht
   have fin:∀v w2,(∃c',v=V c' i∧(∀i',i'<n→i'≠i→dep l n i' i=false→V c' i'=V c i')∧Ph c' (k+1) w2)→∃c p,p≤E.length∧(∀k,k<E.length→((if E.getD k 0=i then true else D (E.getD k 0))=true↔k<p))∧(∀j,j<n→(if j=i then true else D j)=true→(if j=i then v else vals j)=V c j)∧Ph c p w2:=by
    rintro v w2 ⟨c',h1,h2,h3⟩
    refine ⟨c',k+1,by omega,fun m hm=> ?_,fun j hj hd=> ?_,h3⟩
    ·by_cases hmi:E.getD m 0=i
     ·rw [if_pos hmi]
      refine ⟨fun _=> ?_,fun _=>rfl⟩
      rcases Nat.lt_trichotomy m k with h|h|h
      ·omega
      ·omega
      ·have h4:=hE2 m k hm h
       rw [hmi,hek] at h4
       have h5:=hreach n i h4
       rw [hDi] at h5;cases h5
     ·rw [if_neg hmi,hDE m hm]
      have:m≠k:=fun h=>hmi (h▸hek)
      omega
    ·by_cases hji:j=i
     ·subst hji;rw [if_pos rfl];exact h1
     ·rw [if_neg hji] at hd ⊢
      have hdi:dep l n j i=false:=by
       cases hq:dep l n j i with
       |false=>rfl
       |true=>
        have:=dep_closed hcl n j i hq hd
        rw [hDi] at this;cases this
      rw [hV j hj hd,h2 j hj hji hdi]
   split at ht
   ·rename_i hw;rw [if_pos hw];exact gives_mono fin ht
   ·rename_i hw;rw [if_neg hw];exact fin _ _ ht
  ·have hiE':E.contains i=false:=by simpa using hiE
   have ht:=(hpure i c p vals w1 hi hiE' hp (fun k hk hd=>(hDE k hk).1 (hreach n _ hd)) (fun k hk hd=>Nat.le_of_not_lt fun hkp=>by have h1:=(hDE k hk).2 hkp;have h2:=dep_closed hcl n (E.getD k 0) i hd h1;rw [hDi] at h2;cases h2) hPh hdj).out o ho
   have fin:∀v w2,(v=V c i∧w2=w1)→∃c p,p≤E.length∧(∀k,k<E.length→((if E.getD k 0=i then true else D (E.getD k 0))=true↔k<p))∧(∀j,j<n→(if j=i then true else D j)=true→(if j=i then v else vals j)=V c j)∧Ph c p w2:=by
    rintro v w2 ⟨h1,rfl⟩
    refine ⟨c,p,hp,fun m hm=> ?_,fun j hj hd=> ?_,hPh⟩
    ·have:¬E.getD m 0=i:=fun h=>hiE (List.contains_iff_mem.2 (by rw [←h,List.getD_eq_getElem?_getD,List.getElem?_eq_getElem hm];exact List.getElem_mem hm))
     rw [if_neg this];exact hDE m hm
    ·by_cases hji:j=i
     ·subst hji;rw [if_pos rfl];exact h1
     ·rw [if_neg hji] at hd ⊢;exact hV j hj hd
   split at ht
   ·rename_i hw;rw [if_pos hw];exact gives_mono fin ht
   ·rename_i hw;rw [if_neg hw];exact fin _ _ ht
 ·rintro D vals w1 hD ⟨c,p,hp,hDE,hV,hPh⟩
  have hpe:p=E.length:=by
   rcases Nat.lt_or_ge p E.length with h|h
   ·have:=(hDE p h).1 (hD _ (hE1 p h));omega
   ·omega
  subst hpe
  have e:fill l (fun i=>decide (i<n)) vals a=fill l (fun i=>decide (i<n)) (V c) a:=fill_congr fun i _ hi=>hV i (of_decide_eq_true hi) (hD i (of_decide_eq_true hi))
  rw [e]
  exact hend c w1 hPh
variable {i:Nat}{vals:Nat→Value}{K:Value→World→Prop}{o o0:Oper}{x:Act}
theorem told_free (h0:l[i]?=some o0)(hg:o0.guard=none)(h:gives P K ((execOp (fill l (waits o0) vals a).eval o0).run P w)):Told P l a i vals K w:=⟨fun o ho=>by
 rw [h0] at ho;cases ho
 have:Region.wanted o0 (yielded l.toArray (fill l (waits o0) vals a).tmps)=true:=by unfold Region.wanted;rw [hg]
 rw [if_pos this];exact h⟩
theorem yields_fill {sel:Nat→Bool}{g t k:Nat}{b:Bool}(hd:(l[g]?).bind (·.dst)=some t)(hs:(List.range l.length).find? (fun i=>sel i&&((l[i]?).bind (·.dst)==some t))=some k)(ht:Nat.blt t a.tmps.size=true)(hv:vals k=.bool b):yielded l.toArray (fill l sel vals a).tmps g=some b:=by
 unfold yielded
 rw [List.getElem?_toArray,hd]
 simp only [Option.bind_some,fill_get]
 rw [hs,Array.getElem?_eq_getElem (Nat.le_of_ble_eq_true ht)]
 simp [hv]
theorem told_when {g t k:Nat}{b:Bool}(h0:l[i]?=some o0)(hg:o0.guard=some (g,b))(hd:(l[g]?).bind (·.dst)=some t)(hs:(List.range l.length).find? (fun i=>waits o0 i&&((l[i]?).bind (·.dst)==some t))=some k)(ht:Nat.blt t a.tmps.size=true)(hv:vals k=.bool b)(h:gives P K ((execOp (fill l (waits o0) vals a).eval o0).run P w)):Told P l a i vals K w:=⟨fun o ho=>by
 rw [h0] at ho;cases ho
 have hy:=yields_fill (a:=a) hd hs ht hv
 have:Region.wanted o0 (yielded l.toArray (fill l (waits o0) vals a).tmps)=true:=by unfold Region.wanted;rw [hg];simp [hy]
 rw [if_pos this];exact h⟩
theorem told_not {g t k:Nat}{b b':Bool}(h0:l[i]?=some o0)(hg:o0.guard=some (g,b))(hd:(l[g]?).bind (·.dst)=some t)(hs:(List.range l.length).find? (fun i=>waits o0 i&&((l[i]?).bind (·.dst)==some t))=some k)(ht:Nat.blt t a.tmps.size=true)(hv:vals k=.bool b')(hb:(b'==b)=false)(h:K undef w):Told P l a i vals K w:=⟨fun o ho=>by
 rw [h0] at ho;cases ho
 have hy:=yields_fill (a:=a) hd hs ht hv
 have:¬Region.wanted o0 (yielded l.toArray (fill l (waits o0) vals a).tmps)=true:=by unfold Region.wanted;rw [hg];simpa [hy] using hb
 rw [if_neg this];exact h⟩
def alike (ρ ρ':Operand→Value):List Operand→Prop
 |[]=>True
 |x::r=>ρ x=ρ' x∧alike ρ ρ' r
theorem alike_nil {ρ ρ':Operand→Value}:alike ρ ρ' []:=trivial
theorem alike_cons {ρ ρ':Operand→Value}{x:Operand}{r:List Operand}(h:ρ x=ρ' x)(h2:alike ρ ρ' r):alike ρ ρ' (x::r):=⟨h,h2⟩
theorem eval_fn {a b:Act}{f:FuncId}:a.eval (.func f)=b.eval (.func f):=rfl
theorem eval_c {a b:Act}{v:Value}:a.eval (.const v)=b.eval (.const v):=rfl
theorem dep_no {b:Bool}(h:b=false)(h2:b=true):False:=by rw [h] at h2;cases h2
theorem gv_boolT {b b':Bool}(hr:(execOp x.eval o).run P w=.ok (.value (.bool b)) w)(hb:b=b')(h:K (.bool b') w):gives P K ((execOp x.eval o).run P w):=by subst hb;exact gv_val hr h
theorem alike_mem {ρ ρ':Operand→Value}:∀{xs:List Operand},alike ρ ρ' xs→∀x∈xs,ρ x=ρ' x
 |[],_,x,h=>by cases h
 |y::r,h,x,hx=>(List.mem_cons.1 hx).elim (fun e=>e▸h.1) (fun hx=>alike_mem h.2 x hx)
def isSel (o:Oper):Bool:=match o.op with|.select _ _=>true|_=>false
theorem gv_env {x:Act}(b:Act)(hs:isSel o=false){xs:List Operand}(hx:o.op.operands.toList=xs)(h:alike x.eval b.eval xs)(k:gives P K ((execOp b.eval o).run P w)):gives P K ((execOp x.eval o).run P w):=by
 have e:=execOp_congr o (ρ:=x.eval) (ρ':=b.eval) (fun cs bl he=>by unfold isSel at hs;rw [he] at hs;cases hs) (fun op hop=>alike_mem h op (by rw [←hx];simpa using hop))
 rw [e];exact k
theorem fill_at {t k:Nat}{v:Value}{sel:Nat→Bool}(h:(List.range l.length).find? (fun i=>sel i&&((l[i]?).bind (·.dst)==some t))=some k)(ht:Nat.blt t a.tmps.size=true)(hv:vals k=v):(fill l sel vals a).eval (.tmp t)=v:=(fill_hit h (Nat.le_of_ble_eq_true ht)).trans hv
theorem fill_past {t:Nat}{v:Value}{sel:Nat→Bool}(h:(List.range l.length).find? (fun i=>sel i&&((l[i]?).bind (·.dst)==some t))=none)(hv:a.eval (.tmp t)=v):(fill l sel vals a).eval (.tmp t)=v:=(fill_miss h).trans hv
end
end
section
section
variable {P:Program}{ops:Array Oper}{rest:List Oper}{o:Oper}{a:Act}{Q:Exit→Act→World→Prop}{w w0:World}{F:Nat→Prop}{L:List Ast}{next:Act→World→Prop}
theorem g_ (h:gives P (fun v w'=>wpList P ops Q rest (a.put o.dst v) w') ((execOp a.eval o).run P w))(hg:o.guard=none:=by rfl):wpList P ops Q (o::rest) a w:=wl_gv hg h
theorem wE (h:Q .normal a w):wpList P ops Q [] a w:=wl_end _ rfl h
theorem wK (b:Act)(h2:Q .normal b w)(h:a=b:=by kernel_rfl):wpList P ops Q [] a w:=wl_end b h h2
theorem wF (b:Act)(h2:wpList P ops Q rest b w)(h:a=b:=by kernel_rfl):wpList P ops Q rest a w:=wl_frame b h h2
theorem wN (h:wpList P ops Q rest (a.put o.dst undef) w)(hw:Region.wanted o (yielded ops a.tmps)=false:=by kernel_rfl):wpList P ops Q (o::rest) a w:=wl_not hw h
theorem cT {v:Operand}{c d:Code}(h:c.wp P Q a w)(hv:a.eval v=.bool true:=by kernel_rfl):(Code.cond v c d).wp P Q a w:=wp_cond_true hv h
theorem cF {v:Operand}{c d:Code}(h:d.wp P Q a w)(hv:a.eval v=.bool false:=by kernel_rfl):(Code.cond v c d).wp P Q a w:=wp_cond_false hv h
theorem eN {f:FuncId}{fn:Func}{c:Code}{args:Array Value}{R:Ending→World→Prop}(b:Act)(hf:P.funcs[f]?=some fn)(hb:fn.body=some c)(h:c.wp P (bodyPost P fn R) b w)(he:({tmps:=args++Array.replicate (fn.ntmps-args.size) undef,defers:=[]}:Act)=b:=by kernel_rfl):Calls P f args w R:=wp_enter b hf hb he h
theorem sR {id:Nat}{l:List Oper}{c:Code}(h:wpList P l.toArray (Exit.then (c.wp P Q) Q) l a w):(Code.seq (Code.region id l.toArray false) c).wp P Q a w:=wp_seq (wp_region_lit h)
theorem nR {id:Nat}{l:List Oper}{Q':Exit→Act→World→Prop}(h:wpList P l.toArray Q' l a w):Exit.then ((Code.region id l.toArray false).wp P Q') Q .normal a w:=then_n (wp_region_lit h)
theorem nS {x y:Code}{Q':Exit→Act→World→Prop}(h:x.wp P (Exit.then (y.wp P Q') Q') a w):Exit.then ((Code.seq x y).wp P Q') Q .normal a w:=then_n (wp_seq h)
theorem nSR {id:Nat}{l:List Oper}{c:Code}{Q':Exit→Act→World→Prop}(h:wpList P l.toArray (Exit.then (c.wp P Q') Q') l a w):Exit.then ((Code.seq (Code.region id l.toArray false) c).wp P Q') Q .normal a w:=then_n (wp_seq (wp_region_lit h))
theorem wER {id:Nat}{l:List Oper}{c:Code}{Q':Exit→Act→World→Prop}(h:wpList P l.toArray (Exit.then (c.wp P Q') Q') l a w):wpList P ops (Exit.then ((Code.seq (Code.region id l.toArray false) c).wp P Q') Q) [] a w:=wE (nSR h)
theorem nCT {v:Operand}{c d:Code}{Q':Exit→Act→World→Prop}(h:c.wp P Q' a w)(hv:a.eval v=.bool true:=by kernel_rfl):Exit.then ((Code.cond v c d).wp P Q') Q .normal a w:=then_n (wp_cond_true hv h)
theorem nCF {v:Operand}{c d:Code}{Q':Exit→Act→World→Prop}(h:d.wp P Q' a w)(hv:a.eval v=.bool false:=by kernel_rfl):Exit.then ((Code.cond v c d).wp P Q') Q .normal a w:=then_n (wp_cond_false hv h)
theorem kN (h:next a w):Code.skip.wp P (Exit.then next Q) a w:=wp_skip (then_n h)
theorem iN {i:Nat}(h:next a w):Exit.inBlock i (Exit.then next Q) .normal a w:=inb_n (then_n h)
theorem rR (h:Q .ret a w):Code.ret.wp P (Exit.then next Q) a w:=wp_ret (then_r h)
theorem bA {fn:Func}{R:Ending→World→Prop}{p:Tmp}(v:Value)(hR:R (.returned v) w)(h:fn.results=#[.tmp p]:=by rfl)(ha:a.tmps.getD p undef=v:=by kernel_rfl)(hd:a.defers=[]:=by rfl):bodyPost P fn R .ret a w:=bodyPost_ret (results_t1 h ha) hd hR
theorem bB {fn:Func}{R:Ending→World→Prop}{p q:Tmp}(v u:Value)(hR:R (.returned (.tuple #[v,u])) w)(h:fn.results=#[.tmp p,.tmp q]:=by rfl)(ha:a.tmps.getD p undef=v:=by kernel_rfl)(hb:a.tmps.getD q undef=u:=by kernel_rfl)(hd:a.defers=[]:=by rfl):bodyPost P fn R .ret a w:=bodyPost_ret (results_t2 h ha hb) hd hR
theorem pW (v:Value)(h:wpList P ops Q rest (a.put o.dst v) w)(hw:Region.wanted o (yielded ops a.tmps)=true:=by kernel_rfl)(hr:(execOp a.eval o).run P w=.ok (.value v) w:=by kernel_rfl):wpList P ops Q (o::rest) a w:=wl_when hw (gv_val hr h)
theorem lR {T:TypeId}{x:Operand}{g:Nat}{cs:Array Value}{t:TypeId}(v:Value)(S:St F w0 w L)(i k:Nat)(h:wpList P ops Q rest (a.put o.dst v) w)(hi:L[i]?=some (row g cs t):=by rfl)(hg:o.guard=none:=by rfl)(ho:o.op=.load T x:=by rfl)(hT:oneB P T=true:=by kernel_rfl)(hx:a.eval x=.pointer (some ⟨g,k,none⟩):=by kernel_rfl)(hk:cs[k]?=some v:=by rfl):wpList P ops Q (o::rest) a w:=wl_gv hg (gv_ldR ho hT hx (((S.blk i hi).cell k).trans hk) h)
theorem lQ {T:TypeId}{x:Operand}{ad:Addr}(v:Value)(hc:w.cell? ad=some v)(h:wpList P ops Q rest (a.put o.dst v) w)(hg:o.guard=none:=by rfl)(ho:o.op=.load T x:=by rfl)(hT:oneB P T=true:=by kernel_rfl)(hx:a.eval x=.pointer (some ad):=by kernel_rfl):wpList P ops Q (o::rest) a w:=wl_gv hg (gv_ldR ho hT hx hc h)
theorem sS {T:TypeId}{x y:Operand}{g:Nat}{cs:Array Value}{t:TypeId}(S:St F w0 w L)(i:Nat)(hi:L[i]?=some (row g cs t))(k:Nat)(v:Value)(h:∀w',St F w0 w' (L.set i (row g (cs.setIfInBounds k v) t))→wpList P ops Q rest (a.put o.dst undef) w')(hg:o.guard=none:=by rfl)(ho:o.op=.store T x y:=by rfl)(hT:(P.info? T).map (·.size)=some 1:=by kernel_rfl)(hx:a.eval x=.pointer (some ⟨g,k,none⟩):=by kernel_rfl)(hy:a.eval y=v:=by kernel_rfl)(hv:v.oneCell'=true:=by rfl)(hk:Nat.blt k cs.size=true:=by rfl):wpList P ops Q (o::rest) a w:=wl_gv hg (gv_st S i hi ho hT hx hy hv hk rfl h)
theorem dC (p:Prop)[Decidable p](ht:p→wpList P ops Q rest (a.put o.dst (.bool true)) w)(hf:¬p→wpList P ops Q rest (a.put o.dst (.bool false)) w)(hg:o.guard=none:=by rfl)(hr:(execOp a.eval o).run P w=.ok (.value (.bool (decide p))) w:=by kernel_rfl):wpList P ops Q (o::rest) a w:=wl_gv hg (gv_dec hr ht hf)
theorem dE (x y:Int)(ht:x=y→wpList P ops Q rest (a.put o.dst (.bool true)) w)(hf:¬x=y→wpList P ops Q rest (a.put o.dst (.bool false)) w)(hg:o.guard=none:=by rfl)(hr:(execOp a.eval o).run P w=.ok (.value (.bool (x==y))) w:=by kernel_rfl):wpList P ops Q (o::rest) a w:=wl_gv hg (gv_eq hr ht hf)
theorem dN (x y:Int)(ht:¬x=y→wpList P ops Q rest (a.put o.dst (.bool true)) w)(hf:x=y→wpList P ops Q rest (a.put o.dst (.bool false)) w)(hg:o.guard=none:=by rfl)(hr:(execOp a.eval o).run P w=.ok (.value (.bool (x !=y))) w:=by kernel_rfl):wpList P ops Q (o::rest) a w:=wl_gv hg (gv_ne hr ht hf)
theorem gI (k:IntKind)(z z':Int)(hz:z=z')(h:wpList P ops Q rest (a.put o.dst (.int k z')) w)(hg:o.guard=none:=by rfl)(hr:(execOp a.eval o).run P w=.ok (.value (.int k z)) w:=by kernel_rfl):wpList P ops Q (o::rest) a w:=wl_gv hg (gv_int hr hz h)
theorem nW {T:TypeId}(ho:o.op=.alloc T)(z:Value)(S:St F w0 w L)(h:∀g w',w.heap.size≤g→St F w0 w' (row g z.cells T::L)→wpList P ops Q rest (a.put o.dst (.pointer (some ⟨g,0,none⟩))) w')(hg:o.guard=none:=by rfl)(hz:(P.info? T).map (·.zero)=some (some z):=by kernel_rfl):wpList P ops Q (o::rest) a w:=wl_gv hg (gv_new S ho hz h)
theorem nB {T:TypeId}{x:Operand}(ho:o.op=.box T x)(v:Value)(S:St F w0 w L)(h:∀g w',w.heap.size≤g→St F w0 w' (row g v.cells T::L)→wpList P ops Q rest (a.put o.dst (.pointer (some ⟨g,0,none⟩))) w')(hg:o.guard=none:=by rfl)(hx:a.eval x=v:=by kernel_rfl):wpList P ops Q (o::rest) a w:=wl_gv hg (gv_box S ho hx h)
section
variable {f:FuncId}{xs:Array Operand}{ts:Array TypeId}{fn:Func}{c:Code}
theorem sO {v:Value}(hf:P.funcs[f]?=some fn)(args:Array Value)(hc:Calls P f args w fun e w'=>e=.returned v∧w=w')(h:wpList P ops Q rest (a.put o.dst v) w)(ho:o.op=.call {callee:=.value (.func f),args:=xs,argTypes:=ts}:=by rfl)(hg:o.guard=none:=by rfl)(hname:(fn.name=="runtime.NumGoroutine")=false:=by kernel_rfl)(hb:fn.body=some c:=by rfl)(hρ:a.eval (.func f)=.func (.func f) #[] #[]:=by rfl)(hx:xs.map a.eval=args:=by kernel_rfl):wpList P ops Q (o::rest) a w:=
 wl_gv hg (gv_call ho hf hname hb hρ hx (hc.mono fun e w' h'=>⟨v,h'.1,h'.2▸h⟩))
theorem sP {v:Value}{R:World→Prop}(hf:P.funcs[f]?=some fn)(args:Array Value)(hc:Calls P f args w fun e w'=>e=.returned v∧R w')(h:∀w',R w'→wpList P ops Q rest (a.put o.dst v) w')(ho:o.op=.call {callee:=.value (.func f),args:=xs,argTypes:=ts}:=by rfl)(hg:o.guard=none:=by rfl)(hname:(fn.name=="runtime.NumGoroutine")=false:=by kernel_rfl)(hb:fn.body=some c:=by rfl)(hρ:a.eval (.func f)=.func (.func f) #[] #[]:=by rfl)(hx:xs.map a.eval=args:=by kernel_rfl):wpList P ops Q (o::rest) a w:=
 wl_gv hg (gv_call ho hf hname hb hρ hx (hc.mono fun e w' h'=>⟨v,h'.1,h w' h'.2⟩))
theorem sP1 {α:Type}{v:α→Value}{R:α→World→Prop}(hf:P.funcs[f]?=some fn)(args:Array Value)(hc:Calls P f args w fun e w'=>∃y,e=.returned (v y)∧R y w')(h:∀y w',R y w'→wpList P ops Q rest (a.put o.dst (v y)) w')(ho:o.op=.call {callee:=.value (.func f),args:=xs,argTypes:=ts}:=by rfl)(hg:o.guard=none:=by rfl)(hname:(fn.name=="runtime.NumGoroutine")=false:=by kernel_rfl)(hb:fn.body=some c:=by rfl)(hρ:a.eval (.func f)=.func (.func f) #[] #[]:=by rfl)(hx:xs.map a.eval=args:=by kernel_rfl):wpList P ops Q (o::rest) a w:=
 wl_gv hg (gv_call ho hf hname hb hρ hx (hc.mono fun e w' h'=>by obtain ⟨y,h1,h2⟩:=h';exact ⟨v y,h1,h y w' h2⟩))
theorem sP2 {α β:Type}{v:α→β→Value}{R:α→β→World→Prop}(hf:P.funcs[f]?=some fn)(args:Array Value)(hc:Calls P f args w fun e w'=>∃y z,e=.returned (v y z)∧R y z w')(h:∀y z w',R y z w'→wpList P ops Q rest (a.put o.dst (v y z)) w')(ho:o.op=.call {callee:=.value (.func f),args:=xs,argTypes:=ts}:=by rfl)(hg:o.guard=none:=by rfl)(hname:(fn.name=="runtime.NumGoroutine")=false:=by kernel_rfl)(hb:fn.body=some c:=by rfl)(hρ:a.eval (.func f)=.func (.func f) #[] #[]:=by rfl)(hx:xs.map a.eval=args:=by kernel_rfl):wpList P ops Q (o::rest) a w:=
 wl_gv hg (gv_call ho hf hname hb hρ hx (hc.mono fun e w' h'=>by obtain ⟨y,z,h1,h2⟩:=h';exact ⟨v y z,h1,h y z w' h2⟩))
end
end
section
variable {P:Program}{l:List Oper}{a:Act}{i:Nat}{vals:Nat→Value}{K:Value→World→Prop}{o0:Oper}{w:World}
theorem tA {Vm:Nat→Value}(h0:l[i]?=some o0)(N T k:Nat)(v:Value)(hd:∀j,waitsAt l i j=true→vals j=Vm j)(h:gives P K ((execOp ((⟨Array.replicate N undef,[]⟩:Act).put (some T) v).eval o0).run P w))(hg:o0.guard=none:=by rfl)(hs:isSel o0=false:=by kernel_rfl)(hx:o0.op.operands.toList=[.tmp T]:=by kernel_rfl)(h1:(List.range l.length).find? (fun i=>waits o0 i&&((l[i]?).bind (·.dst)==some T))=some k:=by kernel_rfl)(ht:Nat.blt T a.tmps.size=true:=by kernel_rfl)(hw:waitsAt l i k=true:=by kernel_rfl)(hv:Vm k=((⟨Array.replicate N undef,[]⟩:Act).put (some T) v).eval (.tmp T):=by kernel_rfl):Told P l a i vals K w:=
 told_free h0 hg (gv_env _ hs hx (alike_cons (fill_at h1 ht ((hd k hw).trans hv)) alike_nil) h)
theorem tB (h0:l[i]?=some o0)(N T:Nat)(v:Value)(h:gives P K ((execOp ((⟨Array.replicate N undef,[]⟩:Act).put (some T) v).eval o0).run P w))(hg:o0.guard=none:=by rfl)(hs:isSel o0=false:=by kernel_rfl)(hx:o0.op.operands.toList=[.tmp T]:=by kernel_rfl)(h1:(List.range l.length).find? (fun i=>waits o0 i&&((l[i]?).bind (·.dst)==some T))=none:=by kernel_rfl)(hv:a.eval (.tmp T)=((⟨Array.replicate N undef,[]⟩:Act).put (some T) v).eval (.tmp T):=by kernel_rfl):Told P l a i vals K w:=
 told_free h0 hg (gv_env _ hs hx (alike_cons (fill_past h1 hv) alike_nil) h)
end
section
variable {P:Program}{l:List Oper}{a:Act}{i:Nat}{vals:Nat→Value}{K:Value→World→Prop}{o o0:Oper}{w:World}{ρ:Operand→Value}
theorem tE (h0:l[i]?=some o0)(b:Act)(xs:List Operand)(h:alike (fill l (waits o0) vals a).eval b.eval xs)(k:gives P K ((execOp b.eval o0).run P w))(hg:o0.guard=none:=by rfl)(hs:isSel o0=false:=by kernel_rfl)(hx:o0.op.operands.toList=xs:=by kernel_rfl):Told P l a i vals K w:=told_free h0 hg (gv_env b hs hx h k)
theorem fA {Vm:Nat→Value}{t:Nat}{v:Value}{sel:Nat→Bool}(k:Nat)(hd:∀j,waitsAt l i j=true→vals j=Vm j)(h:(List.range l.length).find? (fun i=>sel i&&((l[i]?).bind (·.dst)==some t))=some k:=by kernel_rfl)(ht:Nat.blt t a.tmps.size=true:=by kernel_rfl)(hw:waitsAt l i k=true:=by kernel_rfl)(hv:Vm k=v:=by kernel_rfl):(fill l sel vals a).eval (.tmp t)=v:=fill_at h ht ((hd k hw).trans hv)
theorem gV (v:Value)(h:K v w)(hr:(execOp ρ o).run P w=.ok (.value v) w:=by kernel_rfl):gives P K ((execOp ρ o).run P w):=gv_val hr h
theorem gL {T:TypeId}{x:Operand}{ad:Addr}(v:Value)(ho:o.op=.load T x)(hc:w.cell? ad=some v)(h:K v w)(hT:oneB P T=true:=by kernel_rfl)(hx:ρ x=.pointer (some ad):=by kernel_rfl):gives P K ((execOp ρ o).run P w):=gv_ldR ho hT hx hc h
end
section
variable {F:Nat→Prop}{w0 w:World}{L:List Ast}
theorem St.id (S:St F w0 w L):St F w0 w L:=S
theorem St.pm (n:Nat)(idx:List Nat)(S:St F w0 w L)(hn:idx.Nodup:=by decide)(hb:(idx.all fun i=>Nat.blt i (L.take n).length)=true:=by rfl):St F w0 w ((idx.map fun i=>(L.take n).getD i emp)++L.drop n):=St.permT _ idx hn hb (by rw [List.take_append_drop];exact S)
end
section
variable {P:Program}{l:List Oper}{a:Act}{i:Nat}{vals:Nat→Value}{K:Value→World→Prop}{o0:Oper}{w:World}
def rho_ (l:List Oper)(sel:Nat→Bool)(V:Nat→Value)(a:Act):Operand→Value
 |.tmp t=>match (List.range l.length).find? (fun i=>sel i&&((l[i]?).bind (·.dst)==some t)) with
  |some k=>bif Nat.blt t a.tmps.size then V k else undef
  |none=>a.tmps.getD t undef
 |.const v=>v
 |.global g=>.pointer (some ⟨g,0,none⟩)
 |.func f=>.func (.func f) #[] #[]
theorem rho_eq {sel:Nat→Bool}{V:Nat→Value}:(fill l sel V a).eval=rho_ l sel V a:=by
 funext x
 cases x with
 |tmp t=>
  cases h:(List.range l.length).find? (fun i=>sel i&&((l[i]?).bind (·.dst)==some t)) with
  |none=>
   rw [fill_miss h]
   show a.tmps.getD t undef=_
   simp only [rho_];rw [h]
  |some k=>
   have e:rho_ l sel V a (.tmp t)=bif Nat.blt t a.tmps.size then V k else undef:=by simp only [rho_];rw [h]
   rw [e]
   by_cases ht:t<a.tmps.size
   ·rw [fill_hit h ht]
    have:Nat.blt t a.tmps.size=true:=Nat.ble_eq_true_of_le ht
    rw [this];rfl
   ·have:Nat.blt t a.tmps.size=false:=by
     cases q:Nat.blt t a.tmps.size with
     |false=>rfl
     |true=>exact absurd (Nat.le_of_ble_eq_true q) ht
    rw [this]
    show (fill l sel V a).tmps.getD t undef=undef
    rw [Array.getD_eq_getD_getElem?,fill_get,Array.getElem?_eq_none (Nat.le_of_not_lt ht)];rfl
 |const v=>rfl
 |global g=>rfl
 |func f=>rfl
theorem rho_told {Vm:Nat→Value}(h0:l[i]?=some o0)(hd:∀j,waitsAt l i j=true→vals j=Vm j):(fill l (waits o0) vals a).eval=rho_ l (waits o0) Vm a:=by
 rw [fill_congr (a:=a) (vals':=Vm) fun j _ hj=>hd j (by unfold waitsAt;rw [h0];exact hj)]
 exact rho_eq
theorem gB_ {ρ:Operand→Value}{o:Oper}{b b':Bool}(hr:(execOp ρ o).run P w=.ok (.value (.bool b)) w)(hb:b=b')(h:K (.bool b') w):gives P K ((execOp ρ o).run P w):=by subst hb;exact gv_val hr h
theorem wq_ {x y:Int}(h:x=y:=by omega)(h1: -9223372036854775808≤y:=by omega)(h2:y≤9223372036854775807:=by omega):IntKind.i64.wrap x=y:=wr_eq h h1 h2
theorem dN_ {b:Bool}{C:Prop}(h:b=false)(h2:b=true:=by kernel_rfl):C:=(dep_no h h2).elim
abbrev rv_ (A:Option Addr)(c:Nat)(d:List UInt8):Value×List UInt8:=(.slice A d.length c,d)
theorem tG_ {Vm:Nat→Value}(h0:l[i]?=some o0)(hd:∀j,waitsAt l i j=true→vals j=Vm j)(h:gives P K ((execOp (rho_ l (waits o0) Vm a) o0).run P w))(hg:o0.guard=none:=by rfl):Told P l a i vals K w:=told_free h0 hg (by rw [rho_told h0 hd];exact h)
theorem tW_ {Vm:Nat→Value}(g t k:Nat)(b:Bool)(h0:l[i]?=some o0)(hv:∀j,waitsAt l i j=true→vals j=Vm j)(h:gives P K ((execOp (rho_ l (waits o0) Vm a) o0).run P w))(hg:o0.guard=some (g,b):=by rfl)(hd:(l[g]?).bind (·.dst)=some t:=by kernel_rfl)(hs:(List.range l.length).find? (fun i=>waits o0 i&&((l[i]?).bind (·.dst)==some t))=some k:=by kernel_rfl)(ht:Nat.blt t a.tmps.size=true:=by kernel_rfl)(hw:waitsAt l i k=true:=by kernel_rfl)(hb:Vm k=.bool b:=by kernel_rfl):Told P l a i vals K w:=told_when h0 hg hd hs ht ((hv k hw).trans hb) (by rw [rho_told h0 hv];exact h)
theorem tO_ {Vm:Nat→Value}(g t k:Nat)(b b':Bool)(h0:l[i]?=some o0)(hv:∀j,waitsAt l i j=true→vals j=Vm j)(h:K undef w)(hg:o0.guard=some (g,b):=by rfl)(hd:(l[g]?).bind (·.dst)=some t:=by kernel_rfl)(hs:(List.range l.length).find? (fun i=>waits o0 i&&((l[i]?).bind (·.dst)==some t))=some k:=by kernel_rfl)(ht:Nat.blt t a.tmps.size=true:=by kernel_rfl)(hw:waitsAt l i k=true:=by kernel_rfl)(hb:Vm k=.bool b':=by kernel_rfl)(hn:(b'==b)=false:=by kernel_rfl):Told P l a i vals K w:=told_not h0 hg hd hs ht ((hv k hw).trans hb) hn h
end
abbrev dR (g gd n gm:Nat)(fu:Bool)(a b c d e f h:Int):Ast:=row g #[sl gd 0 n n,.map (some gm),.bool fu,iv a,iv b,iv c,iv d,iv e,iv f,iv h] 135
abbrev rR2 (g gl nl cl:Nat)(v:Value)(a b c d e f h:Int):Ast:=row g #[sl gl 0 nl cl,v,iv a,iv b,iv c,iv d,iv e,iv f,iv h] 138
abbrev jR (J:Nat→Value):Nat→Nat→List Value
 |_,0=>[]
 |a,n+1=>J a::jR J (a+1) n
end
end Go.Vel
end
section
open Go Go.RowKit Go.Proofs.YtgeioealgidkiaaW.PrintWords
namespace Go.Proofs
open Go.Vel
set_option linter.unusedVariables false
set_option maxRecDepth 100000
set_option maxHeartbeats 4000000
attribute [local irreducible] gives wpList Code.wp
def dcells (gd n c gm:Nat)(fused:Bool)(left life r wr fl rf pn:Int):Array Value:=#[.slice (some ⟨gd,0,none⟩) n c,.map (some gm),.bool fused,.int .i64 left,.int .i64 life,.int .i64 r,.int .i64 wr,.int .i64 fl,.int .i64 rf,.int .i64 pn]
theorem life_ro {w:World}{g gd n c gm:Nat}{fused:Bool}{left life r wr fl rf pn:Int}(HB:Blk w g (dcells gd n c gm fused left life r wr fl rf pn) 135):
  Calls Try.prog 16 #[pq g] w fun e w'=>e=.returned (iv life)∧w=w':=by
 exact eN (fr [pq g] 6) Try.func16 rfl (sR (pv (iv 0) (wER (pv (pq g) (pv (pq g) (pv (po g 4) (lQ (iv life) ((HB.cell 4).trans rfl) (pv (iv life) (wE (then_n (wp_ret (bA (iv life) ⟨rfl,rfl⟩))))))))))))
theorem burnt_ro {w:World}{g gd n c gm:Nat}{fused:Bool}{left life r wr fl rf pn:Int}(HB:Blk w g (dcells gd n c gm fused left life r wr fl rf pn) 135):
  Calls Try.prog 15 #[pq g] w fun e w'=>e=.returned (.bool (fused&&decide (left=0)))∧w=w':=by
 cases fused
 ·refine eN (fr [pq g] 13) Try.func15 rfl (sR (pv fv (wER (pv (pq g) (pv (pq g) (pv (po g 2) (lQ (.bool false) ((HB.cell 2).trans rfl) (pv fv (wN (wN (wN (wN (wN ?_)))))))))))))
  exact pv fv (pv fv (wE (then_n (wp_ret (bA (.bool false) ⟨rfl,rfl⟩)))))
 ·refine eN (fr [pq g] 13) Try.func15 rfl (sR (pv fv (wER (pv (pq g) (pv (pq g) (pv (po g 2) (lQ (.bool true) ((HB.cell 2).trans rfl) (pv tv (pW (pq g) (pW (pq g) (pW (po g 3) (wl_when kr_ (gv_ldR (v:=iv left) rfl kr_ kr_ ((HB.cell 3).trans rfl) (wl_when kr_ (gv_eq (x:=left) (y:=0) kr_ (fun hb1=> ?_) (fun hb1=> ?_))))))))))))))))
  ·exact pv tv (pv tv (wE (then_n (wp_ret (bA (.bool true) ⟨by simp [hb1],rfl⟩)))))
  ·exact pv fv (pv fv (wE (then_n (wp_ret (bA (.bool false) ⟨by simp [hb1],rfl⟩)))))
theorem sectors_ro {w:World}{g gd n c gm:Nat}{fused:Bool}{left life r wr fl rf pn:Int}(HB:Blk w g (dcells gd n c gm fused left life r wr fl rf pn) 135){m:Nat}(hn:n=512*m)(hm:m≤2048):
  Calls Try.prog 14 #[pq g] w fun e w'=>e=.returned (iv m)∧w=w':=by
 refine eN (fr [pq g] 8) Try.func14 rfl (sR (pv (iv 0) (wER (pv (pq g) (pv (pq g) (pv (pq g) (lQ (sl gd 0 n c) ((HB.cell 0).trans rfl) (pv (iv (n:Nat)) (gI .i64 (IntKind.i64.wrap (Int.tdiv (n:Nat) 512)) (m:Nat) (wr_eq (by rw [Int.tdiv_eq_ediv_of_nonneg om_,hn];omega) om_ om_) (pv (iv (m:Nat)) (wE (then_n (wp_ret ?_)))))))))))))
 exact bA (iv (m:Nat)) ⟨rfl,rfl⟩
end Go.Proofs
end
section
open Go Go.RowKit Go.Proofs.YtgeioealgidkiaaW.PrintWords
namespace Go.Proofs
open Go.Vel
set_option linter.unusedVariables false
section
structure Dsk where
 last:List (List UInt8)
 pend:List (Nat×List UInt8)
 left:Int
 life:Int
 rd:Int
 wr:Int
 fl:Int
 rf:Int
structure PEnt where
 at_:Nat
 v:Value
 b:Nat
 ws:List (Nat×List UInt8)
def PEnt.ent (p:PEnt):Ent:=⟨(p.at_:Int),p.v,p.b⟩
def PEnt.val (x:Nat×List UInt8):Value:=.slice (some ⟨x.1,0,none⟩) 512 512
def PEnt.row (x:Nat×List UInt8):Ast:=Vel.row x.1 (bvs x.2) 5
def PEnt.ast (p:PEnt):Ast:=stars [vec 31 1 p.v p.ws.length (p.ws.map PEnt.val),stars (p.ws.map PEnt.row)]
def pendOf (s:Dsk)(at_:Nat):List (List UInt8):=(s.pend.filter (fun x=>x.1==at_)).map (·.2)
structure PFacts (s:Dsk)(clock:Nat)(es:List PEnt)(fused:Bool)(left:Int):Prop where
 born:∀p∈es,p.b<clock
 bornN:(es.map (·.b)).Nodup
 keyN:(es.map (·.at_)).Nodup
 ws:∀p∈es,p.ws.map (·.2)=pendOf s p.at_
 has:∀x∈s.pend,∃p∈es,p.at_=x.1
 ne:∀p∈es,p.ws≠[]
 len:∀l∈s.last,l.length=512
 plen:∀x∈s.pend,x.2.length=512∧x.1<s.last.length
 n1:1≤s.last.length
 n2:s.last.length≤2048
 fuse:fused=decide (0≤s.left)
 left:0≤s.left→left=s.left
 lb: -1≤s.left∧s.left≤9223372036854775807
 pn:s.pend.length≤4611686018427387904
def pdParts (g gd gm clock:Nat)(es:List PEnt)(fused:Bool)(left:Int)(s:Dsk):List Ast:=
 [row g (dcells gd (512*s.last.length) (512*s.last.length) gm fused left s.life s.rd s.wr s.fl s.rf s.pend.length) 135,row gd (bvs s.last.flatten) 5,pt gm (mapO (es.map PEnt.ent) clock),stars (es.map PEnt.ast)]
def PDisk (g:Nat)(s:Dsk):Ast:=fun h=>∃gd gm clock es fused left,PFacts s clock es fused left∧stars (pdParts g gd gm clock es fused left s) h
theorem flat_len:∀{l:List (List UInt8)},(∀x∈l,x.length=512)→l.flatten.length=512*l.length
 |[],_=>rfl
 |x::r,h=>by
  rw [List.flatten_cons,List.length_append,h x List.mem_cons_self,flat_len (fun y hy=>h y (List.mem_cons_of_mem _ hy)),List.length_cons];omega
theorem flat_sec:∀{l:List (List UInt8)},(∀x∈l,x.length=512)→∀k x,l[k]?=some x→(l.flatten.drop (512*k)).take 512=x
 |[],_,k,x,hk=>by simp at hk
 |y::r,h,0,x,hk=>by
  simp at hk
  subst hk
  rw [Nat.mul_zero,List.drop_zero,List.flatten_cons,List.take_append_of_le_length (by rw [h y List.mem_cons_self];exact Nat.le_refl _),List.take_of_length_le (by rw [h y List.mem_cons_self];exact Nat.le_refl _)]
 |y::r,h,k+1,x,hk=>by
  have hy:=h y List.mem_cons_self
  rw [List.flatten_cons,List.drop_append,List.drop_of_length_le (by rw [hy];omega),List.nil_append,hy,show 512*(k+1)-512=512*k from by omega]
  exact flat_sec (fun z hz=>h z (List.mem_cons_of_mem _ hz)) k x (by simpa using hk)
theorem flat_set:∀{l:List (List UInt8)},(∀x∈l,x.length=512)→∀k x,k<l.length→x.length=512→splice l.flatten (512*k) x=(l.set k x).flatten
 |[],_,k,x,hk,_=>by simp at hk
 |y::r,h,0,x,hk,hx=>by
  have hy:=h y List.mem_cons_self
  simp only [splice,Nat.mul_zero,List.take_zero,List.nil_append,Nat.zero_add,List.flatten_cons,List.set_cons_zero]
  rw [hx,List.drop_append,List.drop_of_length_le om_,List.nil_append,hy];rfl
 |y::r,h,k+1,x,hk,hx=>by
  have hy:=h y List.mem_cons_self
  have ih:=flat_set (fun z hz=>h z (List.mem_cons_of_mem _ hz)) k x (by simpa using hk) hx
  simp only [splice,List.flatten_cons,List.set_cons_succ] at ih ⊢
  rw [←ih,List.take_append,List.take_of_length_le om_,List.drop_append,List.drop_of_length_le om_,hy,show 512*(k+1)-512=512*k from by omega,show 512*(k+1)+x.length-512=512*k+x.length from by omega]
  simp
section
variable {F:Nat→Prop}{w0 w:World}{L:List Ast}{g:Nat}{s:Dsk}
theorem St.popen (S:St F w0 w (PDisk g s::L)):∃gd gm clock es fused left,PFacts s clock es fused left∧St F w0 w (pdParts g gd gm clock es fused left s++L):=by
 obtain ⟨gd,S⟩:=S.ex
 obtain ⟨gm,S⟩:=S.ex
 obtain ⟨clock,S⟩:=S.ex
 obtain ⟨es,S⟩:=S.ex
 obtain ⟨fused,S⟩:=S.ex
 obtain ⟨left,S⟩:=S.ex
 obtain ⟨hf,S⟩:=S.fact
 exact ⟨gd,gm,clock,es,fused,left,hf,S.flat⟩
theorem St.pclose {gd gm clock:Nat}{es:List PEnt}{fused:Bool}{left:Int}(S:St F w0 w (pdParts g gd gm clock es fused left s++L))(hf:PFacts s clock es fused left):St F w0 w (PDisk g s::L):=
 S.star.map1 fun _ h=>⟨gd,gm,clock,es,fused,left,hf,h⟩
end
theorem PFacts.find {s:Dsk}{clock:Nat}{es:List PEnt}{fused:Bool}{left:Int}(h:PFacts s clock es fused left)(at_:Nat):(pendOf s at_=[]∧∀e∈es.map PEnt.ent,e.k≠(at_:Int))∨∃(j:Nat) (p:PEnt),es[j]?=some p∧p.at_=at_∧pendOf s at_=p.ws.map (·.2)∧p.ws≠[]∧(es.map PEnt.ent)[j]?=some p.ent∧p.ent.k=(at_:Int)∧∀m e,m<j→(es.map PEnt.ent)[m]?=some e→e.k≠(at_:Int):=by
 by_cases hp:∃p∈es,p.at_=at_
 ·obtain ⟨p,hm,hat⟩:=hp
  obtain ⟨j,hj⟩:=List.getElem?_of_mem hm
  refine .inr ⟨j,p,hj,hat,by rw [h.ws p hm,hat],h.ne p hm,by rw [List.getElem?_map,hj];rfl,by simp [PEnt.ent,hat],fun m e hmj he hk=> ?_⟩
  rw [List.getElem?_map] at he
  cases hq:es[m]? with
  |none=>simp [hq] at he
  |some q=>
   simp [hq] at he
   subst he
   have hqk:q.at_=at_:=by simp [PEnt.ent] at hk;omega
   have h1:=List.pairwise_iff_getElem.1 h.keyN m j (by have:=(List.getElem?_eq_some_iff.1 hq).1;simpa using this) (by have:=(List.getElem?_eq_some_iff.1 hj).1;simpa using this) hmj
   simp only [List.getElem_map] at h1
   have e1:es[m]'(List.getElem?_eq_some_iff.1 hq).1=q:=(List.getElem?_eq_some_iff.1 hq).2
   have e2:es[j]'(List.getElem?_eq_some_iff.1 hj).1=p:=(List.getElem?_eq_some_iff.1 hj).2
   rw [e1,e2] at h1
   exact h1 (hqk.trans hat.symm)
 ·refine .inl ⟨?_,fun e he hk=> ?_⟩
  ·unfold pendOf
   rw [List.map_eq_nil_iff,List.filter_eq_nil_iff]
   intro x hx hk
   obtain ⟨p,hm,hat⟩:=h.has x hx
   exact hp ⟨p,hm,hat.trans (by simpa using hk)⟩
  ·obtain ⟨p,hm,rfl⟩:=List.mem_map.1 he
   exact hp ⟨p,hm,by simp [PEnt.ent] at hk;omega⟩
def Dsk.now (s:Dsk)(at_:Nat):List UInt8:=match (pendOf s at_).getLast? with|some d=>d|none=>s.last.getD at_ []
def bytesA (v:Value)(l:List UInt8):Ast:=fun h=>(v=.slice none 0 0∧l=[]∧emp h)∨∃g,v=.slice (some ⟨g,0,none⟩) l.length l.length∧row g (bvs l) 5 h
section
variable {F:Nat→Prop}{w0 w:World}{L:List Ast}
theorem St.bytes_nil (S:St F w0 w L):St F w0 w (bytesA (.slice none 0 0) []::L):=by
 have h:=St.vec_nil (e:=0) (sz:=0) S
 exact h.map1 fun p hp=>.inl ⟨rfl,rfl,by
  rcases hp with ⟨_,_,_,h⟩|⟨_,_,_,h,_⟩
  ·exact h
  ·cases h⟩
theorem St.bytes_row {g n c:Nat}{l:List UInt8}(S:St F w0 w (row g (bvs l) 5::L))(hn:n=l.length)(hc:c=l.length):St F w0 w (bytesA (.slice (some ⟨g,0,none⟩) n c) l::L):=by
 subst hn hc
 exact S.map1 fun p hp=>.inr ⟨g,rfl,hp⟩
theorem St.bytes_read {v:Value}{l:List UInt8}(S:St F w0 w L)(i:Nat)(hi:L[i]?=some (bytesA v l)):∃A,v=.slice A l.length l.length∧RdB w A l:=by
 have S1:=S.mem i hi
 obtain ⟨q,hq⟩:=S1.own.holds
 rcases hq with ⟨rfl,rfl,_⟩|⟨g,rfl,hr⟩
 ·exact ⟨none,rfl,RdB.nil⟩
 ·have S2:St F w0 w [row g (bvs l) 5]:=by
   obtain ⟨fr,hs,h1,h2,h3⟩:=S1
   refine ⟨fr,hs,fun j A hj=> ?_,h2,h3⟩
   cases j with
   |zero=>
    simp at hj
    subst hj
    rcases h1 0 _ rfl with ⟨h,_⟩|⟨g',e,hr'⟩
    ·cases h
    ·have hg:g=g':=by simpa using e
     subst hg;exact hr'
   |succ j=>simp at hj
  exact ⟨_,rfl,RdB.row (S2.blk 0 rfl) 0 l.length l (by simp)⟩
theorem St.bytes_eq {v:Value}{l:List UInt8}(S:St F w0 w (bytesA v l::L)):∃A,v=.slice A l.length l.length∧St F w0 w (bytesA (.slice A l.length l.length) l::L):=by
 obtain ⟨A,e,_⟩:=St.bytes_read S 0 rfl
 exact ⟨A,e,e▸S⟩
theorem RoT.bytes {v:Value}{l:List UInt8}{A:Option Addr}{n c:Nat}(j:Nat)(hj:L[j]?=some (bytesA v l))(hv:v=.slice A n c):RoT F w0 L A l:=⟨fun w' L' S=>by
 have h1:(L'++L)[L'.length+j]?=some (bytesA v l):=by rw [List.getElem?_append_right om_];simpa using hj
 obtain ⟨A',e,h2⟩:=St.bytes_read S _ h1
 rw [hv] at e
 simp at e
 rw [e.1];exact h2⟩
end
theorem PFacts.congr {s s':Dsk}{clock:Nat}{es:List PEnt}{fused:Bool}{left:Int}(h:PFacts s clock es fused left)(h1:s'.last=s.last)(h2:s'.pend=s.pend)(h3:s'.left=s.left):PFacts s' clock es fused left:=by
 have hp:∀a,pendOf s' a=pendOf s a:=fun a=>by unfold pendOf;rw [h2]
 exact ⟨h.born,h.bornN,h.keyN,fun p hm=>(h.ws p hm).trans (hp _).symm,by rw [h2];exact h.has,h.ne,by rw [h1];exact h.len,by rw [h1,h2];exact h.plen,by rw [h1];exact h.n1,by rw [h1];exact h.n2,by rw [h3];exact h.fuse,by rw [h3];exact h.left,by rw [h3];exact h.lb,by rw [h2];exact h.pn⟩
theorem PFacts.burnt {s:Dsk}{clock:Nat}{es:List PEnt}{fused:Bool}{left:Int}(h:PFacts s clock es fused left):(fused&&decide (left=0))=decide (s.left=0):=by
 have h1:=h.fuse
 have h2:=h.left
 have h3:=h.lb.1
 by_cases hz:s.left=0
 ·have:=h2 om_
  simp [h1,hz];omega
 ·by_cases hn:0≤s.left
  ·have:=h2 hn
   simp [h1,hz];omega
  ·have e:decide (0≤s.left)=false:=decide_eq_false hn
   simp [h1,e,hz]
theorem copy_all {x:List UInt8}{n:Nat}(h:x.length=n):splice (List.replicate n 0) 0 (x.take n)=x:=by
 rw [List.take_of_length_le om_]
 simp [splice,h]
theorem copy512 {x:List UInt8}(h:x.length=512):splice (List.replicate 512 0) 0 (x.take 512)=x:=copy_all h
theorem pend_facts {F:Nat→Prop}{w0 w:World}{L:List Ast}{es:List PEnt}{j:Nat}{p:PEnt}(S:St F w0 w L)(i:Nat)(hi:L[i]?=some (stars (es.map PEnt.ast)))(hj:es[j]?=some p)(hne:p.ws≠[]):∃(gb cb:Nat) (cells:Array Value),p.v=.slice (some ⟨gb,0,none⟩) p.ws.length cb∧Blk w gb cells 31∧(∀(m:Nat) (x:Nat×List UInt8),p.ws[m]?=some x→cells[m]?=some (PEnt.val x))∧∀x∈p.ws,Blk w x.1 (bvs x.2) 5:=by
 have S1:=(S.mem i hi).star_mem (List.mem_map.2 ⟨p,List.mem_of_getElem? hj,rfl⟩)
 have S2:=St.unstar S1
 obtain ⟨gb,cb,junk,hv,_,h3,_,S3⟩:=S2.vec_open (List.length_pos_iff.2 hne)
 refine ⟨gb,cb,_,hv,S3.blk 0 rfl,fun m x hx=> ?_,fun x hx=> ?_⟩
 ·rw [List.getElem?_toArray,List.getElem?_append_left (by have:=(List.getElem?_eq_some_iff.1 hx).1;simpa using this),List.getElem?_map,hx];rfl
 ·exact ((S3.mem 1 rfl).star_mem (List.mem_map.2 ⟨x,hx,rfl⟩)).blk 0 rfl
theorem last_some {α β:Type}{f:α→β}{l:List α}(h:l≠[]):∃x,l[l.length-1]?=some x∧(l.map f).getLast?=some (f x)∧x∈l:=by
 have hl:=List.length_pos_iff.2 h
 refine ⟨l[l.length-1]'om_,List.getElem?_eq_getElem _, ?_,List.getElem_mem _⟩
 rw [List.getLast?_eq_getElem?,List.getElem?_map,List.length_map,List.getElem?_eq_getElem om_];rfl
def Dsk.readR (s:Dsk)(at_:Int):Dsk×List UInt8×Int:=
 if s.left=0 then (s,[],3) else if at_<0∨(s.last.length:Int)≤at_ then ({s with rf:=inc s.rf},[],11) else ({s with rd:=inc s.rd},s.now at_.toNat,0)
theorem Dsk.now_some {s:Dsk}{a:Nat}{ws:List (List UInt8)}{x:List UInt8}(h:pendOf s a=ws)(hx:ws.getLast?=some x):s.now a=x:=by unfold Dsk.now;rw [h,hx]
theorem Dsk.now_none {s:Dsk}{a:Nat}(h:pendOf s a=[]):s.now a=s.last.getD a []:=by unfold Dsk.now;rw [h];rfl
theorem mem_getD {l:List (List UInt8)}{k:Nat}(h:k<l.length):l[k]?=some (l.getD k []):=by rw [List.getD_eq_getElem?_getD,List.getElem?_eq_getElem h];rfl
end
section
def spent (l:Int):Int:=if 0<l then l-1 else l
def Dsk.writeR (s:Dsk)(at_:Int)(d:List UInt8):Dsk×Int:=
 if s.left=0 then (s,3) else if at_<0∨(s.last.length:Int)≤at_ then ({s with rf:=inc s.rf},11) else if d.length≠512 then ({s with rf:=inc s.rf},2)
 else ({s with pend:=s.pend++[(at_.toNat,d)],wr:=inc s.wr,left:=spent s.left},0)
section
variable {F:Nat→Prop}{w0 w:World}{L:List Ast}{es:List PEnt}{j:Nat}{p:PEnt}
theorem entry_out (LA:List Ast)(S:St F w0 w (LA++(stars (es.map PEnt.ast)::L)))(hj:es[j]?=some p):
  St F w0 w (vec 31 1 p.v p.ws.length (p.ws.map PEnt.val)::stars (p.ws.map PEnt.row)::stars ((es.take j).map PEnt.ast)::stars ((es.drop (j+1)).map PEnt.ast)::(LA++L)):=by
 have h1:=St.rot' S
 exact (h1.nth j hj).flat
theorem entry_in {go:Nat}{d:List UInt8}{v':Value}{A1 A2 A3:Ast}(hj:es[j]?=some p)(S:St F w0 w (vec 31 1 v' (p.ws.length+1) (p.ws.map PEnt.val++[.slice (some ⟨go,0,none⟩) 512 512])::stars (p.ws.map PEnt.row)::stars ((es.take j).map PEnt.ast)::stars ((es.drop (j+1)).map PEnt.ast)::row go (bvs d) 5::A1::A2::A3::L)):
  St F w0 w (A1::A2::A3::stars ((es.set j ⟨p.at_,v',p.b,p.ws++[(go,d)]⟩).map PEnt.ast)::L):=by
 have hl:=(List.getElem?_eq_some_iff.1 hj).1
 have h1:St F w0 w (row go (bvs d) 5::stars (p.ws.map PEnt.row)::vec 31 1 v' (p.ws.length+1) (p.ws.map PEnt.val++[.slice (some ⟨go,0,none⟩) 512 512])::stars ((es.take j).map PEnt.ast)::stars ((es.drop (j+1)).map PEnt.ast)::A1::A2::A3::L):=
  St.pm 8 [4,1,0,2,3,5,6,7] S
 have h2:=(St.star_join (St.swap (St.one_star h1))).swap
 have e1:p.ws.map PEnt.row++[row go (bvs d) 5]=(p.ws++[((go,d):Nat×List UInt8)]).map PEnt.row:=by rw [List.map_append];rfl
 have e2:p.ws.map PEnt.val++[.slice (some ⟨go,0,none⟩) 512 512]=(p.ws++[(go,d)]).map PEnt.val:=by rw [List.map_append];rfl
 have e3:p.ws.length+1=(p.ws++[(go,d)]).length:=by simp
 rw [e1,e2,e3] at h2
 have h3:=St.star (LA:=[_,_]) h2
 have h4:=St.fill (f:=PEnt.ast) (l:=es) (x:=⟨p.at_,v',p.b,p.ws++[(go,d)]⟩) j hl h3
 exact St.rot (LA:=[A1,A2,A3]) h4
theorem entry_new {go k clock:Nat}{d:List UInt8}{v':Value}{A1 A2 A3:Ast}(S:St F w0 w (vec 31 1 v' 1 [.slice (some ⟨go,0,none⟩) 512 512]::row go (bvs d) 5::A1::A2::A3::stars (es.map PEnt.ast)::L)):
  St F w0 w (A1::A2::A3::stars ((es++[(⟨k,v',clock,[(go,d)]⟩:PEnt)]).map PEnt.ast)::L):=by
 have h1:=(St.one_star S.swap).swap
 have h3:St F w0 w (PEnt.ast ⟨k,v',clock,[(go,d)]⟩::A1::A2::A3::stars (es.map PEnt.ast)::L):=St.star (LA:=[_,_]) h1
 have h4:St F w0 w (stars [PEnt.ast ⟨k,v',clock,[(go,d)]⟩]::A1::A2::A3::stars (es.map PEnt.ast)::L):=St.one_star h3
 have h5:St F w0 w (stars (es.map PEnt.ast)::stars [PEnt.ast ⟨k,v',clock,[(go,d)]⟩]::A1::A2::A3::L):=
  St.pm 5 [4,0,1,2,3] h4
 have h6:=St.star_join h5
 rw [show es.map PEnt.ast++[PEnt.ast ⟨k,v',clock,[(go,d)]⟩]=(es++[(⟨k,v',clock,[(go,d)]⟩:PEnt)]).map PEnt.ast from by rw [List.map_append];rfl] at h6
 exact St.rot (LA:=[A1,A2,A3]) h6
end
theorem map_set {α β:Type}(f:α→β):∀(l:List α) (i:Nat) (x:α),(l.set i x).map f=(l.map f).set i (f x):=fun l i x=>List.map_set
section
variable {s:Dsk}{clock:Nat}{es:List PEnt}{fused:Bool}{left:Int}
theorem pendOf_snoc (s:Dsk)(k a:Nat)(d:List UInt8)(s':Dsk)(h:s'.pend=s.pend++[(k,d)]):pendOf s' a=pendOf s a++if k=a then [d] else []:=by
 unfold pendOf
 rw [h,List.filter_append,List.map_append]
 congr 1
 by_cases hk:k=a
 ·subst hk;simp
 ·simp [hk]
theorem PFacts.spend (h:PFacts s clock es fused left)(hz:s.left≠0):(fused=true∧decide (0≤spent s.left)=true∧dec left=spent s.left)∨(fused=false∧decide (0≤spent s.left)=false∧spent s.left=s.left):=by
 have h1:=h.fuse
 have h2:=h.lb
 by_cases hp:0≤s.left
 ·refine .inl ⟨by rw [h1];exact decide_eq_true hp, ?_, ?_⟩
  ·unfold spent;rw [if_pos om_];exact decide_eq_true om_
  ·unfold spent dec;rw [if_pos om_,h.left hp];exact wr_ok om_ om_
 ·refine .inr ⟨by rw [h1];exact decide_eq_false hp, ?_, ?_⟩
  ·unfold spent;rw [if_neg om_];exact decide_eq_false hp
  ·unfold spent;rw [if_neg om_]
theorem spent_lb {l:Int}(h: -1≤l∧l≤9223372036854775807)(hz:l≠0): -1≤spent l∧spent l≤9223372036854775807:=by unfold spent;split<;>omega
theorem PFacts.refuse {s':Dsk}{fused':Bool}{left':Int}(h:PFacts s clock es fused left)(h1:s'.last=s.last)(h2:s'.pend=s.pend)(h3:fused'=decide (0≤s'.left))(h4:0≤s'.left→left'=s'.left)(h5: -1≤s'.left∧s'.left≤9223372036854775807):PFacts s' clock es fused' left':=by
 have hp:∀a,pendOf s' a=pendOf s a:=fun a=>by unfold pendOf;rw [h2]
 exact ⟨h.born,h.bornN,h.keyN,fun p hm=>(h.ws p hm).trans (hp _).symm,by rw [h2];exact h.has,h.ne,by rw [h1];exact h.len,by rw [h1,h2];exact h.plen,by rw [h1];exact h.n1,by rw [h1];exact h.n2,h3,h4,h5,by rw [h2];exact h.pn⟩
theorem PFacts.write_old {s':Dsk}{j k go:Nat}{p:PEnt}{d:List UInt8}{v':Value}(h:PFacts s clock es fused left)(hj:es[j]?=some p)(hat:p.at_=k)(hk:k<s.last.length)(hd:d.length=512)(hpn:s.pend.length<4398046511104)
  (h1:s'.last=s.last) (h2:s'.pend=s.pend++[(k,d)]) (h3:s'.left=s.left):PFacts s' clock (es.set j ⟨p.at_,v',p.b,p.ws++[(go,d)]⟩) fused left:=by
 subst hat
 have hpm:=List.mem_of_getElem? hj
 have hjl:=(List.getElem?_eq_some_iff.1 hj).1
 have hmem:∀q,q∈es.set j ⟨p.at_,v',p.b,p.ws++[(go,d)]⟩→q=⟨p.at_,v',p.b,p.ws++[(go,d)]⟩∨(q∈es∧q.at_≠p.at_):=fun q hq=>by
  obtain ⟨m,hm⟩:=List.getElem?_of_mem hq
  rw [List.getElem?_set] at hm
  split at hm
  ·rename_i e
   first
    |exact .inl (Option.some.inj hm).symm
    |(split at hm;(exact .inl (Option.some.inj hm).symm);(cases hm))
  ·rename_i e
   refine .inr ⟨List.mem_of_getElem? hm,fun he=> ?_⟩
   have hml:=(List.getElem?_eq_some_iff.1 hm).1
   have e1:es[m]=q:=(List.getElem?_eq_some_iff.1 hm).2
   have e2:es[j]=p:=(List.getElem?_eq_some_iff.1 hj).2
   have hp:=List.pairwise_iff_getElem.1 h.keyN
   rcases Nat.lt_trichotomy m j with hlt|hlt|hlt
   ·have:=hp m j (by simpa using hml) (by simpa using hjl) hlt
    simp only [List.getElem_map,e1,e2] at this;exact this he
   ·exact e hlt.symm
   ·have:=hp j m (by simpa using hjl) (by simpa using hml) hlt
    simp only [List.getElem_map,e1,e2] at this;exact this he.symm
 have eb:(es.set j ⟨p.at_,v',p.b,p.ws++[(go,d)]⟩).map (·.b)=es.map (·.b):=by
  rw [List.map_set]
  apply List.ext_getElem?
  intro m
  rw [List.getElem?_set]
  split
  ·rename_i e;subst e;simp [hjl]
   exact congrArg PEnt.b (List.getElem?_eq_some_iff.1 hj).2.symm
  ·rfl
 have ek:(es.set j ⟨p.at_,v',p.b,p.ws++[(go,d)]⟩).map (·.at_)=es.map (·.at_):=by
  rw [List.map_set]
  apply List.ext_getElem?
  intro m
  rw [List.getElem?_set]
  split
  ·rename_i e;subst e;simp [hjl]
   exact congrArg PEnt.at_ (List.getElem?_eq_some_iff.1 hj).2.symm
  ·rfl
 refine ⟨fun q hq=> ?_,by rw [eb];exact h.bornN,by rw [ek];exact h.keyN,fun q hq=> ?_,fun x hx=> ?_,fun q hq=> ?_,by rw [h1];exact h.len,fun x hx=> ?_,by rw [h1];exact h.n1,by rw [h1];exact h.n2,by rw [h3];exact h.fuse,by rw [h3];exact h.left,by rw [h3];exact h.lb,by rw [h2,List.length_append];simp;omega⟩
 ·rcases hmem q hq with rfl|⟨hq,_⟩
  ·exact h.born p hpm
  ·exact h.born q hq
 ·rw [pendOf_snoc s p.at_ q.at_ d s' h2]
  rcases hmem q hq with rfl|⟨hq,hne⟩
  ·simp only [if_true,List.map_append,List.map_cons,List.map_nil]
   rw [h.ws p hpm]
  ·rw [if_neg (fun e=>hne e.symm),List.append_nil];exact h.ws q hq
 ·rw [h2] at hx
  have hex:∃q∈es,q.at_=x.1:=by
   rcases List.mem_append.1 hx with hx|hx
   ·exact h.has x hx
   ·simp at hx;subst hx;exact ⟨p,hpm,rfl⟩
  obtain ⟨q,hq,he⟩:=hex
  have:x.1∈(es.set j ⟨p.at_,v',p.b,p.ws++[(go,d)]⟩).map (·.at_):=by rw [ek];exact List.mem_map.2 ⟨q,hq,he⟩
  obtain ⟨q',h4,h5⟩:=List.mem_map.1 this
  exact ⟨q',h4,h5⟩
 ·rcases hmem q hq with rfl|⟨hq,_⟩
  ·simp
  ·exact h.ne q hq
 ·rw [h2] at hx
  rw [h1]
  rcases List.mem_append.1 hx with hx|hx
  ·exact h.plen x hx
  ·simp at hx;subst hx;exact ⟨hd,hk⟩
theorem PFacts.write_new {s':Dsk}{k go:Nat}{d:List UInt8}{v':Value}(h:PFacts s clock es fused left)(hp:pendOf s k=[])(hno:∀e∈es.map PEnt.ent,e.k≠(k:Int))(hk:k<s.last.length)(hd:d.length=512)(hpn:s.pend.length<4398046511104)
  (h1:s'.last=s.last) (h2:s'.pend=s.pend++[(k,d)]) (h3:s'.left=s.left):PFacts s' (clock+1) (es++[⟨k,v',clock,[(go,d)]⟩]) fused left:=by
 have hne:∀q∈es,q.at_≠k:=fun q hq he=>hno q.ent (List.mem_map.2 ⟨q,hq,rfl⟩) (by simp [PEnt.ent,he])
 refine ⟨fun q hq=> ?_, ?_, ?_,fun q hq=> ?_,fun x hx=> ?_,fun q hq=> ?_,by rw [h1];exact h.len,fun x hx=> ?_,by rw [h1];exact h.n1,by rw [h1];exact h.n2,by rw [h3];exact h.fuse,by rw [h3];exact h.left,by rw [h3];exact h.lb,by rw [h2,List.length_append];simp;omega⟩
 ·rcases List.mem_append.1 hq with hq|hq
  ·have:=h.born q hq;omega
  ·simp at hq;subst hq;simp
 ·rw [List.map_append,List.nodup_append]
  refine ⟨h.bornN,by simp,fun a ha b hb=> ?_⟩
  obtain ⟨q,hq,rfl⟩:=List.mem_map.1 ha
  simp at hb;subst hb
  have:=h.born q hq;omega
 ·rw [List.map_append,List.nodup_append]
  refine ⟨h.keyN,by simp,fun a ha b hb=> ?_⟩
  obtain ⟨q,hq,rfl⟩:=List.mem_map.1 ha
  simp at hb;subst hb
  exact hne q hq
 ·rw [pendOf_snoc s k q.at_ d s' h2]
  rcases List.mem_append.1 hq with hq|hq
  ·rw [if_neg (fun e=>hne q hq e.symm),List.append_nil];exact h.ws q hq
  ·simp at hq;subst hq;simp [hp]
 ·rw [h2] at hx
  rcases List.mem_append.1 hx with hx|hx
  ·obtain ⟨q,hq,he⟩:=h.has x hx
   exact ⟨q,List.mem_append_left _ hq,he⟩
  ·simp at hx;subst hx;exact ⟨_,List.mem_append_right _ (List.mem_singleton.2 rfl),rfl⟩
 ·rcases List.mem_append.1 hq with hq|hq
  ·exact h.ne q hq
  ·simp at hq;subst hq;simp
 ·rw [h2] at hx
  rw [h1]
  rcases List.mem_append.1 hx with hx|hx
  ·exact h.plen x hx
  ·simp at hx;subst hx;exact ⟨hd,hk⟩
end
end
section
def applyP (l:List (List UInt8))(ps:List (Nat×List UInt8)):List (List UInt8):=ps.foldl (fun l x=>l.set x.1 x.2) l
theorem length_applyP:∀(ps:List (Nat×List UInt8)) (l:List (List UInt8)),(applyP l ps).length=l.length
 |[],_=>rfl
 |x::r,l=>by unfold applyP;rw [List.foldl_cons];exact (length_applyP r _).trans (List.length_set)
theorem applyP_snoc (l:List (List UInt8))(ps:List (Nat×List UInt8))(x:Nat×List UInt8):applyP l (ps++[x])=(applyP l ps).set x.1 x.2:=by unfold applyP;rw [List.foldl_append];rfl
theorem applyP_all {Q:List UInt8→Prop}:∀(ps:List (Nat×List UInt8)) (l:List (List UInt8)),(∀y∈l,Q y)→(∀x∈ps,Q x.2)→∀y∈applyP l ps,Q y
 |[],l,h,_=>h
 |x::r,l,h,h2=>by
  unfold applyP;rw [List.foldl_cons]
  refine applyP_all r _ (fun y hy=> ?_) (fun z hz=>h2 z (List.mem_cons_of_mem _ hz))
  rcases List.mem_or_eq_of_mem_set hy with hy|rfl
  ·exact h y hy
  ·exact h2 x List.mem_cons_self
def newest (ps:List (Nat×List UInt8))(a:Nat):Option (List UInt8):=((ps.filter (fun x=>x.1==a)).map (·.2)).getLast?
theorem get_applyP:∀(ps:List (Nat×List UInt8)) (l:List (List UInt8)) (a:Nat),(applyP l ps)[a]?=match newest ps a with|some d=>if a<l.length then some d else none|none=>l[a]?
 |[],l,a=>rfl
 |x::r,l,a=>by
  have ih:=get_applyP r (l.set x.1 x.2) a
  unfold applyP;rw [List.foldl_cons]
  refine Eq.trans ih ?_
  rw [List.length_set]
  unfold newest
  by_cases hx:x.1=a
  ·have hb:(x.1==a)=true:=by simpa using hx
   rw [List.filter_cons,if_pos hb,List.map_cons,List.getLast?_cons]
   cases hq:((r.filter fun x=>x.1==a).map (·.2)).getLast? with
   |some d=>simp
   |none=>
    simp only [Option.getD_none]
    rw [List.getElem?_set,if_pos hx]
    subst hx;rfl
  ·have hb:(x.1==a)=false:=by simpa using hx
   rw [List.filter_cons,if_neg (by rw [hb];decide)]
   cases hq:((r.filter fun x=>x.1==a).map (·.2)).getLast? with
   |some d=>rfl
   |none=>simp only [];rw [List.getElem?_set,if_neg hx]
theorem applyP_eq {l:List (List UInt8)}{ps qs:List (Nat×List UInt8)}(h:∀a,newest ps a=newest qs a):applyP l ps=applyP l qs:=by
 apply List.ext_getElem?
 intro a
 rw [get_applyP,get_applyP,h a]
def PEnt.top (p:PEnt):Nat×List UInt8:=(p.at_,((p.ws.map (·.2)).getLast?).getD [])
def Dsk.flushR (s:Dsk):Dsk×Int:=if s.left=0 then (s,3) else ({s with last:=applyP s.last s.pend,pend:=[],fl:=inc s.fl,left:=spent s.left},0)
section
variable {s:Dsk}{clock:Nat}{es:List PEnt}{fused:Bool}{left:Int}
theorem mem_left {ps:List PEnt}{e:Ent}(h:e∈leftE (es.map PEnt.ent) (ps.map (·.b))):∃p∈es,e=p.ent∧p.b∉ps.map (·.b):=by
 unfold leftE at h
 obtain ⟨h1,h2⟩:=List.mem_filter.1 h
 obtain ⟨p,hp,rfl⟩:=List.mem_map.1 h1
 refine ⟨p,hp,rfl,fun hm=> ?_⟩
 have:(ps.map (·.b)).contains p.ent.b=true:=by simpa [PEnt.ent] using hm
 rw [this] at h2;cases h2
theorem left_less {es:List Ent}{seen:List Nat}{e:Ent}(h:e∈leftE es seen):(leftE es (seen++[e.b])).length<(leftE es seen).length:=by
 have e1:leftE es (seen++[e.b])=(leftE es seen).filter (fun x=> !(x.b==e.b)):=by
  unfold leftE
  rw [List.filter_filter]
  apply List.filter_congr
  intro x _
  rw [Bool.eq_iff_iff]
  simp
  constructor
  ·rintro ⟨h1,h2⟩;exact ⟨h2,h1⟩
  ·rintro ⟨h1,h2⟩;exact ⟨h2,h1⟩
 rw [e1]
 exact List.length_filter_lt_length_iff_exists.2 ⟨e,h,by simp⟩
theorem PFacts.inj (h:PFacts s clock es fused left){p q:PEnt}(hp:p∈es)(hq:q∈es)(hk:p.at_=q.at_):p=q:=by
 obtain ⟨i,hi⟩:=List.getElem?_of_mem hp
 obtain ⟨j,hj⟩:=List.getElem?_of_mem hq
 have hil:=(List.getElem?_eq_some_iff.1 hi).1
 have hjl:=(List.getElem?_eq_some_iff.1 hj).1
 have e1:es[i]=p:=(List.getElem?_eq_some_iff.1 hi).2
 have e2:es[j]=q:=(List.getElem?_eq_some_iff.1 hj).2
 have hn:=List.pairwise_iff_getElem.1 h.keyN
 rcases Nat.lt_trichotomy i j with hlt|hlt|hlt
 ·have:=hn i j (by simpa using hil) (by simpa using hjl) hlt
  simp only [List.getElem_map,e1,e2] at this;exact absurd hk this
 ·subst hlt;rw [←e1,←e2]
 ·have:=hn j i (by simpa using hjl) (by simpa using hil) hlt
  simp only [List.getElem_map,e1,e2] at this;exact absurd hk.symm this
theorem PFacts.injB (h:PFacts s clock es fused left){p q:PEnt}(hp:p∈es)(hq:q∈es)(hk:p.b=q.b):p=q:=by
 obtain ⟨i,hi⟩:=List.getElem?_of_mem hp
 obtain ⟨j,hj⟩:=List.getElem?_of_mem hq
 have hil:=(List.getElem?_eq_some_iff.1 hi).1
 have hjl:=(List.getElem?_eq_some_iff.1 hj).1
 have e1:es[i]=p:=(List.getElem?_eq_some_iff.1 hi).2
 have e2:es[j]=q:=(List.getElem?_eq_some_iff.1 hj).2
 have hn:=List.pairwise_iff_getElem.1 h.bornN
 rcases Nat.lt_trichotomy i j with hlt|hlt|hlt
 ·have:=hn i j (by simpa using hil) (by simpa using hjl) hlt
  simp only [List.getElem_map,e1,e2] at this;exact absurd hk this
 ·subst hlt;rw [←e1,←e2]
 ·have:=hn j i (by simpa using hjl) (by simpa using hil) hlt
  simp only [List.getElem_map,e1,e2] at this;exact absurd hk.symm this
theorem PFacts.find_mem (h:PFacts s clock es fused left){p:PEnt}(hp:p∈es):∃j,es[j]?=some p∧(es.map PEnt.ent)[j]?=some p.ent∧p.ent.k=((p.at_:Nat):Int)∧(∀(m:Nat) (e:Ent),m<j→(es.map PEnt.ent)[m]?=some e→e.k≠((p.at_:Nat):Int))∧p.at_<s.last.length∧p.ws≠[]∧(∀x∈p.ws,x.2.length=512)∧p.ws.length≤s.pend.length:=by
 have hin:p.at_<s.last.length∧(∀x∈p.ws,x.2.length=512):=by
  have hw:=h.ws p hp
  have key:∀d∈p.ws.map (·.2),d.length=512∧p.at_<s.last.length:=fun d hd=>by
   rw [hw] at hd
   obtain ⟨y,hy,rfl⟩:=List.mem_map.1 hd
   obtain ⟨hy1,hy2⟩:=List.mem_filter.1 hy
   have:=h.plen y hy1
   have e:y.1=p.at_:=by simpa using hy2
   exact ⟨this.1,e▸this.2⟩
  obtain ⟨x,hx⟩:=List.exists_mem_of_ne_nil _ (h.ne p hp)
  exact ⟨(key x.2 (List.mem_map.2 ⟨x,hx,rfl⟩)).2,fun x hx=>(key x.2 (List.mem_map.2 ⟨x,hx,rfl⟩)).1⟩
 have hle:p.ws.length≤s.pend.length:=by
  have h2:p.ws.length=(pendOf s p.at_).length:=by rw [←h.ws p hp,List.length_map]
  have h3:(pendOf s p.at_).length≤s.pend.length:=by unfold pendOf;rw [List.length_map];exact List.length_filter_le _ _
  omega
 rcases h.find p.at_ with ⟨_,hno⟩|⟨j,q,hj,hat,_,_,hje,hke,hfe⟩
 ·exact absurd rfl (hno p.ent (List.mem_map.2 ⟨p,hp,rfl⟩))
 ·have e:q=p:=h.inj (List.mem_of_getElem? hj) hp hat
  subst e
  exact ⟨j,hj,hje,hke,hfe,hin.1,h.ne q hp,hin.2,hle⟩
theorem PFacts.flushed (h:PFacts s clock es fused left){ps:List PEnt}(hps:∀p∈ps,p∈es)(hl:leftE (es.map PEnt.ent) (ps.map (·.b))=[]):applyP s.last (ps.map PEnt.top)=applyP s.last s.pend:=by
 apply applyP_eq
 intro a
 have hall:∀p∈es,p∈ps:=fun p hp=>by
  have h1:p.ent∉leftE (es.map PEnt.ent) (ps.map (·.b)):=by rw [hl];exact List.not_mem_nil
  have h2:(ps.map (·.b)).contains p.b=true:=by
   cases hq:(ps.map (·.b)).contains p.b with
   |true=>rfl
   |false=>exact absurd (List.mem_filter.2 ⟨List.mem_map.2 ⟨p,hp,rfl⟩,by show (!(ps.map (·.b)).contains p.b)=true;rw [hq];rfl⟩) h1
  obtain ⟨q,hq,hb⟩:=List.mem_map.1 (List.contains_iff_mem.1 h2)
  rw [h.injB hp (hps q hq) hb.symm];exact hq
 show newest (ps.map PEnt.top) a=(pendOf s a).getLast?
 rcases h.find a with ⟨hn,hno⟩|⟨j,p,hj,hat,hp,hne,_,_,_⟩
 ·rw [hn]
  unfold newest
  have:((ps.map PEnt.top).filter fun x=>x.1==a)=[]:=by
   rw [List.filter_eq_nil_iff]
   intro x hx hk
   obtain ⟨q,hq,rfl⟩:=List.mem_map.1 hx
   exact hno q.ent (List.mem_map.2 ⟨q,hps q hq,rfl⟩) (by (have:q.at_=a:=by simpa [PEnt.top] using hk);simp [PEnt.ent,this])
  rw [this];rfl
 ·have hpe:=List.mem_of_getElem? hj
  rw [hp]
  unfold newest
  have hmem:p.top∈(ps.map PEnt.top).filter fun x=>x.1==a:=List.mem_filter.2 ⟨List.mem_map.2 ⟨p,hall p hpe,rfl⟩,by simpa [PEnt.top] using hat⟩
  have hsame:∀x∈((ps.map PEnt.top).filter fun x=>x.1==a).map (·.2),x=p.top.2:=fun x hx=>by
   obtain ⟨y,hy,rfl⟩:=List.mem_map.1 hx
   obtain ⟨hy1,hy2⟩:=List.mem_filter.1 hy
   obtain ⟨q,hq,rfl⟩:=List.mem_map.1 hy1
   have e:q.at_=p.at_:=by
    have:q.at_=a:=by simpa [PEnt.top] using hy2
    omega
   rw [h.inj (hps q hq) hpe e]
  have hne2:((ps.map PEnt.top).filter fun x=>x.1==a).map (·.2)≠[]:=by
   intro e
   rw [List.map_eq_nil_iff] at e
   rw [e] at hmem;cases hmem
  rw [List.getLast?_eq_some_getLast hne2,hsame _ (List.getLast_mem hne2)]
  have h3:p.ws.map (·.2)≠[]:=by simpa using hne
  show some (((p.ws.map (·.2)).getLast?).getD [])=_
  rw [List.getLast?_eq_some_getLast h3];rfl
theorem PFacts.settled {s':Dsk}{fused':Bool}{left':Int}(h:PFacts s clock es fused left)(h0:s'.last.length=s.last.length)(h1:∀l∈s'.last,l.length=512)(h2:s'.pend=[])(h3:fused'=decide (0≤s'.left))(h4:0≤s'.left→left'=s'.left)(h5: -1≤s'.left∧s'.left≤9223372036854775807):PFacts s' clock [] fused' left':=
 ⟨fun p hp=>(by cases hp),List.nodup_nil,List.nodup_nil,fun p hp=>(by cases hp),fun x hx=>(by rw [h2] at hx;cases hx),fun p hp=>(by cases hp),h1,fun x hx=>(by rw [h2] at hx;cases hx),by rw [h0];exact h.n1,by rw [h0];exact h.n2,h3,h4,h5,by rw [h2];simp⟩
end
end
end Go.Proofs
end
section
namespace Go.Proofs
open Go.Shelf
section
def Try.lays189_ren:Go.Shelf.Ren:=⟨fun|189=>113|125=>142|257=>141|128=>160|129=>161|294=>151|295=>152|296=>153|297=>154|298=>155|299=>156|216=>157|300=>158|301=>159|328=>163|329=>164|330=>165|331=>166|332=>167|215=>168|343=>169|n=>n,fun|28=>92|3=>3|46=>168|0=>0|51=>205|53=>223|4=>4|183=>214|182=>213|131=>219|5=>5|9=>9|218=>224|222=>228|228=>230|229=>231|n=>n,fun|n=>n⟩
theorem Try.lays189:Go.Proofs.Lays.n189 Try.prog Try.lays189_ren:={
 mixed:=by kernel_rfl
 f125:=Try.func142.trans (congrArg some kr_)
 f128:=Try.func160.trans (congrArg some kr_)
 f129:=Try.func161.trans (congrArg some kr_)
 f189:=Try.func113.trans (congrArg some kr_)
 f215:=Try.func168.trans (congrArg some kr_)
 f216:=Try.func157.trans (congrArg some kr_)
 f257:=Try.func141.trans (congrArg some kr_)
 f294:=Try.func151.trans (congrArg some kr_)
 f295:=Try.func152.trans (congrArg some kr_)
 f296:=Try.func153.trans (congrArg some kr_)
 f297:=Try.func154.trans (congrArg some kr_)
 f298:=Try.func155.trans (congrArg some kr_)
 f299:=Try.func156.trans (congrArg some kr_)
 f300:=Try.func158.trans (congrArg some kr_)
 f301:=Try.func159.trans (congrArg some kr_)
 f328:=Try.func163.trans (congrArg some kr_)
 f329:=Try.func164.trans (congrArg some kr_)
 f330:=Try.func165.trans (congrArg some kr_)
 f331:=Try.func166.trans (congrArg some kr_)
 f332:=Try.func167.trans (congrArg some kr_)
 f343:=Try.func169.trans (congrArg some kr_)
 t0:=Try.underlying0
 a0:=Try.isAgg0
 z0:=Try.sizeOf0
 v0:=Try.zeroValue0
 t3:=Try.underlying3
 a3:=Try.isAgg3
 z3:=Try.sizeOf3
 v3:=Try.zeroValue3
 t4:=Try.underlying4
 a4:=Try.isAgg4
 z4:=Try.sizeOf4
 v4:=Try.zeroValue4
 t5:=Try.underlying5
 a5:=Try.isAgg5
 z5:=Try.sizeOf5
 v5:=Try.zeroValue5
 t9:=Try.underlying9
 a9:=Try.isAgg9
 z9:=Try.sizeOf9
 v9:=Try.zeroValue9
 t28:=Try.underlying92
 a28:=Try.isAgg92
 z28:=Try.sizeOf92
 v28:=Try.zeroValue92
 t46:=Try.underlying168
 a46:=Try.isAgg168
 z46:=Try.sizeOf168
 v46:=Try.zeroValue168
 t51:=Try.underlying205
 a51:=Try.isAgg205
 z51:=Try.sizeOf205
 v51:=Try.zeroValue205
 t53:=Try.underlying223
 a53:=Try.isAgg223
 z53:=Try.sizeOf223
 v53:=Try.zeroValue223
 t131:=Try.underlying219
 a131:=Try.isAgg219
 z131:=Try.sizeOf219
 v131:=Try.zeroValue219
 t182:=Try.underlying213
 a182:=Try.isAgg213
 z182:=Try.sizeOf213
 v182:=Try.zeroValue213
 t183:=Try.underlying214
 a183:=Try.isAgg214
 z183:=Try.sizeOf214
 v183:=Try.zeroValue214
 t218:=Try.underlying224
 a218:=Try.isAgg224
 z218:=Try.sizeOf224
 v218:=Try.zeroValue224
 t222:=Try.underlying228
 a222:=Try.isAgg228
 z222:=Try.sizeOf228
 v222:=Try.zeroValue228
 t228:=Try.underlying230
 a228:=Try.isAgg230
 z228:=Try.sizeOf230
 v228:=Try.zeroValue230
 t229:=Try.underlying231
 a229:=Try.isAgg231
 z229:=Try.sizeOf231
 v229:=Try.zeroValue231}
open Go.Sort Go.RowKit in
theorem Try.slices_Sort_int (blk off cap:Nat)(zs:List Int)(w:World)(hH:Holds (Value.int .i64) w blk off zs.toArray)(hblk:blk<w.heap.size)(hsz:zs.length<4611686018427387904):
  Calls Try.prog 113 #[.slice (some ⟨blk,off,none⟩) zs.length cap] w fun e w'=>
   e=.returned (.tuple #[])∧∃n os,w'=grow (putRow (Value.int .i64) (Sort.ahead w n) blk off (zs.mergeSort fun x y=>decide (x≤y)).toArray) os:=Any.slices_Sort_int Try.lays189 blk off cap zs w hH hblk hsz
open Go.RowKit Go.Sort in
theorem Try.slices_Sort_int_none (p:Option Addr)(cap:Nat)(w:World):
  Calls Try.prog 113 #[.slice p 0 cap] w fun e w'=>e=.returned (.tuple #[])∧w'=w:=Any.slices_Sort_int_none Try.lays189 p cap w
end
end Go.Proofs
end
section
open Go Go.RowKit Go.Proofs.YtgeioealgidkiaaW.PrintWords
namespace Go.Vel
def RdV (w:World)(A:Option Addr)(vs:List Value):Prop:=0<vs.length→∃ad,A=some ad∧∀j u,vs[j]?=some u→w.cell? (ad.add j)=some u
structure RoV (F:Nat→Prop)(w0:World)(L:List Ast)(A:Option Addr)(vs:List Value):Prop where
 out:∀w' L',St F w0 w' (L'++L)→RdV w' A vs
section
variable {F:Nat→Prop}{w0 w:World}{L:List Ast}
theorem RoV.more {A:Option Addr}{l:List Value}{X:Ast}(h:RoV F w0 L A l):RoV F w0 (X::L) A l:=⟨fun w' L' S=>h.out w' (L'++[X]) (by rw [List.append_assoc];exact S)⟩
theorem RoV.item {g:Nat}{vs:List Value}{t:TypeId}(j:Nat)(hj:L[j]?=some (row g vs.toArray t)):RoV F w0 L (some ⟨g,0,none⟩) vs:=⟨fun w' L' S _=>by
 have h1:(L'++L)[L'.length+j]?=some (row g vs.toArray t):=by rw [List.getElem?_append_right om_];simpa using hj
 exact ⟨_,rfl,fun k u hu=>by rw [Addr.add_lit,Nat.zero_add,(S.blk _ h1).cell];simpa using hu⟩⟩
theorem RoV.cells {ad:Addr}{vs us:List Value}(h:RdV w (some ad) vs)(k:Nat)(hk:∀j u,us[j]?=some u→vs[k+j]?=some u)(h0:0<us.length):∀j u,us[j]?=some u→w.cell? ((ad.add k).add j)=some u:=fun j u hu=>by
 have h1:0<vs.length:=by
  obtain ⟨u0,hu0⟩:∃u0,us[0]?=some u0:=⟨_,List.getElem?_eq_getElem h0⟩
  have:=(List.getElem?_eq_some_iff.1 (hk 0 u0 hu0)).1;omega
 obtain ⟨ad',e,hc⟩:=h h1
 cases e
 rw [addr_add_add];exact hc _ u (hk j u hu)
end
section
variable {P:Program}{o:Oper}{w:World}{ρ:Operand→Value}{K:Value→World→Prop}
theorem gv_callC {f:FuncId}{y:Operand}{xs:Array Operand}{ts:Array TypeId}{fn:Func}{c:Code}{args caps:Array Value}(ho:o.op=.call {callee:=.value y,args:=xs,argTypes:=ts})(hf:P.funcs[f]?=some fn)(hname:(fn.name=="runtime.NumGoroutine")=false)(hb:fn.body=some c)(hρ:ρ y=.func (.func f) #[] caps)
  (hx:xs.map ρ++caps=args) (h:Calls P f args w fun e w''=>∃v,e=.returned v∧K v w''):gives P K ((execOp ρ o).run P w):=by
 subst hx
 have h1:fn.name≠"runtime.NumGoroutine":=by simpa using hname
 have e:(execOp ρ o).run P w=.ok (.enter f (xs.map ρ++caps)) w:=by
  simp only [execOp,ho,resolve,hρ]
  simp [Deferred.ofValue,invoke,callFunc,hf,h1,hb]
 rw [e];exact h
end
end Go.Vel
namespace Go.Proofs
open Go.Vel
set_option linter.unusedVariables false
theorem sort_own {F:Nat→Prop}{w0 w:World}{L:List Ast}{v:Value}{n:Nat}{zs:List Int}(S:St F w0 w (vec 3 1 v n (zs.map (Value.int .i64))::L))(hsz:n<4611686018427387904):
  Calls Try.prog 113 #[v] w fun e w'=>e=.returned (.tuple #[])∧St F w0 w' (vec 3 1 v n ((zs.mergeSort fun x y=>decide (x≤y)).map (Value.int .i64))::L):=by
 have hlen:=S.vec_len
 rw [List.length_map,Nat.mul_one] at hlen
 subst hlen
 rcases S.vec_cases with ⟨rfl,h0,_,S1⟩|⟨g,c,junk,rfl,hc,_,hj,S1⟩
 ·have hz:zs=[]:=List.eq_nil_of_length_eq_zero h0
  subst hz
  refine (Try.slices_Sort_int_none none 0 w).mono ?_
  rintro _ _ ⟨rfl,rfl⟩
  exact ⟨rfl,by rw [List.mergeSort_nil];exact St.vec_nil S1⟩
 ·have hb:=S1.blk 0 rfl
  have hg:=S1.get 0 rfl
  have hsz':g<w.heap.size:=lt_of_some hg
  have hH:Go.Sort.Holds (Value.int .i64) w g 0 zs.toArray:=fun j hj=>by
   have hj':j<zs.length:=by simpa using hj
   refine ⟨?_, ?_⟩
   ·rw [Nat.zero_add,hb.cell,List.getElem?_toArray,List.getElem?_append_left (by simpa using hj'),List.getElem?_map,List.getElem?_eq_getElem hj']
    simp [hj']
   ·simp [World.frozen?,hg]
  refine (Try.slices_Sort_int g 0 c zs w hH hsz' hsz).mono ?_
  rintro _ _ ⟨rfl,k,os,rfl⟩
  refine ⟨rfl, ?_⟩
  have hsl:(zs.mergeSort fun x y=>decide (x≤y)).length=zs.length:=List.length_mergeSort _
  generalize hw1:Go.Sort.putRow (Value.int .i64) (Go.Sort.ahead w k) g 0 (zs.mergeSort fun x y=>decide (x≤y)).toArray=w1
  have hnew:w1.heap[g]?=some (.cells (((zs.mergeSort fun x y=>decide (x≤y)).map (Value.int .i64))++junk).toArray 3 (0,0)):=by
   subst hw1
   simp only [Go.Sort.putRow,Go.Sort.mapBlock,Go.Sort.ahead]
   rw [Array.getElem?_modify,if_pos rfl,hg]
   simp only [Option.map_some,Go.Sort.onCells]
   congr 2
   apply Array.ext_getElem?
   intro i
   simp only [Go.Sort.putCells,Array.getElem?_mapIdx,List.getElem?_toArray]
   by_cases hi:i<zs.length
   ·rw [List.getElem?_append_left (by simpa using hi),List.getElem?_append_left (by rw [List.length_map,hsl];exact hi),List.getElem?_map,List.getElem?_map,List.getElem?_eq_getElem hi,List.getElem?_eq_getElem (by rw [hsl];exact hi)]
    simp [hi,hsl]
   ·rw [List.getElem?_append_right (by simpa using hi),List.getElem?_append_right (by rw [List.length_map,hsl];omega),List.length_map,List.length_map,hsl]
    cases hq:junk[i-zs.length]? with
    |none=>rfl
    |some y=>simp [hsl,hi]
  have hO:Only g w w1:=by
   subst hw1
   refine ⟨rfl,rfl,rfl,by simp,fun i hne=> ?_⟩
   simp only [Go.Sort.putRow,Go.Sort.mapBlock,Go.Sort.ahead]
   rw [Array.getElem?_modify,if_neg (Ne.symm hne)]
  have S2:=S1.upd (g:=g) 0 rfl hO hnew
  have S3:=S2.below (w':=Go.Sort.grow w1 os) ⟨rfl,rfl,rfl,by simp,fun i hi=>by simp only [Go.Sort.grow];rw [Array.getElem?_append_left hi]⟩
  exact St.vec_mk S3 hc (by rw [List.length_map,hsl,Nat.mul_one]) (by rw [List.length_append,List.length_map,hsl,←hj,List.length_append,List.length_map])
abbrev Pick:=Int×Int×Int
def tornS (l:List (List UInt8))(p:Pick):List UInt8:=(l.getD (p.1.toNat%l.length) []).take (p.2.2.toNat%513)++(l.getD (p.2.1.toNat%l.length) []).drop (p.2.2.toNat%513)
def candS (s:Dsk)(a:Nat):List (List UInt8):=s.last.getD a []::pendOf s a
def pickAt (ps:List Pick)(k:Nat):Pick:=if ps.length=0 then (0,0,0) else ps.getD (k%ps.length) (0,0,0)
def keysTo (s:Dsk)(a:Nat):List Nat:=(List.range a).filter fun a=> !(pendOf s a).isEmpty
def crashKeys (s:Dsk):List Nat:=keysTo s s.last.length
def outOf (s:Dsk)(ps:List Pick)(k:Nat)(a:Nat):Nat×List UInt8:=(a,tornS (candS s a) (pickAt ps k))
def crashOuts (s:Dsk)(ps:List Pick):List (Nat×List UInt8):=(crashKeys s).mapIdx (outOf s ps)
def Dsk.crashR (s:Dsk)(ps:List Pick):Dsk:={s with last:=applyP s.last (crashOuts s ps),pend:=[],left:= -1,life:=inc s.life}
def pickCells (p:Pick):List Value:=[.int .i64 p.1,.int .i64 p.2.1,.int .i64 p.2.2]
def picksV (ps:List Pick):List Value:=ps.flatMap pickCells
theorem length_picksV (ps:List Pick):(picksV ps).length=ps.length*3:=by
 induction ps with
 |nil=>rfl
 |cons p r ih=>simp [picksV,pickCells] at ih ⊢;omega
theorem picksV_at:∀(ps:List Pick) (i:Nat) (p:Pick),ps[i]?=some p→∀j u,(pickCells p)[j]?=some u→(picksV ps)[i*3+j]?=some u
 |[],i,p,h,_,_,_=>by simp at h
 |q::r,0,p,h,j,u,hu=>by
  simp at h;subst h
  have:=(List.getElem?_eq_some_iff.1 hu).1
  show ((pickCells q++picksV r))[0*3+j]?=some u
  rw [List.getElem?_append_left om_];simpa using hu
 |q::r,i+1,p,h,j,u,hu=>by
  have ih:=picksV_at r i p (by simpa using h) j u hu
  show ((pickCells q++picksV r))[(i+1)*3+j]?=some u
  rw [List.getElem?_append_right (by simp [pickCells];omega)]
  simpa [pickCells,show (i+1)*3+j-3=i*3+j from by omega] using ih
theorem tornS_len {l:List (List UInt8)}{p:Pick}(h:∀x∈l,x.length=512)(h0:l≠[]):(tornS l p).length=512:=by
 have hl:=List.length_pos_iff.2 h0
 have key:∀m,(l.getD (m%l.length) []).length=512:=fun m=>by
  have hm:m%l.length<l.length:=Nat.mod_lt _ hl
  rw [List.getD_eq_getElem?_getD,List.getElem?_eq_getElem hm]
  exact h _ (List.getElem_mem hm)
 have hm:p.2.2.toNat%513<513:=Nat.mod_lt _ dc_
 unfold tornS
 rw [List.length_append,List.length_take,List.length_drop,key,key];omega
theorem keysTo_mem {s:Dsk}{a x:Nat}:x∈keysTo s a↔x<a∧pendOf s x≠[]:=by
 simp [keysTo,List.mem_filter]
theorem keysTo_lt (s:Dsk)(a:Nat):(keysTo s a).Pairwise (·<·):=List.Pairwise.filter _ List.pairwise_lt_range
theorem keysTo_succ (s:Dsk)(a:Nat):keysTo s (a+1)=keysTo s a++(if (pendOf s a).isEmpty then [] else [a]):=by
 unfold keysTo
 rw [List.range_succ,List.filter_append]
 cases h:(pendOf s a).isEmpty<;>simp [h]
theorem keysTo_len (s:Dsk):∀a,(keysTo s a).length≤a
 |0=>Nat.le_refl 0
 |a+1=>by
  have:=keysTo_len s a
  rw [keysTo_succ,List.length_append]
  split<;>simp<;>omega
theorem applyP_getD:∀(ps:List (Nat×List UInt8)) (l:List (List UInt8)) (a:Nat),(∀x∈ps,x.1≠a)→(applyP l ps).getD a []=l.getD a []
 |[],_,_,_=>rfl
 |x::r,l,a,h=>by
  unfold applyP;rw [List.foldl_cons]
  refine (applyP_getD r _ a fun y hy=>h y (List.mem_cons_of_mem _ hy)).trans ?_
  rw [List.getD_eq_getElem?_getD,List.getElem?_set_ne (h x List.mem_cons_self),←List.getD_eq_getElem?_getD]
section
variable {s:Dsk}{clock:Nat}{es:List PEnt}{fused:Bool}{left:Int}
theorem PFacts.cand_len (h:PFacts s clock es fused left){a:Nat}(ha:a<s.last.length):∀x∈candS s a,x.length=512:=fun x hx=>by
 rcases List.mem_cons.1 hx with rfl|hx
 ·exact h.len _ (List.mem_of_getElem? (mem_getD ha))
 ·unfold pendOf at hx
  obtain ⟨y,hy,rfl⟩:=List.mem_map.1 hx
  exact (h.plen y (List.mem_filter.1 hy).1).1
theorem PFacts.out_len (h:PFacts s clock es fused left)(ps:List Pick):∀x∈crashOuts s ps,x.2.length=512:=fun x hx=>by
 unfold crashOuts at hx
 obtain ⟨i,hi,rfl⟩:=List.mem_mapIdx.1 hx
 refine tornS_len (h.cand_len ?_) (by simp [candS])
 have:(crashKeys s)[i]∈crashKeys s:=List.getElem_mem hi
 exact (keysTo_mem.1 this).1
theorem PFacts.key_mem (h:PFacts s clock es fused left){a:Nat}:a∈crashKeys s↔∃p∈es,p.at_=a:=by
 rw [crashKeys,keysTo_mem]
 constructor
 ·rintro ⟨_,hp⟩
  rcases h.find a with ⟨h1,_⟩|⟨j,p,hj,hat,_⟩
  ·exact absurd h1 hp
  ·exact ⟨p,List.mem_of_getElem? hj,hat⟩
 ·rintro ⟨p,hp,rfl⟩
  obtain ⟨j,_,_,_,_,hk,hne,_,_⟩:=h.find_mem hp
  refine ⟨hk,fun e=>hne ?_⟩
  have:=h.ws p hp
  rw [e] at this
  exact List.map_eq_nil_iff.1 this
theorem PFacts.sorted (h:PFacts s clock es fused left){ps:List PEnt}(hps:∀p∈ps,p∈es)(hnd:(ps.map (·.b)).Nodup)(hl:leftE (es.map PEnt.ent) (ps.map (·.b))=[]):
  ((ps.map fun p=>((p.at_:Nat):Int)).mergeSort fun x y=>decide (x≤y))=(crashKeys s).map fun a=>((a:Nat):Int):=by
 have hall:∀p∈es,p∈ps:=fun p hp=>by
  have h1:p.ent∉leftE (es.map PEnt.ent) (ps.map (·.b)):=by rw [hl];exact List.not_mem_nil
  have h2:(ps.map (·.b)).contains p.b=true:=by
   cases hq:(ps.map (·.b)).contains p.b with
   |true=>rfl
   |false=>exact absurd (List.mem_filter.2 ⟨List.mem_map.2 ⟨p,hp,rfl⟩,by show (!(ps.map (·.b)).contains p.b)=true;rw [hq];rfl⟩) h1
  obtain ⟨q,hq,hb⟩:=List.mem_map.1 (List.contains_iff_mem.1 h2)
  have:q=p:=h.injB (hps q hq) hp hb
  exact this▸hq
 have hpn:ps.Nodup:=List.Pairwise.of_map (·.b) (fun a b hne e=>hne (congrArg _ e)) hnd
 have hen:es.Nodup:=List.Pairwise.of_map (·.b) (fun a b hne e=>hne (congrArg _ e)) h.bornN
 have p1:ps.Perm es:=(List.perm_ext_iff_of_nodup hpn hen).2 fun p=>⟨hps p,hall p⟩
 have p2:(es.map (·.at_)).Perm (crashKeys s):=(List.perm_ext_iff_of_nodup h.keyN ((keysTo_lt s _).imp fun hab=>Nat.ne_of_lt hab)).2 fun a=>by
  refine Iff.trans ?_ (h.key_mem (a:=a)).symm;simp
 have p3:(ps.map fun p=>((p.at_:Nat):Int)).Perm ((crashKeys s).map fun a=>((a:Nat):Int)):=by
  have q1:=(p1.map (fun p=>p.at_)).trans p2
  have q2:=q1.map (fun a=>((a:Nat):Int))
  rwa [List.map_map] at q2
 refine List.Perm.eq_of_pairwise (le:=fun x y=>x≤y) (fun a b _ _ h1 h2=>Int.le_antisymm h1 h2) ?_ ?_ ((List.mergeSort_perm _ _).trans p3)
 ·refine (List.pairwise_mergeSort (le:=fun x y=>decide (x≤y)) (fun a b c h1 h2=> ?_) (fun a b=> ?_) _).imp fun hab=>of_decide_eq_true hab
  ·have e1:=of_decide_eq_true h1;have e2:=of_decide_eq_true h2
   exact decide_eq_true (Int.le_trans e1 e2)
  ·simp;omega
 ·exact List.Pairwise.map _ (fun a b hab=>by show ((a:Nat):Int)≤((b:Nat):Int);omega) (keysTo_lt s _)
theorem out_take {s:Dsk}{ps:List Pick}{k a:Nat}(hk:(crashKeys s)[k]?=some a):(crashOuts s ps).take (k+1)=(crashOuts s ps).take k++[outOf s ps k a]:=by
 have e:(crashOuts s ps)[k]?=some (outOf s ps k a):=by unfold crashOuts;rw [List.getElem?_mapIdx,hk];rfl
 rw [List.take_add_one,e];rfl
theorem out_fst {s:Dsk}{ps:List Pick}{k a:Nat}(hk:(crashKeys s)[k]?=some a):∀x∈(crashOuts s ps).take k,x.1≠a:=fun x hx=>by
 obtain ⟨i,hi,rfl⟩:=List.mem_take_iff_getElem.1 hx
 have hi2:i<(crashKeys s).length:=by simp [crashOuts] at hi;omega
 simp only [crashOuts,List.getElem_mapIdx,outOf]
 have hlt:=List.pairwise_iff_getElem.1 (keysTo_lt s s.last.length) i k hi2 (List.getElem?_eq_some_iff.1 hk).1 om_
 have e2:(keysTo s s.last.length)[k]'(List.getElem?_eq_some_iff.1 hk).1=a:=(List.getElem?_eq_some_iff.1 hk).2
 rw [e2] at hlt
 exact Nat.ne_of_lt hlt
end
end Go.Proofs
end
section
open Go Go.RowKit Go.Proofs.YtgeioealgidkiaaW.PrintWords
namespace Go.Proofs
open Go.Vel
set_option linter.unusedVariables false
abbrev RPut:=Nat×Nat×List UInt8
def RPut.ref (x:RPut):Nat×List UInt8:=(x.1,x.2.2)
def putCells (x:RPut):List Value:=[.int .i64 ((x.2.1:Nat):Int),PEnt.val x.ref]
def putsV (PP:List RPut):List Value:=PP.flatMap putCells
def rcells (gl nl cl:Nat)(A2:Option Addr)(np c2:Nat)(left life rd wr fl rf:Int):Array Value:=#[.slice (some ⟨gl,0,none⟩) nl cl,.slice A2 np c2,.int .i64 left,.int .i64 life,.int .i64 rd,.int .i64 wr,.int .i64 fl,.int .i64 rf,.int .i64 0]
structure RFacts (s:Dsk)(LL:List (Nat×List UInt8))(PP:List RPut)(pool:List (Nat×List UInt8)):Prop where
 last:LL.map (·.2)=s.last
 pend:PP.map (·.2)=s.pend
 lin:∀x∈LL,x∈pool
 pin:∀x∈PP,x.ref∈pool
 len:∀l∈s.last,l.length=512
 plen:∀x∈s.pend,x.2.length=512∧x.1<s.last.length
 n1:1≤s.last.length
 n2:s.last.length≤2048
 lb: -1≤s.left∧s.left≤9223372036854775807
 pn:s.pend.length≤4611686018427387904
def rdParts (g gl cl c2:Nat)(A2:Option Addr)(junk:List Value)(LL:List (Nat×List UInt8))(PP:List RPut)(pool:List (Nat×List UInt8))(s:Dsk):List Ast:=
 [row g (rcells gl LL.length cl A2 PP.length c2 s.left s.life s.rd s.wr s.fl s.rf) 138,row gl (LL.map PEnt.val++junk).toArray 31,vec 143 2 (.slice A2 PP.length c2) PP.length (putsV PP),stars (pool.map PEnt.row)]
def RDisk (g:Nat)(s:Dsk):Ast:=fun h=>∃gl cl c2 A2 junk LL PP pool,(RFacts s LL PP pool∧LL.length≤cl∧(LL.map PEnt.val++junk).length=cl*1)∧stars (rdParts g gl cl c2 A2 junk LL PP pool s) h
section
variable {F:Nat→Prop}{w0 w:World}{L:List Ast}{g:Nat}{s:Dsk}
theorem St.ropen (S:St F w0 w (RDisk g s::L)):∃gl cl c2 A2 junk LL PP pool,RFacts s LL PP pool∧LL.length≤cl∧(LL.map PEnt.val++junk).length=cl*1∧St F w0 w (rdParts g gl cl c2 A2 junk LL PP pool s++L):=by
 obtain ⟨gl,S⟩:=S.ex
 obtain ⟨cl,S⟩:=S.ex
 obtain ⟨c2,S⟩:=S.ex
 obtain ⟨A2,S⟩:=S.ex
 obtain ⟨junk,S⟩:=S.ex
 obtain ⟨LL,S⟩:=S.ex
 obtain ⟨PP,S⟩:=S.ex
 obtain ⟨pool,S⟩:=S.ex
 obtain ⟨hf,S⟩:=S.fact
 exact ⟨gl,cl,c2,A2,junk,LL,PP,pool,hf.1,hf.2.1,hf.2.2,S.flat⟩
theorem St.rclose {gl cl c2:Nat}{A2:Option Addr}{junk:List Value}{LL:List (Nat×List UInt8)}{PP:List RPut}{pool:List (Nat×List UInt8)}(S:St F w0 w (rdParts g gl cl c2 A2 junk LL PP pool s++L))(hf:RFacts s LL PP pool)(h1:LL.length≤cl)(h2:(LL.map PEnt.val++junk).length=cl*1):St F w0 w (RDisk g s::L):=
 S.star.map1 fun _ h=>⟨gl,cl,c2,A2,junk,LL,PP,pool,⟨hf,h1,h2⟩,h⟩
theorem St.vec_rd {e:TypeId}{sz n c:Nat}{A:Option Addr}{vals:List Value}(S:St F w0 w L)(i:Nat)(hi:L[i]?=some (vec e sz (.slice A n c) n vals)):RdV w A vals:=by
 have S1:=S.mem i hi
 rcases S1.vec_cases with ⟨h,rfl,rfl,_⟩|⟨g,c',junk,h,_,h3,_,S2⟩
 ·exact fun h=>absurd h (Nat.lt_irrefl 0)
 ·simp at h
  obtain ⟨rfl,_⟩:=h
  exact fun _=>⟨_,rfl,fun j u hu=>by
   rw [Addr.add_lit,Nat.zero_add,(S2.blk 0 rfl).cell,List.getElem?_toArray,List.getElem?_append_left (List.getElem?_eq_some_iff.1 hu).1];exact hu⟩
theorem St.pool_rd {pool:List (Nat×List UInt8)}{x:Nat×List UInt8}(S:St F w0 w L)(i:Nat)(hi:L[i]?=some (stars (pool.map PEnt.row)))(hx:x∈pool):Blk w x.1 (bvs x.2) 5:=
 ((S.mem i hi).star_mem (List.mem_map.2 ⟨x,hx,rfl⟩)).blk 0 rfl
end
section
variable {s s':Dsk}{LL:List (Nat×List UInt8)}{PP:List RPut}{pool:List (Nat×List UInt8)}
theorem RFacts.upd (h:RFacts s LL PP pool)(h1:s'.last=s.last)(h2:s'.pend=s.pend)(h3: -1≤s'.left∧s'.left≤9223372036854775807):RFacts s' LL PP pool:=
 ⟨by rw [h1];exact h.last,by rw [h2];exact h.pend,h.lin,h.pin,by rw [h1];exact h.len,by rw [h1,h2];exact h.plen,by rw [h1];exact h.n1,by rw [h1];exact h.n2,h3,by rw [h2];exact h.pn⟩
theorem RFacts.ll (h:RFacts s LL PP pool):LL.length=s.last.length:=by rw [←h.last,List.length_map]
theorem RFacts.pp (h:RFacts s LL PP pool):PP.length=s.pend.length:=by rw [←h.pend,List.length_map]
theorem RFacts.at (h:RFacts s LL PP pool){k:Nat}(hk:k<s.last.length):∃x,LL[k]?=some x∧x∈pool∧s.last.getD k []=x.2∧x.2.length=512:=by
 have hk':k<LL.length:=by rw [h.ll];exact hk
 refine ⟨LL[k],List.getElem?_eq_getElem hk',h.lin _ (List.getElem_mem hk'), ?_, ?_⟩
 ·rw [←h.last,List.getD_eq_getElem?_getD,List.getElem?_map,List.getElem?_eq_getElem hk'];rfl
 ·exact h.len _ (by rw [←h.last];exact List.mem_map.2 ⟨_,List.getElem_mem hk',rfl⟩)
theorem RFacts.pat (h:RFacts s LL PP pool){i:Nat}(hi:i<PP.length):∃x,PP[i]?=some x∧x.ref∈pool∧s.pend[i]?=some x.2∧x.2.2.length=512∧x.2.1<s.last.length:=by
 have hm:PP[i].2∈s.pend:=by rw [←h.pend];exact List.mem_map.2 ⟨_,List.getElem_mem hi,rfl⟩
 refine ⟨PP[i],List.getElem?_eq_getElem hi,h.pin _ (List.getElem_mem hi), ?_,(h.plen _ hm).1,(h.plen _ hm).2⟩
 rw [←h.pend,List.getElem?_map,List.getElem?_eq_getElem hi];rfl
theorem ll_at {LL:List (Nat×List UInt8)}{junk:List Value}{k:Nat}{x:Nat×List UInt8}(h:LL[k]?=some x):((LL.map PEnt.val++junk).toArray)[k]?=some (PEnt.val x):=by
 rw [List.getElem?_toArray,List.getElem?_append_left (by rw [List.length_map];exact (List.getElem?_eq_some_iff.1 h).1),List.getElem?_map,h];rfl
theorem ll_set {LL:List (Nat×List UInt8)}{junk:List Value}{k:Nat}{x:Nat×List UInt8}(h:k<LL.length):(LL.map PEnt.val++junk).toArray.setIfInBounds k (PEnt.val x)=((LL.set k x).map PEnt.val++junk).toArray:=by
 rw [List.setIfInBounds_toArray,List.set_append_left _ _ (by rw [List.length_map];exact h),List.map_set]
end
theorem length_putsV (PP:List RPut):(putsV PP).length=PP.length*2:=by
 induction PP with
 |nil=>rfl
 |cons p r ih=>simp [putsV,putCells] at ih ⊢;omega
theorem putsV_at:∀(ps:List RPut) (i:Nat) (p:RPut),ps[i]?=some p→∀j u,(putCells p)[j]?=some u→(putsV ps)[i*2+j]?=some u
 |[],i,p,h,_,_,_=>by simp at h
 |q::r,0,p,h,j,u,hu=>by
  simp at h;subst h
  have:=(List.getElem?_eq_some_iff.1 hu).1
  show ((putCells q++putsV r))[0*2+j]?=some u
  rw [List.getElem?_append_left om_];simpa using hu
 |q::r,i+1,p,h,j,u,hu=>by
  have ih:=putsV_at r i p (by simpa using h) j u hu
  show ((putCells q++putsV r))[(i+1)*2+j]?=some u
  rw [List.getElem?_append_right (by simp [putCells];omega)]
  simpa [putCells,show (i+1)*2+j-2=i*2+j from by omega] using ih
theorem putsV_snoc (PP:List RPut)(x:RPut):putsV PP++putCells x=putsV (PP++[x]):=by simp [putsV]
theorem put_at {w:World}{ad:Addr}{PP:List RPut}{i:Nat}{x:RPut}(h:∀j u,(putsV PP)[j]?=some u→w.cell? (ad.add j)=some u)(hx:PP[i]?=some x):w.cell? (ad.add (i*2))=some (.int .i64 ((x.2.1:Nat):Int)):=by
 have:=h (i*2+0) _ (putsV_at PP i x hx 0 _ rfl);simpa using this
theorem put_data {w:World}{ad:Addr}{PP:List RPut}{i:Nat}{x:RPut}(h:∀j u,(putsV PP)[j]?=some u→w.cell? (ad.add j)=some u)(hx:PP[i]?=some x):w.cell? ((ad.add (i*2)).add 1)=some (PEnt.val x.ref):=by
 rw [addr_add_add];exact h (i*2+1) _ (putsV_at PP i x hx 1 _ rfl)
end Go.Proofs
namespace Go.Proofs
open Go.Vel
set_option linter.unusedVariables false
section
variable {F:Nat→Prop}{w0 w:World}{L:List Ast}{s s':Dsk}{LL:List (Nat×List UInt8)}{PP:List RPut}{pool:List (Nat×List UInt8)}
theorem rot_pool {b:Nat}{l:List UInt8}(i:Nat)(hi:L[i]?=some (stars (pool.map PEnt.row)))(hx:(b,l)∈pool)(h5:l.length=512):RoT F w0 L (some ⟨b,0,none⟩) l:=⟨fun w' L' S'=>by
 have h1:(L'++L)[L'.length+i]?=some (stars (pool.map PEnt.row)):=by rw [List.getElem?_append_right om_];simpa using hi
 exact RdB.row (St.pool_rd S' _ h1 hx) 0 512 _ (by rw [List.drop_zero,List.take_of_length_le (Nat.le_of_eq h5)])⟩
theorem RFacts.now_len (h:RFacts s LL PP pool){k:Nat}(hk:k<s.last.length):(s.now k).length=512:=by
 unfold Dsk.now
 split
 ·rename_i d hd
  have hm:=List.mem_of_getLast? hd
  unfold pendOf at hm
  obtain ⟨y,hy,rfl⟩:=List.mem_map.1 hm
  exact (h.plen y (List.mem_filter.1 hy).1).1
 ·exact h.len _ (List.mem_of_getElem? (mem_getD hk))
theorem St.vec_one {e:TypeId}{sz n:Nat}{v:Value}{vals:List Value}(S:St F w0 w L)(i:Nat)(hi:L[i]?=some (vec e sz v n vals)):v.oneCell'=true:=by
 obtain ⟨A,c,rfl⟩:=(S.mem i hi).vec_val;rfl
theorem St.vec_v {e:TypeId}{sz n:Nat}{v:Value}{vals:List Value}(S:St F w0 w L)(i:Nat)(hi:L[i]?=some (vec e sz v n vals)):∃A c,v=.slice A n c:=(S.mem i hi).vec_val
theorem St.pool_add {b:Nat}{d:List UInt8}(S:St F w0 w (row b (bvs d) 5::stars (pool.map PEnt.row)::L)):St F w0 w (stars (((b,d)::pool).map PEnt.row)::L):=(St.one_star S).star_join
theorem RFacts.put (h:RFacts s LL PP pool){b k:Nat}{d:List UInt8}(h1:s'.last=s.last)(h2:s'.pend=s.pend++[(k,d)])(h3: -1≤s'.left∧s'.left≤9223372036854775807)(hk:k<s.last.length)(hd:d.length=512)(hp:s.pend.length<4398046511104):RFacts s' LL (PP++[(b,k,d)]) ((b,d)::pool):=
 ⟨by rw [h1];exact h.last,by rw [h2,List.map_append,h.pend];rfl,fun x hx=>List.mem_cons_of_mem _ (h.lin x hx),fun x hx=>(List.mem_append.1 hx).elim (fun hx=>List.mem_cons_of_mem _ (h.pin x hx)) (fun hx=>by rw [List.mem_singleton] at hx;subst hx;exact List.mem_cons_self),by rw [h1];exact h.len,
  fun x hx=>by
   rw [h2] at hx;rw [h1]
   rcases List.mem_append.1 hx with hx|hx
   ·exact h.plen x hx
   ·rw [List.mem_singleton] at hx;subst hx;exact ⟨hd,hk⟩,by rw [h1];exact h.n1,by rw [h1];exact h.n2,h3,by rw [h2,List.length_append];show s.pend.length+1≤_;omega⟩
theorem ll_blt {junk:List Value}{k:Nat}(h:k<LL.length):Nat.blt k ((LL.map PEnt.val++junk).toArray).size=true:=Nat.ble_eq_true_of_le (by simp;omega)
theorem RFacts.turned (h:RFacts s LL PP pool){LL1:List (Nat×List UInt8)}{q:List (Nat×List UInt8)}{pool':List (Nat×List UInt8)}(h1:LL1.map (·.2)=applyP s.last q)(hq:∀x∈q,x.2.length=512)(h2:∀x∈LL1,x∈pool')(h3:s'.last=applyP s.last q)(h4:s'.pend=[])(h5: -1≤s'.left∧s'.left≤9223372036854775807):RFacts s' LL1 [] pool':=
 ⟨by rw [h3];exact h1,h4.symm,h2,fun x hx=>(by cases hx),by rw [h3];exact applyP_all _ _ h.len hq,fun x hx=>(by rw [h4] at hx;cases hx),by rw [h3,length_applyP];exact h.n1,by rw [h3,length_applyP];exact h.n2,h5,by rw [h4];exact Nat.zero_le _⟩
theorem turn_len {l:List (List UInt8)}{LL LL1:List (Nat×List UInt8)}{q:List (Nat×List UInt8)}(h1:LL1.map (·.2)=applyP l q):LL1.length=l.length:=by
 have:=congrArg List.length h1;rw [List.length_map,length_applyP] at this;exact this
theorem turn_one {l:List (List UInt8)}{LL1:List (Nat×List UInt8)}{q:List (Nat×List UInt8)}{x:Nat×List UInt8}{b:Nat}(h1:LL1.map (·.2)=applyP l q):(LL1.set x.1 (b,x.2)).map (·.2)=applyP l (q++[x]):=by
 rw [applyP_snoc,←h1,List.map_set]
theorem mem_set' {l:List (Nat×List UInt8)}{pool:List (Nat×List UInt8)}{k:Nat}{x:Nat×List UInt8}(h:∀y∈l,y∈pool)(hx:x∈pool):∀y∈l.set k x,y∈pool:=fun y hy=>(List.mem_or_eq_of_mem_set hy).elim (h y) (fun e=>e▸hx)
end
end Go.Proofs
namespace Go.Vel
theorem rdv_at {w:World}{A:Option Addr}{ad:Addr}{vs:List Value}(h:RdV w A vs)(e:A=some ad)(h0:0<vs.length):∀j u,vs[j]?=some u→w.cell? (ad.add j)=some u:=by
 obtain ⟨ad',e',h'⟩:=h h0
 rw [e] at e';cases e';exact h'
end Go.Vel
end
section
open Go Go.RowKit Go.Proofs.YtgeioealgidkiaaW.PrintWords
namespace Go.Proofs
open Go.Vel
set_option linter.unusedVariables false
set_option maxRecDepth 100000
set_option maxHeartbeats 4000000
attribute [local irreducible] gives wpList Code.wp
section
variable {F:Nat→Prop} {w0 w:World} {L:List Ast}
theorem burnt_b {w:World}{g gd n c gm:Nat}{fused:Bool}{left life r wr fl rf pn:Int}{b:Bool}(HB:Blk w g (dcells gd n c gm fused left life r wr fl rf pn) 135)(hb:(fused&&decide (left=0))=b):
  Calls Try.prog 15 #[pq g] w fun e w'=>e=.returned (.bool b)∧w=w':=hb▸burnt_ro HB
theorem there_dead {g gd n c gm:Nat}{fused:Bool}{left life r wr fl rf pn:Int}{at_:Int}(hb:(fused&&decide (left=0))=true)(S:St F w0 w (row g (dcells gd n c gm fused left life r wr fl rf pn) 135::L)):
  Calls Try.prog 79 #[pq g,iv at_] w fun e w'=>e=.returned (iv 3)∧St F w0 w' (row g (dcells gd n c gm fused left life r wr fl rf pn) 135::L):=by
 change St F w0 w (row g #[sl gd 0 n c,.map (some gm),.bool fused,iv left,iv life,iv r,iv wr,iv fl,iv rf,iv pn] 135::L) at S
 refine eN (fr [pq g,iv at_] 22) Try.func79 rfl (sR (pv (iv 0) (wE (nS (sR (pv (pq g) (sO Try.func15 #[pq g] (burnt_b (b:=true) (S.blk 0 rfl) hb) (wE (nCT (sR (pv (iv 3) (wE (then_n ?_)))))))))))))
 exact rR (bA (iv 3) ⟨rfl,S⟩)
theorem there_out {g gd n c gm:Nat}{fused:Bool}{left life r wr fl rf pn:Int}{at_:Int}{m:Nat}(hb:(fused&&decide (left=0))=false)(hn:n=512*m)(hm:m≤2048)(ha:at_<0∨(m:Int)≤at_)(S:St F w0 w (row g (dcells gd n c gm fused left life r wr fl rf pn) 135::L)):
  Calls Try.prog 79 #[pq g,iv at_] w fun e w'=>e=.returned (iv 11)∧St F w0 w' (row g (dcells gd n c gm fused left life r wr fl (inc rf) pn) 135::L):=by
 change St F w0 w (row g #[sl gd 0 n c,.map (some gm),.bool fused,iv left,iv life,iv r,iv wr,iv fl,iv rf,iv pn] 135::L) at S
 refine eN (fr [pq g,iv at_] 22) Try.func79 rfl (sR (pv (iv 0) (wE (nS (sR (pv (pq g) (sO Try.func15 #[pq g] (burnt_b (b:=false) (S.blk 0 rfl) hb) (wE (nCF (wp_skip (nS (sR (pv (iv at_) (dC ((at_:Int)<0) (fun hb1=> ?_) fun hb1=> ?_))))))))))))))
 ·refine pv tv (wN (wN (wN (wN (pv tv (wE (nCT (sR (pv (pq g) (pv (pq g) (pv (po g 5) (pv (po g 8) (lR (iv rf) S 0 8 ?_)))))))))))))
  exact pv (iv (inc rf)) (pv (pq g) (pv (po g 5) (pv (po g 8) (sS S 0 rfl 8 (iv (inc rf)) fun w2 S3=>wER (pv (iv 11) (wE (then_n (rR (bA (iv 11) ⟨rfl,S3⟩)))))))))
 ·refine pv fv (pW (iv at_) (pW (pq g) (wl_when kr_ (gv_call (args:=#[pq g]) rfl Try.func14 kr_ rfl rfl kr_ (Calls.mono (sectors_ro (S.blk 0 rfl) hn hm) ?_)))))
  rintro _ _ ⟨rfl,rfl⟩
  refine ⟨_,rfl,(wl_when kr_ (gv_dec (p:=(at_:Int)≥((m:Nat):Int)) kr_ (fun _=>pv tv (wE (nCT (sR (pv (pq g) (pv (pq g) (pv (po g 5) (pv (po g 8) (lR (iv rf) S 0 8 (pv (iv (inc rf)) (pv (pq g) (pv (po g 5) ?_)))))))))))) (fun hd4=>False.elim om_)))⟩
  exact pv (po g 8) (sS S 0 rfl 8 (iv (inc rf)) fun w5 S6=>wER (pv (iv 11) (wE (then_n (rR (bA (iv 11) ⟨rfl,S6⟩))))))
theorem there_in {g gd n c gm:Nat}{fused:Bool}{left life r wr fl rf pn:Int}{k m:Nat}(hb:(fused&&decide (left=0))=false)(hn:n=512*m)(hm:m≤2048)(ha:k<m)(S:St F w0 w (row g (dcells gd n c gm fused left life r wr fl rf pn) 135::L)):
  Calls Try.prog 79 #[pq g,nI_ k] w fun e w'=>e=.returned (iv 0)∧St F w0 w' (row g (dcells gd n c gm fused left life r wr fl rf pn) 135::L):=by
 change St F w0 w (row g #[sl gd 0 n c,.map (some gm),.bool fused,iv left,iv life,iv r,iv wr,iv fl,iv rf,iv pn] 135::L) at S
 refine eN (fr [pq g,nI_ k] 22) Try.func79 rfl (sR (pv (iv 0) (wE (nS (sR (pv (pq g) (sO Try.func15 #[pq g] (burnt_b (b:=false) (S.blk 0 rfl) hb) (wE (nCF (wp_skip (nS (sR (pv (nI_ k) ?_)))))))))))))
 refine dC ((((k:Nat):Int):Int)<0) (fun hd1=>False.elim om_) fun _=>pv fv (pW (nI_ k) (pW (pq g) (wl_when kr_ (gv_call (args:=#[pq g]) rfl Try.func14 kr_ rfl rfl kr_ (Calls.mono (sectors_ro (S.blk 0 rfl) hn hm) ?_)))))
 rintro _ _ ⟨rfl,rfl⟩
 exact ⟨_,rfl,(wl_when kr_ (gv_dec (p:=(((k:Nat):Int):Int)≥((m:Nat):Int)) kr_ (fun hd2=>False.elim om_) (fun _=>pv fv (wE (nCF (wp_skip (nSR (pv (iv 0) (wE (then_n (wp_ret (bA (iv 0) ⟨rfl,S⟩))))))))))))⟩
theorem home_ro {w:World}{g gd n c gm:Nat}{fused:Bool}{left life r wr fl rf pn:Int}{k m:Nat}(HB:Blk w g (dcells gd n c gm fused left life r wr fl rf pn) 135)(hn:n=512*m)(hc:c=512*m)(hm:m≤2048)(ha:k<m):
  Calls Try.prog 114 #[pq g,nI_ k] w fun e w'=>e=.returned (.slice (some ⟨gd,512*k,none⟩) 512 (512*m-512*k))∧w=w':=by
 refine eN (fr [pq g,nI_ k] 13) Try.func114 rfl (sR (pv (nS_) (wER (pv (pq g) (pv (pq g) (pv (pq g) (lQ (sl gd 0 n c) ((HB.cell 0).trans rfl) (pv (nI_ k) (gI .i64 (IntKind.i64.wrap (((k:Nat):Int)*512)) ((512*k:Nat):Int) wq_ (pv (nI_ k) (gI .i64 (IntKind.i64.wrap (((k:Nat):Int)+1)) (((k:Nat):Int)+1) (wr_ok om_ om_) (gI .i64 (IntKind.i64.wrap ((((k:Nat):Int)+1)*512)) ((512*(k+1):Nat):Int) wq_ (g_ (gv_cutE (e:=5) (sz:=1) (g:=gd) (off:=0) (n:=n) (c:=c) (kl:=.i64) (kh:=.i64) (u:=((512*k:Nat):Int)) (v:=((512*(k+1):Nat):Int)) (lo:=(512*k)) (hi:=(512*(k+1))) (off':=(512*k)) (n':=512) (c':=(512*m-512*k)) rfl kr_ kr_ kr_ kr_ kr_ rfl rfl om_ om_ om_ om_ om_ om_ ?_))))))))))))))
 exact pv (sl gd (512*k) 512 (512*m-512*k)) (wE (then_n (wp_ret (bA (.slice (some ⟨gd,512*k,none⟩) 512 (512*m-512*k)) ⟨rfl,rfl⟩))))
theorem now_home {w:World}{g gd n c gm:Nat}{fused:Bool}{left life r wr fl rf pn:Int}{k m:Nat}(HB:Blk w g (dcells gd n c gm fused left life r wr fl rf pn) 135)(hn:n=512*m)(hc:c=512*m)(hm:m≤2048)(ha:k<m){es:List Ent}{clock:Nat}(hg:w.heap[gm]?=some (mapO es clock))(hno:∀e∈es,e.k≠((k:Nat):Int)):
  Calls Try.prog 80 #[pq g,nI_ k] w fun e w'=>e=.returned (.slice (some ⟨gd,512*k,none⟩) 512 (512*m-512*k))∧w=w':=by
 refine eN (fr [pq g,nI_ k] 22) Try.func80 rfl (sR (pv (nS_) (wE (nS (sR (pv (pq g) (pv (pq g) (pv (po g 1) (lQ (.map (some gm)) ((HB.cell 1).trans rfl) (pv (nI_ k) (g_ (gv_look_none (kT:=3) (eT:=42) (k:=((k:Nat):Int)) (z:=nS_) hg rfl kr_ kr_ kr_ kr_ kr_ hno (pv (nS_) (wER ?_))))))))))))))
 refine pv (nS_) (pv (iv 0) (dC ((0:Int)>0) (fun hd1=>False.elim om_) fun _=>wE (nCF (wp_skip (nSR (pv (pq g) (pv (nI_ k) (sO Try.func114 #[pq g,nI_ k] (home_ro HB hn hc hm ha) (pv (sl gd (512*k) 512 (512*m-512*k)) (wE (then_n (wp_ret ?_))))))))))))
 exact bA (.slice (some ⟨gd,512*k,none⟩) 512 (512*m-512*k)) ⟨rfl,rfl⟩
theorem now_pend {w:World}{g gd n c gm:Nat}{fused:Bool}{left life r wr fl rf pn:Int}{k:Nat}(HB:Blk w g (dcells gd n c gm fused left life r wr fl rf pn) 135){es:List Ent}{clock:Nat}(hg:w.heap[gm]?=some (mapO es clock)){j:Nat}{e0:Ent}(hj:es[j]?=some e0)(hk:e0.k=((k:Nat):Int))(hf:∀m e,m<j→es[m]?=some e→e.k≠((k:Nat):Int)){gb q cb:Nat}{cells:Array Value}{tb:TypeId}{X:Value}(hv:e0.v=.slice (some ⟨gb,0,none⟩) q cb)(hq:0<q)(hq2:q≤9223372036854775807)(HV:Blk w gb cells tb)(hX:cells[q-1]?=some X):
  Calls Try.prog 80 #[pq g,nI_ k] w fun e w'=>e=.returned X∧w=w':=by
 refine eN (fr [pq g,nI_ k] 22) Try.func80 rfl (sR (pv (nS_) (wE (nS (sR (pv (pq g) (pv (pq g) (pv (po g 1) (lQ (.map (some gm)) ((HB.cell 1).trans rfl) (pv (nI_ k) (g_ (gv_look_some (kT:=3) (eT:=42) (k:=((k:Nat):Int)) hg rfl kr_ kr_ kr_ kr_ hj hk hf ?_))))))))))))
 rw [hv]
 refine pv (sl gb 0 q cb) (wER (pv (sl gb 0 q cb) (pv (iv (q:Nat)) (dC (((q:Nat):Int)>0) (fun _=>wE (nCT (sR (pv (sl gb 0 q cb) (pv (sl gb 0 q cb) (pv (iv (q:Nat)) (gI .i64 (IntKind.i64.wrap ((q:Nat)-1)) ((q-1:Nat):Int) wq_ (g_ (gv_ixE (e:=31) (sz:=1) (g:=gb) (off:=0) (n:=q) (c:=cb) (i:=((q-1:Nat):Int)) (k:=.i64) (j:=(q-1)) (off':=(q-1)) rfl kr_ kr_ kr_ kr_ rfl om_ om_ (lQ X ((HV.cell (q-1)).trans hX) ?_)))))))))) fun hd1=>False.elim om_))))
 exact pv X (wE (then_n (rR (bA X ⟨rfl,rfl⟩))))
theorem take_own {g gd n c gm:Nat}{fused:Bool}{left life r wr fl rf pn:Int}(S:St F w0 w (row g (dcells gd n c gm fused left life r wr fl rf pn) 135::L)):
  Calls Try.prog 63 #[pq g] w fun e w'=>e=.returned (iv (inc life))∧St F w0 w' (row g (dcells gd n c gm fused left (inc life) r wr fl rf pn) 135::L):=by
 change St F w0 w (row g #[sl gd 0 n c,.map (some gm),.bool fused,iv left,iv life,iv r,iv wr,iv fl,iv rf,iv pn] 135::L) at S
 refine eN (fr [pq g] 13) Try.func63 rfl (sR (pv (iv 0) (wER (pv (pq g) (pv (pq g) (pv (po g 4) (lR (iv life) S 0 4 (pv (iv (inc life)) (pv (pq g) (pv (po g 4) (sS S 0 rfl 4 (iv (inc life)) fun w1 S2=>wER (pv (pq g) ?_))))))))))))
 exact pv (pq g) (pv (po g 4) (lR (iv (inc life)) S2 0 4 (pv (iv (inc life)) (wE (then_n (wp_ret (bA (iv (inc life)) ⟨rfl,S2⟩)))))))
theorem spend_true {g gd n c gm:Nat}{left life r wr fl rf pn:Int}(S:St F w0 w (row g (dcells gd n c gm true left life r wr fl rf pn) 135::L)):
  Calls Try.prog 83 #[pq g] w fun e w'=>e=.returned (.tuple #[])∧St F w0 w' (row g (dcells gd n c gm true (dec left) life r wr fl rf pn) 135::L):=by
 change St F w0 w (row g #[sl gd 0 n c,.map (some gm),.bool true,iv left,iv life,iv r,iv wr,iv fl,iv rf,iv pn] 135::L) at S
 refine eN (fr [pq g] 12) Try.func83 rfl (sR (pv (pq g) (pv (pq g) (pv (po g 2) (lR (.bool true) S 0 2 (wE (nCT (wp_region_lit (pv (pq g) (pv (pq g) (pv (po g 3) (lR (iv left) S 0 3 (pv (iv (dec left)) ?_)))))))))))))
 exact pv (pq g) (pv (po g 3) (sS S 0 rfl 3 (iv (dec left)) fun w1 S2=>wE (bodyPost_end (v:=.tuple #[]) (results_none rfl _ _ _) rfl ⟨rfl,S2⟩)))
theorem spend_false {g gd n c gm:Nat}{left life r wr fl rf pn:Int}(S:St F w0 w (row g (dcells gd n c gm false left life r wr fl rf pn) 135::L)):
  Calls Try.prog 83 #[pq g] w fun e w'=>e=.returned (.tuple #[])∧St F w0 w' (row g (dcells gd n c gm false left life r wr fl rf pn) 135::L):=by
 change St F w0 w (row g #[sl gd 0 n c,.map (some gm),.bool false,iv left,iv life,iv r,iv wr,iv fl,iv rf,iv pn] 135::L) at S
 exact eN (fr [pq g] 12) Try.func83 rfl (sR (pv (pq g) (pv (pq g) (pv (po g 2) (lR (.bool false) S 0 2 (wE (nCF (wp_skip (bodyPost_end (v:=.tuple #[]) (results_none rfl _ _ _) rfl ⟨rfl,S⟩)))))))))
end
section
variable {F:Nat→Prop} {w0 w:World} {L:List Ast}
def Dsk.fuseR (s:Dsk)(n:Int):Dsk:=if s.left=0 then s else {s with left:=if n<0 then-1 else n}
theorem pd_fuse {n:Int}(hn:n≤9223372036854775807){g:Nat}{s:Dsk}(S:St F w0 w (PDisk g s::L)):Calls Try.prog 67 #[.pointer (some ⟨g,0,none⟩),.int .i64 n] w fun e w'=>e=.returned (.tuple #[])∧St F w0 w' (PDisk g (s.fuseR n)::L):=by
 obtain ⟨gd,gm,clock,es,fused,left,hf,S⟩:=St.popen S
 have hn2:=hf.n2
 have hbu:=hf.burnt
 by_cases hz:s.left=0
 ·have e:s.fuseR n=s:=by unfold Dsk.fuseR;rw [if_pos hz]
  rw [e]
  have hb:(fused&&decide (left=0))=true:=by rw [hbu];exact decide_eq_true hz
  change St F w0 w (dR g gd (512*s.last.length) gm fused left s.life s.rd s.wr s.fl s.rf (s.pend.length:Int)::row gd (bvs s.last.flatten) 5::pt gm (mapO (es.map PEnt.ent) clock)::stars (es.map PEnt.ast)::L) at S
  exact eN (fr [pq g,iv n] 14) Try.func67 rfl (wp_seq (sR (pv (pq g) (sO Try.func15 #[pq g] (burnt_b (b:=true) (S.blk 0 rfl) hb) (wE (nCT (rR (bodyPost_ret (v:=.tuple #[]) (results_none rfl _ _ _) rfl ⟨rfl,St.pclose (gd:=gd) (gm:=gm) (clock:=clock) (es:=es) (fused:=fused) (left:=left) (s:=s) S (hf.congr rfl rfl rfl)⟩))))))))
 have hb:(fused&&decide (left=0))=false:=by rw [hbu];exact decide_eq_false hz
 have e:s.fuseR n={s with left:=if n<0 then-1 else n}:=by unfold Dsk.fuseR;rw [if_neg hz]
 rw [e]
 by_cases hneg:n<0
 ·rw [if_pos hneg]
  change St F w0 w (dR g gd (512*s.last.length) gm fused left s.life s.rd s.wr s.fl s.rf (s.pend.length:Int)::row gd (bvs s.last.flatten) 5::pt gm (mapO (es.map PEnt.ent) clock)::stars (es.map PEnt.ast)::L) at S
  refine eN (fr [pq g,iv n] 14) Try.func67 rfl (wp_seq (sR (pv (pq g) (sO Try.func15 #[pq g] (burnt_b (b:=false) (S.blk 0 rfl) hb) (wE (nCF (wp_skip (nSR (pv (pq g) (pv (iv n) (dC ((n:Int)≥0) (fun hd1=>False.elim om_) fun _=>pv (pq g) (pv (po g 2) ?_))))))))))))
  exact sS S 0 rfl 2 (.bool false) fun w2 S3=>wE (nR (pv (pq g) (pv (iv n) (gI .i64 (if 0>n then 0 else n) 0 (if_pos om_) (pv (pq g) (pv (po g 3) (sS S3 0 rfl 3 (iv 0) fun w4 S5=>wE (bodyPost_end (v:=.tuple #[]) (results_none rfl _ _ _) rfl ⟨rfl,St.pclose (gd:=gd) (gm:=gm) (clock:=clock) (es:=es) (fused:=false) (left:=0) (s:={s with left:= -1}) S5 (hf.refuse rfl rfl rfl (fun h=>absurd (show (0:Int)≤ -1 from h) dc_) (show (-1:Int)≤ -1∧(-1:Int)≤9223372036854775807 by decide))⟩))))))))
 ·rw [if_neg hneg]
  change St F w0 w (dR g gd (512*s.last.length) gm fused left s.life s.rd s.wr s.fl s.rf (s.pend.length:Int)::row gd (bvs s.last.flatten) 5::pt gm (mapO (es.map PEnt.ent) clock)::stars (es.map PEnt.ast)::L) at S
  refine eN (fr [pq g,iv n] 14) Try.func67 rfl (wp_seq (sR (pv (pq g) (sO Try.func15 #[pq g] (burnt_b (b:=false) (S.blk 0 rfl) hb) (wE (nCF (wp_skip (nSR (pv (pq g) (pv (iv n) (dC ((n:Int)≥0) (fun _=>pv (pq g) (pv (po g 2) ?_)) fun hd1=>False.elim om_)))))))))))
  exact sS S 0 rfl 2 (.bool true) fun w2 S3=>wE (nR (pv (pq g) (pv (iv n) (gI .i64 (if 0>n then 0 else n) n (if_neg om_) (pv (pq g) (pv (po g 3) (sS S3 0 rfl 3 (iv n) fun w4 S5=>wE (bodyPost_end (v:=.tuple #[]) (results_none rfl _ _ _) rfl ⟨rfl,St.pclose (gd:=gd) (gm:=gm) (clock:=clock) (es:=es) (fused:=true) (left:=n) (s:={s with left:=n}) S5 (hf.refuse rfl rfl (decide_eq_true (show (0:Int)≤n by omega)).symm (fun _=>rfl) (show-1≤n∧n≤9223372036854775807 by omega))⟩))))))))
theorem settle_own {g gd n c gm:Nat}{fused:Bool}{left life r wr fl rf pn:Int}{X:Ast}{es:List Ent}{clock:Nat}(S:St F w0 w (row g (dcells gd n c gm fused left life r wr fl rf pn) 135::X::pt gm (mapO es clock)::L)):
  Calls Try.prog 116 #[pq g] w fun e w'=>e=.returned (.tuple #[])∧St F w0 w' (row g (dcells gd n c gm fused left life r wr fl rf 0) 135::X::pt gm (mapO [] clock)::L):=by
 change St F w0 w (row g #[sl gd 0 n c,.map (some gm),.bool fused,iv left,iv life,iv r,iv wr,iv fl,iv rf,iv pn] 135::X::pt gm (mapO es clock)::L) at S
 refine eN (fr [pq g] 9) Try.func116 rfl (sR (pv (pq g) (pv (pq g) (pv (po g 1) (lR (.map (some gm)) S 0 1 (g_ (gv_clear (kT:=3) (eT:=42) (g:=gm) (clock:=clock) (es:=es) S 2 rfl rfl kr_ kr_ (L':=(row g #[sl gd 0 n c,.map (some gm),.bool fused,iv left,iv life,iv r,iv wr,iv fl,iv rf,iv pn] 135::X::pt gm (mapO [] clock)::L)) rfl (fun w1 S2=>wE (nR (pv (pq g) (pv (pq g) (pv (po g 5) (pv (po g 9) (sS S2 0 rfl 9 (iv 0) fun w3 S4=> ?_))))))))))))))
 exact wE (bodyPost_end (v:=.tuple #[]) (results_none rfl _ _ _) rfl ⟨rfl,S4⟩)
theorem pd_flush {g:Nat}{s:Dsk}(S:St F w0 w (PDisk g s::L)):Calls Try.prog 87 #[.pointer (some ⟨g,0,none⟩)] w fun e w'=>e=.returned (.int .i64 s.flushR.2)∧St F w0 w' (PDisk g s.flushR.1::L):=by
 obtain ⟨gd,gm,clock,es,fused,left,hf,S⟩:=St.popen S
 have hn2:=hf.n2
 have hbu:=hf.burnt
 by_cases hz:s.left=0
 ·have e:s.flushR=(s,3):=by unfold Dsk.flushR;rw [if_pos hz]
  rw [e]
  have hb:(fused&&decide (left=0))=true:=by rw [hbu];exact decide_eq_true hz
  change St F w0 w (dR g gd (512*s.last.length) gm fused left s.life s.rd s.wr s.fl s.rf (s.pend.length:Int)::row gd (bvs s.last.flatten) 5::pt gm (mapO (es.map PEnt.ent) clock)::stars (es.map PEnt.ast)::L) at S
  refine eN (fr [pq g] 34) Try.func87 rfl (sR (pv (iv 0) (wE (nS (sR (pv (pq g) (sO Try.func15 #[pq g] (burnt_b (b:=true) (S.blk 0 rfl) hb) (wE (nCT (sR (pv (iv 3) (wE (then_n ?_)))))))))))))
  exact rR (bA (iv 3) ⟨rfl,St.pclose (gd:=gd) (gm:=gm) (clock:=clock) (es:=es) (fused:=fused) (left:=left) (s:=s) S (hf.congr rfl rfl rfl)⟩)
 have hb:(fused&&decide (left=0))=false:=by rw [hbu];exact decide_eq_false hz
 have e:s.flushR=({s with last:=applyP s.last s.pend,pend:=[],fl:=inc s.fl,left:=spent s.left},0):=by unfold Dsk.flushR;rw [if_neg hz]
 rw [e]
 have hlb:=spent_lb hf.lb hz
 have hlenA:∀ps:List PEnt,(∀p∈ps,p∈es)→(applyP s.last (ps.map PEnt.top)).length=s.last.length∧∀l∈applyP s.last (ps.map PEnt.top),l.length=512:=fun ps hps=>by
  refine ⟨length_applyP _ _,applyP_all _ _ hf.len (fun x hx=> ?_)⟩
  obtain ⟨q,hq,rfl⟩:=List.mem_map.1 hx
  obtain ⟨j,hj,_,_,_,_,hne,h5,_⟩:=hf.find_mem (hps q hq)
  obtain ⟨y,_,hyl,hym⟩:=last_some (f:=Prod.snd) hne
  show (((q.ws.map (·.2)).getLast?).getD []).length=512
  rw [hyl];exact h5 y hym
 rcases hf.spend hz with ⟨rfl,hdc,hde⟩|⟨rfl,hdc,hde⟩
 ·change St F w0 w (dR g gd (512*s.last.length) gm true left s.life s.rd s.wr s.fl s.rf (s.pend.length:Int)::row gd (bvs s.last.flatten) 5::pt gm (mapO (es.map PEnt.ent) clock)::stars (es.map PEnt.ast)::L) at S
  refine eN (fr [pq g] 34) Try.func87 rfl (sR (pv (iv 0) (wE (nS (sR (pv (pq g) (sO Try.func15 #[pq g] (burnt_b (b:=false) (S.blk 0 rfl) hb) (wE (nCF (wp_skip (nS (sR (pv (pq g) ?_)))))))))))))
  refine pv (pq g) (pv (po g 1) (lR (.map (some gm)) S 0 1 (g_ (gv_range (kT:=3) (eT:=42) (g:=gm) (clock:=clock) (es:=es.map PEnt.ent) S 2 rfl rfl kr_ kr_ (fun gi1 w2 hg3 S4=>wE (then_n (wp_block (wp_loop_g (G:=List PEnt) (fun (g_:List PEnt) (a_:Act) (w_:World)=>∃J:Nat→Value,a_=(fr ([pq g,ud,iv 0,J 3,pq g,fv,pq g,pq g,po g 1,.map (some gm),pq gi1]++jR J 11 11) 13)∧St F w0 w_ (pt gi1 (iterO gm clock (g_.map (·.b)))::dR g gd (512*s.last.length) gm true left s.life s.rd s.wr s.fl s.rf (s.pend.length:Int)::row gd (bvs (applyP s.last ((g_).map PEnt.top)).flatten) 5::pt gm (mapO (es.map PEnt.ent) clock)::stars (es.map PEnt.ast)::L)∧(∀p∈g_,p∈es)) (fun g_=>(leftE (es.map PEnt.ent) (g_.map (·.b))).length) [] (jE_ ⟨S4,(fun p hp=>by cases hp)⟩) ?_))))))))
  rintro ps a_ w5 ⟨J,rfl,S6,hI7⟩
  skip
  have S6:St F w0 w5 (pt gi1 (iterO gm clock (ps.map (·.b)))::dR g gd (512*s.last.length) gm true left s.life s.rd s.wr s.fl s.rf (s.pend.length:Int)::row gd (bvs (applyP s.last ((ps).map PEnt.top)).flatten) 5::pt gm (mapO (es.map PEnt.ent) clock)::stars (es.map PEnt.ast)::L):=S6
  have hI7:(∀p∈ps,p∈es):=hI7
  refine sR (g_ (gv_next (g:=gm) (clock:=clock) (es:=es.map PEnt.ent) (gi:=gi1) (seen:=ps.map (·.b)) S6 0 3 rfl rfl (fun e he=>by obtain ⟨p,hp,rfl⟩:=List.mem_map.1 he;exact hf.born p hp) rfl kr_ (fun hl=> ?_) (fun e w8 hel S9=> ?_)))
  ·refine pv fv (wE (nS (cF (wp_exit (then_x (then_x (inb_x (nSR (pv (pq g) (g_ (gv_call (args:=#[pq g]) rfl Try.func116 kr_ rfl rfl kr_ ?_)))))))))))
   have hfd:=hf.flushed hI7 hl
   have S10:St F w0 w5 (dR g gd (512*s.last.length) gm true left s.life s.rd s.wr s.fl s.rf (s.pend.length:Int)::row gd (bvs (applyP s.last ((ps).map PEnt.top)).flatten) 5::pt gm (mapO (es.map PEnt.ent) clock)::L):=St.pm 5 [1,2,3] S6
   rw [hfd] at S10
   refine Calls.mono (settle_own S10) ?_
   rintro _ w11 ⟨rfl,S12⟩
   refine ⟨_,rfl,(wER (pv (pq g) (pv (pq g) (pv (po g 5) (pv (po g 7) (lR (iv s.fl) S12 0 7 (pv (iv (inc s.fl)) (pv (pq g) (pv (po g 5) (pv (po g 7) (sS S12 0 rfl 7 (iv (inc s.fl)) fun w13 S14=>wER (pv (pq g) ?_))))))))))))⟩
   refine sP Try.func83 #[pq g] (spend_true S14) fun w15 S16=>wER (pv (iv 0) (wE (then_n (wp_ret (bA (iv 0) ?_)))))
   have hlf:(applyP s.last s.pend).length=s.last.length:=length_applyP _ _
   rw [←hlf] at S16
   have S9:=St.rot (LA:=[_,_,_]) (St.star_nil S16)
   exact ⟨rfl,St.pclose (gd:=gd) (gm:=gm) (clock:=clock) (es:=[]) (fused:=true) (left:=dec left) (s:={s with last:=applyP s.last s.pend,pend:=[],fl:=inc s.fl,left:=spent s.left}) S9 (PFacts.settled (s':={s with last:=applyP s.last s.pend,pend:=[],fl:=inc s.fl,left:=spent s.left}) hf hlf (applyP_all _ _ hf.len (fun x hx=>(hf.plen x hx).1)) rfl hdc.symm (fun _=>hde) hlb)⟩
  ·obtain ⟨p,hpe,rfl,hpn⟩:=mem_left hel
   obtain ⟨j,hj,hje,hke,hfe,hk,hne,hx512,hle⟩:=hf.find_mem hpe
   obtain ⟨x,hx,hxl,hxm⟩:=last_some (f:=Prod.snd) hne
   have hx5:=hx512 x hxm
   have hq0:=List.length_pos_iff.2 hne
   have hqm:p.ws.length≤9223372036854775807:=by have:=hf.pn;omega
   have hA:=hlenA ps hI7
   have hfl:=flat_len hA.2
   rw [hA.1] at hfl
   have hdn:(applyP s.last (ps.map PEnt.top)).flatten.length=512*s.last.length:=hfl
   refine pv tv (wE (nS (cT (kN (wp_block (sR (g_ (gv_entry (g:=gm) (clock:=clock) (es:=es.map PEnt.ent) (gi:=gi1) (seen:=ps.map (·.b)) (e:=p.ent) S9 0 3 rfl rfl rfl kr_ (List.mem_map.2 ⟨p,hpe,rfl⟩) (fun y hy hb=>by obtain ⟨q,hq,rfl⟩:=List.mem_map.1 hy;rw [hf.injB hq hpe hb]) (pv (nI_ p.at_) (pv (nI_ p.at_) (wE (nR (pv (pq g) (pv (nI_ p.at_) ?_))))))))))))))
   refine sO Try.func114 #[pq g,nI_ p.at_] (home_ro (S9.blk 1 rfl) rfl rfl hn2 hk) (pv (pq g) (pv (nI_ p.at_) (g_ (gv_call (args:=#[pq g,nI_ p.at_]) rfl Try.func80 kr_ rfl rfl kr_ ?_))))
   obtain ⟨gb,cb,cells,hv,HV,hcell,hdat⟩:=pend_facts S9 4 rfl hj hne
   refine Calls.mono (now_pend (S9.blk 1 rfl) (S9.get 3 rfl) hje hke hfe hv hq0 hqm HV (hcell _ _ hx)) ?_
   rintro _ _ ⟨rfl,rfl⟩
   refine ⟨_,rfl,(g_ (gv_copy (e:=5) (off:=512*p.at_) (dLen:=512) (dCap:=(512*s.last.length-512*p.at_)) (sLen:=512) (sCap:=512) (A:=(some ⟨x.1,0,none⟩)) (B:=((applyP s.last (ps.map PEnt.top)).flatten)) (l:=x.2) S9 2 rfl rfl kr_ kr_ kr_ kr_ hx5.symm (RdB.row (hdat x hxm) 0 512 _ (by rw [List.drop_zero,List.take_of_length_le om_])) (by rw [hdn];omega) (L':=(pt gi1 (iterO gm clock (ps.map (·.b)++[p.b]))::dR g gd (512*s.last.length) gm true left s.life s.rd s.wr s.fl s.rf (s.pend.length:Int)::row gd (bvs ((applyP s.last ((ps++[p]).map PEnt.top)).flatten)) 5::pt gm (mapO (es.map PEnt.ent) clock)::stars (es.map PEnt.ast)::L)) (by rw [List.take_of_length_le om_,flat_set hA.2 _ _ (by rw [hA.1];exact hk) hx5,List.map_append,List.map_cons,List.map_nil,applyP_snoc];show _=_;rw [show (PEnt.top p)=(p.at_,x.2) from by unfold PEnt.top;rw [hxl];rfl];rfl) (fun w17 m19 S18=>wE (iN ?_))))⟩
   rw [show ps.map (·.b)++[p.b]=(ps++[p]).map (·.b) from by rw [List.map_append];rfl] at S18
   exact ⟨ps++[p],(jE_ ⟨S18,(fun q hq=>(List.mem_append.1 hq).elim (hI7 q) (fun h=>(List.mem_singleton.1 h)▸hpe))⟩),(by show (leftE _ ((ps++[p]).map (·.b))).length<_;rw [List.map_append];exact left_less hel)⟩
 ·change St F w0 w (dR g gd (512*s.last.length) gm false left s.life s.rd s.wr s.fl s.rf (s.pend.length:Int)::row gd (bvs s.last.flatten) 5::pt gm (mapO (es.map PEnt.ent) clock)::stars (es.map PEnt.ast)::L) at S
  refine eN (fr [pq g] 34) Try.func87 rfl (sR (pv (iv 0) (wE (nS (sR (pv (pq g) (sO Try.func15 #[pq g] (burnt_b (b:=false) (S.blk 0 rfl) hb) (wE (nCF (wp_skip (nS (sR (pv (pq g) ?_)))))))))))))
  refine pv (pq g) (pv (po g 1) (lR (.map (some gm)) S 0 1 (g_ (gv_range (kT:=3) (eT:=42) (g:=gm) (clock:=clock) (es:=es.map PEnt.ent) S 2 rfl rfl kr_ kr_ (fun gi1 w2 hg3 S4=>wE (then_n (wp_block (wp_loop_g (G:=List PEnt) (fun (g_:List PEnt) (a_:Act) (w_:World)=>∃J:Nat→Value,a_=(fr ([pq g,ud,iv 0,J 3,pq g,fv,pq g,pq g,po g 1,.map (some gm),pq gi1]++jR J 11 11) 13)∧St F w0 w_ (pt gi1 (iterO gm clock (g_.map (·.b)))::dR g gd (512*s.last.length) gm false left s.life s.rd s.wr s.fl s.rf (s.pend.length:Int)::row gd (bvs (applyP s.last ((g_).map PEnt.top)).flatten) 5::pt gm (mapO (es.map PEnt.ent) clock)::stars (es.map PEnt.ast)::L)∧(∀p∈g_,p∈es)) (fun g_=>(leftE (es.map PEnt.ent) (g_.map (·.b))).length) [] (jE_ ⟨S4,(fun p hp=>by cases hp)⟩) ?_))))))))
  rintro ps a_ w5 ⟨J,rfl,S6,hI7⟩
  skip
  have S6:St F w0 w5 (pt gi1 (iterO gm clock (ps.map (·.b)))::dR g gd (512*s.last.length) gm false left s.life s.rd s.wr s.fl s.rf (s.pend.length:Int)::row gd (bvs (applyP s.last ((ps).map PEnt.top)).flatten) 5::pt gm (mapO (es.map PEnt.ent) clock)::stars (es.map PEnt.ast)::L):=S6
  have hI7:(∀p∈ps,p∈es):=hI7
  refine sR (g_ (gv_next (g:=gm) (clock:=clock) (es:=es.map PEnt.ent) (gi:=gi1) (seen:=ps.map (·.b)) S6 0 3 rfl rfl (fun e he=>by obtain ⟨p,hp,rfl⟩:=List.mem_map.1 he;exact hf.born p hp) rfl kr_ (fun hl=> ?_) (fun e w8 hel S9=> ?_)))
  ·refine pv fv (wE (nS (cF (wp_exit (then_x (then_x (inb_x (nSR (pv (pq g) (g_ (gv_call (args:=#[pq g]) rfl Try.func116 kr_ rfl rfl kr_ ?_)))))))))))
   have hfd:=hf.flushed hI7 hl
   have S10:St F w0 w5 (dR g gd (512*s.last.length) gm false left s.life s.rd s.wr s.fl s.rf (s.pend.length:Int)::row gd (bvs (applyP s.last ((ps).map PEnt.top)).flatten) 5::pt gm (mapO (es.map PEnt.ent) clock)::L):=St.pm 5 [1,2,3] S6
   rw [hfd] at S10
   refine Calls.mono (settle_own S10) ?_
   rintro _ w11 ⟨rfl,S12⟩
   refine ⟨_,rfl,(wER (pv (pq g) (pv (pq g) (pv (po g 5) (pv (po g 7) (lR (iv s.fl) S12 0 7 (pv (iv (inc s.fl)) (pv (pq g) (pv (po g 5) (pv (po g 7) (sS S12 0 rfl 7 (iv (inc s.fl)) fun w13 S14=>wER (pv (pq g) ?_))))))))))))⟩
   refine sP Try.func83 #[pq g] (spend_false S14) fun w15 S16=>wER (pv (iv 0) (wE (then_n (wp_ret (bA (iv 0) ?_)))))
   have hlf:(applyP s.last s.pend).length=s.last.length:=length_applyP _ _
   rw [←hlf] at S16
   have S9:=St.rot (LA:=[_,_,_]) (St.star_nil S16)
   exact ⟨rfl,St.pclose (gd:=gd) (gm:=gm) (clock:=clock) (es:=[]) (fused:=false) (left:=left) (s:={s with last:=applyP s.last s.pend,pend:=[],fl:=inc s.fl,left:=spent s.left}) S9 (PFacts.settled (s':={s with last:=applyP s.last s.pend,pend:=[],fl:=inc s.fl,left:=spent s.left}) hf hlf (applyP_all _ _ hf.len (fun x hx=>(hf.plen x hx).1)) rfl hdc.symm (fun h=>absurd h (of_decide_eq_false hdc)) hlb)⟩
  ·obtain ⟨p,hpe,rfl,hpn⟩:=mem_left hel
   obtain ⟨j,hj,hje,hke,hfe,hk,hne,hx512,hle⟩:=hf.find_mem hpe
   obtain ⟨x,hx,hxl,hxm⟩:=last_some (f:=Prod.snd) hne
   have hx5:=hx512 x hxm
   have hq0:=List.length_pos_iff.2 hne
   have hqm:p.ws.length≤9223372036854775807:=by have:=hf.pn;omega
   have hA:=hlenA ps hI7
   have hfl:=flat_len hA.2
   rw [hA.1] at hfl
   have hdn:(applyP s.last (ps.map PEnt.top)).flatten.length=512*s.last.length:=hfl
   refine pv tv (wE (nS (cT (kN (wp_block (sR (g_ (gv_entry (g:=gm) (clock:=clock) (es:=es.map PEnt.ent) (gi:=gi1) (seen:=ps.map (·.b)) (e:=p.ent) S9 0 3 rfl rfl rfl kr_ (List.mem_map.2 ⟨p,hpe,rfl⟩) (fun y hy hb=>by obtain ⟨q,hq,rfl⟩:=List.mem_map.1 hy;rw [hf.injB hq hpe hb]) (pv (nI_ p.at_) (pv (nI_ p.at_) (wE (nR (pv (pq g) (pv (nI_ p.at_) ?_))))))))))))))
   refine sO Try.func114 #[pq g,nI_ p.at_] (home_ro (S9.blk 1 rfl) rfl rfl hn2 hk) (pv (pq g) (pv (nI_ p.at_) (g_ (gv_call (args:=#[pq g,nI_ p.at_]) rfl Try.func80 kr_ rfl rfl kr_ ?_))))
   obtain ⟨gb,cb,cells,hv,HV,hcell,hdat⟩:=pend_facts S9 4 rfl hj hne
   refine Calls.mono (now_pend (S9.blk 1 rfl) (S9.get 3 rfl) hje hke hfe hv hq0 hqm HV (hcell _ _ hx)) ?_
   rintro _ _ ⟨rfl,rfl⟩
   refine ⟨_,rfl,(g_ (gv_copy (e:=5) (off:=512*p.at_) (dLen:=512) (dCap:=(512*s.last.length-512*p.at_)) (sLen:=512) (sCap:=512) (A:=(some ⟨x.1,0,none⟩)) (B:=((applyP s.last (ps.map PEnt.top)).flatten)) (l:=x.2) S9 2 rfl rfl kr_ kr_ kr_ kr_ hx5.symm (RdB.row (hdat x hxm) 0 512 _ (by rw [List.drop_zero,List.take_of_length_le om_])) (by rw [hdn];omega) (L':=(pt gi1 (iterO gm clock (ps.map (·.b)++[p.b]))::dR g gd (512*s.last.length) gm false left s.life s.rd s.wr s.fl s.rf (s.pend.length:Int)::row gd (bvs ((applyP s.last ((ps++[p]).map PEnt.top)).flatten)) 5::pt gm (mapO (es.map PEnt.ent) clock)::stars (es.map PEnt.ast)::L)) (by rw [List.take_of_length_le om_,flat_set hA.2 _ _ (by rw [hA.1];exact hk) hx5,List.map_append,List.map_cons,List.map_nil,applyP_snoc];show _=_;rw [show (PEnt.top p)=(p.at_,x.2) from by unfold PEnt.top;rw [hxl];rfl];rfl) (fun w17 m19 S18=>wE (iN ?_))))⟩
   rw [show ps.map (·.b)++[p.b]=(ps++[p]).map (·.b) from by rw [List.map_append];rfl] at S18
   exact ⟨ps++[p],(jE_ ⟨S18,(fun q hq=>(List.mem_append.1 hq).elim (hI7 q) (fun h=>(List.mem_singleton.1 h)▸hpe))⟩),(by show (leftE _ ((ps++[p]).map (·.b))).length<_;rw [List.map_append];exact left_less hel)⟩
end
section
variable {F:Nat→Prop} {w0 w:World} {L:List Ast}
theorem rd_burnt {g:Nat}{s:Dsk}(S:St F w0 w (RDisk g s::L)):Calls Try.prog 123 #[.pointer (some ⟨g,0,none⟩)] w fun e w'=>e=.returned (.bool (decide (s.left=0)))∧St F w0 w' (RDisk g s::L):=by
 obtain ⟨gl,cl,c2,A2,junk,LL,PP,pool,hf,hcl,hju,S⟩:=St.ropen S
 have hn2:=hf.n2
 have hll:=hf.ll
 have hpp:=hf.pp
 have hpn:=hf.pn
 change St F w0 w (rR2 g gl LL.length cl (.slice A2 PP.length c2) s.left s.life s.rd s.wr s.fl s.rf 0::row gl ((LL.map PEnt.val++junk).toArray) 31::vec 143 2 (.slice A2 PP.length c2) PP.length (putsV PP)::stars (pool.map PEnt.row)::L) at S
 refine eN (fr [pq g] 7) Try.func123 rfl (sR (pv fv (wER (pv (pq g) (pv (pq g) (pv (po g 2) (lR (iv s.left) S 0 2 (dE s.left 0 (fun hb=> ?_) fun hb=> ?_))))))))
 ·exact pv tv (wE (then_n (wp_ret (bA (.bool true) ⟨by rw [decide_eq_true hb],St.rclose (gl:=gl) (cl:=cl) (c2:=c2) (A2:=A2) (junk:=junk) (LL:=LL) (PP:=PP) (pool:=pool) (s:=s) S (hf.upd rfl rfl hf.lb) hcl hju⟩))))
 ·exact pv fv (wE (then_n (wp_ret (bA (.bool false) ⟨by rw [decide_eq_false hb],St.rclose (gl:=gl) (cl:=cl) (c2:=c2) (A2:=A2) (junk:=junk) (LL:=LL) (PP:=PP) (pool:=pool) (s:=s) S (hf.upd rfl rfl hf.lb) hcl hju⟩))))
theorem rd_life {g:Nat}{s:Dsk}(S:St F w0 w (RDisk g s::L)):Calls Try.prog 124 #[.pointer (some ⟨g,0,none⟩)] w fun e w'=>e=.returned (.int .i64 s.life)∧St F w0 w' (RDisk g s::L):=by
 obtain ⟨gl,cl,c2,A2,junk,LL,PP,pool,hf,hcl,hju,S⟩:=St.ropen S
 have hn2:=hf.n2
 have hll:=hf.ll
 have hpp:=hf.pp
 have hpn:=hf.pn
 change St F w0 w (rR2 g gl LL.length cl (.slice A2 PP.length c2) s.left s.life s.rd s.wr s.fl s.rf 0::row gl ((LL.map PEnt.val++junk).toArray) 31::vec 143 2 (.slice A2 PP.length c2) PP.length (putsV PP)::stars (pool.map PEnt.row)::L) at S
 exact eN (fr [pq g] 6) Try.func124 rfl (sR (pv (iv 0) (wER (pv (pq g) (pv (pq g) (pv (po g 3) (lR (iv s.life) S 0 3 (pv (iv s.life) (wE (then_n (wp_ret (bA (iv s.life) ⟨rfl,St.rclose (gl:=gl) (cl:=cl) (c2:=c2) (A2:=A2) (junk:=junk) (LL:=LL) (PP:=PP) (pool:=pool) (s:=s) S (hf.upd rfl rfl hf.lb) hcl hju⟩))))))))))))
theorem rd_sectors {g:Nat}{s:Dsk}(S:St F w0 w (RDisk g s::L)):Calls Try.prog 126 #[.pointer (some ⟨g,0,none⟩)] w fun e w'=>e=.returned (.int .i64 (s.last.length:Int))∧St F w0 w' (RDisk g s::L):=by
 obtain ⟨gl,cl,c2,A2,junk,LL,PP,pool,hf,hcl,hju,S⟩:=St.ropen S
 have hn2:=hf.n2
 have hll:=hf.ll
 have hpp:=hf.pp
 have hpn:=hf.pn
 change St F w0 w (rR2 g gl LL.length cl (.slice A2 PP.length c2) s.left s.life s.rd s.wr s.fl s.rf 0::row gl ((LL.map PEnt.val++junk).toArray) 31::vec 143 2 (.slice A2 PP.length c2) PP.length (putsV PP)::stars (pool.map PEnt.row)::L) at S
 exact eN (fr [pq g] 7) Try.func126 rfl (sR (pv (iv 0) (wER (pv (pq g) (pv (pq g) (pv (pq g) (lR (sl gl 0 LL.length cl) S 0 0 (pv (iv (LL.length:Nat)) (pv (iv (LL.length:Nat)) (wE (then_n (wp_ret (bA (iv (LL.length:Nat)) ⟨by rw [hll],St.rclose (gl:=gl) (cl:=cl) (c2:=c2) (A2:=A2) (junk:=junk) (LL:=LL) (PP:=PP) (pool:=pool) (s:=s) S (hf.upd rfl rfl hf.lb) hcl hju⟩)))))))))))))
theorem rd_take {g:Nat}{s:Dsk}(S:St F w0 w (RDisk g s::L)):Calls Try.prog 90 #[.pointer (some ⟨g,0,none⟩)] w fun e w'=>e=.returned (.int .i64 (inc s.life))∧St F w0 w' (RDisk g ({s with life:=inc s.life})::L):=by
 obtain ⟨gl,cl,c2,A2,junk,LL,PP,pool,hf,hcl,hju,S⟩:=St.ropen S
 have hn2:=hf.n2
 have hll:=hf.ll
 have hpp:=hf.pp
 have hpn:=hf.pn
 change St F w0 w (rR2 g gl LL.length cl (.slice A2 PP.length c2) s.left s.life s.rd s.wr s.fl s.rf 0::row gl ((LL.map PEnt.val++junk).toArray) 31::vec 143 2 (.slice A2 PP.length c2) PP.length (putsV PP)::stars (pool.map PEnt.row)::L) at S
 refine eN (fr [pq g] 13) Try.func90 rfl (sR (pv (iv 0) (wER (pv (pq g) (pv (pq g) (pv (po g 3) (lR (iv s.life) S 0 3 (pv (iv (inc s.life)) (pv (pq g) (pv (po g 3) (sS S 0 rfl 3 (iv (inc s.life)) fun w1 S2=>wER (pv (pq g) ?_))))))))))))
 exact pv (pq g) (pv (po g 3) (lR (iv (inc s.life)) S2 0 3 (pv (iv (inc s.life)) (wE (then_n (wp_ret (bA (iv (inc s.life)) ⟨rfl,St.rclose (gl:=gl) (cl:=cl) (c2:=c2) (A2:=A2) (junk:=junk) (LL:=LL) (PP:=PP) (pool:=pool) (s:=({s with life:=inc s.life})) S2 (hf.upd rfl rfl hf.lb) hcl hju⟩)))))))
theorem rd_counts {g:Nat}{s:Dsk}(S:St F w0 w (RDisk g s::L)):Calls Try.prog 125 #[.pointer (some ⟨g,0,none⟩)] w fun e w'=>e=.returned (.agg #[.int .i64 s.rd,.int .i64 s.wr,.int .i64 s.fl,.int .i64 s.rf,.int .i64 (s.pend.length:Int)])∧St F w0 w' (RDisk g s::L):=by
 obtain ⟨gl,cl,c2,A2,junk,LL,PP,pool,hf,hcl,hju,S⟩:=St.ropen S
 have hn2:=hf.n2
 have hll:=hf.ll
 have hpp:=hf.pp
 have hpn:=hf.pn
 change St F w0 w (rR2 g gl LL.length cl (.slice A2 PP.length c2) s.left s.life s.rd s.wr s.fl s.rf 0::row gl ((LL.map PEnt.val++junk).toArray) 31::vec 143 2 (.slice A2 PP.length c2) PP.length (putsV PP)::stars (pool.map PEnt.row)::L) at S
 refine eN (fr [pq g] 14) Try.func125 rfl (sR (nW rfl (.agg #[iv 0,iv 0,iv 0,iv 0,iv 0]) S fun g1 w2 hg3 S4=>wER (pv (pq g) (pv (pq g) (pv (po g 4) (g_ (gv_ldA (k:=4) (n:=5) (vs:=[iv s.rd,iv s.wr,iv s.fl,iv s.rf,iv 0]) S4 1 rfl rfl kr_ kr_ rfl rfl (nW rfl (.agg #[iv 0,iv 0,iv 0,iv 0,iv 0]) S4 fun g5 w6 hg7 S8=>g_ (gv_stA (k:=0) (vs:=[iv s.rd,iv s.wr,iv s.fl,iv s.rf,iv 0]) S8 0 rfl rfl kr_ kr_ kr_ rfl (by simp [Value.oneCell']) (Nat.le_of_ble_eq_true kr_) (L':=(row g5 #[iv s.rd,iv s.wr,iv s.fl,iv s.rf,iv 0] 29::row g1 #[iv 0,iv 0,iv 0,iv 0,iv 0] 29::rR2 g gl LL.length cl (.slice A2 PP.length c2) s.left s.life s.rd s.wr s.fl s.rf 0::row gl ((LL.map PEnt.val++junk).toArray) 31::vec 143 2 (.slice A2 PP.length c2) PP.length (putsV PP)::stars (pool.map PEnt.row)::L)) rfl (fun w9 S10=>wER (pv (pq g) (pv (pq g) (pv (po g 1) ?_)))))))))))))
 exact lR (.slice A2 PP.length c2) S10 2 1 (pv (iv (PP.length:Nat)) (pv (po g5 4) (sS S10 0 rfl 4 (iv (PP.length:Nat)) fun w11 S12=>wER (g_ (gv_ldA (k:=0) (n:=5) (vs:=[iv s.rd,iv s.wr,iv s.fl,iv s.rf,iv (PP.length:Nat)]) S12 0 rfl rfl kr_ kr_ rfl rfl (g_ (gv_stA (k:=0) (vs:=[iv s.rd,iv s.wr,iv s.fl,iv s.rf,iv (PP.length:Nat)]) S12 1 rfl rfl kr_ kr_ kr_ rfl (by simp [Value.oneCell']) (Nat.le_of_ble_eq_true kr_) (L':=(row g5 #[iv s.rd,iv s.wr,iv s.fl,iv s.rf,iv (PP.length:Nat)] 29::row g1 #[iv s.rd,iv s.wr,iv s.fl,iv s.rf,iv (PP.length:Nat)] 29::rR2 g gl LL.length cl (.slice A2 PP.length c2) s.left s.life s.rd s.wr s.fl s.rf 0::row gl ((LL.map PEnt.val++junk).toArray) 31::vec 143 2 (.slice A2 PP.length c2) PP.length (putsV PP)::stars (pool.map PEnt.row)::L)) rfl (fun w13 S14=>wE (then_n (wp_ret (bodyPost_ret (v:=.agg #[iv s.rd,iv s.wr,iv s.fl,iv s.rf,iv (PP.length:Nat)]) (results_cell1 rfl _ (S14.get 1 rfl) kr_ kr_) rfl ⟨by rw [←hpp],St.rclose (gl:=gl) (cl:=cl) (c2:=c2) (A2:=A2) (junk:=junk) (LL:=LL) (PP:=PP) (pool:=pool) (s:=s) (St.tail (St.tail S14)) (hf.upd rfl rfl hf.lb) hcl hju⟩)))))))))))
theorem rd_fuse {n:Int}(hn:n≤9223372036854775807){g:Nat}{s:Dsk}(S:St F w0 w (RDisk g s::L)):Calls Try.prog 89 #[.pointer (some ⟨g,0,none⟩),.int .i64 n] w fun e w'=>e=.returned (.tuple #[])∧St F w0 w' (RDisk g (s.fuseR n)::L):=by
 obtain ⟨gl,cl,c2,A2,junk,LL,PP,pool,hf,hcl,hju,S⟩:=St.ropen S
 have hn2:=hf.n2
 have hll:=hf.ll
 have hpp:=hf.pp
 have hpn:=hf.pn
 by_cases hz:s.left=0
 ·have e:s.fuseR n=s:=by unfold Dsk.fuseR;rw [if_pos hz]
  rw [e]
  change St F w0 w (rR2 g gl LL.length cl (.slice A2 PP.length c2) s.left s.life s.rd s.wr s.fl s.rf 0::row gl ((LL.map PEnt.val++junk).toArray) 31::vec 143 2 (.slice A2 PP.length c2) PP.length (putsV PP)::stars (pool.map PEnt.row)::L) at S
  exact eN (fr [pq g,iv n] 16) Try.func89 rfl (wp_seq (sR (pv (pq g) (pv (pq g) (pv (po g 2) (lR (iv s.left) S 0 2 (dE s.left 0 (fun _=>wE (nCT (rR (bodyPost_ret (v:=.tuple #[]) (results_none rfl _ _ _) rfl ⟨rfl,St.rclose (gl:=gl) (cl:=cl) (c2:=c2) (A2:=A2) (junk:=junk) (LL:=LL) (PP:=PP) (pool:=pool) (s:=s) S (hf.upd rfl rfl hf.lb) hcl hju⟩)))) fun hd1=>False.elim (absurd hz hd1))))))))
 have e:s.fuseR n={s with left:=if n<0 then-1 else n}:=by unfold Dsk.fuseR;rw [if_neg hz]
 rw [e]
 change St F w0 w (rR2 g gl LL.length cl (.slice A2 PP.length c2) s.left s.life s.rd s.wr s.fl s.rf 0::row gl ((LL.map PEnt.val++junk).toArray) 31::vec 143 2 (.slice A2 PP.length c2) PP.length (putsV PP)::stars (pool.map PEnt.row)::L) at S
 refine eN (fr [pq g,iv n] 16) Try.func89 rfl (wp_seq (sR (pv (pq g) (pv (pq g) (pv (po g 2) (lR (iv s.left) S 0 2 (dE s.left 0 (fun hd1=>False.elim (absurd hd1 hz)) fun _=>wE (nCF (wp_skip (nSR (pv (pq g) (pv (iv n) ?_))))))))))))
 refine pv (pq g) (pv (po g 2) (sS S 0 rfl 2 (iv n) fun w2 S3=>wER (pv (iv n) (dC ((n:Int)<0) (fun hb=> ?_) fun hb=> ?_))))
 ·refine wE (nCT (wp_region_lit (pv (pq g) (pv (pq g) (pv (po g 2) (sS S3 0 rfl 2 (iv (-1)) fun w4 S5=>wE (bodyPost_end (v:=.tuple #[]) (results_none rfl _ _ _) rfl ?_)))))))
  rw [show (if n<0 then-1 else n:Int)= -1 from if_pos hb]
  exact ⟨rfl,St.rclose (gl:=gl) (cl:=cl) (c2:=c2) (A2:=A2) (junk:=junk) (LL:=LL) (PP:=PP) (pool:=pool) (s:=({s with left:=(-1:Int)})) S5 (hf.upd rfl rfl (show-1≤(-1:Int)∧(-1:Int)≤9223372036854775807 by omega)) hcl hju⟩
 ·refine wE (nCF (wp_skip (bodyPost_end (v:=.tuple #[]) (results_none rfl _ _ _) rfl ?_)))
  rw [show (if n<0 then-1 else n:Int)=n from if_neg hb]
  exact ⟨rfl,St.rclose (gl:=gl) (cl:=cl) (c2:=c2) (A2:=A2) (junk:=junk) (LL:=LL) (PP:=PP) (pool:=pool) (s:=({s with left:=n})) S3 (hf.upd rfl rfl (show-1≤(n:Int)∧(n:Int)≤9223372036854775807 by omega)) hcl hju⟩
theorem rspent {g gl nl cl np c2:Nat}{A2:Option Addr}{left life rd wr fl rf:Int}(S:St F w0 w (row g (rcells gl nl cl A2 np c2 left life rd wr fl rf) 138::L))(hz:left≠0)(hl: -1≤left)(hm:left≤9223372036854775807):
  Calls Try.prog 84 #[pq g] w fun e w'=>e=.returned (.tuple #[])∧St F w0 w' (row g (rcells gl nl cl A2 np c2 (spent left) life rd wr fl rf) 138::L):=by
 change St F w0 w (rR2 g gl nl cl (.slice A2 np c2) left life rd wr fl rf 0::L) at S
 refine eN (fr [pq g] 13) Try.func84 rfl (sR (pv (pq g) (pv (pq g) (pv (po g 2) (lR (iv left) S 0 2 (dC ((left:Int)>0) (fun hb=> ?_) fun hb=> ?_))))))
 ·refine wE (nCT (wp_region_lit (pv (pq g) (pv (pq g) (pv (po g 2) (lR (iv left) S 0 2 (pv (iv (dec left)) (pv (pq g) (pv (po g 2) (sS S 0 rfl 2 (iv (dec left)) fun w1 S2=>wE (bodyPost_end (v:=.tuple #[]) (results_none rfl _ _ _) rfl ?_)))))))))))
  rw [show spent left=dec left from by unfold spent;rw [if_pos om_];exact (wr_ok om_ om_).symm]
  exact ⟨rfl,S2⟩
 ·refine wE (nCF (wp_skip (bodyPost_end (v:=.tuple #[]) (results_none rfl _ _ _) rfl ?_)))
  rw [show spent left=left from by unfold spent;rw [if_neg om_]]
  exact ⟨rfl,S⟩
theorem rtwinS {A:Option Addr}{l:List UInt8}{n c:Nat}(S:St F w0 w L)(hr:RoT F w0 L A l)(hn:l.length=n)(hlm:l.length≤140737488355328):Calls Try.prog 78 #[.slice A n c] w fun e w'=>∃go,e=.returned (.slice (some ⟨go,0,none⟩) n n)∧St F w0 w' (row go (bvs l) 5::L):=by
 subst hn
 refine eN (fr [.slice A l.length c] 10) Try.func78 rfl (sR (pv (.slice none 0 0) (wER (pv (.slice A l.length c) (pv (iv (l.length:Nat)) (g_ (gv_make (e:=5) (u:=(l.length:Nat)) (v:=(l.length:Nat)) (z:=.int .u8 0) (sz:=1) (by_:=1) (n:=l.length) (c:=l.length) (cs:=(bvs (List.replicate l.length 0))) S rfl kr_ ⟨by kernel_rfl⟩ kr_ kr_ rfl rfl (Nat.le_refl _) om_ om_ (mk_bytes _) (fun g1 w2 hg3 S4=>pv (sl g1 0 l.length l.length) (wER (pv (sl g1 0 l.length l.length) (pv (.slice A l.length c) (g_ (gv_copy (e:=5) (off:=0) (dLen:=l.length) (dCap:=l.length) (sLen:=l.length) (sCap:=c) (A:=A) (B:=(List.replicate l.length 0)) (l:=l) S4 0 rfl rfl kr_ kr_ kr_ kr_ rfl (hr.out _ [row g1 (bvs (List.replicate l.length 0)) 5] S4) (by simp) (L':=(row g1 (bvs l) 5::L)) (by rw [copy_all rfl];rfl) (fun w5 m7 S6=>wER (pv (sl g1 0 l.length l.length) ?_)))))))))))))))
 exact pv (sl g1 0 l.length l.length) (wE (then_n (wp_ret (bA (sl g1 0 l.length l.length) ⟨_,rfl,S6⟩))))
theorem pend_last {l:List (Nat×List UInt8)}{k i:Nat}{x:Nat×List UInt8}(hx:l[i]?=some x)(hk:x.1=k)(hi:∀(j:Nat) (y:Nat×List UInt8),i<j→l[j]?=some y→y.1≠k):((l.filter (fun x=>x.1==k)).map (·.2)).getLast?=some x.2:=by
 have hl:=(List.getElem?_eq_some_iff.1 hx).1
 have e:l=l.take i++(x::l.drop (i+1)):=by
  have h1:l.drop i=x::l.drop (i+1):=by rw [List.drop_eq_getElem_cons hl];congr 1;exact (List.getElem?_eq_some_iff.1 hx).2
  rw [←h1,List.take_append_drop]
 have h2:(l.drop (i+1)).filter (fun x=>x.1==k)=[]:=by
  rw [List.filter_eq_nil_iff]
  intro y hy hyk
  obtain ⟨m,hm⟩:=List.getElem?_of_mem hy
  rw [List.getElem?_drop] at hm
  exact hi _ y om_ hm (by simpa using hyk)
 rw [e,List.filter_append,List.filter_cons,h2]
 simp [hk]
theorem pend_none {l:List (Nat×List UInt8)}{k:Nat}(h:∀(j:Nat) (y:Nat×List UInt8),l[j]?=some y→y.1≠k):(l.filter (fun x=>x.1==k)).map (·.2)=[]:=by
 rw [List.map_eq_nil_iff,List.filter_eq_nil_iff]
 intro y hy hyk
 obtain ⟨m,hm⟩:=List.getElem?_of_mem hy
 exact h m y hm (by simpa using hyk)
theorem rnow_own {g gl cl c2:Nat}{A2:Option Addr}{junk:List Value}{LL:List (Nat×List UInt8)}{PP:List RPut}{pool:List (Nat×List UInt8)}{s:Dsk}(S:St F w0 w (rdParts g gl cl c2 A2 junk LL PP pool s++L))(hf:RFacts s LL PP pool){k:Nat}(hk:k<s.last.length):
  Calls Try.prog 81 #[pq g,nI_ k] w fun e w'=>∃b,e=.returned (.slice (some ⟨b,0,none⟩) 512 512)∧(b,s.now k)∈pool∧St F w0 w' (rdParts g gl cl c2 A2 junk LL PP pool s++L):=by
 have hn2:=hf.n2
 have hll:=hf.ll
 have hpp:=hf.pp
 have hpn:=hf.pn
 change St F w0 w (rR2 g gl LL.length cl (.slice A2 PP.length c2) s.left s.life s.rd s.wr s.fl s.rf 0::row gl ((LL.map PEnt.val++junk).toArray) 31::vec 143 2 (.slice A2 PP.length c2) PP.length (putsV PP)::stars (pool.map PEnt.row)::L) at S
 refine eN (fr [pq g,nI_ k] 39) Try.func81 rfl (sR (pv (nS_) (wE (nS (sR (pv (pq g) (pv (pq g) (pv (po g 1) (lR (.slice A2 PP.length c2) S 0 1 (pv (iv (PP.length:Nat)) (gI .i64 (IntKind.i64.wrap ((PP.length:Nat)-1)) (((PP.length:Nat):Int)-1) (wr_ok om_ om_) (pv (iv (((PP.length:Nat):Int)-1)) (wE ?_)))))))))))))
 refine then_n (wp_block (wp_loop_g (G:=Nat) (fun (g_:Nat) (a_:Act) (w_:World)=>∃J:Nat→Value,a_=(fr ([pq g,nI_ k,ud,ud,J 4,iv (((g_:Nat):Int)-1),pq g,pq g,po g 1,.slice A2 PP.length c2,iv (PP.length:Nat),iv (((PP.length:Nat):Int)-1)]++jR J 12 22) 7)∧St F w0 w_ (rR2 g gl LL.length cl (.slice A2 PP.length c2) s.left s.life s.rd s.wr s.fl s.rf 0::row gl ((LL.map PEnt.val++junk).toArray) 31::vec 143 2 (.slice A2 PP.length c2) PP.length (putsV PP)::stars (pool.map PEnt.row)::L)∧(g_≤PP.length∧(∀j y,g_≤j→s.pend[j]?=some y→y.1≠k))) (fun g_=>g_) PP.length (jE_ ⟨S,⟨Nat.le_refl _,fun j y hj hy=>absurd (List.getElem?_eq_some_iff.1 hy).1 om_⟩⟩) ?_))
 rintro i a_ w1 ⟨J,rfl,S2,hI3⟩
 skip
 have S2:St F w0 w1 (rR2 g gl LL.length cl (.slice A2 PP.length c2) s.left s.life s.rd s.wr s.fl s.rf 0::row gl ((LL.map PEnt.val++junk).toArray) 31::vec 143 2 (.slice A2 PP.length c2) PP.length (putsV PP)::stars (pool.map PEnt.row)::L):=S2
 have hI3:(i≤PP.length∧(∀j y,i≤j→s.pend[j]?=some y→y.1≠k)):=hI3
 refine wp_seq (sR (pv (iv (((i:Nat):Int)-1)) (dC ((((i:Nat):Int)-1:Int)≥0) (fun hb4=> ?_) fun hb4=> ?_)))
 ·have hi0:i-1<PP.length:=by have:=hI3.1;omega
  obtain ⟨x,hx,hxp,hxs,hx5,hxk⟩:=hf.pat hi0
  obtain ⟨ad2,hAd2,hrd⟩:=(St.vec_rd S2 2 rfl) (by rw [length_putsV];omega)
  refine wE (nCT (wp_skip (nS (wp_block (sR (pv (pq g) (pv (pq g) (pv (po g 1) (lR (.slice A2 PP.length c2) S2 0 1 (pv (iv (((i:Nat):Int)-1)) (g_ (gv_ixB (e:=143) (sz:=2) (n:=PP.length) (c:=c2) (i:=(((i:Nat):Int)-1)) (k:=.i64) (ad:=ad2) (ad':=(ad2.add ((i-1)*2))) (j:=(i-1)) rfl kr_ kr_ (by rw [←hAd2];kernel_rfl) kr_ om_ om_ rfl (pv (.pointer (some (ad2.add ((i-1)*2)))) (lQ (nI_ x.2.1) (put_at hrd hx) ?_))))))))))))))
  refine pv (nI_ k) (dE ((x.2.1:Nat):Int) ((k:Nat):Int) (fun hb9=> ?_) fun hb9=> ?_)
  ·refine wE (nCT (sR (pv (pq g) (pv (pq g) (pv (po g 1) (lR (.slice A2 PP.length c2) S2 0 1 (pv (iv (((i:Nat):Int)-1)) (g_ (gv_ixB (e:=143) (sz:=2) (n:=PP.length) (c:=c2) (i:=(((i:Nat):Int)-1)) (k:=.i64) (ad:=ad2) (ad':=(ad2.add ((i-1)*2))) (j:=(i-1)) rfl kr_ kr_ (by rw [←hAd2];kernel_rfl) kr_ om_ om_ rfl (pv (.pointer (some ((ad2.add ((i-1)*2)).add 1))) (lQ (PEnt.val x.ref) (put_data hrd hx) (pv (sl x.1 0 512 512) (wE (then_n ?_))))))))))))))
   exact wp_ret (inb_r (then_r (then_r (inb_r (then_r (bA (sl x.1 0 512 512) ⟨_,rfl,(by have hl:=pend_last (l:=s.pend) (k:=k) hxs om_ (fun j y hj hy=>hI3.2 j y om_ hy);rw [Dsk.now_some (s:=s) (a:=k) rfl hl];exact hxp),S2⟩))))))
  ·have hne9:¬x.2.1=k:=by omega
   exact wE (nCF (wp_skip (inb_n (nR (pv (iv (((i:Nat):Int)-1)) (gI .i64 (IntKind.i64.wrap ((((i:Nat):Int)-1)-1)) (((i-1:Nat):Int)-1) (wr_eq om_ om_ om_) (pv (iv (((i-1:Nat):Int)-1)) (wE (then_n ⟨i-1,(jE_ ⟨S2,⟨by omega,fun j y hj hy=>if e:j=i-1 then (by subst e;rw [hxs] at hy;cases hy;exact fun e=>hne9 om_) else hI3.2 j y om_ hy⟩⟩),om_⟩)))))))))
 ·obtain ⟨x,hx,hxp,hxl,hx5⟩:=hf.at hk
  refine wE (nCF (wp_exit (then_x (then_x (inb_x (nSR (pv (pq g) (pv (pq g) (pv (pq g) (lR (sl gl 0 LL.length cl) S2 0 0 (pv (nI_ k) (g_ (gv_ixE (e:=31) (sz:=1) (g:=gl) (off:=0) (n:=LL.length) (c:=cl) (i:=((k:Nat):Int)) (k:=.i64) (j:=k) (off':=k) rfl kr_ kr_ kr_ kr_ rfl om_ om_ (lQ (PEnt.val x) (((S2.blk 1 rfl).cell k).trans (ll_at hx)) ?_))))))))))))))
  exact pv (sl x.1 0 512 512) (wE (then_n (wp_ret (bA (sl x.1 0 512 512) ⟨_,rfl,(by rw [Dsk.now_none (pend_none fun j y hy=>hI3.2 j y om_ hy),hxl];exact hxp),S2⟩))))
end
theorem tmod_nat' {a b:Int}{m n:Nat}(ha:a=(m:Int))(hb:b=(n:Int)):Int.tmod a b=((m%n:Nat):Int):=by subst ha hb;rfl
theorem byte_at {w:World}{b i:Nat}{l:List UInt8}{t:TypeId}(h:Blk w b (bvs l) t)(hi:i<l.length):w.cell? ⟨b,i,none⟩=some (.int .u8 ((l.getD i 0).toNat:Int)):=by
 rw [h.cell,get_bvs,List.getElem?_eq_getElem hi,List.getD_eq_getElem?_getD,List.getElem?_eq_getElem hi];rfl
theorem torn_set {a b:List UInt8}{i:Nat}(ha:a.length=512)(hb:b.length=512)(hi:i<512):(bvs (a.take i++b.drop i)).setIfInBounds i (.int .u8 ((a.getD i 0).toNat:Int))=bvs (a.take (i+1)++b.drop (i+1)):=by
 apply Array.ext_getElem?
 intro m
 have hla:(a.take i).length=i:=by rw [List.length_take];omega
 have hla1:(a.take (i+1)).length=i+1:=by rw [List.length_take];omega
 rw [Array.getElem?_setIfInBounds,get_bvs,get_bvs]
 by_cases hm:i=m
 ·subst hm
  rw [if_pos rfl,if_pos (by rw [size_bvs,List.length_append,hla,List.length_drop];omega),List.getElem?_append_left om_,List.getElem?_take,if_pos om_,List.getD_eq_getElem?_getD,List.getElem?_eq_getElem om_];rfl
 ·rw [if_neg hm]
  by_cases h1:m<i
  ·rw [List.getElem?_append_left om_,List.getElem?_append_left om_,List.getElem?_take,List.getElem?_take,if_pos h1,if_pos om_]
  ·rw [List.getElem?_append_right om_,List.getElem?_append_right om_,hla,hla1,List.getElem?_drop,List.getElem?_drop,show i+(m-i)=i+1+(m-(i+1)) from by omega]
theorem pend_step {l:List (Nat×List UInt8)}{i k:Nat}{x:Nat×List UInt8}(h:l[i]?=some x):((l.take (i+1)).filter (fun x=>x.1==k)).map (·.2)=((l.take i).filter (fun x=>x.1==k)).map (·.2)++(if x.1=k then [x.2] else []):=by
 rw [List.take_add_one (l:=l) (i:=i),h,List.filter_append,List.map_append]
 by_cases e:x.1=k
 ·simp [e]
 ·simp [e]
theorem rfloor {w:World}{n:Int}:Calls Try.prog 122 #[.int .i64 n] w fun e w'=>e=.returned (.int .i64 ((n.toNat:Nat):Int))∧w=w':=by
 refine eN (fr [iv n] 5) Try.func122 rfl (sR (pv (iv 0) (wE (nS (sR (pv (iv n) (dC ((n:Int)<0) (fun hb1=> ?_) fun hb1=> ?_)))))))
 ·refine wE (nCT (sR (pv (iv 0) (wE (then_n (rR (bA (iv 0) ?_)))))))
  rw [show ((n.toNat:Nat):Int)=0 from by omega]
  exact ⟨rfl,rfl⟩
 ·refine wE (nCF (wp_skip (nSR (pv (iv n) (pv (iv n) (wE (then_n (wp_ret (bA (iv n) ?_)))))))))
  rw [show ((n.toNat:Nat):Int)=n from by omega]
  exact ⟨rfl,rfl⟩
theorem rcand {F:Nat→Prop}{w0 w:World}{L:List Ast}{g gl cl c2:Nat}{A2:Option Addr}{junk:List Value}{LL:List (Nat×List UInt8)}{PP:List RPut}{pool:List (Nat×List UInt8)}{s:Dsk}(S:St F w0 w (rdParts g gl cl c2 A2 junk LL PP pool s++L))(hf:RFacts s LL PP pool){k:Nat}(hk:k<s.last.length)(hpn:s.pend.length<4398046511104):
  Calls Try.prog 85 #[pq g,nI_ k] w fun e w'=>∃(v:Value) (CC:List (Nat×List UInt8)),e=.returned v∧CC.map (·.2)=candS s k∧(∀x∈CC,x∈pool)∧St F w0 w' (vec 31 1 v CC.length (CC.map PEnt.val)::(rdParts g gl cl c2 A2 junk LL PP pool s++L)):=by
 have hn2:=hf.n2
 have hll:=hf.ll
 have hpp:=hf.pp
 obtain ⟨y,hy,hyp,hyl,hy5⟩:=hf.at hk
 change St F w0 w (rR2 g gl LL.length cl (.slice A2 PP.length c2) s.left s.life s.rd s.wr s.fl s.rf 0::row gl ((LL.map PEnt.val++junk).toArray) 31::vec 143 2 (.slice A2 PP.length c2) PP.length (putsV PP)::stars (pool.map PEnt.row)::L) at S
 refine eN (fr [pq g,nI_ k] 44) Try.func85 rfl (sR (pv (nS_) (wER (pv (pq g) (pv (pq g) (pv (pq g) (lR (sl gl 0 LL.length cl) S 0 0 (pv (nI_ k) (g_ (gv_ixE (e:=31) (sz:=1) (g:=gl) (off:=0) (n:=LL.length) (c:=cl) (i:=((k:Nat):Int)) (k:=.i64) (j:=k) (off':=k) rfl kr_ kr_ kr_ kr_ rfl om_ om_ (lQ (PEnt.val y) (((S.blk 1 rfl).cell k).trans (ll_at hy)) (g_ (gv_slit (e:=31) (sz:=1) (z:=nS_) (by_:=24) (vs:=#[(0,sl y.1 0 512 512)]) (cells:=#[sl y.1 0 512 512]) S rfl kr_ ⟨by kernel_rfl⟩ kr_ kr_ kr_ kr_ (fun g1 w2 hg3 S4=> ?_))))))))))))))
 have S5:St F w0 w2 (vec 31 1 (sl g1 0 1 1) [y].length ([y].map PEnt.val)::rR2 g gl LL.length cl (.slice A2 PP.length c2) s.left s.life s.rd s.wr s.fl s.rf 0::row gl ((LL.map PEnt.val++junk).toArray) 31::vec 143 2 (.slice A2 PP.length c2) PP.length (putsV PP)::stars (pool.map PEnt.row)::L):=St.vec_mk (vals:=[PEnt.val y]) (junk:=[]) S4 (Nat.le_refl _) rfl rfl
 refine pv (sl g1 0 1 1) (wE (nS (sR (pv (iv 0) (wE (then_n (wp_block (wp_loop_g (G:=Nat×Value×List (Nat×List UInt8)) (fun (g_:Nat×Value×List (Nat×List UInt8)) (a_:Act) (w_:World)=>∃J:Nat→Value,a_=(fr ([pq g,nI_ k,ud,ud,.slice none 0 0,g_.2.1,nI_ g_.1,pq g,pq g,pq g,sl gl 0 LL.length cl,nI_ k,po gl k,sl y.1 0 512 512,sl g1 0 1 1]++jR J 15 30) 1)∧St F w0 w_ (vec 31 1 g_.2.1 g_.2.2.length (g_.2.2.map PEnt.val)::rR2 g gl LL.length cl (.slice A2 PP.length c2) s.left s.life s.rd s.wr s.fl s.rf 0::row gl ((LL.map PEnt.val++junk).toArray) 31::vec 143 2 (.slice A2 PP.length c2) PP.length (putsV PP)::stars (pool.map PEnt.row)::L)∧(g_.1≤PP.length∧g_.2.2.length≤g_.1+1∧g_.2.2.map (·.2)=s.last.getD k []::((s.pend.take g_.1).filter (fun x=>x.1==k)).map (·.2)∧(∀x∈g_.2.2,x∈pool))) (fun g_=>PP.length-g_.1) (0,sl g1 0 1 1,[y]) (jE_ ⟨S5,⟨Nat.zero_le _,Nat.le_refl _,by rw [hyl];rfl,fun z hz=>by rw [List.mem_singleton] at hz;subst hz;exact hyp⟩⟩) ?_))))))))
 rintro ⟨i,v,CC⟩ a_ w6 ⟨J,rfl,S7,hI8⟩
 skip
 have S7:St F w0 w6 (vec 31 1 v CC.length (CC.map PEnt.val)::rR2 g gl LL.length cl (.slice A2 PP.length c2) s.left s.life s.rd s.wr s.fl s.rf 0::row gl ((LL.map PEnt.val++junk).toArray) 31::vec 143 2 (.slice A2 PP.length c2) PP.length (putsV PP)::stars (pool.map PEnt.row)::L):=S7
 have hI8:(i≤PP.length∧CC.length≤i+1∧CC.map (·.2)=s.last.getD k []::((s.pend.take i).filter (fun x=>x.1==k)).map (·.2)∧(∀x∈CC,x∈pool)):=hI8
 refine wp_seq (sR (pv (nI_ i) (pv (pq g) (pv (pq g) (pv (po g 1) (lR (.slice A2 PP.length c2) S7 1 1 (pv (iv (PP.length:Nat)) (dC ((((i:Nat):Int):Int)<(PP.length:Nat)) (fun hb9=> ?_) fun hb9=> ?_))))))))
 ·obtain ⟨x,hx,hxp,hxs,hx5,hxk⟩:=hf.pat (i:=i) om_
  obtain ⟨ad2,hAd2,hrd⟩:=(St.vec_rd S7 3 rfl) (by rw [length_putsV];omega)
  refine wE (nCT (wp_skip (nS (wp_block (sR (pv (pq g) (pv (pq g) (pv (po g 1) (lR (.slice A2 PP.length c2) S7 1 1 (pv (nI_ i) (g_ (gv_ixB (e:=143) (sz:=2) (n:=PP.length) (c:=c2) (i:=((i:Nat):Int)) (k:=.i64) (ad:=ad2) (ad':=(ad2.add (i*2))) (j:=i) rfl kr_ kr_ (by rw [←hAd2];kernel_rfl) kr_ rfl om_ rfl (pv (.pointer (some (ad2.add (i*2)))) (lQ (nI_ x.2.1) (put_at hrd hx) ?_))))))))))))))
  refine pv (nI_ k) (dE ((x.2.1:Nat):Int) ((k:Nat):Int) (fun hb8=> ?_) fun hb8=> ?_)
  ·have hb9:x.2.1=k:=by omega
   refine wE (nCT (wp_region_lit (pv v (pv (pq g) (pv (pq g) (pv (po g 1) (lR (.slice A2 PP.length c2) S7 1 1 (pv (nI_ i) (g_ (gv_ixB (e:=143) (sz:=2) (n:=PP.length) (c:=c2) (i:=((i:Nat):Int)) (k:=.i64) (ad:=ad2) (ad':=(ad2.add (i*2))) (j:=i) rfl kr_ kr_ (by rw [←hAd2];kernel_rfl) kr_ rfl om_ rfl (pv (.pointer (some ((ad2.add (i*2)).add 1))) (lQ (PEnt.val x.ref) (put_data hrd hx) (g_ (gv_slit (e:=31) (sz:=1) (z:=.slice none 0 0) (by_:=24) (vs:=#[(0,sl x.1 0 512 512)]) (cells:=#[sl x.1 0 512 512]) S7 rfl kr_ ⟨by kernel_rfl⟩ kr_ kr_ kr_ kr_ (fun g10 w11 hg12 S13=>g_ (gv_append (e:=31) (sz:=1) (n:=CC.length) (v:=v) (vals:=(CC.map PEnt.val)) (z:=.slice none 0 0) (by_:=24) (m:=1) (c':=1) (ad:=⟨g10,0,none⟩) (news:=[sl x.1 0 512 512]) (St.swap S13) rfl kr_ ⟨by kernel_rfl⟩ rfl kr_ kr_ dc_ rfl (row_news (S13.blk 0 rfl)) (by intro u hu;simp at hu;subst hu;rfl) om_ om_ (fun v15 w14 S16=> ?_)))))))))))))))))
   refine pv v15 (wE (inb_n (nR (pv (nI_ i) (gI .i64 (IntKind.i64.wrap (((i:Nat):Int)+1)) ((i+1:Nat):Int) wq_ (pv (nI_ (i+1)) (wE (then_n ?_))))))))
   have S17:St F w0 w14 (vec 31 1 v15 (CC.length+1) (CC.map PEnt.val++[sl x.1 0 512 512])::rR2 g gl LL.length cl (.slice A2 PP.length c2) s.left s.life s.rd s.wr s.fl s.rf 0::row gl ((LL.map PEnt.val++junk).toArray) 31::vec 143 2 (.slice A2 PP.length c2) PP.length (putsV PP)::stars (pool.map PEnt.row)::L):=St.pm 6 [0,2,3,4,5] S16
   have hv9:CC.map PEnt.val++[.slice (some ⟨x.1,0,none⟩) 512 512]=(CC++[x.ref]).map PEnt.val:=by rw [List.map_append];rfl
   have hn9:CC.length+1=(CC++[x.ref]).length:=by rw [List.length_append];rfl
   rw [hv9,hn9] at S17
   exact ⟨(i+1,v15,CC++[x.ref]),(jE_ ⟨S17,⟨by omega,by rw [List.length_append];show CC.length+1≤i+1+1;omega,by rw [pend_step hxs,if_pos hb9,List.map_append,hI8.2.2.1];rfl,fun z hz=>(List.mem_append.1 hz).elim (hI8.2.2.2 z) (fun h=>by rw [List.mem_singleton] at h;subst h;exact hxp)⟩⟩),(by show PP.length-(i+1)<PP.length-i;omega)⟩
  ·have hb9:¬x.2.1=k:=by omega
   exact wE (nCF (wp_skip (inb_n (nR (pv (nI_ i) (gI .i64 (IntKind.i64.wrap (((i:Nat):Int)+1)) ((i+1:Nat):Int) (wr_eq om_ om_ om_) (pv (nI_ (i+1)) (wE (then_n ⟨(i+1,v,CC),(jE_ ⟨S7,⟨by omega,(by show CC.length≤i+1+1;have:=hI8.2.1;omega),by rw [pend_step hxs,if_neg hb9,List.append_nil];exact hI8.2.2.1,hI8.2.2.2⟩⟩),(by show PP.length-(i+1)<PP.length-i;omega)⟩)))))))))
 ·refine wE (nCF (wp_exit (then_x (then_x (inb_x (nSR (pv v (pv v (wE (then_n (wp_ret (bA v ?_))))))))))))
  have htk:s.pend.take i=s.pend:=List.take_of_length_le om_
  rw [htk] at hI8
  exact ⟨_,CC,rfl,hI8.2.2.1,hI8.2.2.2,S7⟩
theorem rtorn {F:Nat→Prop}{w0 w:World}{L:List Ast}{A1:Option Addr}{c1:Nat}{CC pool:List (Nat×List UInt8)}{pa pb pc:Int}(S:St F w0 w (vec 31 1 (.slice A1 CC.length c1) CC.length (CC.map PEnt.val)::stars (pool.map PEnt.row)::L))(hC:∀x∈CC,x∈pool)(h5:∀x∈CC,x.2.length=512)(h0:0<CC.length)(hlm:CC.length≤9223372036854775807):
  Calls Try.prog 86 #[.slice A1 CC.length c1,.agg #[iv pa,iv pb,iv pc]] w fun e w'=>∃go,e=.returned (.slice (some ⟨go,0,none⟩) 512 512)∧St F w0 w' (row go (bvs (tornS (CC.map (·.2)) (pa,pb,pc))) 5::vec 31 1 (.slice A1 CC.length c1) CC.length (CC.map PEnt.val)::stars (pool.map PEnt.row)::L):=by
 have hn1:CC.length=CC.length-1+1:=by omega
 have hma:pa.toNat%CC.length<CC.length:=Nat.mod_lt _ h0
 have hmb:pb.toNat%CC.length<CC.length:=Nat.mod_lt _ h0
 have hcm:pc.toNat%513<513:=Nat.mod_lt _ dc_
 obtain ⟨a,ha⟩:∃a,CC[pa.toNat%CC.length]?=some a:=⟨_,List.getElem?_eq_getElem hma⟩
 obtain ⟨b,hb⟩:∃b,CC[pb.toNat%CC.length]?=some b:=⟨_,List.getElem?_eq_getElem hmb⟩
 have ham:=List.mem_of_getElem? ha
 have hbm:=List.mem_of_getElem? hb
 have ha5:=h5 a ham
 have hb5:=h5 b hbm
 have ht:tornS (CC.map (·.2)) (pa,pb,pc)=a.2.take (pc.toNat%513)++b.2.drop (pc.toNat%513):=by
  unfold tornS
  rw [List.length_map,List.getD_eq_getElem?_getD,List.getD_eq_getElem?_getD,List.getElem?_map,List.getElem?_map,ha,hb];rfl
 rw [ht]
 obtain ⟨ad2,hAd2,hrd⟩:=(St.vec_rd S 0 rfl) (by rw [List.length_map];exact h0)
 refine eN (fr [.slice A1 CC.length c1,.agg #[iv pa,iv pb,iv pc]] 45) Try.func86 rfl (sR (nB rfl (.agg #[iv pa,iv pb,iv pc]) S fun g1 w2 hg3 S4=>pv (.slice none 0 0) (wER (pv (.slice A1 CC.length c1) (pv (pq g1) (lR (iv pa) S4 0 0 (sO Try.func122 #[iv pa] rfloor (pv (.slice A1 CC.length c1) (pv (iv (CC.length:Nat)) (g_ (gv_int (k:=.i64) (z:=Int.tmod ((pa.toNat:Nat):Int) (CC.length:Nat)) (z':=((pa.toNat%CC.length:Nat):Int)) (by rw [hn1];kernel_rfl) (tmod_nat' rfl rfl) (g_ (gv_ixB (e:=31) (sz:=1) (n:=CC.length) (c:=c1) (i:=((pa.toNat%CC.length:Nat):Int)) (k:=.i64) (ad:=ad2) (ad':=(ad2.add (pa.toNat%CC.length))) (j:=(pa.toNat%CC.length)) rfl kr_ kr_ (by rw [←hAd2];kernel_rfl) kr_ rfl om_ (by rw [Nat.mul_one]) (lQ (PEnt.val a) (rdv_at (St.vec_rd S4 1 rfl) hAd2 (by rw [List.length_map];exact h0) _ _ (by rw [List.getElem?_map,ha];rfl)) ?_))))))))))))))
 refine pv (sl a.1 0 512 512) (wER (pv (.slice A1 CC.length c1) (pv (po g1 1) (lR (iv pb) S4 0 1 (sO Try.func122 #[iv pb] rfloor (pv (.slice A1 CC.length c1) (pv (iv (CC.length:Nat)) (g_ (gv_int (k:=.i64) (z:=Int.tmod ((pb.toNat:Nat):Int) (CC.length:Nat)) (z':=((pb.toNat%CC.length:Nat):Int)) (by rw [hn1];kernel_rfl) (tmod_nat' rfl rfl) (g_ (gv_ixB (e:=31) (sz:=1) (n:=CC.length) (c:=c1) (i:=((pb.toNat%CC.length:Nat):Int)) (k:=.i64) (ad:=ad2) (ad':=(ad2.add (pb.toNat%CC.length))) (j:=(pb.toNat%CC.length)) rfl kr_ kr_ (by rw [←hAd2];kernel_rfl) kr_ rfl om_ (by rw [Nat.mul_one]) (lQ (PEnt.val b) (rdv_at (St.vec_rd S4 1 rfl) hAd2 (by rw [List.length_map];exact h0) _ _ (by rw [List.getElem?_map,hb];rfl)) ?_))))))))))))
 refine pv (sl b.1 0 512 512) (wER (pv (po g1 2) (lR (iv pc) S4 0 2 (sO Try.func122 #[iv pc] rfloor (gI .i64 (Int.tmod ((pc.toNat:Nat):Int) 513) ((pc.toNat%513:Nat):Int) (tmod_nat' rfl rfl) (pv (nI_ (pc.toNat%513)) (wER (pv (sl b.1 0 512 512) (sP1 Try.func78 #[sl b.1 0 512 512] (rtwinS (l:=b.2) S4 (rot_pool 2 rfl (hC b hbm) hb5) hb5 om_) fun g5 w6 S7=> ?_)))))))))
 rw [show b.2=a.2.take 0++b.2.drop 0 from rfl] at S7
 refine pv (sl g5 0 512 512) (wE (nS (sR (pv (iv 0) (wE (then_n (wp_block (wp_loop_g (G:=Nat) (fun (g_:Nat) (a_:Act) (w_:World)=>∃J:Nat→Value,a_=(fr ([.slice A1 CC.length c1,.agg #[iv pa,iv pb,iv pc],ud,pq g1,nS_,sl a.1 0 512 512,sl b.1 0 512 512,nI_ (pc.toNat%513),sl g5 0 512 512,nI_ g_,.slice A1 CC.length c1,pq g1,iv pa,nI_ pa.toNat,.slice A1 CC.length c1,iv (CC.length:Nat),nI_ (pa.toNat%CC.length),.pointer (some (ad2.add (pa.toNat%CC.length))),sl a.1 0 512 512,.slice A1 CC.length c1,po g1 1,iv pb,nI_ pb.toNat,.slice A1 CC.length c1,iv (CC.length:Nat),nI_ (pb.toNat%CC.length),.pointer (some (ad2.add (pb.toNat%CC.length))),sl b.1 0 512 512,po g1 2,iv pc,nI_ pc.toNat,nI_ (pc.toNat%513),sl b.1 0 512 512,sl g5 0 512 512]++jR J 34 12) 1)∧St F w0 w_ (row g5 (bvs (a.2.take g_++b.2.drop g_)) 5::row g1 #[iv pa,iv pb,iv pc] 145::vec 31 1 (.slice A1 CC.length c1) CC.length (CC.map PEnt.val)::stars (pool.map PEnt.row)::L)∧(g_≤pc.toNat%513)) (fun g_=>pc.toNat%513-g_) 0 (jE_ ⟨S7,Nat.zero_le _⟩) ?_))))))))
 rintro i a_ w8 ⟨J,rfl,S9,hI10⟩
 skip
 have S9:St F w0 w8 (row g5 (bvs (a.2.take i++b.2.drop i)) 5::row g1 #[iv pa,iv pb,iv pc] 145::vec 31 1 (.slice A1 CC.length c1) CC.length (CC.map PEnt.val)::stars (pool.map PEnt.row)::L):=S9
 have hI10:(i≤pc.toNat%513):=hI10
 refine wp_seq (sR (pv (nI_ i) (pv (nI_ (pc.toNat%513)) (dC ((((i:Nat):Int):Int)<((pc.toNat%513:Nat):Int)) (fun hb11=> ?_) fun hb11=> ?_))))
 ·refine wE (nCT (wp_skip (nS (wp_block (wp_region_lit (pv (sl g5 0 512 512) (pv (nI_ i) (pv (sl a.1 0 512 512) (pv (nI_ i) (g_ (gv_ixE (e:=5) (sz:=1) (g:=a.1) (off:=0) (n:=512) (c:=512) (i:=((i:Nat):Int)) (k:=.i64) (j:=i) (off':=i) rfl kr_ kr_ kr_ kr_ rfl om_ om_ (lQ (.int .u8 ((a.2.getD i 0).toNat:Int)) (byte_at (St.pool_rd S9 3 rfl (hC a ham)) om_) (g_ (gv_ixE (e:=5) (sz:=1) (g:=g5) (off:=0) (n:=512) (c:=512) (i:=((i:Nat):Int)) (k:=.i64) (j:=i) (off':=i) rfl kr_ kr_ kr_ kr_ rfl om_ om_ (g_ (gv_st (k:=i) (v:=.int .u8 ((a.2.getD i 0).toNat:Int)) S9 0 rfl rfl kr_ kr_ kr_ rfl (Nat.ble_eq_true_of_le (by rw [size_bvs,List.length_append,List.length_take,List.length_drop];omega)) (L':=(row g5 (bvs (a.2.take (i+1)++b.2.drop (i+1))) 5::row g1 #[iv pa,iv pb,iv pc] 145::vec 31 1 (.slice A1 CC.length c1) CC.length (CC.map PEnt.val)::stars (pool.map PEnt.row)::L)) (by rw [torn_set ha5 hb5 om_];rfl) (fun w12 S13=> ?_)))))))))))))))))
  exact wE (inb_n (nR (pv (nI_ i) (gI .i64 (IntKind.i64.wrap (((i:Nat):Int)+1)) ((i+1:Nat):Int) wq_ (pv (nI_ (i+1)) (wE (then_n ⟨i+1,(jE_ ⟨S13,om_⟩),(by show pc.toNat%513-(i+1)<pc.toNat%513-i;omega)⟩)))))))
 ·refine wE (nCF (wp_exit (then_x (then_x (inb_x (nSR (pv (sl g5 0 512 512) (pv (sl g5 0 512 512) (wE (then_n (wp_ret (bA (sl g5 0 512 512) ?_))))))))))))
  have S14:St F w0 w8 (row g5 (bvs (a.2.take i++b.2.drop i)) 5::vec 31 1 (.slice A1 CC.length c1) CC.length (CC.map PEnt.val)::stars (pool.map PEnt.row)::L):=St.pm 4 [0,2,3] S9
  have hi9:i=pc.toNat%513:=by omega
  rw [hi9] at S14
  exact ⟨_,rfl,S14⟩
end Go.Proofs
end
