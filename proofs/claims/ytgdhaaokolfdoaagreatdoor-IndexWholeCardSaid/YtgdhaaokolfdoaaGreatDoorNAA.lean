/- A pack of texts. Conditions: those that each names. -/
import Derived.WalkLawsBesides
import Derived.Maps.AppendAt
import Derived.Test.YtgdhaaokolfdoaaGreatDoorProg
import Derived.Deep.LoopGhost
import Derived.Shelf.Abstract
import Derived.OwnWalkIn
import Derived.LoopNIn
import Derived.LoopIn
import Derived.Sort.BigQuietIn
import Derived.RangeFuncNested
set_option maxHeartbeats 16000000
set_option maxRecDepth 100000
set_option linter.all false
namespace Go
theorem oM {p:Prop} (h:p:=by omega):p:=h
theorem dC {p:Prop} (h:p:=by decide):p:=h
theorem kF {p:Prop} (h:p:=by kernel_rfl):p:=h
theorem rF {p:Prop} (h:p:=by rfl):p:=h
theorem gF {p:Prop} (h:p:=by simp only [gA, gZ, gS]; rfl):p:=h
theorem sP {p:Prop} (h:p:=by simp):p:=h
theorem sO {p:Prop} (h:p:=by simp; omega):p:=h
theorem sR {p:Prop} (h:p:=by simp [results, go_sem, *]):p:=h
theorem nI {α:Sort _} {β:α->Sort _} {γ:α->Prop}:∀ a, β a->γ a->γ a:=fun _ _ h=>h
theorem nE {α:Sort _} {β:α->Sort _} {γ:α->Prop}:∀ a, β a->False->γ a:=fun _ _ h=>h.elim
theorem eX {α:Sort _} (a:α):∃ b, a = b:=⟨a, rfl⟩
theorem xe {α:Sort _} (a:α):∃ b, b = a:=⟨a, rfl⟩
def C3:=@Nat.zero_le
def X5:=@List.mem_append
def N4:=@List.mem_map
def aZ:=@Nat.pow_le_pow_right
def C7:=@List.nil_append
def Z8:=@List.length_map
def B9:=@List.map_append
def ak:=@List.cons_append
def dV:=@Array.replicate_succ
def dW:=@Array.replicate_zero
def N6:=@Nat.le_of_eq
def ox:=@List.findIdx?_eq_some_iff_getElem
def jn:=@List.getElem?_append_left
def dX:=@List.append_toArray
def dY:=@List.flatMap_append
def kN:=@List.getElem?_append_right
def dj:=@List.flatMap_cons
def d9:=@List.mem_cons
def dD:=@List.append_assoc
def o8:=@Nat.zero_add
def dZ:=@List.push_toArray
def ea:=@List.take_add_one
def cJ:=@List.length_nil
def ed:=@List.length_drop
def jH:=@List.mem_cons_of_mem
def lK:=@List.mem_append_right
def fj:=@List.length_set
def jI:=@Bool.false_eq_true
def jJ:=@List.getElem?_drop
def mY:=@List.length_filter_le
def vH:=@List.eq_nil_of_length_eq_zero
def jK:=@Int.toNat_natCast
def ou:=@List.mem_iff_getElem?
def ud:=@List.findIdx?_eq_none_iff
def rk:=@List.getElem?_replicate
def ov:=@List.mem_of_mem_take
def dB:=@Nat.pow_succ
def dU:=@Nat.mul_comm
def mZ:=@List.mem_singleton
def ow:=@Array.length_toList
def pY:=@List.mem_append_left
def gG:=@Nat.lt_irrefl
def pZ:=@Int.toNat_of_nonneg
def xT:=@List.pairwise_iff_getElem
def qe:=@List.filter_append
def Ad:=@List.eq_of_mem_replicate
def ue:=@List.findIdx?_cons
def jL:=@Nat.lt_or_ge
def iu:=@Nat.pow_pos
def FK:=@List.take_append_of_le_length
def ug:=@List.getElem?_set
def xZ:=@List.mem_of_mem_drop
def Ak:=@Nat.div_div_eq_div_mul
def vJ:=@Nat.add_sub_cancel
def rn:=@List.mem_filter
def Al:=@List.getElem?_eq_none
def uh:=@Bool.and_eq_true
def ui:=@List.mem_flatMap
def nb:=@Nat.succ_mul
def uj:=@List.find?_cons
def FT:=@List.drop_eq_getElem_cons
def qf:=@List.map_cons
def vK:=@List.any_eq_true
def qg:=@Nat.add_assoc
def yh:=@List.nodup_append
def DN:=@List.length_singleton
def vL:=@List.append_nil
def Mk:=@Array.getD_eq_getD_getElem?
def Am:=@List.ext_getElem?
def An:=@List.pairwise_map
def Ml:=@List.mem_or_eq_of_mem_set
def DO:=@List.pairwise_cons
def DP:=@Nat.xor_lt_two_pow
def Mm:=@Nat.add_sub_cancel_left
def uk:=@Nat.zero_mul
def DJ:=@List.any_eq_false
def Ah:=@List.range_succ
def Ai:=@List.prefix_rfl
def DK:=@Nat.div_eq_of_lt
def Mb:=@List.take_append_drop
def Mc:=@List.singleton_append
def Qe:=@Array.getElem?_eq_getElem
def uf:=@Nat.mul_add
def Md:=@Nat.add_right_cancel
def DL:=@Option.map_some
def rm:=@Nat.mod_lt
def FM:=@List.getElem?_inj
def xX:=@List.map_nil
def xY:=@List.map_map
def Me:=@List.filter_eq_self
def Qf:=@List.length_eq_zero_iff
def FO:=@Option.bind_some
def Xx:=@List.drop_append_of_le_length
def Qg:=@List.drop_eq_nil_of_le
def Mf:=@Nat.lt_of_le_of_lt
def Qh:=@Nat.le_div_iff_mul_le
def DM:=@Nat.mul_assoc
def vI:=@Nat.not_lt
def Xy:=@Array.toList_setIfInBounds
def Xz:=@List.mem_of_find?_eq_some
def Qi:=@List.getElem_of_mem
def Qj:=@List.map_congr_left
def Qk:=@List.take_succ_cons
def Aq:=@Nat.pow_add
def DT:=@Nat.sub_self
def Mn:=@Nat.div_le_self
def XJ:=@List.prefix_iff_eq_take
def Qm:=@List.find?_eq_none
def Mo:=@List.take_left'
def XK:=@List.drop_of_length_le
def XM:=@List.flatMap_singleton
def Qn:=@Nat.le_succ_of_le
def DU:=@Nat.add_mul
def Qo:=@List.filter_congr
def Qp:=@Bool.not_eq_true'
def DV:=@Int.le_refl
def Mp:=@List.nodup_nil
def FU:=@Nat.le_of_lt
def Qq:=@Option.getD_some
def Qr:=@List.all_eq_true
def Qs:=@List.mem_reverse
def Qt:=@Nat.succ_le_succ
def Qu:=@List.map_toArray
def Qv:=@List.perm_middle
namespace Proofs.Tryz
end Proofs.Tryz
theorem RowKit.Hid.o {p:Prop}(h:RowKit.Hid p):p:=h
inductive MM (n:Nat):Type|mk
def iI:MM 0:=.mk
def iU:MM 1:=.mk
def sL:MM 2:=.mk
def rT:MM 3:=.mk
instance:CoeFun (MM 0) (fun _=>Int->Value):=⟨fun _=>.int .i64⟩
instance:CoeFun (MM 1) (fun _=>Int->Value):=⟨fun _=>.int .u64⟩
instance:CoeFun (MM 2) (fun _=>Option Addr->Nat->Nat->Value):=⟨fun _=>.slice⟩
instance:CoeFun (MM 3) (fun _=>Value->Ending):=⟨fun _=>.returned⟩
def cP:MM 4:=.mk
instance:CoeFun (MM 4) (fun _=>FuncId->Array Value->World->(Ending->World->Prop)->Prop):=⟨fun _=>Calls Proofs.Tryz.prog⟩
theorem wM {p:Prop}(h:p:=by simp[intOf];omega):p:=h
inductive AQ|mk (b o:Nat)
def aA:=AQ.mk
inductive AR|mk (b o:Nat)
def aP:=AR.mk
instance:Coe World Nat:=⟨fun w=>w.heap.size⟩
instance:Coe Nat Addr:=⟨fun b=>⟨b,0,none⟩⟩
instance:Coe World Addr:=⟨fun w=>⟨w.heap.size,0,none⟩⟩
instance:Coe Nat (Option Addr):=⟨fun b=>some ⟨b,0,none⟩⟩
instance:Coe World (Option Addr):=⟨fun w=>some ⟨w.heap.size,0,none⟩⟩
instance (b o:Nat):CoeDep AQ (aA b o) Addr:=⟨⟨b,o,none⟩⟩
instance (b o:Nat):CoeDep AR (aP b o) (Option Addr):=⟨some ⟨b,o,none⟩⟩
inductive SS (n:Nat):Type|mk
def w9:SS 0:=.mk
instance:CoeSort (SS 0) Type:=⟨fun _=>World⟩
def pO:MM 5:=.mk
def bO:MM 6:=.mk
def tU:MM 7:=.mk
instance:CoeFun (MM 5) (fun _=>Option Addr->Value):=⟨fun _=>.pointer⟩
instance:CoeFun (MM 6) (fun _=>Bool->Value):=⟨fun _=>.bool⟩
instance:CoeFun (MM 7) (fun _=>Array Value->Value):=⟨fun _=>.tuple⟩
end Go
namespace Go.Sg
open Go.RowKit
@[go_sem] def Df0 (f:FuncId):Fence.wide.fn f=True:=rfl
@[go_sem] def xm0 (l:Nat) (f:FuncId):(Fence.wide.inRound l).fn f=True:=rfl
@[go_sem] def Al0:Fence.wide.depth=none:=rfl
variable {p q:Prop}{a b base e n r:Nat}{c:Array Value}{S S':Nat->Prop}{w w' w1:w9}{t:TypeId}{f:Nat × Nat}{A B o:Obj}{P:Program}{v x y z:Value}{ks:List Int}
def hid (h:p):Hid p:=h
structure Fr (S:Nat->Prop)(w w':w9):Prop where
 os:w'.os=w.os
 tape:w'.tape=w.tape
 output:w'.output=w.output
 size:w<=(w':Nat)
 block:∀ b,b<w.heap.size->¬ S b->w'.heap[b]?=w.heap[b]?
def gA {α:Type}{l:List α}{i:Nat}:l.toArray[i]?=l[i]?:=List.getElem?_toArray ..
def gZ {α:Type}{a:α}{l:List α}:(a :: l)[0]?=some a:=rfl
def gS {α:Type}{a:α}{l:List α}{i:Nat}:(a :: l)[i+1]?=l[i]?:=rfl
def sI {α:Type}{l:List α}{i:Nat}{a:α}:l.toArray.setIfInBounds i a=(l.set i a).toArray:=List.setIfInBounds_toArray ..
def sZ {α:Type}{x a:α}{l:List α}:(x :: l).set 0 a=a :: l:=rfl
def sS {α:Type}{x a:α}{l:List α}{i:Nat}:(x :: l).set (i+1) a=x :: l.set i a:=rfl
abbrev Fq:=Fr fun _=>False
def gE {α:Type}{l:List α}{i:Nat}(h:i<l.length):l[i]?=some l[i]:=List.getElem?_eq_getElem h
def gI {α:Type}{a:α}{l:List α}{i:Nat}:l[i]?=some a <-> ∃ h:i<l.length,l[i]=a:=List.getElem?_eq_some_iff
def gM {α:Type}{a:α}{l:List α}{i:Nat}(h:l[i]?=some a):a ∈ l:=List.mem_of_getElem? h
def lA {α:Type}{l m:List α}:(l++m).length=l.length+m.length:=List.length_append
def gT {α:Type}{l:List α}{i j:Nat}:(l.take i)[j]?=if j<i then l[j]? else none:=List.getElem?_take
def gP {α β:Type}{f:α->β}{l:List α}{i:Nat}:(l.map f)[i]?=(l[i]?).map f:=List.getElem?_map
def zA {α:Type}(l:List α):l.toArray.size=l.length:=rfl
def lC {α:Type}{a:α}{l:List α}:(a :: l).length=l.length+1:=rfl
def lT {α:Type}{i:Nat}{l:List α}:(l.take i).length=min i l.length:=List.length_take
def tL {α:Type}{i:Nat}{l:List α}(h:l.length<=i):l.take i=l:=List.take_of_length_le h
def E4 {c:Nat}(h:a<b)(k:b<=c):a<c:=Nat.lt_of_lt_of_le h k
def nT {c:Nat}(h:a<=b)(k:b<=c):a<=c:=Nat.le_trans h k
def nR (a:Nat):a<=a:=Nat.le_refl a
def iZ {a:Int}(h:0<=a):∃ n:Nat,a=n:=Int.eq_ofNat_of_zero_le h
def aI (h:p)(k:q):p/\q:=⟨h,k⟩
def hi2 (h:p)(k:q):Hid (p/\q):=⟨h,k⟩
def Fr.refl (S:Nat->Prop)(w:w9):Fr S w w:=⟨rfl,rfl,rfl,nR _,fun _ _ _=>rfl⟩
def fR {S:Nat->Prop}{w:w9}:Fr S w w:=.refl ..
def Fr.trans {w2:w9}(h:Fr S w w1)(k:Fr S' w1 w2)(hs:∀ b,b<w.heap.size->S' b->S b):Fr S w w2:=
 ⟨k.os.trans h.os,k.tape.trans h.tape,k.output.trans h.output,nT h.size k.size,
  fun b hb hn=>(k.block b (E4 hb h.size) fun fO=>hn (hs b hb fO)).trans (h.block b hb hn)⟩
def Fr.mono (h:Fr S w w1)(hs:∀ b,b<w.heap.size->S b->S' b):Fr S' w w1:=
 ⟨h.os,h.tape,h.output,h.size,fun b hb hn=>h.block b hb fun fO=>hn (hs b hb fO)⟩
def fE (w:w9)(o:Obj)(b:Nat)(h:b<w):(w.alloc o).heap[b]?=w.heap[b]?:=by
 show (w.heap.push o)[b]?=_;rw[Array.getElem?_push,if_neg (Nat.ne_of_lt h)]
def han (w:w9)(o:Obj):(w.alloc o).heap[w.heap.size]?=some o:=by
 show (w.heap.push o)[w.heap.size]?=_;rw[Array.getElem?_push,if_pos rfl]
def fY (w:w9)(a:Addr)(v:Value)(b:Nat)(h:a.block≠b):(w.setCell a v).heap[b]?=w.heap[b]?:=by
 simp[World.setCell,Array.getElem?_modify,h]
def hsc (w:w9)(b o:Nat)(v:Value)(h:w.heap[b]?=some (.cells c t f)) :
  (w.setCell (aA b o) v).heap[b]?=some (.cells (c.setIfInBounds o v) t f):=by
 simp[World.setCell,Array.getElem?_modify,h]
def aC (w:w9)(r:Nat)(o:Obj)(b:Nat)(h:r≠b):(w.putObj r o).heap[b]?=w.heap[b]?:=by
 simp[World.putObj,h]
def wK (w:w9)(r:Nat)(o:Obj)(h:r<w):(w.putObj r o).heap[r]?=some o:=by
 simp[World.putObj,h]
def M0 (h:w.heap[b]?=some o):b<w:=(Array.getElem?_eq_some_iff.1 h).1
def Fr.alloc (h:Fr S w w1)(o:Obj):Fr S w (w1.alloc o):=
 ⟨h.os,h.tape,h.output,nT h.size sP,fun b hb hn=>(fE w1 o b (E4 hb h.size)).trans (h.block b hb hn)⟩
def fA {w w':w9}{o:Obj}(h:w.alloc o=w'):Fq w w':=by rw[<- h];exact fR.alloc _
def fB {w w':w9}{o:Obj}(h:w.alloc o=w'):w'.heap[w.heap.size]?=some o:=by rw[<- h];exact han _ _
def Fr.setCell (h:Fr S w w1){a:Addr}(ha:a.block<w.heap.size->S a.block)(v:Value):Fr S w (w1.setCell a v):=
 ⟨h.os,h.tape,h.output,by simpa using h.size,fun b hb hn=>(fY w1 a v b (by rintro rfl;exact hn (ha hb))).trans (h.block b hb hn)⟩
def Fr.putObj (h:Fr S w w1)(ha:r<w->S r)(o:Obj):Fr S w (w1.putObj r o):=
 ⟨h.os,h.tape,h.output,by simpa[World.putObj] using h.size,fun b hb hn=>(aC w1 r o b (by rintro rfl;exact hn (ha hb))).trans (h.block b hb hn)⟩
def Fr.drew (h:Fr S w w1):Fr S w w1.drew:=⟨h.os,h.tape,h.output,h.size,h.block⟩
def Fr.drewN (h:Fr S w w1)(n:Nat):Fr S w (w1.drewN n):=⟨h.os,h.tape,h.output,h.size,h.block⟩
def Fr.heap (h:Fr S w w1)(hb:w.heap[b]?=some o)(hn:¬ S b):w1.heap[b]?=some o:=(h.block b (M0 hb) hn).trans hb
def Fr.cell (h:Fr S w w1){p:Addr}(hb:p.block<w.heap.size)(hn:¬ S p.block):w1.cell? p=w.cell? p:=World.cell?_of_block (h.block _ hb hn)
def Fr.of_below (h:Below w.heap.size w w1):Fr S w w1:=⟨h.os,h.tape,h.output,h.size,fun b hb _=>h.block b hb⟩
def Fr.of_grownBy (h:w.grownBy w1 (some r)):Fr (· = r) w w1:=⟨h.os,h.tape,h.output,h.size,fun b hb hn=>h.block b hb fun e=>hn (by cases e;rfl)⟩
def Fr.below (h:Fr S w w1)(hs:∀ b,b<w.heap.size->¬ S b):Below w.heap.size w w1:=
 ⟨h.os,h.tape,h.output,h.size,fun b hb=>h.block b hb (hs b hb)⟩
def G0 (h:w.heap[b]?=some (.cells c t f))(o:Nat):w.cell? (aA b o)=c[o]?:=by
 simp[World.cell?,h]
def X2 (h:w.heap[b]?=some (.cells c t (0,0)))(o:Nat):w.frozen? ⟨b,o,none⟩=false:=by
 simp[World.frozen?,h]
@[go_sem] def heap_drewN (w:w9) (n:Nat):(w.drewN n).heap=w.heap:=rfl
@[go_sem] def heap_drew (w:w9):w.drew.heap=w.heap:=rfl
@[go_sem] def rU0 (w:w9) (a o:Nat) (v:Value) (b:Nat) (h:a≠b):(w.setCell (aA a o) v).heap[b]?=w.heap[b]?:=fY w _ v b h
@[go_sem] def tw0 (w:w9) (r:Nat) (o:Obj) (b:Nat) (h:r≠b):(w.putObj r o).heap[b]?=w.heap[b]?:=aC w r o b h
@[go_sem] def nn0 (w:w9) (r:Nat) (o:Obj) (b i:Nat) (h:r≠b):(w.putObj r o).cell? (aA b i)=w.cell? (aA b i):=by
 simp[World.cell?,aC w r o b h]
@[go_sem] def vF0 (w:w9) (r:Nat) (o:Obj) (b i:Nat) (h:r≠b):(w.putObj r o).frozen? ⟨b,i,none⟩=w.frozen? ⟨b,i,none⟩:=by
 simp[World.frozen?,aC w r o b h]
@[go_sem] def iD0 (w:w9) (r:Nat) (o:Obj):(w.putObj r o).heap.size=w.heap.size:=by simp[World.putObj]
@[go_sem] def vu0 (w:w9) (o:Obj) (b:Nat) (h:b<w):(w.alloc o).heap[b]?=w.heap[b]?:=fE w o b h
def gU {β:Type}(B:Nat)(b:β->Nat)(o:β->Obj)(h:∀ s,(o s).isCells=true\/b s<B):OwnFrom B (fun s W=>W.heap[b s]?=some (o s)):=by
 intro s W W' row hs hg hr;refine (hg.block (b s) (M0 hs) ?_).trans hs;intro e;obtain⟨hB,o',PB,hc⟩:=hr (b s) e.symm;rcases h s with h|h
 .rw[hs] at PB;cases PB;rw[h] at hc;cases hc
 .omega
def oY {β:Type}{B:Nat}(hB:w<=B):OwnFrom B (fun (_:β) W=>Fr S w W):=by
 intro s W W' row hs hg hr;exact hs.trans (S':=fun b=>W<=b\/B<=b) ⟨hg.os,hg.tape,hg.output,hg.size,fun b hb hn=>hg.block b hb fun e=>hn (.inr (hr b e.symm).1)⟩
  (fun b hb h=>by have:=hs.size;omega)
def eR {β:Type}(B:Nat)(p:β->Prop):OwnFrom B (fun s (_:w9)=>p s):=fun _ _ _ _ hs _ _=>hs
def U6 {β:Type}{B:Nat}{I I':β->World->Prop}(h:OwnFrom B I)(h':OwnFrom B I'):OwnFrom B (fun s W=>I s W/\I' s W):=h.and h'
def sj {β γ:Type}{B:Nat}{I:γ->β->World->Prop}(h:∀ c,OwnFrom B (I c)):OwnFrom B (fun s W=>∃ c,I c s W):=by
 rintro s W W' row ⟨c,hc⟩ hg hr;exact⟨c,h c s W W' row hc hg hr⟩
def wR {fn:Func}{R:Ending->World->Prop}{tmps:Array Value}{D t:Nat}{W:w9}(h:fn.results=#[.tmp t])(hK:W.heap[D]?=some (.deferred (some [])))
  (hR:R (rT (tmps.getD t undef)) (W.putObj D (.deferred none))):bodyPostM Fence.wide n P fn R .ret { tmps:=tmps,defers:=[{ target:=.collected D,args:=#[] }] } W:=
 ⟨by simp,.inl ⟨_,_,rfl,run_takeDeferred hK,_,results_tmp h _ _ _,hR⟩⟩
structure Z4 where
 k:Int
 v:Value
 born:Nat
def Z4.entry (e:Z4):MapEntry:=⟨iI e.k,e.v,e.born⟩
def ents (l:List Z4):Array MapEntry:=(l.map Z4.entry).toArray
def look (l:List Z4)(k:Int):Option Value:=(l.find? (·.k == k)).map (·.v)
def put:List Z4->Int->Value->Nat->List Z4
 | [],k,v,c=>[⟨k,v,c⟩]
 | e :: l,k,v,c=>if e.k == k then ⟨k,v,e.born⟩ :: l else e :: put l k v c
def del:List Z4->Int->List Z4
 | [],_=>[]
 | e :: l,k=>if e.k == k then l else e :: del l k
def lG0 (k:Int)(l:List Z4):∀ i,Instr.findNow (.int .i64) (iI k) (l.map Z4.entry) i =
  some ((l.findIdx? (·.k == k)).bind fun j=>(l[j]?).map fun e=>(i+j,e.v)):=by
 induction l with
 | nil=>intro i;rfl
 | cons e l ih =>
  intro i;simp only[qf,Instr.findNow,Z4.entry,Instr.sameNow,if_true,ue];by_cases h:k=e.k
  .subst h;simp
  .have h1:(k == e.k)=false:=by simpa using h
   have h2:(e.k == k)=false:=by simpa using fun x=>h x.symm
   rw[h1,h2];simp only[jI,if_false];rw[ih (i+1)];cases l.findIdx? (·.k == k) with
   | none=>rfl
   | some j=>simp only[DL,FO,gS];congr 2;funext e;congr 1;omega
section
variable {P:Program}{T K E:TypeId}{w:w9}{bm:Nat}{l:List Z4}{ck:Nat}
def run_getObj_map (h:w.heap[bm]?=some (.map (ents l) ck)):(getObj bm).run P w = .ok (.map (ents l) ck) w:=by
 simp[getObj,Sem.run,h]
def run_findKey (hk:P.underlying K=some (.int .i64))(k:Int):(Instr.findKey K (iI k) (ents l).toList).run P w =
  .ok ((l.findIdx? (·.k == k)).bind fun j=>(l[j]?).map fun e=>(j,e.v)) w:=by
 simp only[Instr.findKey,Sem.run_bind,run_underlying hk,Result.andThen,ents,lG0,o8];rfl
def run_checkKey (hk:P.underlying K=some (.int .i64))(k:Int)(b:Bool):(Instr.checkKey b 10000 K (iI k)).run P w = .ok () w:=by
 exact MapKept.run_checkKey (n:=9999) hk (by trivial) b
def look_eq (l:List Z4)(k:Int):((l.findIdx? (·.k == k)).bind fun j=>(l[j]?).map fun e=>(j,e.v)).map (·.2)=look l k:=by
 induction l with
 | nil=>rfl
 | cons e l ih =>
  simp only[ue,look,uj];by_cases h:e.k=k
  .subst h;simp
  .have h2:(e.k == k)=false:=by simpa using h
   rw[h2];simp only[jI,if_false];rw[look] at ih;rw[<- ih];cases l.findIdx? (·.k == k) with
   | none=>rfl
   | some j=>simp[Option.map_map];cases l[j]? <;> rfl
def yT {z:Value}(ok:Bool)(ht:P.underlying T=some (.map K E))(hk:P.underlying K=some (.int .i64))(hz:∀ w,(zeroValue E).run P w = .ok z w)
  (h:w.heap[bm]?=some (.map (ents l) ck)) (k:Int) :
  (Instr.lookup T (.map (some bm)) (iI k) ok).run P w =
   .ok (if ok then .tuple #[(look l k).getD z,bO (look l k).isSome] else (look l k).getD z) w:=by
 simp only[Instr.lookup,Sem.run_bind,run_underlying ht,Result.andThen,run_getObj_map h,run_checkKey hk,run_findKey hk,Sem.run_pure];have e:=look_eq l k;cases hf:((l.findIdx? (·.k == k)).bind fun j=>(l[j]?).map fun e=>(j,e.v)) with
 | none=>rw[hf] at e;rw[<- e];simp[hz]
 | some x=>rw[hf] at e;rw[<- e];cases ok <;> rfl
def WO (k:Int)(v:Value)(c:Nat):∀ (l:List Z4) (j:Nat),l.findIdx? (·.k == k)=some j ->
  (l.map Z4.entry).modify j (fun e=>{ e with key:=iI k,val:=v })=(put l k v c).map Z4.entry/\∃ e,l[j]?=some e/\e.k=k
 | [],j,h=>by simp at h
 | e :: l,j,h=>by
  rw[ue] at h;by_cases hk:(e.k == k)=true
  .rw[hk] at h;simp only[if_true,Option.some.injEq] at h;subst h;have A5:e.k=k:=by simpa using hk
   exact⟨by simp[put,hk,Z4.entry],e,rfl,A5⟩
  .have A5:(e.k == k)=false:=by simpa using hk
   rw[A5] at h;simp only[jI,if_false,Option.map_eq_some_iff] at h;obtain⟨i,hi,rfl⟩:=h;obtain⟨h1,h2⟩:=WO k v c l i hi;exact⟨by simp[put,A5,h1],by simpa using h2⟩
def pZ0 (k:Int)(v:Value)(c:Nat):∀ (l:List Z4),l.findIdx? (·.k == k)=none->put l k v c=l++[⟨k,v,c⟩]
 | [],_=>rfl
 | e :: l,h=>by
  rw[ue] at h;by_cases hk:(e.k == k)=true
  .rw[hk] at h;simp at h
  .have A5:(e.k == k)=false:=by simpa using hk
   rw[A5] at h;simp only[jI,if_false,Option.map_eq_none_iff] at h;simp[put,A5,pZ0 k v c l h]
def nL0 (l:List Z4)(k:Int):(look l k).isSome=(l.findIdx? (·.k == k)).isSome:=by
 induction l with
 | nil=>rfl
 | cons e l ih =>
  simp only[look,uj,ue];by_cases hk:(e.k == k)=true
  .simp[hk]
  .have A5:(e.k == k)=false:=by simpa using hk
   rw[A5];simp only[look] at ih;simp[ih]
def run_keyThatStays (k:Int):(Instr.keyThatStays (iI k) (iI k)).run P w = .ok (iI k) w:=by
 simp[Instr.keyThatStays,Instr.sameBits]
def NI {o o':Obj}(h:w.heap[bm]?=some o)(ho:o.isCells=false):(setObj bm o').run P w = .ok () (w.putObj bm o'):=by
 cases o <;> first|(simp[Obj.isCells] at ho;done)|simp[setObj,Sem.run,h,World.putObj]
def bump (l:List Z4)(k:Int)(ck:Nat):Nat:=if (look l k).isSome then ck else ck+1
def Bv (ht:P.underlying T=some (.map K E))(hk:P.underlying K=some (.int .i64))
  (h:w.heap[bm]?=some (.map (ents l) ck)) (k:Int) (v:Value) :
  (Instr.mapUpdate T (.map (some bm)) (iI k) v).run P w =
   .ok () (w.putObj bm (.map (ents (put l k v ck)) (bump l k ck))):=by
 unfold bump;simp only[Instr.mapUpdate,Sem.run_bind,run_underlying ht,Result.andThen,run_getObj_map h,run_checkKey hk,run_findKey hk];rw[nL0];cases hf:l.findIdx? (·.k == k) with
 | none =>
  simp only[Option.bind_none];rw[NI h rfl,pZ0 k v ck l hf];simp[ents,Z4.entry]
 | some j =>
  obtain⟨h1,e,h2,h3⟩:=WO k v ck l j hf;have h4:(((ents l)[j]?).map (·.key)).getD (iI k) = iI k:=by simp[ents,h2,Z4.entry,h3]
  simp only[FO,h2,DL];rw[h4];simp only[Sem.run_bind,run_keyThatStays,Result.andThen];rw[NI h rfl];simp only[Option.isSome_some,if_true];congr 3
  rw[ents,ents,<- h1];simp
def oI0 (k:Int):∀ (l:List Z4) (j:Nat),l.findIdx? (·.k == k)=some j->(l.map Z4.entry).eraseIdx j=(del l k).map Z4.entry
 | [],j,h=>by simp at h
 | e :: l,j,h=>by
  rw[ue] at h;by_cases hk:(e.k == k)=true
  .rw[hk] at h;simp only[if_true,Option.some.injEq] at h;subst h;simp[del,hk]
  .have A5:(e.k == k)=false:=by simpa using hk
   rw[A5] at h;simp only[jI,if_false,Option.map_eq_some_iff] at h;obtain⟨i,hi,rfl⟩:=h;simp[del,A5,oI0 k l i hi]
def oJ0 (k:Int):∀ (l:List Z4),l.findIdx? (·.k == k)=none->del l k=l
 | [],_=>rfl
 | e :: l,h=>by
  rw[ue] at h;by_cases hk:(e.k == k)=true
  .rw[hk] at h;simp at h
  .have A5:(e.k == k)=false:=by simpa using hk
   rw[A5] at h;simp only[jI,if_false,Option.map_eq_none_iff] at h;simp[del,A5,oJ0 k l h]
def jH0 (ht:P.underlying T=some (.map K E))(hk:P.underlying K=some (.int .i64))
  (h:w.heap[bm]?=some (.map (ents l) ck)) (k:Int) (t':TypeId) (ts:Array TypeId) (xL:ts[0]?=some T) :
  (Builtin.delete_ ts t' #[.map (some bm),iI k]).run P w = .ok (tU #[]) (w.putObj bm (.map (ents (del l k)) ck)):=by
 simp only[Builtin.delete_,xL];simp only[gA,gZ,gS,Sem.run_bind,run_underlying ht,Result.andThen,run_getObj_map h,run_checkKey hk,run_findKey hk];cases hf:l.findIdx? (·.k == k) with
 | none =>
  simp only[Option.bind_none,Sem.run_bind];rw[NI h rfl,oJ0 k l hf];rfl
 | some j =>
  obtain⟨h1,e,h2,h3⟩:=WO k (bO true) ck l j hf;simp only[FO,h2,DL,Sem.run_bind];rw[NI h rfl];have:=oI0 k l j hf;simp only[Result.andThen];congr 3
  rw[ents,ents,<- this];have hj:j<(l.map Z4.entry).toArray.size:=by
   have:=(gI.1 h2).1;simpa using this
  simp[Array.eraseIdxIfInBounds,hj];have:=(gI.1 h2).1;simp[this]
end
def IC (l:List Z4)(k:Int)(v:Value)(c:Nat)(k':Int):look (put l k v c) k'=if k=k' then some v else look l k':=by
 induction l with
 | nil =>
  by_cases h:k=k'
  .simp[put,look,h]
  .have:(k == k')=false:=by simpa using h
   simp[put,look,h]
 | cons e l ih =>
  unfold put;by_cases hk:(e.k == k)=true
  .have A5:e.k=k:=by simpa using hk
   rw[if_pos hk];by_cases h:k=k'
   .simp[look,h]
   .simp[look,h,A5]
  .rw[if_neg hk];simp only[look,uj] at ih ⊢;by_cases h':(e.k == k')=true
   .have h2:e.k=k':=(by simpa using h');have h3:k≠k':=fun x=>hk (by simp[h2,x])
    simp[h',h3]
   .have TN:(e.k == k')=false:=(by simpa using h');rw[TN];exact ih
def keys (l:List Z4):List Int:=l.map (·.k)
def pw0 (l:List Z4)(k:Int)(v:Value)(c:Nat):keys (put l k v c)=if (look l k).isSome then keys l else keys l++[k]:=by
 induction l with
 | nil=>rfl
 | cons e l ih =>
  unfold put;by_cases hk:(e.k == k)=true
  .have A5:e.k=k:=by simpa using hk
   simp[keys,look,hk,A5]
  .have A5:(e.k == k)=false:=by simpa using hk
   have e1:look (e :: l) k=look l k:=by simp[look,uj,A5]
   rw[A5,e1];simp only[jI,if_false];show e.k :: keys (put l k v c)=_;rw[ih];split <;> rfl
def wN (l:List Z4)(k:Int):look l k=none↔k ∉ keys l:=by
 simp[look,keys]
def length_keys (l:List Z4):(keys l).length=l.length:=by simp[keys]
def jP0 (l:List Z4)(k:Int)(v:Value)(c:Nat):(put l k v c).length=if (look l k).isSome then l.length else l.length+1:=by
 rw[<- length_keys,pw0];split <;> simp[length_keys]
variable {l:List Z4}
def ED (h:(keys l).Nodup)(k:Int)(v:Value)(c:Nat):(keys (put l k v c)).Nodup:=by
 rw[pw0];split
 .exact h
 .rename_i hn;have:k ∉ keys l:=(wN l k).1 (by simpa using hn);rw[yh];refine⟨h,by simp,?_⟩;rintro a ha b hb rfl;simp at hb;subst hb;exact this ha
def px0 (l:List Z4)(k:Int):keys (del l k)=(keys l).erase k:=by
 induction l with
 | nil=>rfl
 | cons e l ih =>
  unfold del;by_cases hk:(e.k == k)=true
  .simp[keys,hk,List.erase_cons]
  .have A5:(e.k == k)=false:=by simpa using hk
   simp only[keys] at ih;simp[keys,List.erase_cons,A5,ih]
def jQ0 (l:List Z4)(k:Int):(del l k).length=if (look l k).isSome then l.length-1 else l.length:=by
 rw[<- length_keys,px0];cases h:look l k with
 | none=>rw[List.erase_of_not_mem ((wN l k).1 h)];simp[length_keys]
 | some x =>
  have hk:k ∈ keys l:=by
   rcases Decidable.em (k ∈ keys l) with h'|h'
   .exact h'
   .rw[(wN l k).2 h'] at h;cases h
  rw[List.length_erase_of_mem hk];simp[length_keys]
def mj0 (h:(keys l).Nodup)(k:Int):(keys (del l k)).Nodup:=by
 rw[px0];exact h.erase k
def WT (h:(keys l).Nodup)(k k':Int):look (del l k) k'=if k=k' then none else look l k':=by
 induction l with
 | nil=>simp[del,look]
 | cons e l ih =>
  have hn:(keys l).Nodup:=by simp[keys] at h ⊢;exact h.2
  have he:e.k ∉ keys l:=by simp[keys] at h ⊢;exact h.1
  unfold del;by_cases hk:(e.k == k)=true
  .have A5:e.k=k:=by simpa using hk
   rw[if_pos hk];by_cases hh:k=k'
   .subst hh;rw[if_pos rfl];exact (wN l k).2 (A5 ▸ he)
   .simp[look,hh,A5]
  .rw[if_neg hk];have ih:=ih hn;simp only[look,uj] at ih ⊢;by_cases h':(e.k == k')=true
   .have h2:e.k=k':=(by simpa using h');have h3:k≠k':=fun x=>hk (by simp[h2,x])
    simp[h',h3]
   .have TN:(e.k == k')=false:=(by simpa using h');rw[TN];exact ih
def Ez (t e:TypeId)(i:TypeInfo)(z:Value)(ht:P.underlying t=some (.slice e))(hi:P.info? e=some i)(hz:i.zero=some z)(n:Nat)(hb:i.bytes*n<=281474976710656)(hn:n<=9223372036854775807)(w:w9) :
  (Instr.makeSlice t (iI (n:Int)) (iI (n:Int))).run P w = .ok (sL w n n) (w.alloc (.cells (madeCells z.cells (n*i.size)) e)):=by
 have hc:(i.bytes:Int)*(n:Int)<=281474976710656:=by
  have h1:((i.bytes*n:Nat):Int)<=281474976710656:=oM
  rw[Int.natCast_mul] at h1;exact h1
 have h:=run_make (P:=P) w t e i z ht hi hz .i64 .i64 n n oM oM hc oM;rw[jK] at h;exact h
def Fr.U2 (h:Fr S w w1){o:Nat}(hb:w<=b)(v:Value):Fr S w (w1.setCell (aA b o) v):=h.setCell (fun h'=>absurd h' sO) v
def cells2 (h:w.heap[b]?=some (.cells #[x,y] t)):w.cell? b=some x/\w.cell? (aA b 1)=some y/\(∀ o,w.frozen? ⟨b,o,none⟩=false)/\b<w:=
 ⟨by simpa using G0 h 0,by simpa using G0 h 1,fun o=>X2 h o,M0 h⟩
def cells4 {u:Value}(h:w.heap[b]?=some (.cells #[x,y,z,u] t)) :
  w.cell? b=some x/\w.cell? (aA b 1)=some y/\w.cell? (aA b 2)=some z/\w.cell? (aA b 3)=some u/\(∀ o,w.frozen? ⟨b,o,none⟩=false)/\b<w:=
 ⟨by simpa using G0 h 0,by simpa using G0 h 1,by simpa using G0 h 2,by simpa using G0 h 3,fun o=>X2 h o,M0 h⟩
def n9 (h:(w.alloc A).alloc B=w'):w'.heap[w.heap.size]?=some A/\w'.heap[w.heap.size+1]?=some B/\Fq w w':=by
 subst h;refine⟨?_,?_,(fR.alloc _).alloc _⟩
 .rw[fE _ _ _ sP];exact han _ _
 .have:=han (w.alloc A) B;simpa using this
def nC {C:Obj}(h:((w.alloc A).alloc B).alloc C=w') :
  w'.heap[w.heap.size]?=some A/\w'.heap[w.heap.size+1]?=some B/\w'.heap[w.heap.size+1+1]?=some C/\Fq w w':=by
 obtain⟨w2,hw⟩:=eX ((w.alloc A).alloc B)
 obtain⟨h1,h2,h3⟩:=n9 hw;rw[hw] at h;have hs:w2.heap.size=w.heap.size+1+1:=by rw[<- hw];simp
 subst h;refine⟨?_,?_,?_,h3.alloc _⟩
 .rw[fE _ _ _ (M0 h1)];exact h1
 .rw[fE _ _ _ (M0 h2)];exact h2
 .have:=han w2 C;rw[hs] at this;exact this
def cells3 (h:w.heap[b]?=some (.cells #[x,y,z] t)) :
  w.cell? b=some x/\w.cell? (aA b 1)=some y/\w.cell? (aA b 2)=some z/\(∀ o,w.frozen? ⟨b,o,none⟩=false)/\b<w:=
 ⟨by simpa using G0 h 0,by simpa using G0 h 1,by simpa using G0 h 2,fun o=>X2 h o,M0 h⟩
def XF {o':Obj}(h:w.heap[a]?=some o)(h':w.heap[b]?=some o')(hne:o≠o'):a≠b:=by
 rintro rfl;rw[h] at h';exact hne (Option.some.inj h')
def qK {wr:w9}{size:Nat}{xs:List Value}(F:Fr S w wr)(hb:w<=base)(A0:wr.ownsRow base e size v n xs)(hg:(wr.alloc o).grownBy w' v.ownBlock):Fr S w w':=by
 refine F.trans (S':=fun b=>base<=b) ⟨hg.os,hg.tape,hg.output,nT sP hg.size,fun b hb hn=>?_⟩ fun b P4 h=>oM;rw[hg.block b (E4 hb sP) fun e=>hn (A0.lt b e.symm).1];exact fE _ _ _ hb
def Ints (w:w9)(v:Value)(ks:List Int):Prop:=
 ∃ a cap,v = sL a ks.length cap/\∀ (i:Nat) (k:Int),ks[i]?=some k->∃ g,a=some ⟨g,0,none⟩/\g<w.heap.size/\w.cell? (aA g i)=some (iI k)
def Ints.fr (h:Ints w v ks)(F:Fr S w w')(hS:∀ b,b<w.heap.size->¬ S b):Ints w' v ks:=by
 obtain⟨a,cap,e,h⟩:=h;refine⟨a,cap,e,fun i k hk=>?_⟩;obtain⟨g,ha,hl,hc⟩:=h i k hk;exact⟨g,ha,E4 hl F.size,(F.cell (p:=⟨g,i,none⟩) hl (hS g hl)).trans hc⟩
def ig0 (h:w.ownsRow base e 1 v ks.length (ks.map (Value.int .i64))):Ints w v ks:=by
 obtain⟨_,⟨rfl,h0⟩|⟨g,cap,cur,rfl,_,hg,_,_,_,ht⟩⟩:=h
 .refine⟨none,0,by rw[h0],fun i k hk=>?_⟩;have:=(gI.1 hk).1;omega
 .refine⟨_,cap,rfl,fun i k hk=>⟨g,rfl,M0 hg,?_⟩⟩;have hi:=(gI.1 hk).1;rw[G0 hg];have:(cur.toList.take (ks.length*1))[i]?=some (iI k):=by rw[ht,gP,hk];rfl
  rw[gT,if_pos oM] at this;simpa using this
end Go.Sg
namespace Go.Sg.r4
section
open Go.RowKit
structure Pg where
 stamp:Int
 la:Option Addr
 ll:Nat
 lc:Nat
 dirty:Bool
abbrev Pg.load (p:Pg):Value:=sL p.la p.ll p.lc
abbrev Pg.val (p:Pg):Value:=.agg #[iI p.stamp,p.load,bO p.dirty]
def Pg.zero:Pg:=⟨0,none,0,0,false⟩
structure Pl where
 key:Int
 v:Pg
 full:Bool
 marked:Bool
def Pl.cells (p:Pl):List Value:=[iI p.key,iI p.v.stamp,p.v.load,bO p.v.dirty,bO p.full,bO p.marked]
def cellsOf (pl:List Pl):Array Value:=(pl.flatMap Pl.cells).toArray
def Pl.none (z:Pg):Pl:=⟨0,z,false,false⟩
def flat_get:∀ (pl:List Pl) (i j:Nat) (p:Pl),pl[i]?=some p->j<6->(pl.flatMap Pl.cells)[i*6+j]?=p.cells[j]?
 | [],i,j,p,h,_=>by simp at h
 | q :: pl,0,j,p,h,hj=>by
  simp at h;subst h;simp only[dj,uk,o8];rw[jn (by simp[Pl.cells];omega)]
 | q :: pl,i+1,j,p,h,hj=>by
  simp only[dj];rw[kN (by simp[Pl.cells];omega)];have:=flat_get pl i j p (by simpa using h) hj;rw[<- this];congr 1
  simp[Pl.cells];omega
variable {pl:List Pl}{i:Nat}{p:Pl}
def uP (h:pl[i]?=some p)(j:Nat)(hj:j<6):(cellsOf pl)[i*6+j]?=p.cells[j]?:=by
 simpa[cellsOf] using flat_get pl i j p h hj
def vL0 (pl:List Pl):(pl.flatMap Pl.cells).length=pl.length*6:=by
 induction pl with
 | nil=>rfl
 | cons p pl ih=>simp only[dj,lA,ih,lC];simp[Pl.cells];omega
def rk0 (pl:List Pl):(cellsOf pl).size=pl.length*6:=by simp only[cellsOf,zA,vL0]
def OS:∀ (pl:List Pl) (i j:Nat) (v:Value) (p q:Pl),pl[i]?=some p->j<6->p.cells.set j v=q.cells ->
  (pl.flatMap Pl.cells).set (i*6+j) v=(pl.set i q).flatMap Pl.cells
 | [],i,j,v,p,q,h,_,_=>by simp at h
 | r :: pl,0,j,v,p,q,h,hj,hq=>by
  simp at h;subst h;simp only[dj,uk,o8,sZ];rw[List.set_append_left _ _ (by simp[Pl.cells];omega),hq]
 | r :: pl,i+1,j,v,p,q,h,hj,hq=>by
  simp only[dj,sS];rw[List.set_append_right _ _ (by simp[Pl.cells];omega)];have:=OS pl i j v p q (by simpa using h) hj hq;rw[<- this];congr 2
  simp[Pl.cells];omega
def BA (h:pl[i]?=some p)(j:Nat)(hj:j<6)(v:Value)(q:Pl)(hq:p.cells.set j v=q.cells) :
  (cellsOf pl).setIfInBounds (i*6+j) v=cellsOf (pl.set i q):=by
 simp[cellsOf,OS pl i j v p q h hj hq]
def find (pl:List Pl)(key:Int):Option Nat:=pl.findIdx? fun p=>p.full && p.key == key
def Nd (pl:List Pl):Prop:=∀ (i j:Nat) (p q:Pl),pl[i]?=some p->pl[j]?=some q->p.full=true->q.full=true->p.key=q.key->i=j
structure At (tc tp:TypeId)(ok:Pg->Prop)(w:w9)(bc bp bm:Nat)(pl:List Pl)(hand:Nat):Prop where
 c:w.heap[bc]?=some (.cells #[sL bp pl.length pl.length,.map (some bm),iI hand] tc)
 p:w.heap[bp]?=some (.cells (cellsOf pl) tp)
 m:∃ l ck,w.heap[bm]?=some (.map (ents l) ck)/\(keys l).Nodup/\(∀ k,look l k=(find pl k).map fun i=>iI i)/\l.length=pl.countP (·.full)
 room:1<=pl.length/\pl.length<=4096
 hand:hand<pl.length
 vs:∀ p ∈ pl,ok p.v
 nd:Nd pl
def mp {key:Int}(h:find pl key=some i):∃ p,pl[i]?=some p/\p.full=true/\p.key=key:=by
 rw[find,ox] at h;obtain⟨hi,hp,_⟩:=h;simp at hp;exact⟨pl[i],by simp,hp.1,hp.2⟩
end
section
def en (k:Nat)(pl:List Pl):List (Nat × Pl):=(((List.range k).map fun i=>(i,pl[i]?)).filterMap fun x=>x.2.bind fun p=>if p.full then some (x.1,p) else none)
def Oa (k:Nat)(pl:List Pl)(p:Pl)(h:pl[k]?=some p):en (k+1) pl=if p.full then en k pl++[(k,p)] else en k pl:=by
 simp only[en,Ah,B9,qf,xX,List.filterMap_append,List.filterMap_cons,List.filterMap_nil,h,FO];cases p.full <;> simp
def NU (k:Nat)(pl:List Pl):(en k pl).length<=k:=by
 refine nT (List.length_filterMap_le _ _) ?_;simp
def kc0 (pl:List Pl):∀ (k m:Nat),k<=m->m<=pl.length->en k pl <+: en m pl:=by
  intro k m h hm;induction m with
  | zero => obtain rfl : k = 0 := by omega
            exact Ai
  | succ m ih =>
    by_cases hk:k=m+1
    . subst hk;exact Ai
    . have:=ih oM oM;have hp:pl[m]?=some pl[m]:=gE oM;rw[Oa m pl _ hp];split
      . exact this.trans (List.prefix_append _ _)
      . exact this
def empty (pl:List Pl):Option Nat:=pl.findIdx? fun p=>!p.full
def LZ (pl:List Pl):Int:=match empty pl with
 | some i=>i
 | none=>-1
variable {pl:List Pl}
def Tw {i:Nat}(h:empty pl=some i):LZ pl=i:=by rw[LZ,h]
def in0 (h:empty pl=none):LZ pl = -1:=by rw[LZ,h]
def isFull (pl:List Pl)(i:Nat):Bool:=(pl[i]?).any (·.full)
def Ac (k:Nat)(pl:List Pl):List Nat:=(List.range k).filter (isFull pl)
def jW0 (k:Nat)(pl:List Pl)(hk:k<=pl.length):(en k pl).map (·.1)=Ac k pl:=by
 induction k with
 | zero=>rfl
 | succ k ih =>
  have hp:pl[k]?=some pl[k]:=gE oM;rw[Oa k pl _ hp,Ac,Ah,qe];have ih:=ih oM;rw[Ac] at ih;cases hf:(pl[k]).full with
  | true=>simp[ih,isFull,hp,hf]
  | false=>simp[ih,isFull,hp,hf]
def qc0 (h:∀ i,i<pl.length->isFull pl i=true):empty pl=none:=by
 rw[empty,ud];intro p hp;obtain⟨i,hi,rfl⟩:=Qi hp;have:=h i hi;simpa[isFull,hi] using this
def jY0 {k:Nat}(hk:k<pl.length)(h:∀ i,i<k->isFull pl i=true)(hn:isFull pl k=false):empty pl=some k:=by
 rw[empty,ox];refine⟨hk,by simpa[isFull,hk] using hn,fun j hj=>?_⟩;have:=h j hj;simpa[isFull,show j<pl.length by omega] using this
def eD0 (h:(en pl.length pl).map (·.1)=List.range (en pl.length pl).length) :
  empty pl=if (en pl.length pl).length=pl.length then none else some (en pl.length pl).length:=by
 rw[jW0 _ _ (nR _)] at h;have jD:=NU pl.length pl;generalize (en pl.length pl).length=m at *
 have mem:∀ i,i<pl.length->(isFull pl i=true↔i<m):=fun i hi=>by
  have h1:i ∈ Ac pl.length pl↔i<m:=by rw[h];simp
  rw[<- h1,Ac,rn];simp[hi]
 split
 .subst m;exact qc0 fun i hi=>(mem i hi).2 hi
 .exact jY0 oM (fun i hi=>(mem i oM).2 hi) (by have:=mem m oM;simpa using this)
def kg0 {pre:List (Nat × Pl)}{x:Nat × Pl}(hp:pre++[x] <+: en pl.length pl)(hpre:pre.map (·.1)=List.range pre.length)(hx:x.1≠pre.length) :
  empty pl=some pre.length/\pre.length<pl.length:=by
 obtain⟨rest,KV⟩:=hp;have h:List.range pre.length++(x.1 :: rest.map (·.1))=Ac pl.length pl:=by
  rw[<- jW0 _ _ (nR _),<- KV];simp[hpre]
 have hs:(Ac pl.length pl).Pairwise (· < ·):=List.Pairwise.filter _ List.pairwise_lt_range;rw[<- h,List.pairwise_append] at hs;obtain⟨-,h2,h3⟩:=hs;rw[DO] at h2;have cE:pre.length<=x.1:=by
  rcases jL x.1 pre.length with h'|h'
  .have:=h3 x.1 (by simpa using h') x.1 sP;omega
  .exact h'
 have aW:∀ i,i ∈ List.range pre.length++(x.1 :: rest.map (·.1))↔i<pl.length/\isFull pl i=true:=fun i=>by rw[h,Ac];simp
 have dS:x.1<pl.length:=((aW x.1).1 sP).1;refine⟨jY0 oM (fun i hi=>((aW i).1 (by simp;exact .inl hi)).2) ?_,oM⟩;cases hf:isFull pl pre.length with
 | false=>rfl
 | true =>
  have:=(aW pre.length).2 ⟨oM,hf⟩;simp at this;rcases this with h'|⟨a,h'⟩
  .omega
  .have:=h2.1 pre.length (by simp;exact⟨a,h'⟩);omega
def spin:Nat->List Pl->Nat->List Pl × Nat
 | 0,pl,h=>(pl,h)
 | f+1,pl,h=>match pl[h]? with
  | some p=>if p.marked then spin f (pl.set h { p with marked:=false }) ((h+1) % pl.length) else (pl,h)
  | none=>(pl,h)
structure Put where
 pl:List Pl
 hand:Nat
 gone:Option Pl
def fQ (pl:List Pl)(hand:Nat)(key:Int)(v:Pg):Put:=
 match find pl key with
 | some i=>⟨pl.set i ⟨key,v,true,true⟩,hand,none⟩
 | none=>match empty pl with
  | some i=>⟨pl.set i ⟨key,v,true,true⟩,hand,none⟩
  | none=>let s:=spin pl.length pl hand
   ⟨s.1.set s.2 ⟨key,v,true,true⟩,(s.2+1) % pl.length,s.1[s.2]?⟩
end
section
open Go.RowKit
variable {pl:List Pl}{k:Int}{bc bm bp h hand i:Nat}{tc tp:TypeId}{w:w9}
def Im (hn:Nd pl)(k:Int)(i:Nat):find pl k=some i↔∃ p,pl[i]?=some p/\p.full=true/\p.key=k:=by
 constructor
 .exact mp
 .rintro⟨p,hp,hf,hk⟩;cases h:find pl k with
  | none =>
   rw[find,ud] at h;have:=h p (gM hp);simp[hf,hk] at this
  | some j =>
   obtain⟨q,hq,hqf,hqk⟩:=mp h;rw[hn i j p q hp hq hf hqf (by rw[hk,hqk])]
def find_eq (hn:Nd pl){x:Option Nat}(h:∀ i,(∃ p,pl[i]?=some p/\p.full=true/\p.key=k)↔x=some i):find pl k=x:=by
 apply Option.ext;intro i;rw[Im hn,h]
variable {p:Pl}
def pm (hp:pl[i]?=some p)(q:Pl)(j:Nat):(pl.set i q)[j]?=if i=j then some q else pl[j]?:=by
 rw[ug];split
 .rename_i h;subst h;simp[(gI.1 hp).1]
 .rfl
def Ik (h:find pl k=none)(hp:pl[i]?=some p)(hf:p.full=true):p.key≠k:=by
 rw[find,ud] at h;have:=h p (gM hp);intro e;simp[hf,e] at this
def Fz (hn:Nd pl)(hp:pl[i]?=some p)(q:Pl)(h:q.full=true->(p.full=true/\q.key=p.key)\/find pl q.key=none):Nd (pl.set i q):=by
 intro a b x y hx hy vF Aa hk;rw[pm hp] at hx hy;split at hx <;> split at hy
 .omega
 .rename_i h1 h2;cases hx;rcases h vF with⟨h3,h4⟩|h3
  .subst h1;exact hn _ _ p y hp hy h3 Aa (by rw[<- hk,h4])
  .exact absurd hk.symm (Ik h3 hy Aa)
 .rename_i h1 h2;cases hy;rcases h Aa with⟨h3,h4⟩|h3
  .subst h2;exact hn _ _ x p hx hp vF h3 (by rw[hk,h4])
  .exact absurd hk (Ik h3 hx vF)
 .exact hn a b x y hx hy vF Aa hk
def yY (hn:Nd pl)(hp:pl[i]?=some p)(q:Pl)(h:q.full=true->(p.full=true/\q.key=p.key)\/find pl q.key=none)(k:Int) :
  find (pl.set i q) k=if q.full=true/\q.key=k then some i else if p.full=true/\p.key=k then none else find pl k:=by
 refine find_eq (Fz hn hp q h) fun j=>?_
 constructor
 .rintro⟨x,hx,hf,hk⟩;rw[pm hp] at hx;split at hx
  .rename_i e;subst e;cases hx;rw[if_pos ⟨hf,hk⟩]
  .rename_i e;have h1:¬ (q.full=true/\q.key=k):=by
    rintro⟨a,b⟩;rcases h a with⟨c,d⟩|c
    .exact e (hn _ _ p x hp hx c hf (by rw[<- d,b,hk]))
    .exact Ik c hx hf (by rw[hk,b])
   have h2:¬ (p.full=true/\p.key=k):=fun⟨a,b⟩=>e (hn _ _ p x hp hx a hf (by rw[b,hk]))
   rw[if_neg h1,if_neg h2,Im hn];exact⟨x,hx,hf,hk⟩
 .intro hj;split at hj
  .rename_i e;cases hj;exact⟨q,by rw[pm hp,if_pos rfl],e.1,e.2⟩
  .rename_i e;split at hj
   .cases hj
   .rename_i e2;obtain⟨x,hx,hf,hk⟩:=mp hj;refine⟨x,?_,hf,hk⟩;rw[pm hp,if_neg]
    .exact hx
    .rintro rfl;rw[hp] at hx;cases hx;exact e2 ⟨hf,hk⟩
def count_set (hp:pl[i]?=some p)(q:Pl) :
  (pl.set i q).countP (·.full)=pl.countP (·.full)-(if p.full=true then 1 else 0)+if q.full=true then 1 else 0:=by
 obtain⟨hi,rfl⟩:=gI.1 hp;rw[List.countP_set hi]
def lO0 (hp:pl[i]?=some p)(hf:p.full=true):0<pl.countP (·.full):=
 List.countP_pos_iff.2 ⟨p,gM hp,hf⟩
section
variable {tc tp:TypeId}{ok:Pg->Prop}{w w':w9}{bc bp bm hand:Nat}{pl:List Pl}
def At.fr {S:Nat->Prop}(h:At tc tp ok w bc bp bm pl hand)(hf:Fr S w w')(h1:¬ S bc)(h2:¬ S bp)(h3:¬ S bm):At tc tp ok w' bc bp bm pl hand:=by
 obtain⟨l,ck,hm,r⟩:=h.m;exact⟨hf.heap h.c h1,hf.heap h.p h2,⟨l,ck,hf.heap hm h3,r⟩,h.room,h.hand,h.vs,h.nd⟩
def At.ne (h:At tc tp ok w bc bp bm pl hand):bc≠bp/\bc≠bm/\bp≠bm:=by
 obtain⟨l,ck,hm,r⟩:=h.m;have hc:=h.c;have hp:=h.p;have hr:=h.room;refine⟨?_,?_,?_⟩
 .rintro rfl;rw[hc] at hp;cases hp':pl with
  | nil=>simp[hp'] at hr
  | cons x r =>
   rw[hp'] at hp;simp[cellsOf,Pl.cells] at hp
 .rintro rfl;rw[hc] at hm;cases hm
 .rintro rfl;rw[hp] at hm;cases hm
def At.set (h:At tc tp ok w bc bp bm pl hand){i:Nat}{p:Pl}(hp:pl[i]?=some p)(j:Nat)(hj:j<6)(v:Value)(q:Pl)(hq:p.cells.set j v=q.cells)
  (hk:q.key=p.key) (hf:q.full=p.full) (hv:ok q.v):At tc tp ok (w.setCell (aA bp (i*6+j)) v) bc bp bm (pl.set i q) hand:=by
 obtain⟨n1,n2,n3⟩:=h.ne;obtain⟨l,ck,hm,eA,hl,hc⟩:=h.m;have hs:q.full=true->(p.full=true/\q.key=p.key)\/find pl q.key=none:=fun a=>.inl ⟨by rw[<- hf,a],hk⟩
 refine⟨?_,?_,⟨l,ck,?_,eA,fun k=>?_,?_⟩,by simpa using h.room,by simpa using h.hand,fun x hx=>?_,Fz h.nd hp q hs⟩
 .rw[fY _ _ _ _ (by simpa using n1.symm),h.c];simp
 .rw[hsc _ _ _ _ h.p,BA hp j hj v q hq]
 .rw[fY _ _ _ _ (by simpa using n3),hm]
 .rw[hl,yY h.nd hp q hs,hk,hf];split
  .rename_i e;rw[(Im h.nd k i).2 ⟨p,hp,e.1,e.2⟩]
  .rfl
 .rw[hc,count_set hp,hf];split
  .rename_i e;have:=lO0 hp e;omega
  .omega
 .rcases Ml hx with h'|rfl
  .exact h.vs x h'
  .exact hv
end
def marks (pl:List Pl):Nat:=pl.countP (·.marked)
def wl0 (pl:List Pl):marks pl<=pl.length:=List.countP_le_length
def mm0 (hp:pl[i]?=some p)(hf:p.marked=true):0<marks pl:=
 List.countP_pos_iff.2 ⟨p,gM hp,hf⟩
def tg0 (hp:pl[i]?=some p)(hm:p.marked=true):marks (pl.set i { p with marked:=false })+1=marks pl:=by
 have:=mm0 hp hm;obtain⟨hi,rfl⟩:=gI.1 hp;rw[marks,List.countP_set hi];rw[marks] at this;simp[marks,hm];omega
def uT0 {k:Nat}(hp:pl[h]?=some p)(hm:p.marked=true):spin (k+1) pl h=spin k (pl.set h { p with marked:=false }) ((h+1) % pl.length):=by
 simp[spin,hp,hm]
def uS0 {k:Nat}(hp:pl[h]?=some p)(hm:p.marked=false):spin k pl h=(pl,h):=by
 cases k <;> simp[spin,hp,hm]
variable {ok:Pg->Prop}
def At.turn (h:At tc tp ok w bc bp bm pl hand){n:Nat}(hn:n<pl.length) :
  At tc tp ok (w.setCell (aA bc 2) (iI n)) bc bp bm pl n:=by
 obtain⟨n1,n2,n3⟩:=h.ne;obtain⟨l,ck,hm,r⟩:=h.m;refine⟨?_,?_,⟨l,ck,?_,r⟩,h.room,hn,h.vs,h.nd⟩
 .rw[hsc _ _ _ _ h.c];simp
 .rw[fY _ _ _ _ (by simpa using n1),h.p]
 .rw[fY _ _ _ _ (by simpa using n2),hm]
def At.drewN (h:At tc tp ok w bc bp bm pl hand)(n:Nat):At tc tp ok (w.drewN n) bc bp bm pl hand:=⟨h.c,h.p,h.m,h.room,h.hand,h.vs,h.nd⟩
section
variable {tc tp:TypeId}{ok:Pg->Prop}{w w':w9}{bc bp bm hand:Nat}{pl:List Pl}
variable {W:w9}{i:Nat}{p:Pl}
def TF (h:W.heap[bp]?=some (.cells (cellsOf pl) tp))(hp:pl[i]?=some p)(q:Pl) :
  ((((((W.setCell (aA bp (i*6)) (iI q.key)).setCell (aA bp (i*6+1)) (iI q.v.stamp)).setCell (aA bp (i*6+2)) q.v.load).setCell (aA bp (i*6+3)) (bO q.v.dirty)).setCell (aA bp (i*6+4)) (bO q.full)).setCell (aA bp (i*6+5)) (bO q.marked)).heap[bp]? =
   some (.cells (cellsOf (pl.set i q)) tp):=by
 rw[hsc _ _ _ _ (hsc _ _ _ _ (hsc _ _ _ _ (hsc _ _ _ _ (hsc _ _ _ _ (hsc _ _ _ _ h)))))];have at_:∀ r:Pl,(pl.set i r)[i]?=some r:=fun r=>by rw[pm hp,if_pos rfl]
 have s0:=BA hp 0 oM (iI q.key) { p with key:=q.key } rfl;have s1:=BA (at_ { p with key:=q.key }) 1 oM (iI q.v.stamp) ⟨q.key,{ p.v with stamp:=q.v.stamp },p.full,p.marked⟩ rfl;have s2:=BA (at_ ⟨q.key,{ p.v with stamp:=q.v.stamp },p.full,p.marked⟩) 2 oM q.v.load ⟨q.key,⟨q.v.stamp,q.v.la,q.v.ll,q.v.lc,p.v.dirty⟩,p.full,p.marked⟩ rfl;have s3:=BA (at_ ⟨q.key,⟨q.v.stamp,q.v.la,q.v.ll,q.v.lc,p.v.dirty⟩,p.full,p.marked⟩) 3 oM (bO q.v.dirty) ⟨q.key,q.v,p.full,p.marked⟩ rfl;have s4:=BA (at_ ⟨q.key,q.v,p.full,p.marked⟩) 4 oM (bO q.full) ⟨q.key,q.v,q.full,p.marked⟩ rfl;have s5:=BA (at_ ⟨q.key,q.v,q.full,p.marked⟩) 5 oM (bO q.marked) q rfl;simp only[List.set_set,Nat.add_zero] at s0 s1 s2 s3 s4 s5;rw[s0,s1,s2,s3,s4,s5]
def At.place (h:At tc tp ok w bc bp bm pl hand)(hp:pl[i]?=some p)(q:Pl)(hq:q.full=true->(p.full=true/\q.key=p.key)\/find pl q.key=none)(hv:ok q.v){sM:Nat}(hh:sM<pl.length)
  (hc:W.heap[bc]?=some (.cells #[sL bp pl.length pl.length,.map (some bm),iI sM] tc)) (hb:W.heap[bp]?=some (.cells (cellsOf (pl.set i q)) tp)) {l':List Z4} {js:Nat} (hm:W.heap[bm]?=some (.map (ents l') js)) (eA:(keys l').Nodup)
  (hl:∀ k,look l' k=if q.full=true/\q.key=k then some (iI i) else if p.full=true/\p.key=k then none else (find pl k).map fun i=>iI i)
  (hn:l'.length=pl.countP (·.full)-(if p.full=true then 1 else 0)+if q.full=true then 1 else 0):At tc tp ok W bc bp bm (pl.set i q) sM:=by
 refine⟨by simpa using hc,hb,⟨l',js,hm,eA,fun k=>?_,?_⟩,by simpa using h.room,by simpa using hh,fun x hx=>?_,Fz h.nd hp q hq⟩
 .rw[hl,yY h.nd hp q hq];split
  .rfl
  .split <;> rfl
 .rw[hn,count_set hp]
 .rcases Ml hx with h'|rfl
  .exact h.vs x h'
  .exact hv
end
end
section
section
variable {tc tp:TypeId}{ok:Pg->Prop}{w w':w9}{bc bp bm hand:Nat}{pl:List Pl}
def At.c0 (h:At tc tp ok w bc bp bm pl hand):w.cell? bc=some (sL bp pl.length pl.length):=by simpa using G0 h.c 0
def At.c1 (h:At tc tp ok w bc bp bm pl hand):w.cell? (aA bc 1)=some (.map (some bm)):=by simpa using G0 h.c 1
variable {i:Nat}{p:Pl}
def At.k0 (h:At tc tp ok w bc bp bm pl hand)(hp:pl[i]?=some p):w.cell? (aA bp (i*6))=some (iI p.key):=by
 have:=G0 h.p (i*6+0);rw[uP hp 0 oM] at this;simpa[Pl.cells] using this
def At.k1 (h:At tc tp ok w bc bp bm pl hand)(hp:pl[i]?=some p):w.cell? (aA bp (i*6+1))=some (iI p.v.stamp):=by
 have:=G0 h.p (i*6+1);rw[uP hp 1 oM] at this;simpa[Pl.cells] using this
def At.k2 (h:At tc tp ok w bc bp bm pl hand)(hp:pl[i]?=some p):w.cell? (aA bp (i*6+2))=some (sL p.v.la p.v.ll p.v.lc):=by
 have:=G0 h.p (i*6+2);rw[uP hp 2 oM] at this;simpa[Pl.cells] using this
def At.k3 (h:At tc tp ok w bc bp bm pl hand)(hp:pl[i]?=some p):w.cell? (aA bp (i*6+3))=some (bO p.v.dirty):=by
 have:=G0 h.p (i*6+3);rw[uP hp 3 oM] at this;simpa[Pl.cells] using this
def At.k4 (h:At tc tp ok w bc bp bm pl hand)(hp:pl[i]?=some p):w.cell? (aA bp (i*6+4))=some (bO p.full):=by
 have:=G0 h.p (i*6+4);rw[uP hp 4 oM] at this;simpa[Pl.cells] using this
def At.k5 (h:At tc tp ok w bc bp bm pl hand)(hp:pl[i]?=some p):w.cell? (aA bp (i*6+5))=some (bO p.marked):=by
 have:=G0 h.p (i*6+5);rw[uP hp 5 oM] at this;simpa[Pl.cells] using this
def At.zp (h:At tc tp ok w bc bp bm pl hand)(o:Nat):w.frozen? ⟨bp,o,none⟩=false:=X2 h.p o
end
def Pl.nF (p:Pl):Pl:={ p with marked:=false }
def EL (f:Nat):∀ (pl:List Pl) (h:Nat),(spin f pl h).1.map Pl.nF=pl.map Pl.nF:=by
 induction f with
 | zero=>intro pl h;rfl
 | succ f ih =>
  intro pl h;unfold spin;split
  .rename_i p hp;split
   .rw[ih,List.map_set];obtain⟨hi,rfl⟩:=gI.1 hp;apply Am;intro j;rw[ug];split
    .rename_i e;subst e;simp[hi,Pl.nF]
    .rfl
   .rfl
  .rfl
def Xp (f:Nat)(pl:List Pl)(h:Nat):(spin f pl h).1.length=pl.length:=by
 have:=congrArg List.length (EL f pl h);simpa using this
def XX (f:Nat):∀ (pl:List Pl) (h:Nat),h<pl.length->(spin f pl h).2<pl.length:=by
 induction f with
 | zero=>intro pl h hh;exact hh
 | succ f ih =>
  intro pl h hh;unfold spin;split
  .rename_i p hp;split
   .have:=ih (pl.set h { p with marked:=false }) ((h+1) % pl.length) (by rw[fj];exact rm _ oM);simpa using this
   .exact hh
  .exact hh
variable {pl:List Pl}
def pL0 {f:Nat}{h:Nat}(j:Nat):((spin f pl h).1[j]?).map Pl.nF=(pl[j]?).map Pl.nF:=by
 rw[<- gP,<- gP,EL]
def Tv (pl:List Pl)(k:Int):find pl k=find (pl.map Pl.nF) k:=by
 simp only[find,List.findIdx?_map];rfl
def Wt (f:Nat)(pl:List Pl)(h:Nat)(k:Int):find (spin f pl h).1 k=find pl k:=by
 rw[Tv,EL,<- Tv]
def gm0 (pl:List Pl):empty pl=empty (pl.map Pl.nF):=by
 simp only[empty,List.findIdx?_map];rfl
def TK (f:Nat)(pl:List Pl)(h:Nat):empty (spin f pl h).1=empty pl:=by
 rw[gm0,EL,<- gm0]
def Tt (h:empty pl=none){i:Nat}{p:Pl}(hp:pl[i]?=some p):p.full=true:=by
 rw[empty,ud] at h;have:=h p (gM hp);simpa using this
def WA {hand:Nat}{key:Int}{v:Pg}(hf:find pl key=none)(he:empty pl=none) :
  fQ pl hand key v=⟨(spin pl.length pl hand).1.set (spin pl.length pl hand).2 ⟨key,v,true,true⟩,((spin pl.length pl hand).2+1) % pl.length,(spin pl.length pl hand).1[(spin pl.length pl hand).2]?⟩:=by
 simp[fQ,hf,he]
end
section
open Go.RowKit
def qp0 (n:Nat):madeCells #[iI 0,iI 0,sL none 0 0,bO false,bO false,bO false] (n*6)=cellsOf (List.replicate n (Pl.none Pg.zero)):=by
 apply Array.ext
 .rw[size_madeCells,rk0];simp
 .intro i h1 h2;have hi:i<n*6:=by simpa[size_madeCells] using h1
  have e:(cellsOf (List.replicate n (Pl.none Pg.zero)))[i]?=(Pl.none Pg.zero).cells[i % 6]?:=by
   have hd:i=i/6*6+i % 6:=oM
   have hq:(List.replicate n (Pl.none Pg.zero))[i/6]?=some (Pl.none Pg.zero):=by rw[rk,if_pos oM]
   have:=uP hq (i % 6) oM;rw[<- hd] at this;exact this
  rw[Qe h2] at e;have h4:i % 6<6:=oM
  have e2:(Pl.none Pg.zero).cells[i % 6]?=some ((Pl.none Pg.zero).cells[i % 6]'(by simp[Pl.cells];omega)):=gE _;rw[e2] at e;rw[Option.some.inj e];simp[madeCells,Pl.cells,Pl.none,Pg.zero,getElem!_def];generalize i % 6=j at *
  match j,h4 with
  | 0,_=>rfl
  | 1,_=>rfl
  | 2,_=>rfl
  | 3,_=>rfl
  | 4,_=>rfl
  | 5,_=>rfl
def At.fresh {tc tp:TypeId}{ok:Pg->Prop}{w:w9}{n:Nat}(hz:ok Pg.zero)(h1:1<=n)(h2:n<=4096) :
  At tc tp ok (((w.alloc (.cells (madeCells #[iI 0,iI 0,sL none 0 0,bO false,bO false,bO false] (n*6)) tp)).alloc (.map #[] 0)).alloc (.cells #[sL w n n,.map (some (w.heap.size+1)),iI 0] tc))
   (w.heap.size+2) w.heap.size (w.heap.size+1) (List.replicate n (Pl.none Pg.zero)) 0:=by
 refine⟨?_,?_,⟨[],0,?_,by simp[keys],fun k=>?_,?_⟩,by simp;omega,by simp;omega,fun p hp=>?_,?_⟩
 .have:=han ((w.alloc (.cells (madeCells #[iI 0,iI 0,sL none 0 0,bO false,bO false,bO false] (n*6)) tp)).alloc (.map #[] 0)) (.cells #[sL w n n,.map (some (w.heap.size+1)),iI 0] tc);simp only[World.size_alloc] at this;simpa using this
 .rw[fE _ _ _ sO,fE _ _ _ sP,han,qp0]
 .have:=han (w.alloc (.cells (madeCells #[iI 0,iI 0,sL none 0 0,bO false,bO false,bO false] (n*6)) tp)) (.map #[] 0);simp only[World.size_alloc] at this;rw[fE _ _ _ sP,this];rfl
 .have:find (List.replicate n (Pl.none Pg.zero)) k=none:=by
   rw[find,ud];intro p hp;rw[Ad hp];rfl
  rw[this];rfl
 .simp[List.countP_replicate,Pl.none]
 .rw[Ad hp];exact hz
 .intro i j p q hp _ hf;rw[Ad (gM hp)] at hf;cases hf
end
end Go.Sg.r4
namespace Go.Proofs.YtgdhaaokolfdoaaGreatDoor
open Tryz
section
def nB (w:w9):(zeroValue 3).run prog w = .ok (iI 0) w:=by kernel_rfl
namespace CP
open Go.RowKit Go.Sg Go.Sg.r4 Go.Shelf
attribute [local go_sem] Oper.semAt_some
def isP (_:Pg):Prop:=True
abbrev AtP:=At 260 264 isP
variable {w:w9}{bc bm bp hand:Nat}{pl:List Pl}
def ES (h:AtP w bc bp bm pl hand)(key:Int) :
  cP 154 #[pO bc,iI key] w fun e w'=>e = rT (pO ((find pl key).map fun i=>⟨bp,i*6,none⟩))/\w=w':=by
 obtain⟨l,ck,hm,-,tE,-⟩:=h.m;have h0:=G0 h.c 0;have h1:=G0 h.c 1;simp at h0 h1;have hl:=yT (P:=prog) (T:=258) true underlying258 underlying3 nB hm key;rw[tE] at hl;have hr:=h.room;cases hf:find pl key with
 | none =>
  rw[hf] at hl;simp at hl;clear hf tE hm h;go_enter func154,ntmps154;go_wp2
  go_ret;exact⟨rfl,rfl⟩
 | some i =>
  rw[hf] at hl;simp at hl;have hi:i<pl.length:=by
   obtain⟨p,hp,-⟩:=mp hf;exact (gI.1 hp).1
  clear hf tE hm h;go_enter func154,ntmps154;go_wp2
  go_ret;exact⟨rfl,rfl⟩
def ke (pl:List Pl)(key:Int):Pg:=((find pl key).bind fun i=>(pl[i]?).map (·.v)).getD Pg.zero
def LO (h:AtP w bc bp bm pl hand)(key:Int) :
  cP 155 #[pO bc,iI key] w fun e w'=>e = rT (tU #[(ke pl key).val,bO (find pl key).isSome])/\Fq w w':=by
 have F:=hid fun W (FW:Fq w W)=>ES (h.fr FW id id id) key;cases hf:find pl key with
 | none =>
  rw[hf] at F;have e2:ke pl key=Pg.zero:=by simp[ke,hf]
  have E2:=hid e2;clear hf h e2;go_enter func155,ntmps155;go_wp2_with (go_at_call 154;refine (F _ (fR.alloc _)).mono ?_;rintro e w' ⟨rfl,rfl⟩)
  try simp only[Exit.inBlock,Exit.then]
  refine bodyPost_ret (v:=tU #[Pg.zero.val,bO false]) (by simp[results,go_sem,Pg.zero, *]) rfl ⟨by rw[E2];rfl,(fR.alloc _).alloc _⟩
 | some i =>
  rw[hf] at F;obtain⟨p,hp,-⟩:=mp hf;have c1:=h.k1 hp;have c2:=h.k2 hp;have c3:=h.k3 hp;have e2:ke pl key=p.v:=by simp[ke,hf,hp]
  have E2:=hid e2;have mK:=M0 h.p;clear hf h e2 hp;go_enter func155,ntmps155;go_wp2_with (go_at_call 154;refine (F _ (fR.alloc _)).mono ?_;rintro e w' ⟨rfl,rfl⟩)
  refine bodyPost_ret (v:=tU #[p.v.val,bO true]) sR rfl ⟨by rw[E2];rfl,?_⟩;first|exact fR.alloc _|(refine Fr.U2 (Fr.U2 (Fr.U2 (fR.alloc _) ?_ _) ?_ _) ?_ _ <;> omega)
def oA0 (a:Option Addr)(w:w9) :
  cP 228 #[pO a] w fun e w'=>e = rT (.func (.func 268) #[] #[pO w])/\w.alloc (.cells #[pO a] 154)=w':=by
 go_enter func228,ntmps228;go_wp2
 go_ret;exact⟨rfl,rfl⟩
abbrev Zk (x:Nat × Pl):Array Value:=#[iI x.1,.agg #[iI x.2.key,iI x.2.v.stamp,sL x.2.v.la x.2.v.ll x.2.v.lc,bO x.2.v.dirty,bO x.2.full,bO x.2.marked]]
def ik0 {bx:Nat}(h:AtP w bc bp bm pl hand)(hx:w.cell? bx=some (pO bc)) :
  SeqStopsK Fence.wide 9 prog 268 #[pO bx] Zk (fun W W'=>W'.heap[bp]?=W.heap[bp]?) (fun xs=>xs=en pl.length pl) (fun pre=>pre <+: en pl.length pl) pl.length w:=fun l J Jx W hW hJ _ hY h0=>by
 have hr:=h.room;have mK:=M0 h.p;have C6:=(hW.cell (p:=⟨bx,0,none⟩) (World.block_lt_of_cell? _ _ hx)).trans hx;have mM:=(hW.cell (p:=⟨bc,0,none⟩) (M0 h.c)).trans (G0 h.c 0);simp at mM;have hp:=(hW.block bp mK).trans h.p;clear hx hW;refine callsIn_of_wp func268 rfl trivial ?_ rfl;simp only[ntmps268,zA,lC,cJ,Nat.reduceAdd,Nat.reduceSub,dV,dW,dZ,dX,C7,ak];gi_wp2
 gi_loopw [10] (fun i wr=>∃ k:Nat,k<=pl.length/\i = iI k/\J (en k pl) wr/\wr.heap[bp]?=some (.cells (cellsOf pl) 264)) fun i _=>pl.length-(intOf i).toNat
 case atStart=>exact⟨0,C3 _,rfl,h0,hp⟩
 case round =>
  obtain⟨k,hk,rfl,gY,aD⟩:=hrel;by_cases hlt:k<pl.length
  .obtain⟨⟨key,v,ful,mk⟩,hp⟩:∃ p,pl[k]?=some p:=⟨_,gE hlt⟩
   obtain⟨yq,la,ll,lc,di⟩:=v;have c0:=G0 aD (k*6+0);have c1:=G0 aD (k*6+1);have c2:=G0 aD (k*6+2);have c3:=G0 aD (k*6+3);have c4:=G0 aD (k*6+4);have c5:=G0 aD (k*6+5);rw[uP hp _ oM] at c0 c1 c2 c3 c4 c5;simp[Pl.cells] at c0 c1 c2 c3 c4 c5;have hs:=Oa k pl _ hp;have HS:=hid hs;have HP:=hid aD;have ly:=M0 aD;clear hs aD hp;cases ful with
   | false =>
    gi_wp2
    go_roundw;case rel=>exact⟨k+1,oM,by simp,by rw[HS];exact hJ _ _ _ none gY (World.grownBy_alloc _ _ _) (fun r e=>by cases e),(fE _ _ _ ly).trans HP.o⟩
    case measure=>exact wM
   | true =>
    obtain⟨fn,tmps,assign,body,hy,hR⟩:=hY _ (k,⟨key,⟨yq,la,ll,lc,di⟩,true,mk⟩) (wr.alloc (.cells #[iI key,iI yq,sL la ll lc,bO di,bO true,bO mk] 264)) (hJ _ _ _ none gY (World.grownBy_alloc _ _ _) fun r e=>by cases e) (Mf (NU _ _) hlt);dsimp only[Zk] at hy;gi_wp2
    refine hR.mono ?_;rintro e W3 (⟨rfl,o6,Q2⟩|⟨rfl,N3⟩)
    .gi_wp2
     go_roundw;case rel=>exact⟨k+1,oM,by simp,by rw[HS];exact o6,(Q2.trans (fE _ _ _ ly)).trans HP.o⟩
     case measure=>exact wM
    .gi_wp2
     refine bodyPost_ret (results_none rfl _ _ _) rfl ?_;exact⟨⟨_,rfl⟩,.inr ⟨_,(by have:=kc0 pl (k+1) pl.length oM (nR _);rw[HS] at this;exact this),N3⟩⟩
  .obtain rfl:k=pl.length:=by omega
   gi_wp2
   go_end0
   exact⟨⟨_,rfl⟩,.inl ⟨_,rfl,gY⟩⟩
def oF0 (h:AtP w bc bp bm pl hand) :
  cP 171 #[pO bc] w fun e w'=>e = rT (iI (LZ pl))/\Fq w w':=by
 refine (callsIn_wide (n:=10)).1 ?_;have hr:=h.room;have F:=hid (oA0 (some ⟨bc,0,none⟩) (w.alloc (.cells #[iI 0] 3)));refine callsIn_of_wp_marks func171 rfl trivial ?_ rfl;simp only[ntmps171,zA,lC,cJ,Nat.reduceAdd,Nat.reduceSub,dV,dW,dZ,dX,C7,ak];gi_wp2_with (gi_at_call 228;refine (callsIn_wide.2 F.o).mono ?_;rintro e w' ⟨rfl,rfl⟩)
 obtain⟨W0,B4⟩:=eX ((w.alloc (.cells #[iI 0] 3)).alloc (.cells #[pO bc] 154))
 have bu:Fq w W0:=by rw[<- B4];exact ((Fr.refl _ w).alloc _).alloc _
 have hsz:W0.heap.size=w.heap.size+1+1:=by rw[<- B4];simp
 have ay:W0.heap[w.heap.size]?=some (.cells #[iI 0] 3):=by rw[<- B4];exact (fE _ _ _ sP).trans (han _ _)
 have U3:W0.cell? (aA (w+1) 0)=some (pO bc):=by rw[<- B4];simp[go_sem]
 have h0:AtP W0 bc bp bm pl hand:=h.fr bu id id id;have mK:=M0 h0.p;simp only[B4];refine wpIn_rangeFunc_ownG (F:=Fence.wide) rfl oM (gf:=268) (lb:=#[pO (aP (w+1) 0)]) rfl trivial (enters_of func268 kF rfl)
  (ik0 h0 U3) (fun h k=>k.trans h) (fun W l o o' hl _ _ _=>aC _ _ _ _ oM) (Below.refl _ _) (fun _=>rfl)
  (fun pre W=>(W.heap[w.heap.size]?=some (.cells #[iI pre.length] 3)/\Fq w W)/\pre.map (·.1)=List.range pre.length)
  (fun c pre W=>(∃ k:Nat,(W.heap[w.heap.size]?=some (.cells #[iI k] 3)/\Fq w W)/\∃ dk x,pre=dk++[x]/\dk.length=k/\dk.map (·.1)=List.range k/\x.1≠k)/\c = .exit 0)
  (U6 (U6 (gU _ _ _ fun _=>.inl rfl) (oY oM)) (eR _ _))
  (fun c=>U6 (sj fun k=>U6 (U6 (gU _ _ _ fun _=>.inl rfl) (oY oM)) (eR _ _)) (eR _ _))
  ⟨⟨ay,bu⟩,rfl⟩
  (fun x=>{ tmps:=#[pO bc,undef,iI 0,pO w,iI x.1,pO bc,.func (.func 268) #[] #[pO (aP (w+1) 0)],iI x.1,.agg #[iI x.2.key,iI x.2.v.stamp,sL x.2.v.la x.2.v.ll x.2.v.lc,bO x.2.v.dirty,bO x.2.full,bO x.2.marked],undef,undef,undef,undef,undef,undef,undef,undef,undef,undef,undef,undef,undef],defers:=[] }) ?assign ?body ?done ?stop
 case assign =>
  intro l x W K hK;gi_wp2
  exact hK
 case body =>
  rintro l pre x W ⟨⟨hn,ar⟩,hpre⟩ hlen;have c0:=G0 hn 0;have z0:=X2 hn 0;simp at c0;have hw:=M0 hn;by_cases hx:x.1=pre.length
  .have hd:((x.1:Int) == (pre.length:Int))=true:=by simp[hx]
   have hX:=hid hx;have HP:=hid hpre;have HN:=hid hn;clear hx hpre hn;gi_wp2
   refine⟨(KeepsOthers.setCell _ _ _).from _,fY _ _ _ _ (by have:=M0 h.p;simp;omega),⟨?_,ar.setCell (fun hh=>absurd hh (gG _)) _⟩,?_⟩
   .rw[hsc _ _ _ _ HN];simp
   .simp[HP.o,hX.o,Ah]
  .have hd:((x.1:Int) == (pre.length:Int))=false:=by simp;omega
   have hX:=hid hx;have HP:=hid hpre;have HN:=hid hn;clear hx hpre hn;gi_wp2
   exact⟨(KeepsOthers.refl _).from _,⟨_,⟨HN.o,ar⟩,_,_,rfl,rfl,HP.o,hX.o⟩,rfl⟩
 case done =>
  rintro D ys W hD rfl ⟨⟨hn,ar⟩,hpre⟩ hK;have c0:=G0 hn 0;have z0:=X2 hn 0;simp at c0;have e0:=(ar.cell (p:=⟨bc,0,none⟩) (M0 h.c) id).trans (G0 h.c 0);simp at e0;have hm:=NU pl.length pl;by_cases hx:(en pl.length pl).length=pl.length
  .have hd:(((en pl.length pl).length:Int) == (pl.length:Int))=true:=by simp[hx]
   have hX:=hid hx;have HP:=hid hpre;have HN:=hid hn;clear hx hpre hn;gi_wp2
   gi_big_quiet_th (fail)
   gi_wp2
   refine wR (t:=2) rfl (show (W.drewN nq).heap[D]?=_ from hK) ⟨by rw[in0 (by rw[eD0 HP,if_pos hX.o])];rfl,(ar.drewN _).putObj (fun hh=>oM) _⟩
  .have hd:(((en pl.length pl).length:Int) == (pl.length:Int))=false:=by simp;omega
   have hX:=hid hx;have HP:=hid hpre;have HN:=hid hn;clear hx hpre hn;gi_wp2
   gi_big_quiet_th (fail)
   gi_wp2
   refine wR (t:=2) rfl (show (W.drewN nq).heap[D]?=_ from hK) ⟨by rw[Tw (by rw[eD0 HP,if_neg hX.o])];rfl,(ar.drewN _).putObj (fun hh=>oM) _⟩
 case stop =>
  rintro D c pre W hD mF ⟨⟨k,⟨hn,ar⟩,dk,x,rfl,rfl,hpre,hne⟩,rfl⟩ hK;have c0:=G0 hn 0;have z0:=X2 hn 0;simp at c0;have e0:=(ar.cell (p:=⟨bc,0,none⟩) (M0 h.c) id).trans (G0 h.c 0);simp at e0;obtain⟨he,hl⟩:=kg0 mF hpre hne;have hd:((dk.length:Int) == (pl.length:Int))=false:=by simp;omega
  have HE:=hid he;have HS:=hid mF;have HP:=hid hpre;have HN:=hid hn;have HX:=hid hne;clear hpre hn he mF hne;gi_wp2
  gi_big_quiet_th (fail)
  gi_wp2
  refine wR (t:=2) rfl (show (W.drewN nq).heap[D]?=_ from hK) ⟨by rw[Tw HE];rfl,(ar.drewN _).putObj (fun hh=>oM) _⟩
def qy0 (pl:List Pl)(hand bc bp bm:Nat)(w:w9)(e:Ending)(w':w9):Prop:=
 e = rT (iI (spin pl.length pl hand).2)/\AtP w' bc bp bm (spin pl.length pl hand).1 (((spin pl.length pl hand).2+1) % pl.length)/\Fr (fun b=>b=bc\/b=bp) w w'
def uI0 (h:AtP w bc bp bm pl hand) :
  cP 172 #[pO bc] w (qy0 pl hand bc bp bm w):=by
 go_enter func172,ntmps172;go_wp2
 go_step3
 go_wp2
 go_step3
 go_wp2
 go_loopg [3] pl.length fun k _ wr=>∃ (yo:List Pl) (hd:Nat),yo.length=pl.length/\AtP wr bc bp bm yo hd/\Fr (fun b=>b=bc\/b=bp) w wr/\spin k yo hd=spin pl.length pl hand/\marks yo<=k
 case atStart=>exact⟨pl,hand,rfl,h,fR,rfl,wl0 _⟩
 case round =>
  obtain⟨yo,hd,hlen,hA,hF,hs,hk⟩:=hrel;have hr:=hA.room;have hh:=hA.hand;obtain⟨n1,n2,n3⟩:=hA.ne;have e0:=G0 hA.c 0;have e2:=G0 hA.c 2;have z2:=X2 hA.c 2;simp at e0 e2;obtain⟨p,hp⟩:∃ p,yo[hd]?=some p:=⟨_,gE hh⟩
  have c3:=G0 hA.p (hd*6+5);have z3:=X2 hA.p (hd*6+5);rw[uP hp _ oM] at c3;simp[Pl.cells] at c3;have HA:=hid hA;have HS:=hid hs;have HP:=hid hp;have HL:=hid hlen;have kD:=rm (hd+1) (show 0<yo.length by omega);clear hA hs hp hlen;have gj:((hd:Int)+1) % (yo.length:Int)=(((hd+1) % yo.length:Nat):Int):=by simp
  have HC:=hid gj;clear gj;cases hm:p.marked with
  | true =>
   rw[hm] at c3;have HM:=hid hm;have hpos:=mm0 HP hm;have fg:=tg0 HP hm;clear hm;obtain⟨g,rfl⟩:∃ g,gk=g+1:=⟨gk-1,oM⟩
   go_wp2
   go_quiet (fail)
   go_wp2
   go_region
   go_wp2
   go_roundg g
   case measure=>omega
   case rel =>
    rw[HC];have hA:=((HA.drewN (nq+1)).turn kD).set HP 5 oM (bO false) { p with marked:=false } rfl rfl rfl (trivial);exact⟨_,_,by simp[HL.o],hA,((hF.drewN _).setCell (fun _=>.inl rfl) _).setCell (fun _=>.inr rfl) _,by rw[<- HS,uT0 HP HM],oM⟩
  | false =>
   rw[hm] at c3;have HM:=hid hm;clear hm;go_wp2
   go_quiet (fail)
   go_wp2
   go_region
   go_wp2
   rw[Exit.noGoto_ret];go_ret;rw[HC];have e:=uS0 (k:=gk) HP HM.o;rw[HS] at e;refine⟨by rw[e];rfl,?_,(hF.drewN _).setCell (fun _=>.inl rfl) _⟩;rw[e,<- HL];exact (HA.drewN (nq+1)).turn kD
end CP
end
section
namespace CP
open Go.RowKit Go.Sg Go.Sg.r4 Go.Shelf
def zq0:(prog.info? 264).map (fun i=>(i.zero,i.size,i.bytes))=some (some (.agg #[iI 0,iI 0,sL none 0 0,bO false,bO false,bO false]),6,56):=by kernel_rfl
def QK (n:Nat)(h1:1<=n)(h2:n<=4096)(w:w9) :
  cP 96 #[iI n] w fun e w'=>e = rT (pO (aP (w+2) 0))/\AtP w' (w.heap.size+2) w.heap.size (w.heap.size+1) (List.replicate n (Pl.none Pg.zero)) 0/\Fq w w':=by
 obtain⟨i0,hi,J1,M1,O1⟩:=info_parts zq0;have jb:=fun W=>Ez (P:=prog) 257 264 i0 _ underlying257 hi J1 n (by rw[O1];omega) oM W
 have vA:=fun (t:TypeId) (W:w9)=>run_makeMap (P:=prog) t W
 rw[M1] at jb;clear hi J1 M1 O1;go_enter func96,ntmps96;go_wp2
 go_ret;exact⟨rfl,At.fresh trivial h1 h2,((fR.alloc _).alloc _).alloc _⟩
variable {w:w9}{bc bm bp hand:Nat}{pl:List Pl}
def BR (h:AtP w bc bp bm pl hand):bc<w/\bp<w/\bm<w:=by
 obtain⟨l,ck,hm,_⟩:=h.m;exact⟨M0 h.c,M0 h.p,M0 hm⟩
def tX (pl:List Pl)(key:Int):List Pl:=match find pl key with
 | some i=>pl.modify i fun p=>{ p with marked:=true }
 | none=>pl
def modify_eq {i:Nat}{p:Pl}(hp:pl[i]?=some p)(f:Pl->Pl):pl.modify i f=pl.set i (f p):=by
 apply Am;intro j;rw[pm hp,List.getElem?_modify];split
 .rename_i e;subst e;simp[hp]
 .simp
def GetPost (pl:List Pl)(hand bc bp bm:Nat)(key:Int)(w:w9)(e:Ending)(w':w9):Prop:=
 e = rT (tU #[(ke pl key).val,bO (find pl key).isSome])/\AtP w' bc bp bm (tX pl key) hand/\Fr (fun b=>b=bp) w w'
def get_at (h:AtP w bc bp bm pl hand)(key:Int) :
  cP 86 #[pO bc,iI key] w (GetPost pl hand bc bp bm key w):=by
 have o7:=hid fun W (FW:Fq w W)=>(h.fr FW id id id:AtP W bc bp bm pl hand);obtain⟨w1,I0⟩:=eX (w.alloc (.cells #[iI 0,sL none 0 0,bO false] 162))
 have b1:=fB I0
 have F1:=fA I0
 have B1:=hid b1;have hA1:=hid (o7.o w1 F1);have hlt:=BR h;cases hf:find pl key with
 | none =>
  have e1:tX pl key=pl:=by simp[tX,hf]
  have HF:=hid hf;have E:=hid e1;have HW:=hid I0;have FN:=hid (ES hA1.o key);rw[hf] at FN;clear hf h e1 I0 b1;go_enter func86,ntmps86;go_wp2_with fail
  rw[HW];refine FN.mono ?_;rintro e w' ⟨rfl,rfl⟩;go_wp2_with fail
  refine (LO hA1.o key).mono ?_;rintro e w2 ⟨rfl,F2⟩;obtain⟨c0,c1,c2,z,l⟩:=cells3 (F2.heap B1 id);rw[HF];generalize pM:ke pl key=lm;have HLM:=hid pM;clear pM;obtain⟨st,la,ll,lc,di⟩:=lm;go_wp2
  refine bodyPost_ret (v:=tU #[.agg #[iI st,sL la ll lc,bO di],bO false]) sR rfl ⟨by rw[HLM,HF];rfl,?_,?_⟩
  .rw[E];refine (hA1.o.fr F2 id id id).fr (S:=fun b=>b=w.heap.size) ?_ oM oM oM;repeat (with_reducible refine Fr.setCell ?_ (fun _=>by simp) _)
   exact fR
  .repeat (with_reducible refine Fr.U2 ?_ oM _)
   exact (F1.trans F2 nI).mono nE
 | some i =>
  obtain⟨p,hp,iV,X8⟩:=mp hf;have k5:=hA1.o.k5 hp;have zp:=hA1.o.zp (i*6+5);have h2:=hA1.o.set hp 5 oM (bO true) { p with marked:=true } rfl rfl rfl trivial;have mP:find (pl.set i { p with marked:=true }) key=some i:=by
   rw[yY h.nd hp { p with marked:=true } (fun a=>.inl ⟨iV,rfl⟩)];simp[iV,X8]
  have e1:tX pl key=pl.set i { p with marked:=true }:=by simp only[tX,hf];exact modify_eq hp _
  have e3:ke pl key=p.v:=by simp[ke,hf,hp]
  have e4:ke (pl.set i { p with marked:=true }) key=p.v:=by
   have:=pm hp { p with marked:=true } i;rw[if_pos rfl] at this;simp[ke,mP,this]
  have HF:=hid hf;have Y0:=hid mP;have E:=hi2 e1 (aI e3 e4);have HW:=hid I0;have FN:=hid (ES hA1.o key);rw[hf] at FN;have H2:=hid h2;obtain⟨w2,A9⟩:=eX (w1.setCell (aA bp (i*6+5)) (bO true))
  have iw:Fr (fun b=>b=bp) w1 w2:=by rw[<- A9];exact (Fr.refl (fun b=>b=bp) _).setCell (a:=⟨bp,i*6+5,none⟩) (fun _=>rfl) _
  have fw:=hid A9;have l1:=F1.size;clear hf h e1 e3 e4 I0 b1 mP h2 hp iV X8 A9;go_enter func86,ntmps86;go_wp2_with fail
  rw[HW];refine FN.mono ?_;rintro e w' ⟨rfl,rfl⟩;go_wp2_with fail
  rw[fw];have jy:=hid H2.o;rw[fw] at jy;refine (LO jy.o key).mono ?_;rintro e w3 ⟨rfl,F3⟩;have J7:=iw.trans F3 nE;obtain⟨c0,c1,c2,z,l⟩:=cells3 (J7.heap B1 oM);rw[Y0,E.2.2];obtain⟨key',⟨st,la,ll,lc,di⟩,fu,ma⟩:=p;clear k5 zp;go_wp2
  refine bodyPost_ret (v:=tU #[.agg #[iI st,sL la ll lc,bO di],bO true]) sR rfl ⟨by rw[E.2.1,HF];rfl,?_,?_⟩
  .rw[E.1];refine (jy.o.fr F3 id id id).fr (S:=fun b=>b=w.heap.size) ?_ oM oM oM;repeat (with_reducible refine Fr.setCell ?_ (fun _=>by simp) _)
   exact fR
  .repeat (with_reducible refine Fr.U2 ?_ oM _)
   exact (F1.mono (S':=fun b=>b=bp) nE).trans J7 nI
end CP
end
end Go.Proofs.YtgdhaaokolfdoaaGreatDoor
namespace Go.Sg.r4
open Go.RowKit
structure Did (pl:List Pl)(key:Int)(v:Pg)(M:Put):Prop where
 len:M.pl.length=pl.length
 lt:M.hand<pl.length
 there:∃ j,find M.pl key=some j/\M.pl[j]?=some ⟨key,v,true,true⟩
 nd:Nd M.pl
 cases:(∃ i,find pl key=some i/\M.gone=none/\M.pl.countP (·.full)=pl.countP (·.full)) \/
  (find pl key=none/\M.gone=none/\M.pl.countP (·.full)=pl.countP (·.full)+1) \/
  (find pl key=none/\∃ g,M.gone=some g/\g.key≠key/\pl.countP (·.full)=pl.length/\M.pl.countP (·.full)=pl.countP (·.full)/\find M.pl g.key=none)
variable {pl:List Pl}
def NT (h:empty pl=none):pl.countP (·.full)=pl.length:=by
 rw[List.countP_eq_length];intro p hp;rw[empty,ud] at h;simpa using h p hp
def did {hand:Nat}(hn:Nd pl)(hh:hand<pl.length)(key:Int)(v:Pg):Did pl key v (fQ pl hand key v):=by
 cases hf:find pl key with
 | some i =>
  obtain⟨p,hp,iT,hk⟩:=mp hf;have e:fQ pl hand key v=⟨pl.set i ⟨key,v,true,true⟩,hand,none⟩:=by simp[fQ,hf]
  have hq:(⟨key,v,true,true⟩:Pl).full=true->(p.full=true/\(⟨key,v,true,true⟩:Pl).key=p.key)\/find pl (⟨key,v,true,true⟩:Pl).key=none:=fun _=>.inl ⟨iT,hk.symm⟩
  refine⟨by rw[e];simp,by rw[e];exact hh,⟨i,?_,?_⟩,by rw[e];exact Fz hn hp _ hq,.inl ⟨i,hf,by rw[e],?_⟩⟩
  .rw[e];simp only;rw[yY hn hp ⟨key,v,true,true⟩ hq];simp
  .rw[e];simp only;rw[pm hp,if_pos rfl]
  .rw[e];simp only;rw[count_set hp,iT];have:=lO0 hp iT;simp;omega
 | none =>
  cases he:empty pl with
  | some i =>
   obtain⟨p,hp,iT⟩:∃ p,pl[i]?=some p/\p.full=false:=by
    rw[empty,ox] at he;obtain⟨hi,h1,_⟩:=he;exact⟨pl[i],by simp,by simpa using h1⟩
   have e:fQ pl hand key v=⟨pl.set i ⟨key,v,true,true⟩,hand,none⟩:=by simp[fQ,hf,he]
   have hq:(⟨key,v,true,true⟩:Pl).full=true->(p.full=true/\(⟨key,v,true,true⟩:Pl).key=p.key)\/find pl (⟨key,v,true,true⟩:Pl).key=none:=fun _=>.inr hf
   refine⟨by rw[e];simp,by rw[e];exact hh,⟨i,?_,?_⟩,by rw[e];exact Fz hn hp _ hq,.inr (.inl ⟨hf,by rw[e],?_⟩)⟩
   .rw[e];simp only;rw[yY hn hp ⟨key,v,true,true⟩ hq];simp
   .rw[e];simp only;rw[pm hp,if_pos rfl]
   .rw[e];simp only;rw[count_set hp,iT];simp
  | none =>
   have e:=WA (hand:=hand) (v:=v) hf he;have hl:=Xp pl.length pl hand;have hi:=XX pl.length pl hand hh;have mP:=Wt pl.length pl hand key;have tn:=TK pl.length pl hand;rw[hf] at mP;rw[he] at tn;have ey:Nd (spin pl.length pl hand).1:=by
    intro a b x y hx hy vF Aa hk;have gx:=pL0 (f:=pl.length) (pl:=pl) (h:=hand) a;have gy:=pL0 (f:=pl.length) (pl:=pl) (h:=hand) b;rw[hx] at gx;rw[hy] at gy;cases hxa:pl[a]? with
    | none=>rw[hxa] at gx;cases gx
    | some x' =>
     cases hyb:pl[b]? with
     | none=>rw[hyb] at gy;cases gy
     | some y' =>
      rw[hxa] at gx;rw[hyb] at gy;simp only[DL,Option.some.injEq,Pl.nF,Pl.mk.injEq] at gx gy;exact hn a b x' y' hxa hyb (by rw[<- gx.2.2.1,vF]) (by rw[<- gy.2.2.1,Aa]) (by rw[<- gx.1,<- gy.1,hk])
   generalize spin pl.length pl hand=s at *
   obtain⟨p,hp⟩:∃ p,s.1[s.2]?=some p:=⟨_,gE oM⟩
   have iT:=Tt tn hp;have hq:(⟨key,v,true,true⟩:Pl).full=true->(p.full=true/\(⟨key,v,true,true⟩:Pl).key=p.key)\/find s.1 (⟨key,v,true,true⟩:Pl).key=none:=fun _=>.inr mP
   have hne:=Ik mP hp iT;refine⟨by rw[e];simpa using hl,by rw[e];exact rm _ oM,⟨s.2,?_,?_⟩,by rw[e];exact Fz ey hp _ hq,.inr (.inr ⟨hf,p,by rw[e];exact hp,hne,NT he,?_,?_⟩)⟩
   .rw[e];simp only;rw[yY ey hp ⟨key,v,true,true⟩ hq];simp
   .rw[e];simp only;rw[pm hp,if_pos rfl]
   .rw[e];simp only;rw[count_set hp,iT,NT tn,NT he,hl];simp;omega
   .rw[e];simp only;rw[yY ey hp ⟨key,v,true,true⟩ hq];rw[if_neg (by rintro⟨_,h⟩;exact hne h.symm),if_pos ⟨iT,rfl⟩]
end Go.Sg.r4
namespace Go.Sg
variable {S:Nat->Prop}{w w1:w9}{b:Nat}
def Fr.rt (h:Fr S w w1)(hb:S b)(x y z:Value):Fr S w (((w1.setCell b x).setCell (aA b 1) y).setCell (aA b 2) z):=
 ((h.setCell (a:=⟨b,0,none⟩) (fun _=>hb) x).setCell (a:=⟨b,1,none⟩) (fun _=>hb) y).setCell (a:=⟨b,2,none⟩) (fun _=>hb) z
def Fr.Aj (h:Fr S w w1)(hb:w<=b)(x y z:Value):Fr S w (((w1.setCell b x).setCell (aA b 1) y).setCell (aA b 2) z):=
 ((h.U2 hb x).U2 hb y).U2 hb z
end Go.Sg
namespace Go.Proofs.YtgdhaaokolfdoaaGreatDoor
open Tryz
namespace CP
open Go.RowKit Go.Sg Go.Sg.r4 Go.Shelf
def Do0 (g:Option Pl):Int:=(g.map (·.key)).getD 0
def Dn0 (g:Option Pl):Pg:=(g.map (·.v)).getD Pg.zero
def PZ (pl:List Pl)(hand bc bp bm:Nat)(key:Int)(x:Pg)(w:w9)(e:Ending)(w':w9):Prop:=
 e = rT (tU #[iI (Do0 (fQ pl hand key x).gone),(Dn0 (fQ pl hand key x).gone).val,bO (fQ pl hand key x).gone.isSome]) /\
 AtP w' bc bp bm (fQ pl hand key x).pl (fQ pl hand key x).hand/\Fr (fun b=>b=bc\/b=bp\/b=bm) w w'
variable {w:w9}{bc bm bp hand i:Nat}{pl:List Pl}
def tB0 (h:AtP w bc bp bm pl hand)(key:Int)(x:Pg)(hf:find pl key=some i) :
  cP 111 #[pO bc,iI key,x.val] w (PZ pl hand bc bp bm key x w):=by
 obtain⟨st,la,ll,lc,di⟩:=x;have hlt:=BR h;obtain⟨w2,A9⟩:=eX ((w.alloc (.cells #[iI st,sL la ll lc,bO di] 162)).alloc (.cells #[iI 0,sL none 0 0,bO false] 162))
 obtain⟨b0,b1,F2⟩:=n9 A9;have hA:=h.fr F2 id id id;obtain⟨p,hp,iV,X8⟩:=mp hf;have k1:=hA.k1 hp;have k2:=hA.k2 hp;have k3:=hA.k3 hp;have k5:=hA.k5 hp;have zp:=hA.zp;obtain⟨d0,d1,d2,dz,dl⟩:=cells3 b0;obtain⟨c0,c1,c2,cz,cl⟩:=cells3 b1;have g1:=hA.set hp 1 oM (iI st) ⟨p.key,{ p.v with stamp:=st },p.full,p.marked⟩ rfl rfl rfl trivial;have at_:∀ r:Pl,(pl.set i r)[i]?=some r:=fun r=>by rw[pm hp,if_pos rfl]
 have g2:=g1.set (at_ _) 2 oM (sL la ll lc) ⟨p.key,⟨st,la,ll,lc,p.v.dirty⟩,p.full,p.marked⟩ rfl rfl rfl trivial;rw[List.set_set] at g2;have g3:=g2.set (at_ _) 3 oM (bO di) ⟨p.key,⟨st,la,ll,lc,di⟩,p.full,p.marked⟩ rfl rfl rfl trivial;rw[List.set_set] at g3;have g5:=g3.set (at_ _) 5 oM (bO true) ⟨p.key,⟨st,la,ll,lc,di⟩,p.full,true⟩ rfl rfl rfl trivial;rw[List.set_set,iV,X8] at g5;have HE:Hid (fQ pl hand key ⟨st,la,ll,lc,di⟩=⟨pl.set i ⟨key,⟨st,la,ll,lc,di⟩,true,true⟩,hand,none⟩):=hid (by simp[fQ,hf]);have G5:=hid g5;have FN:=hid (ES hA key);rw[hf] at FN;have HW:=hid A9;have n1:w.heap.size≠bp:=oM
 have n2:w.heap.size+1≠bp:=oM
 clear hf hp iV X8 at_ g1 g2 g3 g5 hA h A9 b0 b1;go_enter func111,ntmps111;go_wp2_with fail
 rw[HW];refine FN.mono ?_;rintro e w' ⟨rfl,rfl⟩;go_wp2
 go_region
 go_wp2
 refine bodyPost_ret (v:=tU #[iI 0,Pg.zero.val,bO false]) (by simp[results,go_sem,Pg.zero, *]) rfl ⟨by rw[HE];rfl,?_,?_⟩
 .rw[HE];refine At.fr (S:=fun b=>b=w.heap.size+1) G5.o ?_ oM oM oM;exact (Fr.rt (S:=fun b=>b=w.heap.size+1) (b:=w.heap.size+1) fR rfl _ _ _).drew
 .refine Fr.drew (Fr.Aj ?_ oM _ _ _);exact ((((F2.mono nE).setCell (a:=⟨bp,i*6+1,none⟩) (fun _=>.inr (.inl rfl)) _).setCell (a:=⟨bp,i*6+2,none⟩) (fun _=>.inr (.inl rfl)) _).setCell (a:=⟨bp,i*6+3,none⟩) (fun _=>.inr (.inl rfl)) _).setCell (a:=⟨bp,i*6+5,none⟩) (fun _=>.inr (.inl rfl)) _
def wP0 (h:AtP w bc bp bm pl hand)(key:Int)(x:Pg)(hf:find pl key=none)(he:empty pl=some i) :
  cP 111 #[pO bc,iI key,x.val] w (PZ pl hand bc bp bm key x w):=by
 obtain⟨st,la,ll,lc,di⟩:=x;have hlt:=BR h;have n123:=h.ne;obtain⟨w2,A9⟩:=eX ((w.alloc (.cells #[iI st,sL la ll lc,bO di] 162)).alloc (.cells #[iI 0,sL none 0 0,bO false] 162))
 obtain⟨b0,b1,F2⟩:=n9 A9;have hA:=h.fr F2 id id id;have hHE:fQ pl hand key ⟨st,la,ll,lc,di⟩=⟨pl.set i ⟨key,⟨st,la,ll,lc,di⟩,true,true⟩,hand,none⟩:=by simp[fQ,hf,he]
 have HE:=hid hHE;have FN:=hid (ES hA key);rw[hf] at FN;have EM:=hid (oF0 hA);rw[Tw he] at EM;have HA:=hid hA;have HF:=hid hf;have HO:=hid he;have HW:=hid A9;have uA:=hi2 b0 b1;have hi:i<pl.length:=by
  rw[empty,ox] at he;exact he.1
 clear hf he h hA A9 b0 b1 hHE;go_enter func111,ntmps111;go_wp2_with fail
 rw[HW];refine FN.mono ?_;rintro e w' ⟨rfl,rfl⟩;go_wp2_with fail
 refine EM.mono ?_;rintro e w3 ⟨rfl,F3⟩;have J8:=HA.fr F3 id id id;have l3:=F3.size;have l2:=M0 uA.2;obtain⟨p,hp⟩:∃ p,pl[i]?=some p:=⟨_,gE hi⟩
 have f0:=J8.c0;have f1:=J8.c1;have k0:=J8.k0 hp;have k1:=J8.k1 hp;have k2:=J8.k2 hp;have k3:=J8.k3 hp;have k4:=J8.k4 hp;have k5:=J8.k5 hp;have zp:=J8.zp;have hr:=J8.room;obtain⟨d0,d1,d2,dz,dl⟩:=cells3 (F3.heap uA.1 id);obtain⟨c0,c1,c2,cz,cl⟩:=cells3 (F3.heap uA.2 id);obtain⟨l,ck,hm,hR⟩:=J8.m;have vW:=hid J8;have HP:=hid hp;have HR:=hid hR;clear J8 hp hR;go_wp2
 go_region
 obtain⟨w4,eE⟩:=eX (((((((w3.setCell (aA bp (i*6)) (iI key)).setCell (aA bp (i*6+1)) (iI st)).setCell (aA bp (i*6+2)) (sL la ll lc)).setCell (aA bp (i*6+3)) (bO di)).setCell (aA bp (i*6+4)) (bO true)).setCell (aA bp (i*6+5)) (bO true)).drew)
 have Q5:Fr (fun b=>b=bp) w3 w4:=by
  rw[<- eE];exact (((((((Fr.refl (fun b=>b=bp) _).setCell (a:=⟨bp,i*6,none⟩) (fun _=>rfl) _).setCell (a:=⟨bp,i*6+1,none⟩) (fun _=>rfl) _).setCell (a:=⟨bp,i*6+2,none⟩) (fun _=>rfl) _).setCell (a:=⟨bp,i*6+3,none⟩) (fun _=>rfl) _).setCell (a:=⟨bp,i*6+4,none⟩) (fun _=>rfl) _).setCell (a:=⟨bp,i*6+5,none⟩) (fun _=>rfl) _).drew
 have jd:w4.heap[bp]?=some (.cells (cellsOf (pl.set i ⟨key,⟨st,la,ll,lc,di⟩,true,true⟩)) 264):=by
  have:=TF vW.p HP ⟨key,⟨st,la,ll,lc,di⟩,true,true⟩;rw[<- eE,heap_drew];exact this
 rw[eE];have re:=Q5.heap hm fun e=>n123.2.2 e.symm;have CH:=Q5.heap vW.c n123.1;have Ut:=Q5.heap (F3.heap uA.1 id) oM;have Jy:=Q5.heap (F3.heap uA.2 id) oM;clear f0 f1 k0 k1 k2 k3 k4 k5 zp d0 d1 d2 dz dl c0 c1 c2 cz cl eE hm;obtain⟨f0,f1,f2,fz,fl⟩:=cells3 CH;obtain⟨c0,c1,c2,cz,cl⟩:=cells3 Jy;have ri:=fun (W:w9) (hW:W.heap[bm]?=some (.map (ents l) ck))=>Bv (P:=prog) (T:=258) underlying258 underlying3 hW key (iI i)
 have Sv:=hid jd;have Ef:=hid CH;have n1:bm≠w.heap.size+1:=oM
 have n2:w.heap.size+1≠bm:=oM
 clear jd CH Ut Jy;go_wp2
 obtain⟨w5,kI⟩:=eX (w4.putObj bm (.map (ents (put l key (iI i) ck)) (bump l key ck)))
 have bg:Fr (fun b=>b=bm) w4 w5:=by rw[<- kI];exact (Fr.refl (fun b=>b=bm) _).putObj (fun _=>rfl) _
 have rf:w5.heap[bm]?=some (.map (ents (put l key (iI i) ck)) (bump l key ck)):=by rw[<- kI];exact wK _ _ _ (M0 re)
 rw[kI];have e0:=(bg.cell (p:=⟨w+1,0,none⟩) cl n2).trans c0;have e1:=(bg.cell (p:=⟨w+1,1,none⟩) cl n2).trans c1;have e2:=(bg.cell (p:=⟨w+1,2,none⟩) cl n2).trans c2;have ez:∀ o,w5.frozen? ⟨w+1,o,none⟩=false:=fun o=>(World.frozen?_of_block (bg.block _ cl n2)).trans (cz o)
 have HM5:=hid rf;have rH:=hid bg;clear kI c0 c1 c2 cz f0 f1 f2 fz ri rf bg re;go_region
 go_wp2
 obtain⟨eA,hl,hn⟩:=HR.o;have hlk:Sg.look l key=none:=by rw[hl,HF];rfl
 have KH:p.full=false:=by
  have:=HO.o;rw[empty,ox] at this;obtain⟨vr,h1,_⟩:=this;have e:=HP.o;rw[gE vr] at e;cases e;simpa using h1
 have IH:AtP w5 bc bp bm (pl.set i ⟨key,⟨st,la,ll,lc,di⟩,true,true⟩) hand:=by
  refine vW.place HP _ (fun _=>.inr HF.o) trivial vW.hand ?_ ?_ HM5 (ED eA _ _ _) (fun k=>?_) ?_
  .exact rH.heap Ef n123.2.1
  .exact rH.heap Sv n123.2.2
  .rw[IC,hl];simp[KH]
  .rw[jP0,hlk,hn,KH];simp
 refine bodyPost_ret (v:=tU #[iI 0,Pg.zero.val,bO false]) (by simp[results,go_sem,Pg.zero, *]) rfl ⟨by rw[HE];rfl,?_,?_⟩
 .rw[HE];refine IH.fr (S:=fun b=>b=w.heap.size+1) ?_ oM oM oM;exact (Fr.rt (S:=fun b=>b=w.heap.size+1) (b:=w.heap.size+1) fR rfl _ _ _).drew
 .refine Fr.drew (Fr.Aj ?_ oM _ _ _);exact (((F2.mono (S':=fun b=>b=bc\/b=bp\/b=bm) nE).trans F3 nE).trans Q5 fun _ _ h=>.inr (.inl h)).trans rH fun _ _ h=>.inr (.inr h)
end CP
