/- A pack of texts. Conditions: those that each names. -/
import Derived.WalkLawsBesides
import Derived.Maps.AppendAt
import Derived.Test.YtgdhaaokolfdoaaGreatDoorProg
import Derived.Deep.LoopGhost
import Derived.Shelf.Abstract
import Derived.OwnWalkIn
import Derived.LoopNIn
import Derived.LoopIn
import Derived.Sort.BigQuietIn
import Derived.RangeFuncNested
set_option maxHeartbeats 16000000
set_option maxRecDepth 100000
set_option linter.all false
namespace Go
theorem oM {p:Prop} (h:p:=by omega):p:=h
theorem dC {p:Prop} (h:p:=by decide):p:=h
theorem kF {p:Prop} (h:p:=by kernel_rfl):p:=h
theorem rF {p:Prop} (h:p:=by rfl):p:=h
theorem gF {p:Prop} (h:p:=by simp only [gA, gZ, gS]; rfl):p:=h
theorem sP {p:Prop} (h:p:=by simp):p:=h
theorem sO {p:Prop} (h:p:=by simp; omega):p:=h
theorem sR {p:Prop} (h:p:=by simp [results, go_sem, *]):p:=h
theorem nI {α:Sort _} {β:α->Sort _} {γ:α->Prop}:∀ a, β a->γ a->γ a:=fun _ _ h=>h
theorem nE {α:Sort _} {β:α->Sort _} {γ:α->Prop}:∀ a, β a->False->γ a:=fun _ _ h=>h.elim
theorem eX {α:Sort _} (a:α):∃ b, a = b:=⟨a, rfl⟩
theorem xe {α:Sort _} (a:α):∃ b, b = a:=⟨a, rfl⟩
def la9:=@Nat.zero_le
def lb9:=@List.mem_append
def lc9:=@Nat.pow_le_pow_right
def ld9:=@List.mem_map
def le9:=@List.nil_append
def lg9:=@List.findIdx?_eq_some_iff_getElem
def lh9:=@List.getElem?_append_left
def li9:=@List.flatMap_append
def lj9:=@List.flatMap_cons
def lk9:=@List.getElem?_append_right
def ll9:=@Nat.le_of_eq
def lm9:=@List.append_assoc
def ln9:=@List.length_map
def lo9:=@List.cons_append
def lp9:=@Nat.zero_add
def lq9:=@Array.replicate_succ
def lr9:=@Array.replicate_zero
def ls9:=@List.append_toArray
def lt9:=@List.map_append
def lu9:=@List.mem_append_right
def lv9:=@List.length_drop
def lw9:=@List.take_add_one
def lx9:=@List.length_set
def ly9:=@List.push_toArray
def lz9:=@List.length_nil
def lA9:=@List.mem_cons
def lB9:=@List.getElem?_drop
def lC9:=@List.mem_iff_getElem?
def lD9:=@List.length_filter_le
def lE9:=@List.findIdx?_eq_none_iff
def lF9:=@List.getElem?_replicate
def lG9:=@Int.toNat_natCast
def lH9:=@List.eq_nil_of_length_eq_zero
def lI9:=@Bool.false_eq_true
def lJ9:=@Nat.mul_comm
def lK9:=@Nat.pow_succ
def lL9:=@Int.toNat_of_nonneg
def lM9:=@List.mem_cons_of_mem
def lN9:=@List.mem_append_left
def lO9:=@List.pairwise_iff_getElem
def lP9:=@List.filter_append
def lQ9:=@List.mem_singleton
def lR9:=@List.mem_of_mem_take
def lS9:=@List.findIdx?_cons
def lT9:=@Array.length_toList
def lU9:=@List.getElem?_set
def lV9:=@Nat.lt_or_ge
def lW9:=@Nat.pow_pos
def lX9:=@Nat.div_div_eq_div_mul
def lY9:=@Nat.add_sub_cancel
def lZ9:=@Nat.succ_mul
def ma9:=@List.find?_cons
def mb9:=@List.mem_filter
def mc9:=@List.drop_eq_getElem_cons
def md9:=@List.any_eq_true
def me9:=@List.take_append_of_le_length
def mf9:=@List.mem_flatMap
def mg9:=@List.nodup_append
def mh9:=@List.eq_of_mem_replicate
def mi9:=@List.getElem?_eq_none
def mj9:=@List.map_cons
def mk9:=@Array.getD_eq_getD_getElem?
def ml9:=@List.mem_of_mem_drop
def mm9:=@List.mem_or_eq_of_mem_set
def mn9:=@List.length_singleton
def mo9:=@Nat.xor_lt_two_pow
def mp9:=@Bool.and_eq_true
def mq9:=@Nat.add_sub_cancel_left
def mr9:=@Nat.zero_mul
def ms9:=@List.ext_getElem?
def mt9:=@List.any_eq_false
def mu9:=@Nat.div_eq_of_lt
def mv9:=@Nat.lt_irrefl
def mw9:=@Nat.add_assoc
def my9:=@List.take_append_drop
def mz9:=@List.singleton_append
def mA9:=@Nat.mul_add
def mB9:=@Nat.add_right_cancel
def mC9:=@Option.map_some
def mD9:=@Nat.mod_lt
def mE9:=@List.pairwise_map
def mF9:=@List.append_nil
def mG9:=@List.getElem?_inj
def mH9:=@List.map_nil
def mI9:=@List.filter_eq_self
def mJ9:=@List.length_eq_zero_iff
def mK9:=@Option.bind_some
def mL9:=@List.drop_append_of_le_length
def mM9:=@List.drop_eq_nil_of_le
def mN9:=@Nat.lt_of_le_of_lt
def mO9:=@List.range_succ
def mP9:=@List.map_map
def mQ9:=@Nat.le_div_iff_mul_le
def mR9:=@Nat.mul_assoc
def mS9:=@Nat.not_lt
def mT9:=@Array.toList_setIfInBounds
def mU9:=@Array.getElem?_eq_getElem
def mV9:=@List.mem_of_find?_eq_some
def mW9:=@List.getElem_of_mem
def mX9:=@List.map_congr_left
def mY9:=@List.take_succ_cons
def mZ9:=@Nat.pow_add
def na9:=@List.pairwise_cons
def nb9:=@Nat.div_le_self
def nc9:=@List.prefix_iff_eq_take
def nd9:=@List.find?_eq_none
def ne9:=@List.take_left'
def ng9:=@List.drop_of_length_le
def nh9:=@List.flatMap_singleton
def ni9:=@Nat.le_succ_of_le
def nj9:=@Nat.add_mul
def nk9:=@List.filter_congr
def nl9:=@Bool.not_eq_true'
def nn9:=@Int.le_refl
def no9:=@List.nodup_nil
def np9:=@Nat.le_of_lt
def nq9:=@Nat.sub_self
def nr9:=@Option.getD_some
def ns9:=@List.all_eq_true
def nt9:=@List.mem_reverse
def nu9:=@Nat.succ_le_succ
def nv9:=@List.map_toArray
def nw9:=@List.perm_middle
end Go
namespace Go.Sg
open Go.RowKit
@[go_sem] theorem AO0 (f:FuncId):Fence.wide.fn f=True:=rfl
@[go_sem] theorem vn0 (l:Nat) (f:FuncId):(Fence.wide.inRound l).fn f=True:=rfl
@[go_sem] theorem xD0:Fence.wide.depth=none:=rfl
variable {p q:Prop}{a b n r:Nat}{c:Array Value}{S S':Nat->Prop}{w w' w1:World}{t:TypeId}{f:Nat × Nat}{A B o:Obj}{P:Program}{x y z:Value}
theorem hid (h:p):Hid p:=h
structure Fr (S:Nat->Prop)(w w':World):Prop where
 os:w'.os=w.os
 tape:w'.tape=w.tape
 output:w'.output=w.output
 size:w.heap.size<=w'.heap.size
 block:∀ b,b<w.heap.size->¬ S b->w'.heap[b]?=w.heap[b]?
theorem gA {α:Type}{l:List α}{i:Nat}:l.toArray[i]?=l[i]?:=List.getElem?_toArray ..
theorem gZ {α:Type}{a:α}{l:List α}:(a :: l)[0]?=some a:=rfl
theorem gS {α:Type}{a:α}{l:List α}{i:Nat}:(a :: l)[i+1]?=l[i]?:=rfl
theorem sI {α:Type}{l:List α}{i:Nat}{a:α}:l.toArray.setIfInBounds i a=(l.set i a).toArray:=List.setIfInBounds_toArray ..
theorem sZ {α:Type}{x a:α}{l:List α}:(x :: l).set 0 a=a :: l:=rfl
theorem sS {α:Type}{x a:α}{l:List α}{i:Nat}:(x :: l).set (i+1) a=x :: l.set i a:=rfl
abbrev Fq:=Fr (fun _=>False)
theorem gE {α:Type}{l:List α}{i:Nat}(h:i<l.length):l[i]?=some l[i]:=List.getElem?_eq_getElem h
theorem gI {α:Type}{a:α}{l:List α}{i:Nat}:l[i]?=some a <-> ∃ h:i<l.length,l[i]=a:=List.getElem?_eq_some_iff
theorem gM {α:Type}{a:α}{l:List α}{i:Nat}(h:l[i]?=some a):a ∈ l:=List.mem_of_getElem? h
theorem lA {α:Type}{l m:List α}:(l++m).length=l.length+m.length:=List.length_append
theorem gT {α:Type}{l:List α}{i j:Nat}:(l.take i)[j]?=if j<i then l[j]? else none:=List.getElem?_take
theorem gP {α β:Type}{f:α->β}{l:List α}{i:Nat}:(l.map f)[i]?=(l[i]?).map f:=List.getElem?_map
theorem zA {α:Type}(l:List α):l.toArray.size=l.length:=rfl
theorem lC {α:Type}{a:α}{l:List α}:(a :: l).length=l.length+1:=rfl
theorem lT {α:Type}{i:Nat}{l:List α}:(l.take i).length=min i l.length:=List.length_take
theorem tL {α:Type}{i:Nat}{l:List α}(h:l.length<=i):l.take i=l:=List.take_of_length_le h
theorem nLL {c:Nat}(h:a<b)(k:b<=c):a<c:=Nat.lt_of_lt_of_le h k
theorem nT {c:Nat}(h:a<=b)(k:b<=c):a<=c:=Nat.le_trans h k
theorem nR (a:Nat):a<=a:=Nat.le_refl a
theorem iZ {a:Int}(h:0<=a):∃ n:Nat,a=n:=Int.eq_ofNat_of_zero_le h
theorem aI (h:p)(k:q):p/\q:=⟨h,k⟩
theorem hi2 (h:p)(k:q):Hid (p/\q):=⟨h,k⟩
theorem Fr.refl (S:Nat->Prop)(w:World):Fr S w w:=⟨rfl,rfl,rfl,nR _,fun _ _ _=>rfl⟩
theorem Fr.trans {w2:World}(h:Fr S w w1)(k:Fr S' w1 w2)(hs:∀ b,b<w.heap.size->S' b->S b):Fr S w w2:=
 ⟨k.os.trans h.os,k.tape.trans h.tape,k.output.trans h.output,nT h.size k.size,
  fun b hb hn=>(k.block b (nLL hb h.size) (fun hs'=>hn (hs b hb hs'))).trans (h.block b hb hn)⟩
theorem Fr.mono (h:Fr S w w1)(hs:∀ b,b<w.heap.size->S b->S' b):Fr S' w w1:=
 ⟨h.os,h.tape,h.output,h.size,fun b hb hn=>h.block b hb (fun hs'=>hn (hs b hb hs'))⟩
theorem am0 (w:World)(o:Obj)(b:Nat)(h:b<w.heap.size):(w.alloc o).heap[b]?=w.heap[b]?:=by
 show (w.heap.push o)[b]?=_;rw[Array.getElem?_push,if_neg (Nat.ne_of_lt h)]
theorem han (w:World)(o:Obj):(w.alloc o).heap[w.heap.size]?=some o:=by
 show (w.heap.push o)[w.heap.size]?=_;rw[Array.getElem?_push,if_pos rfl]
theorem ao0 (w:World)(a:Addr)(v:Value)(b:Nat)(h:a.block≠b):(w.setCell a v).heap[b]?=w.heap[b]?:=by
 simp[World.setCell,Array.getElem?_modify,h]
theorem hsc (w:World)(b o:Nat)(v:Value)(h:w.heap[b]?=some (.cells c t f)) :
  (w.setCell ⟨b,o,none⟩ v).heap[b]?=some (.cells (c.setIfInBounds o v) t f):=by
 simp[World.setCell,Array.getElem?_modify,h]
theorem hpj (w:World)(r:Nat)(o:Obj)(b:Nat)(h:r≠b):(w.putObj r o).heap[b]?=w.heap[b]?:=by
 simp[World.putObj,h]
theorem aR0 (w:World)(r:Nat)(o:Obj)(h:r<w.heap.size):(w.putObj r o).heap[r]?=some o:=by
 simp[World.putObj,h]
theorem loh (h:w.heap[b]?=some o):b<w.heap.size:=(Array.getElem?_eq_some_iff.1 h).1
theorem Fr.alloc (h:Fr S w w1)(o:Obj):Fr S w (w1.alloc o):=
 ⟨h.os,h.tape,h.output,nT h.size sP,fun b hb hn=>(am0 w1 o b (nLL hb h.size)).trans (h.block b hb hn)⟩
theorem Fr.setCell (h:Fr S w w1){a:Addr}(ha:a.block<w.heap.size->S a.block)(v:Value):Fr S w (w1.setCell a v):=
 ⟨h.os,h.tape,h.output,by simpa using h.size,fun b hb hn=>(ao0 w1 a v b (by rintro rfl;exact hn (ha hb))).trans (h.block b hb hn)⟩
theorem Fr.putObj (h:Fr S w w1)(ha:r<w.heap.size->S r)(o:Obj):Fr S w (w1.putObj r o):=
 ⟨h.os,h.tape,h.output,by simpa[World.putObj] using h.size,fun b hb hn=>(hpj w1 r o b (by rintro rfl;exact hn (ha hb))).trans (h.block b hb hn)⟩
theorem Fr.drew (h:Fr S w w1):Fr S w w1.drew:=⟨h.os,h.tape,h.output,h.size,h.block⟩
theorem Fr.drewN (h:Fr S w w1)(n:Nat):Fr S w (w1.drewN n):=⟨h.os,h.tape,h.output,h.size,h.block⟩
theorem Fr.heap (h:Fr S w w1)(hb:w.heap[b]?=some o)(hn:¬ S b):w1.heap[b]?=some o:=(h.block b (loh hb) hn).trans hb
theorem Fr.cell (h:Fr S w w1){p:Addr}(hb:p.block<w.heap.size)(hn:¬ S p.block):w1.cell? p=w.cell? p:=World.cell?_of_block (h.block _ hb hn)
theorem Fr.of_below (h:Below w.heap.size w w1):Fr S w w1:=⟨h.os,h.tape,h.output,h.size,fun b hb _=>h.block b hb⟩
theorem Fr.of_grownBy (h:w.grownBy w1 (some r)):Fr (· = r) w w1:=⟨h.os,h.tape,h.output,h.size,fun b hb hn=>h.block b hb (fun e=>hn (by cases e;rfl))⟩
theorem Fr.below (h:Fr S w w1)(hs:∀ b,b<w.heap.size->¬ S b):Below w.heap.size w w1:=
 ⟨h.os,h.tape,h.output,h.size,fun b hb=>h.block b hb (hs b hb)⟩
theorem coh (h:w.heap[b]?=some (.cells c t f))(o:Nat):w.cell? ⟨b,o,none⟩=c[o]?:=by
 simp[World.cell?,h]
theorem foh (h:w.heap[b]?=some (.cells c t (0,0)))(o:Nat):w.frozen? ⟨b,o,none⟩=false:=by
 simp[World.frozen?,h]
@[go_sem] theorem heap_drewN (w:World) (n:Nat):(w.drewN n).heap=w.heap:=rfl
@[go_sem] theorem heap_drew (w:World):w.drew.heap=w.heap:=rfl
@[go_sem] theorem qv0 (w:World) (a o:Nat) (v:Value) (b:Nat) (h:a≠b):(w.setCell ⟨a,o,none⟩ v).heap[b]?=w.heap[b]?:=ao0 w _ v b h
@[go_sem] theorem rq0 (w:World) (r:Nat) (o:Obj) (b:Nat) (h:r≠b):(w.putObj r o).heap[b]?=w.heap[b]?:=hpj w r o b h
@[go_sem] theorem mp0 (w:World) (r:Nat) (o:Obj) (b i:Nat) (h:r≠b):(w.putObj r o).cell? ⟨b,i,none⟩=w.cell? ⟨b,i,none⟩:=by
 simp[World.cell?,hpj w r o b h]
@[go_sem] theorem tC0 (w:World) (r:Nat) (o:Obj) (b i:Nat) (h:r≠b):(w.putObj r o).frozen? ⟨b,i,none⟩=w.frozen? ⟨b,i,none⟩:=by
 simp[World.frozen?,hpj w r o b h]
@[go_sem] theorem iX0 (w:World) (r:Nat) (o:Obj):(w.putObj r o).heap.size=w.heap.size:=by simp[World.putObj]
@[go_sem] theorem tp0 (w:World) (o:Obj) (b:Nat) (h:b<w.heap.size):(w.alloc o).heap[b]?=w.heap[b]?:=am0 w o b h
theorem aN0 {β:Type}(B:Nat)(b:β->Nat)(o:β->Obj)(h:∀ s,(o s).isCells=true\/b s<B):OwnFrom B (fun s W=>W.heap[b s]?=some (o s)):=by
 intro s W W' row hs hg hr;refine (hg.block (b s) (loh hs) ?_).trans hs;intro e;obtain⟨hB,o',ho',hc⟩:=hr (b s) e.symm;rcases h s with h|h
 ·rw[hs] at ho';cases ho';rw[h] at hc;cases hc
 ·omega
theorem dU0 {β:Type}{B:Nat}(hB:w.heap.size<=B):OwnFrom B (fun (_:β) W=>Fr S w W):=by
 intro s W W' row hs hg hr;exact hs.trans (S':=fun b=>W.heap.size<=b\/B<=b) ⟨hg.os,hg.tape,hg.output,hg.size,fun b hb hn=>hg.block b hb (fun e=>hn (.inr (hr b e.symm).1))⟩
  (fun b hb h=>by have:=hs.size;omega)
theorem aJ0 {β:Type}(B:Nat)(p:β->Prop):OwnFrom B (fun s (_:World)=>p s):=fun _ _ _ _ hs _ _=>hs
theorem aZ0 {β:Type}{B:Nat}{I I':β->World->Prop}(h:OwnFrom B I)(h':OwnFrom B I'):OwnFrom B (fun s W=>I s W/\I' s W):=h.and h'
theorem eL0 {β γ:Type}{B:Nat}{I:γ->β->World->Prop}(h:∀ c,OwnFrom B (I c)):OwnFrom B (fun s W=>∃ c,I c s W):=by
 rintro s W W' row ⟨c,hc⟩ hg hr;exact⟨c,h c s W W' row hc hg hr⟩
theorem bH0 {fn:Func}{R:Ending->World->Prop}{tmps:Array Value}{D t:Nat}{W:World}(h:fn.results=#[.tmp t])(hK:W.heap[D]?=some (.deferred (some [])))
  (hR:R (.returned (tmps.getD t undef)) (W.putObj D (.deferred none))):bodyPostM Fence.wide n P fn R .ret { tmps:=tmps,defers:=[{ target:=.collected D,args:=#[] }] } W:=
 ⟨by simp,.inl ⟨_,_,rfl,run_takeDeferred hK,_,results_tmp h _ _ _,hR⟩⟩
structure Ent where
 k:Int
 v:Value
 born:Nat
def Ent.entry (e:Ent):MapEntry:=⟨.int .i64 e.k,e.v,e.born⟩
def ents (l:List Ent):Array MapEntry:=(l.map Ent.entry).toArray
def look (l:List Ent)(k:Int):Option Value:=(l.find? (·.k == k)).map (·.v)
def put:List Ent->Int->Value->Nat->List Ent
 | [],k,v,c=>[⟨k,v,c⟩]
 | e :: l,k,v,c=>if e.k == k then ⟨k,v,e.born⟩ :: l else e :: put l k v c
def del:List Ent->Int->List Ent
 | [],_=>[]
 | e :: l,k=>if e.k == k then l else e :: del l k
theorem lw0 (k:Int)(l:List Ent):∀ i,Instr.findNow (.int .i64) (.int .i64 k) (l.map Ent.entry) i =
  some ((l.findIdx? (·.k == k)).bind fun j=>(l[j]?).map fun e=>(i+j,e.v)):=by
 induction l with
 | nil=>intro i;rfl
 | cons e l ih =>
  intro i;simp only[mj9,Instr.findNow,Ent.entry,Instr.sameNow,if_true,lS9];by_cases h:k=e.k
  ·subst h;simp
  ·have h1:(k == e.k)=false:=by simpa using h
   have h2:(e.k == k)=false:=by simpa using fun x=>h x.symm
   rw[h1,h2];simp only[lI9,if_false];rw[ih (i+1)];cases l.findIdx? (·.k == k) with
   | none=>rfl
   | some j=>simp only[mC9,mK9,gS];congr 2;funext e;congr 1;omega
section
variable {P:Program}{T K E:TypeId}{w:World}{bm:Nat}{l:List Ent}{ck:Nat}
theorem run_getObj_map (h:w.heap[bm]?=some (.map (ents l) ck)):(getObj bm).run P w = .ok (.map (ents l) ck) w:=by
 simp[getObj,Sem.run,h]
theorem run_findKey (hk:P.underlying K=some (.int .i64))(k:Int):(Instr.findKey K (.int .i64 k) (ents l).toList).run P w =
  .ok ((l.findIdx? (·.k == k)).bind fun j=>(l[j]?).map fun e=>(j,e.v)) w:=by
 simp only[Instr.findKey,Sem.run_bind,run_underlying hk,Result.andThen,ents,lw0,lp9];rfl
theorem run_checkKey (hk:P.underlying K=some (.int .i64))(k:Int)(b:Bool):(Instr.checkKey b 10000 K (.int .i64 k)).run P w = .ok () w:=by
 exact MapKept.run_checkKey (n:=9999) hk (by trivial) b
theorem look_eq (l:List Ent)(k:Int):((l.findIdx? (·.k == k)).bind fun j=>(l[j]?).map fun e=>(j,e.v)).map (·.2)=look l k:=by
 induction l with
 | nil=>rfl
 | cons e l ih =>
  simp only[lS9,look,ma9];by_cases h:e.k=k
  ·subst h;simp
  ·have h2:(e.k == k)=false:=by simpa using h
   rw[h2];simp only[lI9,if_false];rw[look] at ih;rw[<- ih];cases l.findIdx? (·.k == k) with
   | none=>rfl
   | some j=>simp[Option.map_map];cases l[j]? <;> rfl
theorem bF0 {z:Value}(ok:Bool)(ht:P.underlying T=some (.map K E))(hk:P.underlying K=some (.int .i64))(hz:∀ w,(zeroValue E).run P w = .ok z w)
  (h:w.heap[bm]?=some (.map (ents l) ck)) (k:Int) :
  (Instr.lookup T (.map (some bm)) (.int .i64 k) ok).run P w =
   .ok (if ok then .tuple #[(look l k).getD z,.bool (look l k).isSome] else (look l k).getD z) w:=by
 simp only[Instr.lookup,Sem.run_bind,run_underlying ht,Result.andThen,run_getObj_map h,run_checkKey hk,run_findKey hk,Sem.run_pure];have e:=look_eq l k;cases hf:((l.findIdx? (·.k == k)).bind fun j=>(l[j]?).map fun e=>(j,e.v)) with
 | none=>rw[hf] at e;rw[<- e];simp[hz]
 | some x=>rw[hf] at e;rw[<- e];cases ok <;> rfl
theorem kl0 (k:Int)(v:Value)(c:Nat):∀ (l:List Ent) (j:Nat),l.findIdx? (·.k == k)=some j ->
  (l.map Ent.entry).modify j (fun e=>{ e with key:=.int .i64 k,val:=v })=(put l k v c).map Ent.entry/\∃ e,l[j]?=some e/\e.k=k
 | [],j,h=>by simp at h
 | e :: l,j,h=>by
  rw[lS9] at h;by_cases hk:(e.k == k)=true
  ·rw[hk] at h;simp only[if_true,Option.some.injEq] at h;subst h;have hk':e.k=k:=by simpa using hk
   exact⟨by simp[put,hk,Ent.entry],e,rfl,hk'⟩
  ·have hk':(e.k == k)=false:=by simpa using hk
   rw[hk'] at h;simp only[lI9,if_false,Option.map_eq_some_iff] at h;obtain⟨i,hi,rfl⟩:=h;obtain⟨h1,h2⟩:=kl0 k v c l i hi;exact⟨by simp[put,hk',h1],by simpa using h2⟩
theorem op0 (k:Int)(v:Value)(c:Nat):∀ (l:List Ent),l.findIdx? (·.k == k)=none->put l k v c=l++[⟨k,v,c⟩]
 | [],_=>rfl
 | e :: l,h=>by
  rw[lS9] at h;by_cases hk:(e.k == k)=true
  ·rw[hk] at h;simp at h
  ·have hk':(e.k == k)=false:=by simpa using hk
   rw[hk'] at h;simp only[lI9,if_false,Option.map_eq_none_iff] at h;simp[put,hk',op0 k v c l h]
theorem mN0 (l:List Ent)(k:Int):(look l k).isSome=(l.findIdx? (·.k == k)).isSome:=by
 induction l with
 | nil=>rfl
 | cons e l ih =>
  simp only[look,ma9,lS9];by_cases hk:(e.k == k)=true
  ·simp[hk]
  ·have hk':(e.k == k)=false:=by simpa using hk
   rw[hk'];simp only[look] at ih;simp[ih]
theorem run_keyThatStays (k:Int):(Instr.keyThatStays (.int .i64 k) (.int .i64 k)).run P w = .ok (.int .i64 k) w:=by
 simp[Instr.keyThatStays,Instr.sameBits]
theorem bR0 {o o':Obj}(h:w.heap[bm]?=some o)(ho:o.isCells=false):(setObj bm o').run P w = .ok () (w.putObj bm o'):=by
 cases o <;> first|(simp[Obj.isCells] at ho;done)|simp[setObj,Sem.run,h,World.putObj]
def bump (l:List Ent)(k:Int)(ck:Nat):Nat:=if (look l k).isSome then ck else ck+1
theorem bg0 (ht:P.underlying T=some (.map K E))(hk:P.underlying K=some (.int .i64))
  (h:w.heap[bm]?=some (.map (ents l) ck)) (k:Int) (v:Value) :
  (Instr.mapUpdate T (.map (some bm)) (.int .i64 k) v).run P w =
   .ok () (w.putObj bm (.map (ents (put l k v ck)) (bump l k ck))):=by
 unfold bump;simp only[Instr.mapUpdate,Sem.run_bind,run_underlying ht,Result.andThen,run_getObj_map h,run_checkKey hk,run_findKey hk];rw[mN0];cases hf:l.findIdx? (·.k == k) with
 | none =>
  simp only[Option.bind_none];rw[bR0 h rfl,op0 k v ck l hf];simp[ents,Ent.entry]
 | some j =>
  obtain⟨h1,e,h2,h3⟩:=kl0 k v ck l j hf;have h4:(((ents l)[j]?).map (·.key)).getD (.int .i64 k) = .int .i64 k:=by simp[ents,h2,Ent.entry,h3]
  simp only[mK9,h2,mC9];rw[h4];simp only[Sem.run_bind,run_keyThatStays,Result.andThen];rw[bR0 h rfl];simp only[Option.isSome_some,if_true];congr 3
  rw[ents,ents,<- h1];simp
theorem nS0 (k:Int):∀ (l:List Ent) (j:Nat),l.findIdx? (·.k == k)=some j->(l.map Ent.entry).eraseIdx j=(del l k).map Ent.entry
 | [],j,h=>by simp at h
 | e :: l,j,h=>by
  rw[lS9] at h;by_cases hk:(e.k == k)=true
  ·rw[hk] at h;simp only[if_true,Option.some.injEq] at h;subst h;simp[del,hk]
  ·have hk':(e.k == k)=false:=by simpa using hk
   rw[hk'] at h;simp only[lI9,if_false,Option.map_eq_some_iff] at h;obtain⟨i,hi,rfl⟩:=h;simp[del,hk',nS0 k l i hi]
theorem nT0 (k:Int):∀ (l:List Ent),l.findIdx? (·.k == k)=none->del l k=l
 | [],_=>rfl
 | e :: l,h=>by
  rw[lS9] at h;by_cases hk:(e.k == k)=true
  ·rw[hk] at h;simp at h
  ·have hk':(e.k == k)=false:=by simpa using hk
   rw[hk'] at h;simp only[lI9,if_false,Option.map_eq_none_iff] at h;simp[del,hk',nT0 k l h]
theorem jg0 (ht:P.underlying T=some (.map K E))(hk:P.underlying K=some (.int .i64))
  (h:w.heap[bm]?=some (.map (ents l) ck)) (k:Int) (t':TypeId) (ts:Array TypeId) (hts:ts[0]?=some T) :
  (Builtin.delete_ ts t' #[.map (some bm),.int .i64 k]).run P w = .ok (.tuple #[]) (w.putObj bm (.map (ents (del l k)) ck)):=by
 simp only[Builtin.delete_,hts];simp only[gA,gZ,gS,Sem.run_bind,run_underlying ht,Result.andThen,run_getObj_map h,run_checkKey hk,run_findKey hk];cases hf:l.findIdx? (·.k == k) with
 | none =>
  simp only[Option.bind_none,Sem.run_bind];rw[bR0 h rfl,nT0 k l hf];rfl
 | some j =>
  obtain⟨h1,e,h2,h3⟩:=kl0 k (.bool true) ck l j hf;simp only[mK9,h2,mC9,Sem.run_bind];rw[bR0 h rfl];have:=nS0 k l j hf;simp only[Result.andThen];congr 3
  rw[ents,ents,<- this];have hj:j<(l.map Ent.entry).toArray.size:=by
   have:=(gI.1 h2).1;simpa using this
  simp[Array.eraseIdxIfInBounds,hj];have:=(gI.1 h2).1;simp[this]
theorem run_len_map (ht:P.underlying T=some (.map K E))(h:w.heap[bm]?=some (.map (ents l) ck))(t':TypeId)(ts:Array TypeId)(hts:ts[0]?=some T) :
  (Builtin.len_ ts t' #[.map (some bm)]).run P w = .ok (.int .i64 l.length) w:=by
 simp only[Builtin.len_,hts];simp only[gA,gZ,Sem.run_bind,run_underlying ht,Result.andThen,run_getObj_map h];simp[ents,goInt]
end
theorem gn0 (l:List Ent)(k:Int)(v:Value)(c:Nat)(k':Int):look (put l k v c) k'=if k=k' then some v else look l k':=by
 induction l with
 | nil =>
  by_cases h:k=k'
  ·simp[put,look,h]
  ·have:(k == k')=false:=by simpa using h
   simp[put,look,h]
 | cons e l ih =>
  unfold put;by_cases hk:(e.k == k)=true
  ·have hk':e.k=k:=by simpa using hk
   rw[if_pos hk];by_cases h:k=k'
   ·simp[look,h]
   ·simp[look,h,hk']
  ·rw[if_neg hk];simp only[look,ma9] at ih ⊢;by_cases h':(e.k == k')=true
   ·have h2:e.k=k':=(by simpa using h');have h3:k≠k':=fun x=>hk (by simp[h2,x])
    simp[h',h3]
   ·have h'':(e.k == k')=false:=(by simpa using h');rw[h''];exact ih
def keys (l:List Ent):List Int:=l.map (·.k)
theorem nI0 (l:List Ent)(k:Int)(v:Value)(c:Nat):keys (put l k v c)=if (look l k).isSome then keys l else keys l++[k]:=by
 induction l with
 | nil=>rfl
 | cons e l ih =>
  unfold put;by_cases hk:(e.k == k)=true
  ·have hk':e.k=k:=by simpa using hk
   simp[keys,look,hk,hk']
  ·have hk':(e.k == k)=false:=by simpa using hk
   have e1:look (e :: l) k=look l k:=by simp[look,ma9,hk']
   rw[hk',e1];simp only[lI9,if_false];show e.k :: keys (put l k v c)=_;rw[ih];split <;> rfl
theorem ch0 (l:List Ent)(k:Int):look l k=none↔k ∉ keys l:=by
 simp[look,keys]
theorem length_keys (l:List Ent):(keys l).length=l.length:=by simp[keys]
theorem jo0 (l:List Ent)(k:Int)(v:Value)(c:Nat):(put l k v c).length=if (look l k).isSome then l.length else l.length+1:=by
 rw[<- length_keys,nI0];split <;> simp[length_keys]
variable {l:List Ent}
theorem dV0 (h:(keys l).Nodup)(k:Int)(v:Value)(c:Nat):(keys (put l k v c)).Nodup:=by
 rw[nI0];split
 ·exact h
 ·rename_i hn;have:k ∉ keys l:=(ch0 l k).1 (by simpa using hn);rw[mg9];refine⟨h,by simp,?_⟩;rintro a ha b hb rfl;simp at hb;subst hb;exact this ha
theorem nJ0 (l:List Ent)(k:Int):keys (del l k)=(keys l).erase k:=by
 induction l with
 | nil=>rfl
 | cons e l ih =>
  unfold del;by_cases hk:(e.k == k)=true
  ·simp[keys,hk,List.erase_cons]
  ·have hk':(e.k == k)=false:=by simpa using hk
   simp only[keys] at ih;simp[keys,List.erase_cons,hk',ih]
theorem jp0 (l:List Ent)(k:Int):(del l k).length=if (look l k).isSome then l.length-1 else l.length:=by
 rw[<- length_keys,nJ0];cases h:look l k with
 | none=>rw[List.erase_of_not_mem ((ch0 l k).1 h)];simp[length_keys]
 | some x =>
  have hk:k ∈ keys l:=by
   rcases Decidable.em (k ∈ keys l) with h'|h'
   ·exact h'
   ·rw[(ch0 l k).2 h'] at h;cases h
  rw[List.length_erase_of_mem hk];simp[length_keys]
theorem lc0 (h:(keys l).Nodup)(k:Int):(keys (del l k)).Nodup:=by
 rw[nJ0];exact h.erase k
theorem kv0 (h:(keys l).Nodup)(k k':Int):look (del l k) k'=if k=k' then none else look l k':=by
 induction l with
 | nil=>simp[del,look]
 | cons e l ih =>
  have hn:(keys l).Nodup:=by simp[keys] at h ⊢;exact h.2
  have he:e.k ∉ keys l:=by simp[keys] at h ⊢;exact h.1
  unfold del;by_cases hk:(e.k == k)=true
  ·have hk':e.k=k:=by simpa using hk
   rw[if_pos hk];by_cases hh:k=k'
   ·subst hh;rw[if_pos rfl];exact (ch0 l k).2 (hk' ▸ he)
   ·simp[look,hh,hk']
  ·rw[if_neg hk];have ih:=ih hn;simp only[look,ma9] at ih ⊢;by_cases h':(e.k == k')=true
   ·have h2:e.k=k':=(by simpa using h');have h3:k≠k':=fun x=>hk (by simp[h2,x])
    simp[h',h3]
   ·have h'':(e.k == k')=false:=(by simpa using h');rw[h''];exact ih
theorem cz0 (t e:TypeId)(i:TypeInfo)(z:Value)(ht:P.underlying t=some (.slice e))(hi:P.info? e=some i)(hz:i.zero=some z)(n:Nat)(hb:i.bytes*n<=281474976710656)(hn:n<=9223372036854775807)(w:World) :
  (Instr.makeSlice t (.int .i64 (n:Int)) (.int .i64 (n:Int))).run P w = .ok (.slice (some ⟨w.heap.size,0,none⟩) n n) (w.alloc (.cells (madeCells z.cells (n*i.size)) e)):=by
 have hc:(i.bytes:Int)*(n:Int)<=281474976710656:=by
  have h1:((i.bytes*n:Nat):Int)<=281474976710656:=oM
  rw[Int.natCast_mul] at h1;exact h1
 have h:=run_make (P:=P) w t e i z ht hi hz .i64 .i64 n n oM oM hc oM;rw[lG9] at h;exact h
theorem Fr.an0 (h:Fr S w w1){o:Nat}(hb:w.heap.size<=b)(v:Value):Fr S w (w1.setCell ⟨b,o,none⟩ v):=h.setCell (fun h'=>absurd h' sO) v
theorem cells2 (h:w.heap[b]?=some (.cells #[x,y] t)):w.cell? ⟨b,0,none⟩=some x/\w.cell? ⟨b,1,none⟩=some y/\(∀ o,w.frozen? ⟨b,o,none⟩=false)/\b<w.heap.size:=
 ⟨by simpa using coh h 0,by simpa using coh h 1,fun o=>foh h o,loh h⟩
theorem cells4 {u:Value}(h:w.heap[b]?=some (.cells #[x,y,z,u] t)) :
  w.cell? ⟨b,0,none⟩=some x/\w.cell? ⟨b,1,none⟩=some y/\w.cell? ⟨b,2,none⟩=some z/\w.cell? ⟨b,3,none⟩=some u/\(∀ o,w.frozen? ⟨b,o,none⟩=false)/\b<w.heap.size:=
 ⟨by simpa using coh h 0,by simpa using coh h 1,by simpa using coh h 2,by simpa using coh h 3,fun o=>foh h o,loh h⟩
theorem ai0 (h:(w.alloc A).alloc B=w'):w'.heap[w.heap.size]?=some A/\w'.heap[w.heap.size+1]?=some B/\Fq w w':=by
 subst h;refine⟨?_,?_,((Fr.refl _ _).alloc _).alloc _⟩
 ·rw[am0 _ _ _ sP];exact han _ _
 ·have:=han (w.alloc A) B;simpa using this
theorem aO0 {C:Obj}(h:((w.alloc A).alloc B).alloc C=w') :
  w'.heap[w.heap.size]?=some A/\w'.heap[w.heap.size+1]?=some B/\w'.heap[w.heap.size+1+1]?=some C/\Fq w w':=by
 obtain⟨w2,hw⟩:=eX ((w.alloc A).alloc B)
 obtain⟨h1,h2,h3⟩:=ai0 hw;rw[hw] at h;have hs:w2.heap.size=w.heap.size+1+1:=by rw[<- hw];simp
 subst h;refine⟨?_,?_,?_,h3.alloc _⟩
 ·rw[am0 _ _ _ (loh h1)];exact h1
 ·rw[am0 _ _ _ (loh h2)];exact h2
 ·have:=han w2 C;rw[hs] at this;exact this
theorem cells3 (h:w.heap[b]?=some (.cells #[x,y,z] t)) :
  w.cell? ⟨b,0,none⟩=some x/\w.cell? ⟨b,1,none⟩=some y/\w.cell? ⟨b,2,none⟩=some z/\(∀ o,w.frozen? ⟨b,o,none⟩=false)/\b<w.heap.size:=
 ⟨by simpa using coh h 0,by simpa using coh h 1,by simpa using coh h 2,fun o=>foh h o,loh h⟩
theorem mU0 {o':Obj}(h:w.heap[a]?=some o)(h':w.heap[b]?=some o')(hne:o≠o'):a≠b:=by
 rintro rfl;rw[h] at h';exact hne (Option.some.inj h')
theorem cr0 {wr:World}{base e size:Nat}{v:Value}{xs:List Value}(F:Fr S w wr)(hb:w.heap.size<=base)(hown:wr.ownsRow base e size v n xs)(hg:(wr.alloc o).grownBy w' v.ownBlock):Fr S w w':=by
 refine F.trans (S':=fun b=>base<=b) ⟨hg.os,hg.tape,hg.output,nT sP hg.size,fun b hb hn=>?_⟩ (fun b hb' h=>oM);rw[hg.block b (nLL hb sP) (fun e=>hn (hown.lt b e.symm).1)];exact am0 _ _ _ hb
end Go.Sg
namespace Go.Sg.Clk
section
open Go.RowKit
structure Pg where
 stamp:Int
 la:Option Addr
 ll:Nat
 lc:Nat
 dirty:Bool
abbrev Pg.load (p:Pg):Value:=.slice p.la p.ll p.lc
abbrev Pg.val (p:Pg):Value:=.agg #[.int .i64 p.stamp,p.load,.bool p.dirty]
def Pg.zero:Pg:=⟨0,none,0,0,false⟩
structure Pl where
 key:Int
 v:Pg
 full:Bool
 marked:Bool
def Pl.cells (p:Pl):List Value:=[.int .i64 p.key,.int .i64 p.v.stamp,p.v.load,.bool p.v.dirty,.bool p.full,.bool p.marked]
def cellsOf (pl:List Pl):Array Value:=(pl.flatMap Pl.cells).toArray
def Pl.none (z:Pg):Pl:=⟨0,z,false,false⟩
theorem flat_get:∀ (pl:List Pl) (i j:Nat) (p:Pl),pl[i]?=some p->j<6->(pl.flatMap Pl.cells)[i*6+j]?=p.cells[j]?
 | [],i,j,p,h,_=>by simp at h
 | q :: pl,0,j,p,h,hj=>by
  simp at h;subst h;simp only[lj9,mr9,lp9];rw[lh9 (by simp[Pl.cells];omega)]
 | q :: pl,i+1,j,p,h,hj=>by
  simp only[lj9];rw[lk9 (by simp[Pl.cells];omega)];have:=flat_get pl i j p (by simpa using h) hj;rw[<- this];congr 1
  simp[Pl.cells];omega
variable {pl:List Pl}{i:Nat}{p:Pl}
theorem bd0 (h:pl[i]?=some p)(j:Nat)(hj:j<6):(cellsOf pl)[i*6+j]?=p.cells[j]?:=by
 simpa[cellsOf] using flat_get pl i j p h hj
theorem tI0 (pl:List Pl):(pl.flatMap Pl.cells).length=pl.length*6:=by
 induction pl with
 | nil=>rfl
 | cons p pl ih=>simp only[lj9,lA,ih,lC];simp[Pl.cells];omega
theorem pI0 (pl:List Pl):(cellsOf pl).size=pl.length*6:=by simp only[cellsOf,zA,tI0]
theorem gu0:∀ (pl:List Pl) (i j:Nat) (v:Value) (p q:Pl),pl[i]?=some p->j<6->p.cells.set j v=q.cells ->
  (pl.flatMap Pl.cells).set (i*6+j) v=(pl.set i q).flatMap Pl.cells
 | [],i,j,v,p,q,h,_,_=>by simp at h
 | r :: pl,0,j,v,p,q,h,hj,hq=>by
  simp at h;subst h;simp only[lj9,mr9,lp9,sZ];rw[List.set_append_left _ _ (by simp[Pl.cells];omega),hq]
 | r :: pl,i+1,j,v,p,q,h,hj,hq=>by
  simp only[lj9,sS];rw[List.set_append_right _ _ (by simp[Pl.cells];omega)];have:=gu0 pl i j v p q (by simpa using h) hj hq;rw[<- this];congr 2
  simp[Pl.cells];omega
theorem cm0 (h:pl[i]?=some p)(j:Nat)(hj:j<6)(v:Value)(q:Pl)(hq:p.cells.set j v=q.cells) :
  (cellsOf pl).setIfInBounds (i*6+j) v=cellsOf (pl.set i q):=by
 simp[cellsOf,gu0 pl i j v p q h hj hq]
def find (pl:List Pl)(key:Int):Option Nat:=pl.findIdx? fun p=>p.full && p.key == key
def Nd (pl:List Pl):Prop:=∀ (i j:Nat) (p q:Pl),pl[i]?=some p->pl[j]?=some q->p.full=true->q.full=true->p.key=q.key->i=j
structure At (tc tp:TypeId)(ok:Pg->Prop)(w:World)(bc bp bm:Nat)(pl:List Pl)(hand:Nat):Prop where
 c:w.heap[bc]?=some (.cells #[.slice (some ⟨bp,0,none⟩) pl.length pl.length,.map (some bm),.int .i64 hand] tc)
 p:w.heap[bp]?=some (.cells (cellsOf pl) tp)
 m:∃ l ck,w.heap[bm]?=some (.map (ents l) ck)/\(keys l).Nodup/\(∀ k,look l k=(find pl k).map fun i=>.int .i64 i)/\l.length=pl.countP (·.full)
 room:1<=pl.length/\pl.length<=4096
 hand:hand<pl.length
 vs:∀ p ∈ pl,ok p.v
 nd:Nd pl
theorem aH0 {key:Int}(h:find pl key=some i):∃ p,pl[i]?=some p/\p.full=true/\p.key=key:=by
 rw[find,lg9] at h;obtain⟨hi,hp,_⟩:=h;simp at hp;exact⟨pl[i],by simp,hp.1,hp.2⟩
end
section
def bo0 (k:Nat)(pl:List Pl):List (Nat × Pl):=(((List.range k).map fun i=>(i,pl[i]?)).filterMap fun x=>x.2.bind fun p=>if p.full then some (x.1,p) else none)
theorem dy0 (k:Nat)(pl:List Pl)(p:Pl)(h:pl[k]?=some p):bo0 (k+1) pl=if p.full then bo0 k pl++[(k,p)] else bo0 k pl:=by
 simp only[bo0,mO9,lt9,mj9,mH9,List.filterMap_append,List.filterMap_cons,List.filterMap_nil,h,mK9];cases p.full <;> simp
theorem dN0 (k:Nat)(pl:List Pl):(bo0 k pl).length<=k:=by
 refine nT (List.length_filterMap_le _ _) ?_;simp
theorem jH0 (pl:List Pl):∀ (k m:Nat),k<=m->m<=pl.length->bo0 k pl <+: bo0 m pl:=by
  intro k m h hm;induction m with
  | zero => obtain rfl : k = 0 := by omega
            exact List.prefix_rfl
  | succ m ih =>
    by_cases hk:k=m+1
    · subst hk;exact List.prefix_rfl
    · have:=ih oM oM;have hp:pl[m]?=some pl[m]:=gE oM;rw[dy0 m pl _ hp];split
      · exact this.trans (List.prefix_append _ _)
      · exact this
def empty (pl:List Pl):Option Nat:=pl.findIdx? fun p=>!p.full
def kA0 (pl:List Pl):Int:=match empty pl with
 | some i=>i
 | none=>-1
variable {pl:List Pl}
theorem et0 {i:Nat}(h:empty pl=some i):kA0 pl=i:=by rw[kA0,h]
theorem gD0 (h:empty pl=none):kA0 pl = -1:=by rw[kA0,h]
def isFull (pl:List Pl)(i:Nat):Bool:=(pl[i]?).any (·.full)
def lu0 (k:Nat)(pl:List Pl):List Nat:=(List.range k).filter (isFull pl)
theorem jw0 (k:Nat)(pl:List Pl)(hk:k<=pl.length):(bo0 k pl).map (·.1)=lu0 k pl:=by
 induction k with
 | zero=>rfl
 | succ k ih =>
  have hp:pl[k]?=some pl[k]:=gE oM;rw[dy0 k pl _ hp,lu0,mO9,lP9];have ih:=ih oM;rw[lu0] at ih;cases hf:(pl[k]).full with
  | true=>simp[ih,isFull,hp,hf]
  | false=>simp[ih,isFull,hp,hf]
theorem py0 (h:∀ i,i<pl.length->isFull pl i=true):empty pl=none:=by
 rw[empty,lE9];intro p hp;obtain⟨i,hi,rfl⟩:=mW9 hp;have:=h i hi;simpa[isFull,hi] using this
theorem jy0 {k:Nat}(hk:k<pl.length)(h:∀ i,i<k->isFull pl i=true)(hn:isFull pl k=false):empty pl=some k:=by
 rw[empty,lg9];refine⟨hk,by simpa[isFull,hk] using hn,fun j hj=>?_⟩;have:=h j hj;simpa[isFull,show j<pl.length by omega] using this
theorem eU0 (h:(bo0 pl.length pl).map (·.1)=List.range (bo0 pl.length pl).length) :
  empty pl=if (bo0 pl.length pl).length=pl.length then none else some (bo0 pl.length pl).length:=by
 rw[jw0 _ _ (nR _)] at h;have hle:=dN0 pl.length pl;generalize (bo0 pl.length pl).length=m at *
 have mem:∀ i,i<pl.length->(isFull pl i=true↔i<m):=fun i hi=>by
  have h1:i ∈ lu0 pl.length pl↔i<m:=by rw[h];simp
  rw[<- h1,lu0,mb9];simp[hi]
 split
 ·subst m;exact py0 fun i hi=>(mem i hi).2 hi
 ·exact jy0 oM (fun i hi=>(mem i oM).2 hi) (by have:=mem m oM;simpa using this)
theorem jL0 {pre:List (Nat × Pl)}{x:Nat × Pl}(hp:pre++[x] <+: bo0 pl.length pl)(hpre:pre.map (·.1)=List.range pre.length)(hx:x.1≠pre.length) :
  empty pl=some pre.length/\pre.length<pl.length:=by
 obtain⟨rest,hrest⟩:=hp;have h:List.range pre.length++(x.1 :: rest.map (·.1))=lu0 pl.length pl:=by
  rw[<- jw0 _ _ (nR _),<- hrest];simp[hpre]
 have hs:(lu0 pl.length pl).Pairwise (· < ·):=List.Pairwise.filter _ List.pairwise_lt_range;rw[<- h,List.pairwise_append] at hs;obtain⟨-,h2,h3⟩:=hs;rw[na9] at h2;have hge:pre.length<=x.1:=by
  rcases lV9 x.1 pre.length with h'|h'
  ·have:=h3 x.1 (by simpa using h') x.1 sP;omega
  ·exact h'
 have hmem:∀ i,i ∈ List.range pre.length++(x.1 :: rest.map (·.1))↔i<pl.length/\isFull pl i=true:=fun i=>by rw[h,lu0];simp
 have hxl:x.1<pl.length:=((hmem x.1).1 sP).1;refine⟨jy0 oM (fun i hi=>((hmem i).1 (by simp;exact .inl hi)).2) ?_,oM⟩;cases hf:isFull pl pre.length with
 | false=>rfl
 | true =>
  have:=(hmem pre.length).2 ⟨oM,hf⟩;simp at this;rcases this with h'|⟨a,h'⟩
  ·omega
  ·have:=h2.1 pre.length (by simp;exact⟨a,h'⟩);omega
def spin:Nat->List Pl->Nat->List Pl × Nat
 | 0,pl,h=>(pl,h)
 | f+1,pl,h=>match pl[h]? with
  | some p=>if p.marked then spin f (pl.set h { p with marked:=false }) ((h+1) % pl.length) else (pl,h)
  | none=>(pl,h)
structure Put where
 pl:List Pl
 hand:Nat
 gone:Option Pl
def iN0 (pl:List Pl)(hand:Nat)(key:Int)(v:Pg):Put:=
 match find pl key with
 | some i=>⟨pl.set i ⟨key,v,true,true⟩,hand,none⟩
 | none=>match empty pl with
  | some i=>⟨pl.set i ⟨key,v,true,true⟩,hand,none⟩
  | none=>let s:=spin pl.length pl hand
   ⟨s.1.set s.2 ⟨key,v,true,true⟩,(s.2+1) % pl.length,s.1[s.2]?⟩
end
section
open Go.RowKit
variable {pl:List Pl}{k:Int}{bc bm bp h hand i:Nat}{tc tp:TypeId}{w:World}
theorem eT0 (hn:Nd pl)(k:Int)(i:Nat):find pl k=some i↔∃ p,pl[i]?=some p/\p.full=true/\p.key=k:=by
 constructor
 ·exact aH0
 ·rintro⟨p,hp,hf,hk⟩;cases h:find pl k with
  | none =>
   rw[find,lE9] at h;have:=h p (gM hp);simp[hf,hk] at this
  | some j =>
   obtain⟨q,hq,hqf,hqk⟩:=aH0 h;rw[hn i j p q hp hq hf hqf (by rw[hk,hqk])]
theorem find_eq (hn:Nd pl){x:Option Nat}(h:∀ i,(∃ p,pl[i]?=some p/\p.full=true/\p.key=k)↔x=some i):find pl k=x:=by
 apply Option.ext;intro i;rw[eT0 hn,h]
variable {p:Pl}
theorem bI0 (hp:pl[i]?=some p)(q:Pl)(j:Nat):(pl.set i q)[j]?=if i=j then some q else pl[j]?:=by
 rw[lU9];split
 ·rename_i h;subst h;simp[(gI.1 hp).1]
 ·rfl
theorem de0 (h:find pl k=none)(hp:pl[i]?=some p)(hf:p.full=true):p.key≠k:=by
 rw[find,lE9] at h;have:=h p (gM hp);intro e;simp[hf,e] at this
theorem jm0 (hn:Nd pl)(hp:pl[i]?=some p)(q:Pl)(h:q.full=true->(p.full=true/\q.key=p.key)\/find pl q.key=none):Nd (pl.set i q):=by
 intro a b x y hx hy hxf hyf hk;rw[bI0 hp] at hx hy;split at hx <;> split at hy
 ·omega
 ·rename_i h1 h2;cases hx;rcases h hxf with⟨h3,h4⟩|h3
  ·subst h1;exact hn _ _ p y hp hy h3 hyf (by rw[<- hk,h4])
  ·exact absurd hk.symm (de0 h3 hy hyf)
 ·rename_i h1 h2;cases hy;rcases h hyf with⟨h3,h4⟩|h3
  ·subst h2;exact hn _ _ x p hx hp hxf h3 (by rw[hk,h4])
  ·exact absurd hk (de0 h3 hx hxf)
 ·exact hn a b x y hx hy hxf hyf hk
theorem cX0 (hn:Nd pl)(hp:pl[i]?=some p)(q:Pl)(h:q.full=true->(p.full=true/\q.key=p.key)\/find pl q.key=none)(k:Int) :
  find (pl.set i q) k=if q.full=true/\q.key=k then some i else if p.full=true/\p.key=k then none else find pl k:=by
 refine find_eq (jm0 hn hp q h) fun j=>?_
 constructor
 ·rintro⟨x,hx,hf,hk⟩;rw[bI0 hp] at hx;split at hx
  ·rename_i e;subst e;cases hx;rw[if_pos ⟨hf,hk⟩]
  ·rename_i e;have h1:¬ (q.full=true/\q.key=k):=by
    rintro⟨a,b⟩;rcases h a with⟨c,d⟩|c
    ·exact e (hn _ _ p x hp hx c hf (by rw[<- d,b,hk]))
    ·exact de0 c hx hf (by rw[hk,b])
   have h2:¬ (p.full=true/\p.key=k):=fun⟨a,b⟩=>e (hn _ _ p x hp hx a hf (by rw[b,hk]))
   rw[if_neg h1,if_neg h2,eT0 hn];exact⟨x,hx,hf,hk⟩
 ·intro hj;split at hj
  ·rename_i e;cases hj;exact⟨q,by rw[bI0 hp,if_pos rfl],e.1,e.2⟩
  ·rename_i e;split at hj
   ·cases hj
   ·rename_i e2;obtain⟨x,hx,hf,hk⟩:=aH0 hj;refine⟨x,?_,hf,hk⟩;rw[bI0 hp,if_neg]
    ·exact hx
    ·rintro rfl;rw[hp] at hx;cases hx;exact e2 ⟨hf,hk⟩
theorem count_set (hp:pl[i]?=some p)(q:Pl) :
  (pl.set i q).countP (·.full)=pl.countP (·.full)-(if p.full=true then 1 else 0)+if q.full=true then 1 else 0:=by
 obtain⟨hi,rfl⟩:=gI.1 hp;rw[List.countP_set hi]
theorem kF0 (hp:pl[i]?=some p)(hf:p.full=true):0<pl.countP (·.full):=
 List.countP_pos_iff.2 ⟨p,gM hp,hf⟩
section
variable {tc tp:TypeId}{ok:Pg->Prop}{w w':World}{bc bp bm hand:Nat}{pl:List Pl}
theorem At.fr {S:Nat->Prop}(h:At tc tp ok w bc bp bm pl hand)(hf:Fr S w w')(h1:¬ S bc)(h2:¬ S bp)(h3:¬ S bm):At tc tp ok w' bc bp bm pl hand:=by
 obtain⟨l,ck,hm,r⟩:=h.m;exact⟨hf.heap h.c h1,hf.heap h.p h2,⟨l,ck,hf.heap hm h3,r⟩,h.room,h.hand,h.vs,h.nd⟩
theorem At.ne (h:At tc tp ok w bc bp bm pl hand):bc≠bp/\bc≠bm/\bp≠bm:=by
 obtain⟨l,ck,hm,r⟩:=h.m;have hc:=h.c;have hp:=h.p;have hr:=h.room;refine⟨?_,?_,?_⟩
 ·rintro rfl;rw[hc] at hp;cases hp':pl with
  | nil=>simp[hp'] at hr
  | cons x r =>
   rw[hp'] at hp;simp[cellsOf,Pl.cells] at hp
 ·rintro rfl;rw[hc] at hm;cases hm
 ·rintro rfl;rw[hp] at hm;cases hm
theorem At.set (h:At tc tp ok w bc bp bm pl hand){i:Nat}{p:Pl}(hp:pl[i]?=some p)(j:Nat)(hj:j<6)(v:Value)(q:Pl)(hq:p.cells.set j v=q.cells)
  (hk:q.key=p.key) (hf:q.full=p.full) (hv:ok q.v):At tc tp ok (w.setCell ⟨bp,i*6+j,none⟩ v) bc bp bm (pl.set i q) hand:=by
 obtain⟨n1,n2,n3⟩:=h.ne;obtain⟨l,ck,hm,hnd,hl,hc⟩:=h.m;have hs:q.full=true->(p.full=true/\q.key=p.key)\/find pl q.key=none:=fun a=>.inl ⟨by rw[<- hf,a],hk⟩
 refine⟨?_,?_,⟨l,ck,?_,hnd,fun k=>?_,?_⟩,by simpa using h.room,by simpa using h.hand,fun x hx=>?_,jm0 h.nd hp q hs⟩
 ·rw[ao0 _ _ _ _ (by simpa using n1.symm),h.c];simp
 ·rw[hsc _ _ _ _ h.p,cm0 hp j hj v q hq]
 ·rw[ao0 _ _ _ _ (by simpa using n3),hm]
 ·rw[hl,cX0 h.nd hp q hs,hk,hf];split
  ·rename_i e;rw[(eT0 h.nd k i).2 ⟨p,hp,e.1,e.2⟩]
  ·rfl
 ·rw[hc,count_set hp,hf];split
  ·rename_i e;have:=kF0 hp e;omega
  ·omega
 ·rcases mm9 hx with h'|rfl
  ·exact h.vs x h'
  ·exact hv
end
def marks (pl:List Pl):Nat:=pl.countP (·.marked)
theorem uk0 (pl:List Pl):marks pl<=pl.length:=List.countP_le_length
theorem lh0 (hp:pl[i]?=some p)(hf:p.marked=true):0<marks pl:=
 List.countP_pos_iff.2 ⟨p,gM hp,hf⟩
theorem rZ0 (hp:pl[i]?=some p)(hm:p.marked=true):marks (pl.set i { p with marked:=false })+1=marks pl:=by
 have:=lh0 hp hm;obtain⟨hi,rfl⟩:=gI.1 hp;rw[marks,List.countP_set hi];rw[marks] at this;simp[marks,hm];omega
theorem sM0 {k:Nat}(hp:pl[h]?=some p)(hm:p.marked=true):spin (k+1) pl h=spin k (pl.set h { p with marked:=false }) ((h+1) % pl.length):=by
 simp[spin,hp,hm]
theorem sL0 {k:Nat}(hp:pl[h]?=some p)(hm:p.marked=false):spin k pl h=(pl,h):=by
 cases k <;> simp[spin,hp,hm]
variable {ok:Pg->Prop}
theorem At.turn (h:At tc tp ok w bc bp bm pl hand){n:Nat}(hn:n<pl.length) :
  At tc tp ok (w.setCell ⟨bc,2,none⟩ (.int .i64 n)) bc bp bm pl n:=by
 obtain⟨n1,n2,n3⟩:=h.ne;obtain⟨l,ck,hm,r⟩:=h.m;refine⟨?_,?_,⟨l,ck,?_,r⟩,h.room,hn,h.vs,h.nd⟩
 ·rw[hsc _ _ _ _ h.c];simp
 ·rw[ao0 _ _ _ _ (by simpa using n1),h.p]
 ·rw[ao0 _ _ _ _ (by simpa using n2),hm]
theorem At.drewN (h:At tc tp ok w bc bp bm pl hand)(n:Nat):At tc tp ok (w.drewN n) bc bp bm pl hand:=⟨h.c,h.p,h.m,h.room,h.hand,h.vs,h.nd⟩
section
variable {tc tp:TypeId}{ok:Pg->Prop}{w w':World}{bc bp bm hand:Nat}{pl:List Pl}
variable {W:World}{i:Nat}{p:Pl}
theorem fe0 (h:W.heap[bp]?=some (.cells (cellsOf pl) tp))(hp:pl[i]?=some p)(q:Pl) :
  ((((((W.setCell ⟨bp,i*6,none⟩ (.int .i64 q.key)).setCell ⟨bp,i*6+1,none⟩ (.int .i64 q.v.stamp)).setCell ⟨bp,i*6+2,none⟩ q.v.load).setCell ⟨bp,i*6+3,none⟩ (.bool q.v.dirty)).setCell ⟨bp,i*6+4,none⟩ (.bool q.full)).setCell ⟨bp,i*6+5,none⟩ (.bool q.marked)).heap[bp]? =
   some (.cells (cellsOf (pl.set i q)) tp):=by
 rw[hsc _ _ _ _ (hsc _ _ _ _ (hsc _ _ _ _ (hsc _ _ _ _ (hsc _ _ _ _ (hsc _ _ _ _ h)))))];have at_:∀ r:Pl,(pl.set i r)[i]?=some r:=fun r=>by rw[bI0 hp,if_pos rfl]
 have s0:=cm0 hp 0 oM (.int .i64 q.key) { p with key:=q.key } rfl;have s1:=cm0 (at_ { p with key:=q.key }) 1 oM (.int .i64 q.v.stamp) ⟨q.key,{ p.v with stamp:=q.v.stamp },p.full,p.marked⟩ rfl;have s2:=cm0 (at_ ⟨q.key,{ p.v with stamp:=q.v.stamp },p.full,p.marked⟩) 2 oM q.v.load ⟨q.key,⟨q.v.stamp,q.v.la,q.v.ll,q.v.lc,p.v.dirty⟩,p.full,p.marked⟩ rfl;have s3:=cm0 (at_ ⟨q.key,⟨q.v.stamp,q.v.la,q.v.ll,q.v.lc,p.v.dirty⟩,p.full,p.marked⟩) 3 oM (.bool q.v.dirty) ⟨q.key,q.v,p.full,p.marked⟩ rfl;have s4:=cm0 (at_ ⟨q.key,q.v,p.full,p.marked⟩) 4 oM (.bool q.full) ⟨q.key,q.v,q.full,p.marked⟩ rfl;have s5:=cm0 (at_ ⟨q.key,q.v,q.full,p.marked⟩) 5 oM (.bool q.marked) q rfl;simp only[List.set_set,Nat.add_zero] at s0 s1 s2 s3 s4 s5;rw[s0,s1,s2,s3,s4,s5]
theorem At.place (h:At tc tp ok w bc bp bm pl hand)(hp:pl[i]?=some p)(q:Pl)(hq:q.full=true->(p.full=true/\q.key=p.key)\/find pl q.key=none)(hv:ok q.v){hand':Nat}(hh:hand'<pl.length)
  (hc:W.heap[bc]?=some (.cells #[.slice (some ⟨bp,0,none⟩) pl.length pl.length,.map (some bm),.int .i64 hand'] tc)) (hb:W.heap[bp]?=some (.cells (cellsOf (pl.set i q)) tp)) {l':List Ent} {ck':Nat} (hm:W.heap[bm]?=some (.map (ents l') ck')) (hnd:(keys l').Nodup)
  (hl:∀ k,look l' k=if q.full=true/\q.key=k then some (.int .i64 i) else if p.full=true/\p.key=k then none else (find pl k).map fun i=>.int .i64 i)
  (hn:l'.length=pl.countP (·.full)-(if p.full=true then 1 else 0)+if q.full=true then 1 else 0):At tc tp ok W bc bp bm (pl.set i q) hand':=by
 refine⟨by simpa using hc,hb,⟨l',ck',hm,hnd,fun k=>?_,?_⟩,by simpa using h.room,by simpa using hh,fun x hx=>?_,jm0 h.nd hp q hq⟩
 ·rw[hl,cX0 h.nd hp q hq];split
  ·rfl
  ·split <;> rfl
 ·rw[hn,count_set hp]
 ·rcases mm9 hx with h'|rfl
  ·exact h.vs x h'
  ·exact hv
end
end
section
section
variable {tc tp:TypeId}{ok:Pg->Prop}{w w':World}{bc bp bm hand:Nat}{pl:List Pl}
theorem At.c0 (h:At tc tp ok w bc bp bm pl hand):w.cell? ⟨bc,0,none⟩=some (.slice (some ⟨bp,0,none⟩) pl.length pl.length):=by simpa using coh h.c 0
theorem At.c1 (h:At tc tp ok w bc bp bm pl hand):w.cell? ⟨bc,1,none⟩=some (.map (some bm)):=by simpa using coh h.c 1
variable {i:Nat}{p:Pl}
theorem At.k0 (h:At tc tp ok w bc bp bm pl hand)(hp:pl[i]?=some p):w.cell? ⟨bp,i*6,none⟩=some (.int .i64 p.key):=by
 have:=coh h.p (i*6+0);rw[bd0 hp 0 oM] at this;simpa[Pl.cells] using this
theorem At.k1 (h:At tc tp ok w bc bp bm pl hand)(hp:pl[i]?=some p):w.cell? ⟨bp,i*6+1,none⟩=some (.int .i64 p.v.stamp):=by
 have:=coh h.p (i*6+1);rw[bd0 hp 1 oM] at this;simpa[Pl.cells] using this
theorem At.k2 (h:At tc tp ok w bc bp bm pl hand)(hp:pl[i]?=some p):w.cell? ⟨bp,i*6+2,none⟩=some (.slice p.v.la p.v.ll p.v.lc):=by
 have:=coh h.p (i*6+2);rw[bd0 hp 2 oM] at this;simpa[Pl.cells] using this
theorem At.k3 (h:At tc tp ok w bc bp bm pl hand)(hp:pl[i]?=some p):w.cell? ⟨bp,i*6+3,none⟩=some (.bool p.v.dirty):=by
 have:=coh h.p (i*6+3);rw[bd0 hp 3 oM] at this;simpa[Pl.cells] using this
theorem At.k4 (h:At tc tp ok w bc bp bm pl hand)(hp:pl[i]?=some p):w.cell? ⟨bp,i*6+4,none⟩=some (.bool p.full):=by
 have:=coh h.p (i*6+4);rw[bd0 hp 4 oM] at this;simpa[Pl.cells] using this
theorem At.k5 (h:At tc tp ok w bc bp bm pl hand)(hp:pl[i]?=some p):w.cell? ⟨bp,i*6+5,none⟩=some (.bool p.marked):=by
 have:=coh h.p (i*6+5);rw[bd0 hp 5 oM] at this;simpa[Pl.cells] using this
theorem At.zp (h:At tc tp ok w bc bp bm pl hand)(o:Nat):w.frozen? ⟨bp,o,none⟩=false:=foh h.p o
end
def Pl.cS0 (p:Pl):Pl:={ p with marked:=false }
theorem cH0 (f:Nat):∀ (pl:List Pl) (h:Nat),(spin f pl h).1.map Pl.cS0=pl.map Pl.cS0:=by
 induction f with
 | zero=>intro pl h;rfl
 | succ f ih =>
  intro pl h;unfold spin;split
  ·rename_i p hp;split
   ·rw[ih,List.map_set];obtain⟨hi,rfl⟩:=gI.1 hp;apply ms9;intro j;rw[lU9];split
    ·rename_i e;subst e;simp[hi,Pl.cS0]
    ·rfl
   ·rfl
  ·rfl
theorem kb0 (f:Nat)(pl:List Pl)(h:Nat):(spin f pl h).1.length=pl.length:=by
 have:=congrArg List.length (cH0 f pl h);simpa using this
theorem np0 (f:Nat):∀ (pl:List Pl) (h:Nat),h<pl.length->(spin f pl h).2<pl.length:=by
 induction f with
 | zero=>intro pl h hh;exact hh
 | succ f ih =>
  intro pl h hh;unfold spin;split
  ·rename_i p hp;split
   ·have:=ih (pl.set h { p with marked:=false }) ((h+1) % pl.length) (by rw[lx9];exact mD9 _ oM);simpa using this
   ·exact hh
  ·exact hh
variable {pl:List Pl}
theorem od0 {f:Nat}{h:Nat}(j:Nat):((spin f pl h).1[j]?).map Pl.cS0=(pl[j]?).map Pl.cS0:=by
 rw[<- gP,<- gP,cH0]
theorem eq0 (pl:List Pl)(k:Int):find pl k=find (pl.map Pl.cS0) k:=by
 simp only[find,List.findIdx?_map];rfl
theorem iU0 (f:Nat)(pl:List Pl)(h:Nat)(k:Int):find (spin f pl h).1 k=find pl k:=by
 rw[eq0,cH0,<- eq0]
theorem fL0 (pl:List Pl):empty pl=empty (pl.map Pl.cS0):=by
 simp only[empty,List.findIdx?_map];rfl
theorem fQ0 (f:Nat)(pl:List Pl)(h:Nat):empty (spin f pl h).1=empty pl:=by
 rw[fL0,cH0,<- fL0]
theorem dx0 (h:empty pl=none){i:Nat}{p:Pl}(hp:pl[i]?=some p):p.full=true:=by
 rw[empty,lE9] at h;have:=h p (gM hp);simpa using this
theorem ig0 {hand:Nat}{key:Int}{v:Pg}(hf:find pl key=none)(he:empty pl=none) :
  iN0 pl hand key v=⟨(spin pl.length pl hand).1.set (spin pl.length pl hand).2 ⟨key,v,true,true⟩,((spin pl.length pl hand).2+1) % pl.length,(spin pl.length pl hand).1[(spin pl.length pl hand).2]?⟩:=by
 simp[iN0,hf,he]
end
section
open Go.RowKit
theorem oJ0 (n:Nat):madeCells #[.int .i64 0,.int .i64 0,.slice none 0 0,.bool false,.bool false,.bool false] (n*6)=cellsOf (List.replicate n (Pl.none Pg.zero)):=by
 apply Array.ext
 ·rw[size_madeCells,pI0];simp
 ·intro i h1 h2;have hi:i<n*6:=by simpa[size_madeCells] using h1
  have e:(cellsOf (List.replicate n (Pl.none Pg.zero)))[i]?=(Pl.none Pg.zero).cells[i % 6]?:=by
   have hd:i=i/6*6+i % 6:=oM
   have hq:(List.replicate n (Pl.none Pg.zero))[i/6]?=some (Pl.none Pg.zero):=by rw[lF9,if_pos oM]
   have:=bd0 hq (i % 6) oM;rw[<- hd] at this;exact this
  rw[mU9 h2] at e;have h4:i % 6<6:=oM
  have e2:(Pl.none Pg.zero).cells[i % 6]?=some ((Pl.none Pg.zero).cells[i % 6]'(by simp[Pl.cells];omega)):=gE _;rw[e2] at e;rw[Option.some.inj e];simp[madeCells,Pl.cells,Pl.none,Pg.zero,getElem!_def];generalize i % 6=j at *
  match j,h4 with
  | 0,_=>rfl
  | 1,_=>rfl
  | 2,_=>rfl
  | 3,_=>rfl
  | 4,_=>rfl
  | 5,_=>rfl
theorem At.fresh {tc tp:TypeId}{ok:Pg->Prop}{w:World}{n:Nat}(hz:ok Pg.zero)(h1:1<=n)(h2:n<=4096) :
  At tc tp ok (((w.alloc (.cells (madeCells #[.int .i64 0,.int .i64 0,.slice none 0 0,.bool false,.bool false,.bool false] (n*6)) tp)).alloc (.map #[] 0)).alloc (.cells #[.slice (some ⟨w.heap.size,0,none⟩) n n,.map (some (w.heap.size+1)),.int .i64 0] tc))
   (w.heap.size+2) w.heap.size (w.heap.size+1) (List.replicate n (Pl.none Pg.zero)) 0:=by
 refine⟨?_,?_,⟨[],0,?_,by simp[keys],fun k=>?_,?_⟩,by simp;omega,by simp;omega,fun p hp=>?_,?_⟩
 ·have:=han ((w.alloc (.cells (madeCells #[.int .i64 0,.int .i64 0,.slice none 0 0,.bool false,.bool false,.bool false] (n*6)) tp)).alloc (.map #[] 0)) (.cells #[.slice (some ⟨w.heap.size,0,none⟩) n n,.map (some (w.heap.size+1)),.int .i64 0] tc);simp only[World.size_alloc] at this;simpa using this
 ·rw[am0 _ _ _ sO,am0 _ _ _ sP,han,oJ0]
 ·have:=han (w.alloc (.cells (madeCells #[.int .i64 0,.int .i64 0,.slice none 0 0,.bool false,.bool false,.bool false] (n*6)) tp)) (.map #[] 0);simp only[World.size_alloc] at this;rw[am0 _ _ _ sP,this];rfl
 ·have:find (List.replicate n (Pl.none Pg.zero)) k=none:=by
   rw[find,lE9];intro p hp;rw[mh9 hp];rfl
  rw[this];rfl
 ·simp[List.countP_replicate,Pl.none]
 ·rw[mh9 hp];exact hz
 ·intro i j p q hp _ hf;rw[mh9 (gM hp)] at hf;cases hf
end
end Go.Sg.Clk
namespace Go.Proofs.YtgdhaaokolfdoaaGreatDoor
section
theorem Tryz.zero3 (w:World):(zeroValue 3).run Tryz.prog w = .ok (.int .i64 0) w:=by kernel_rfl
namespace CP
open Go.RowKit Go.Sg Go.Sg.Clk Go.Shelf
attribute [local go_sem] Oper.semAt_some
def isP (_:Pg):Prop:=True
abbrev AtP:=At 260 264 isP
variable {w:World}{bc bm bp hand:Nat}{pl:List Pl}
theorem fh0 (h:AtP w bc bp bm pl hand)(key:Int) :
  Calls Tryz.prog 154 #[.pointer (some ⟨bc,0,none⟩),.int .i64 key] w fun e w'=>e = .returned (.pointer ((find pl key).map fun i=>⟨bp,i*6,none⟩))/\w=w':=by
 obtain⟨l,ck,hm,-,hlook,-⟩:=h.m;have h0:=coh h.c 0;have h1:=coh h.c 1;simp at h0 h1;have hl:=bF0 (P:=Tryz.prog) (T:=258) true Tryz.underlying258 Tryz.underlying3 Tryz.zero3 hm key;rw[hlook] at hl;have hr:=h.room;cases hf:find pl key with
 | none =>
  rw[hf] at hl;simp at hl;clear hf hlook hm h;go_enter Tryz.func154,Tryz.ntmps154;go_wp2
  go_ret;exact⟨rfl,rfl⟩
 | some i =>
  rw[hf] at hl;simp at hl;have hi:i<pl.length:=by
   obtain⟨p,hp,-⟩:=aH0 hf;exact (gI.1 hp).1
  clear hf hlook hm h;go_enter Tryz.func154,Tryz.ntmps154;go_wp2
  go_ret;exact⟨rfl,rfl⟩
def dc0 (pl:List Pl)(key:Int):Pg:=((find pl key).bind fun i=>(pl[i]?).map (·.v)).getD Pg.zero
theorem iw0 (h:AtP w bc bp bm pl hand)(key:Int) :
  Calls Tryz.prog 155 #[.pointer (some ⟨bc,0,none⟩),.int .i64 key] w fun e w'=>e = .returned (.tuple #[(dc0 pl key).val,.bool (find pl key).isSome])/\Fq w w':=by
 have F:=hid (fun W (FW:Fq w W)=>fh0 (h.fr FW id id id) key);cases hf:find pl key with
 | none =>
  rw[hf] at F;have e2:dc0 pl key=Pg.zero:=by simp[dc0,hf]
  have E2:=hid e2;clear hf h e2;go_enter Tryz.func155,Tryz.ntmps155;go_wp2_with (go_at_call 154;refine (F.out _ ((Fr.refl _ _).alloc _)).mono ?_;rintro e w' ⟨rfl,rfl⟩)
  try simp only[Exit.inBlock,Exit.then]
  refine bodyPost_ret (v:=.tuple #[Pg.zero.val,.bool false]) (by simp[results,go_sem,Pg.zero, *]) rfl ⟨by rw[E2.out];rfl,((Fr.refl _ _).alloc _).alloc _⟩
 | some i =>
  rw[hf] at F;obtain⟨p,hp,-⟩:=aH0 hf;have c1:=h.k1 hp;have c2:=h.k2 hp;have c3:=h.k3 hp;have e2:dc0 pl key=p.v:=by simp[dc0,hf,hp]
  have E2:=hid e2;have hbp:=loh h.p;clear hf h e2 hp;go_enter Tryz.func155,Tryz.ntmps155;go_wp2_with (go_at_call 154;refine (F.out _ ((Fr.refl _ _).alloc _)).mono ?_;rintro e w' ⟨rfl,rfl⟩)
  refine bodyPost_ret (v:=.tuple #[p.v.val,.bool true]) sR rfl ⟨by rw[E2.out];rfl,?_⟩;first|exact (Fr.refl _ _).alloc _|(refine Fr.an0 (Fr.an0 (Fr.an0 ((Fr.refl _ _).alloc _) ?_ _) ?_ _) ?_ _ <;> omega)
theorem nL0 (a:Option Addr)(w:World) :
  Calls Tryz.prog 228 #[.pointer a] w fun e w'=>e = .returned (.func (.func 268) #[] #[.pointer (some ⟨w.heap.size,0,none⟩)])/\w.alloc (.cells #[.pointer a] 154)=w':=by
 go_enter Tryz.func228,Tryz.ntmps228;go_wp2
 go_ret;exact⟨rfl,rfl⟩
abbrev AG0 (x:Nat × Pl):Array Value:=#[.int .i64 x.1,.agg #[.int .i64 x.2.key,.int .i64 x.2.v.stamp,.slice x.2.v.la x.2.v.ll x.2.v.lc,.bool x.2.v.dirty,.bool x.2.full,.bool x.2.marked]]
theorem gB0 {bx:Nat}(h:AtP w bc bp bm pl hand)(hx:w.cell? ⟨bx,0,none⟩=some (.pointer (some ⟨bc,0,none⟩))) :
  SeqStopsK Fence.wide 9 Tryz.prog 268 #[.pointer (some ⟨bx,0,none⟩)] AG0 (fun W W'=>W'.heap[bp]?=W.heap[bp]?) (fun xs=>xs=bo0 pl.length pl) (fun pre=>pre <+: bo0 pl.length pl) pl.length w:=fun l J Jx W hW hJ _ hY h0=>by
 have hr:=h.room;have hbp:=loh h.p;have hx':=(hW.cell (p:=⟨bx,0,none⟩) (World.block_lt_of_cell? _ _ hx)).trans hx;have hc0:=(hW.cell (p:=⟨bc,0,none⟩) (loh h.c)).trans (coh h.c 0);simp at hc0;have hp:=(hW.block bp hbp).trans h.p;clear hx hW;refine callsIn_of_wp Tryz.func268 rfl trivial ?_ rfl;simp only[Tryz.ntmps268,zA,lC,lz9,Nat.reduceAdd,Nat.reduceSub,lq9,lr9,ly9,ls9,le9,lo9];gi_wp2
 gi_loopw [10] (fun i wr=>∃ k:Nat,k<=pl.length/\i = .int .i64 k/\J (bo0 k pl) wr/\wr.heap[bp]?=some (.cells (cellsOf pl) 264)) (fun i _=>pl.length-(intOf i).toNat)
 case atStart=>exact⟨0,la9 _,rfl,h0,hp⟩
 case round =>
  obtain⟨k,hk,rfl,hJs,hps⟩:=hrel;by_cases hlt:k<pl.length
  ·obtain⟨⟨key,v,ful,mk⟩,hp⟩:∃ p,pl[k]?=some p:=⟨_,gE hlt⟩
   obtain⟨sta,la,ll,lc,di⟩:=v;have c0:=coh hps (k*6+0);have c1:=coh hps (k*6+1);have c2:=coh hps (k*6+2);have c3:=coh hps (k*6+3);have c4:=coh hps (k*6+4);have c5:=coh hps (k*6+5);rw[bd0 hp _ oM] at c0 c1 c2 c3 c4 c5;simp[Pl.cells] at c0 c1 c2 c3 c4 c5;have hs:=dy0 k pl _ hp;have HS:=hid hs;have HP:=hid hps;have hbw:=loh hps;clear hs hps hp;cases ful with
   | false =>
    gi_wp2
    go_roundw;case rel=>exact⟨k+1,oM,by simp,by rw[HS.out];exact hJ _ _ _ none hJs (World.grownBy_alloc _ _ _) (fun r e=>by cases e),(am0 _ _ _ hbw).trans HP.out⟩
    case measure=>simp[intOf];omega
   | true =>
    obtain⟨fn,tmps,assign,body,hy,hR⟩:=hY _ (k,⟨key,⟨sta,la,ll,lc,di⟩,true,mk⟩) (wr.alloc (.cells #[.int .i64 key,.int .i64 sta,.slice la ll lc,.bool di,.bool true,.bool mk] 264)) (hJ _ _ _ none hJs (World.grownBy_alloc _ _ _) (fun r e=>by cases e)) (mN9 (dN0 _ _) hlt);dsimp only[AG0] at hy;gi_wp2
    refine hR.mono ?_;rintro e W3 (⟨rfl,hJ3,hk3⟩|⟨rfl,hJx3⟩)
    ·gi_wp2
     go_roundw;case rel=>exact⟨k+1,oM,by simp,by rw[HS.out];exact hJ3,(hk3.trans (am0 _ _ _ hbw)).trans HP.out⟩
     case measure=>simp[intOf];omega
    ·gi_wp2
     refine bodyPost_ret (results_none rfl _ _ _) rfl ?_;exact⟨⟨_,rfl⟩,.inr ⟨_,(by have:=jH0 pl (k+1) pl.length oM (nR _);rw[HS.out] at this;exact this),hJx3⟩⟩
  ·obtain rfl:k=pl.length:=by omega
   gi_wp2
   go_end0
   exact⟨⟨_,rfl⟩,.inl ⟨_,rfl,hJs⟩⟩
theorem nQ0 (h:AtP w bc bp bm pl hand) :
  Calls Tryz.prog 171 #[.pointer (some ⟨bc,0,none⟩)] w fun e w'=>e = .returned (.int .i64 (kA0 pl))/\Fq w w':=by
 refine (callsIn_wide (n:=10)).1 ?_;have hr:=h.room;have F:=hid (nL0 (some ⟨bc,0,none⟩) (w.alloc (.cells #[.int .i64 0] 3)));refine callsIn_of_wp_marks Tryz.func171 rfl trivial ?_ rfl;simp only[Tryz.ntmps171,zA,lC,lz9,Nat.reduceAdd,Nat.reduceSub,lq9,lr9,ly9,ls9,le9,lo9];gi_wp2_with (gi_at_call 228;refine (callsIn_wide.2 F.out).mono ?_;rintro e w' ⟨rfl,rfl⟩)
 obtain⟨W0,hW0⟩:=eX ((w.alloc (.cells #[.int .i64 0] 3)).alloc (.cells #[.pointer (some ⟨bc,0,none⟩)] 154))
 have hF0:Fq w W0:=by rw[<- hW0];exact ((Fr.refl _ w).alloc _).alloc _
 have hsz:W0.heap.size=w.heap.size+1+1:=by rw[<- hW0];simp
 have hnx:W0.heap[w.heap.size]?=some (.cells #[.int .i64 0] 3):=by rw[<- hW0];exact (am0 _ _ _ sP).trans (han _ _)
 have hbx:W0.cell? ⟨w.heap.size+1,0,none⟩=some (.pointer (some ⟨bc,0,none⟩)):=by rw[<- hW0];simp[go_sem]
 have h0:AtP W0 bc bp bm pl hand:=h.fr hF0 id id id;have hbp:=loh h0.p;simp only[hW0];refine wpIn_rangeFunc_ownG (F:=Fence.wide) rfl oM (gf:=268) (lb:=#[.pointer (some ⟨w.heap.size+1,0,none⟩)]) rfl trivial (enters_of Tryz.func268 kF rfl)
  (gB0 h0 hbx) (fun h k=>k.trans h) (fun W l o o' hl _ _ _=>hpj _ _ _ _ oM) (Below.refl _ _) (fun _=>rfl)
  (fun pre W=>(W.heap[w.heap.size]?=some (.cells #[.int .i64 pre.length] 3)/\Fq w W)/\pre.map (·.1)=List.range pre.length)
  (fun c pre W=>(∃ k:Nat,(W.heap[w.heap.size]?=some (.cells #[.int .i64 k] 3)/\Fq w W)/\∃ pre0 x,pre=pre0++[x]/\pre0.length=k/\pre0.map (·.1)=List.range k/\x.1≠k)/\c = .exit 0)
  (aZ0 (aZ0 (aN0 _ _ _ (fun _=>.inl rfl)) (dU0 oM)) (aJ0 _ _))
  (fun c=>aZ0 (eL0 fun k=>aZ0 (aZ0 (aN0 _ _ _ (fun _=>.inl rfl)) (dU0 oM)) (aJ0 _ _)) (aJ0 _ _))
  ⟨⟨hnx,hF0⟩,rfl⟩
  (fun x=>{ tmps:=#[.pointer (some ⟨bc,0,none⟩),undef,.int .i64 0,.pointer (some ⟨w.heap.size,0,none⟩),.int .i64 x.1,.pointer (some ⟨bc,0,none⟩),.func (.func 268) #[] #[.pointer (some ⟨w.heap.size+1,0,none⟩)],.int .i64 x.1,.agg #[.int .i64 x.2.key,.int .i64 x.2.v.stamp,.slice x.2.v.la x.2.v.ll x.2.v.lc,.bool x.2.v.dirty,.bool x.2.full,.bool x.2.marked],undef,undef,undef,undef,undef,undef,undef,undef,undef,undef,undef,undef,undef],defers:=[] }) ?assign ?body ?done ?stop
 case assign =>
  intro l x W K hK;gi_wp2
  exact hK
 case body =>
  rintro l pre x W ⟨⟨hn,hFr⟩,hpre⟩ hlen;have c0:=coh hn 0;have z0:=foh hn 0;simp at c0;have hw:=loh hn;by_cases hx:x.1=pre.length
  ·have hd:((x.1:Int) == (pre.length:Int))=true:=by simp[hx]
   have hX:=hid hx;have HP:=hid hpre;have HN:=hid hn;clear hx hpre hn;gi_wp2
   refine⟨(KeepsOthers.setCell _ _ _).from _,ao0 _ _ _ _ (by have:=loh h.p;simp;omega),⟨?_,hFr.setCell (fun hh=>absurd hh (mv9 _)) _⟩,?_⟩
   ·rw[hsc _ _ _ _ HN.out];simp
   ·simp[HP.out,hX.out,mO9]
  ·have hd:((x.1:Int) == (pre.length:Int))=false:=by simp;omega
   have hX:=hid hx;have HP:=hid hpre;have HN:=hid hn;clear hx hpre hn;gi_wp2
   exact⟨(KeepsOthers.refl _).from _,⟨_,⟨HN.out,hFr⟩,_,_,rfl,rfl,HP.out,hX.out⟩,rfl⟩
 case done =>
  rintro D ys W hD rfl ⟨⟨hn,hFr⟩,hpre⟩ hK;have c0:=coh hn 0;have z0:=foh hn 0;simp at c0;have e0:=(hFr.cell (p:=⟨bc,0,none⟩) (loh h.c) id).trans (coh h.c 0);simp at e0;have hm:=dN0 pl.length pl;by_cases hx:(bo0 pl.length pl).length=pl.length
  ·have hd:(((bo0 pl.length pl).length:Int) == (pl.length:Int))=true:=by simp[hx]
   have hX:=hid hx;have HP:=hid hpre;have HN:=hid hn;clear hx hpre hn;gi_wp2
   gi_big_quiet_th (fail)
   gi_wp2
   refine bH0 (t:=2) rfl (show (W.drewN nq).heap[D]?=_ from hK) ⟨by rw[gD0 (by rw[eU0 HP.out,if_pos hX.out])];rfl,(hFr.drewN _).putObj (fun hh=>oM) _⟩
  ·have hd:(((bo0 pl.length pl).length:Int) == (pl.length:Int))=false:=by simp;omega
   have hX:=hid hx;have HP:=hid hpre;have HN:=hid hn;clear hx hpre hn;gi_wp2
   gi_big_quiet_th (fail)
   gi_wp2
   refine bH0 (t:=2) rfl (show (W.drewN nq).heap[D]?=_ from hK) ⟨by rw[et0 (by rw[eU0 HP.out,if_neg hX.out])];rfl,(hFr.drewN _).putObj (fun hh=>oM) _⟩
 case stop =>
  rintro D c pre W hD hSp ⟨⟨k,⟨hn,hFr⟩,pre0,x,rfl,rfl,hpre,hne⟩,rfl⟩ hK;have c0:=coh hn 0;have z0:=foh hn 0;simp at c0;have e0:=(hFr.cell (p:=⟨bc,0,none⟩) (loh h.c) id).trans (coh h.c 0);simp at e0;obtain⟨he,hl⟩:=jL0 hSp hpre hne;have hd:((pre0.length:Int) == (pl.length:Int))=false:=by simp;omega
  have HE:=hid he;have HS:=hid hSp;have HP:=hid hpre;have HN:=hid hn;have HX:=hid hne;clear hpre hn he hSp hne;gi_wp2
  gi_big_quiet_th (fail)
  gi_wp2
  refine bH0 (t:=2) rfl (show (W.drewN nq).heap[D]?=_ from hK) ⟨by rw[et0 HE.out];rfl,(hFr.drewN _).putObj (fun hh=>oM) _⟩
def oS0 (pl:List Pl)(hand bc bp bm:Nat)(w:World)(e:Ending)(w':World):Prop:=
 e = .returned (.int .i64 (spin pl.length pl hand).2)/\AtP w' bc bp bm (spin pl.length pl hand).1 (((spin pl.length pl hand).2+1) % pl.length)/\Fr (fun b=>b=bc\/b=bp) w w'
theorem sD0 (h:AtP w bc bp bm pl hand) :
  Calls Tryz.prog 172 #[.pointer (some ⟨bc,0,none⟩)] w (oS0 pl hand bc bp bm w):=by
 go_enter Tryz.func172,Tryz.ntmps172;go_wp2
 go_step3
 go_wp2
 go_step3
 go_wp2
 go_loopg [3] pl.length (fun k _ wr=>∃ (pl':List Pl) (hd:Nat),pl'.length=pl.length/\AtP wr bc bp bm pl' hd/\Fr (fun b=>b=bc\/b=bp) w wr/\spin k pl' hd=spin pl.length pl hand/\marks pl'<=k)
 case atStart=>exact⟨pl,hand,rfl,h,Fr.refl _ _,rfl,uk0 _⟩
 case round =>
  obtain⟨pl',hd,hlen,hA,hF,hs,hk⟩:=hrel;have hr:=hA.room;have hh:=hA.hand;obtain⟨n1,n2,n3⟩:=hA.ne;have e0:=coh hA.c 0;have e2:=coh hA.c 2;have z2:=foh hA.c 2;simp at e0 e2;obtain⟨p,hp⟩:∃ p,pl'[hd]?=some p:=⟨_,gE hh⟩
  have c3:=coh hA.p (hd*6+5);have z3:=foh hA.p (hd*6+5);rw[bd0 hp _ oM] at c3;simp[Pl.cells] at c3;have HA:=hid hA;have HS:=hid hs;have HP:=hid hp;have HL:=hid hlen;have hmod:=mD9 (hd+1) (show 0<pl'.length by omega);clear hA hs hp hlen;have hc1:((hd:Int)+1) % (pl'.length:Int)=(((hd+1) % pl'.length:Nat):Int):=by simp
  have HC:=hid hc1;clear hc1;cases hm:p.marked with
  | true =>
   rw[hm] at c3;have HM:=hid hm;have hpos:=lh0 HP.out hm;have hset:=rZ0 HP.out hm;clear hm;obtain⟨g,rfl⟩:∃ g,gk=g+1:=⟨gk-1,oM⟩
   go_wp2
   go_quiet (fail)
   go_wp2
   go_region
   go_wp2
   go_roundg g
   case measure=>omega
   case rel =>
    rw[HC.out];have hA:=((HA.out.drewN (nq+1)).turn hmod).set HP.out 5 oM (.bool false) { p with marked:=false } rfl rfl rfl (trivial);exact⟨_,_,by simp[HL.out],hA,((hF.drewN _).setCell (fun _=>.inl rfl) _).setCell (fun _=>.inr rfl) _,by rw[<- HS.out,sM0 HP.out HM.out],oM⟩
  | false =>
   rw[hm] at c3;have HM:=hid hm;clear hm;go_wp2
   go_quiet (fail)
   go_wp2
   go_region
   go_wp2
   rw[Exit.noGoto_ret];go_ret;rw[HC.out];have e:=sL0 (k:=gk) HP.out HM.out;rw[HS.out] at e;refine⟨by rw[e];rfl,?_,(hF.drewN _).setCell (fun _=>.inl rfl) _⟩;rw[e,<- HL.out];exact (HA.out.drewN (nq+1)).turn hmod
end CP
end
section
namespace CP
open Go.RowKit Go.Sg Go.Sg.Clk Go.Shelf
variable {w:World}{bc bm bp hand:Nat}{pl:List Pl}
theorem yC0 (h:AtP w bc bp bm pl hand) :
  Calls Tryz.prog 84 #[.pointer (some ⟨bc,0,none⟩)] w fun e w'=>e = .returned (.int .i64 (pl.countP (·.full)))/\w=w':=by
 obtain⟨l,ck,hm,-,-,hn⟩:=h.m;have c1:=h.c1;have hl:=Sg.run_len_map (P:=Tryz.prog) (T:=258) Tryz.underlying258 hm 3 #[258] rfl;rw[hn] at hl;clear hn hm h;go_enter Tryz.func84,Tryz.ntmps84;go_wp2
 go_ret;exact⟨rfl,rfl⟩
theorem wI0:(Tryz.prog.info? 264).map (fun i=>(i.zero,i.size,i.bytes))=some (some (.agg #[.int .i64 0,.int .i64 0,.slice none 0 0,.bool false,.bool false,.bool false]),6,56):=by kernel_rfl
theorem oy0 (n:Nat)(h1:1<=n)(h2:n<=4096)(w:World) :
  Calls Tryz.prog 96 #[.int .i64 n] w fun e w'=>e = .returned (.pointer (some ⟨w.heap.size+2,0,none⟩))/\AtP w' (w.heap.size+2) w.heap.size (w.heap.size+1) (List.replicate n (Pl.none Pg.zero)) 0/\Fq w w':=by
 obtain⟨i0,hi,hz0,hz1,hz2⟩:=info_parts wI0;have hmk:=fun W=>cz0 (P:=Tryz.prog) 257 264 i0 _ Tryz.underlying257 hi hz0 n (by rw[hz2];omega) oM W
 have hmm:=fun (t:TypeId) (W:World)=>run_makeMap (P:=Tryz.prog) t W
 rw[hz1] at hmk;clear hi hz0 hz1 hz2;go_enter Tryz.func96,Tryz.ntmps96;go_wp2
 go_ret;exact⟨rfl,At.fresh trivial h1 h2,(((Fr.refl _ _).alloc _).alloc _).alloc _⟩
theorem ez0 (h:AtP w bc bp bm pl hand):bc<w.heap.size/\bp<w.heap.size/\bm<w.heap.size:=by
 obtain⟨l,ck,hm,_⟩:=h.m;exact⟨loh h.c,loh h.p,loh hm⟩
def iv0 (pl:List Pl)(key:Int):List Pl:=match find pl key with
 | some i=>pl.modify i fun p=>{ p with marked:=true }
 | none=>pl
theorem modify_eq {i:Nat}{p:Pl}(hp:pl[i]?=some p)(f:Pl->Pl):pl.modify i f=pl.set i (f p):=by
 apply ms9;intro j;rw[bI0 hp,List.getElem?_modify];split
 ·rename_i e;subst e;simp[hp]
 ·simp
def GetPost (pl:List Pl)(hand bc bp bm:Nat)(key:Int)(w:World)(e:Ending)(w':World):Prop:=
 e = .returned (.tuple #[(dc0 pl key).val,.bool (find pl key).isSome])/\AtP w' bc bp bm (iv0 pl key) hand/\Fr (fun b=>b=bp) w w'
theorem get_at (h:AtP w bc bp bm pl hand)(key:Int) :
  Calls Tryz.prog 86 #[.pointer (some ⟨bc,0,none⟩),.int .i64 key] w (GetPost pl hand bc bp bm key w):=by
 have hfr:=hid (fun W (FW:Fq w W)=>(h.fr FW id id id:AtP W bc bp bm pl hand));obtain⟨w1,hw1⟩:=eX (w.alloc (.cells #[.int .i64 0,.slice none 0 0,.bool false] 162))
 have b1:w1.heap[w.heap.size]?=some (.cells #[.int .i64 0,.slice none 0 0,.bool false] 162):=by rw[<- hw1];exact han _ _
 have F1:Fq w w1:=by rw[<- hw1];exact (Fr.refl _ _).alloc _
 have B1:=hid b1;have hA1:=hid (hfr.out w1 F1);have hlt:=ez0 h;cases hf:find pl key with
 | none =>
  have e1:iv0 pl key=pl:=by simp[iv0,hf]
  have HF:=hid hf;have E:=hid e1;have HW:=hid hw1;have FN:=hid (fh0 hA1.out key);rw[hf] at FN;clear hf h e1 hw1 b1;go_enter Tryz.func86,Tryz.ntmps86;go_wp2_with fail
  rw[HW.out];refine FN.out.mono ?_;rintro e w' ⟨rfl,rfl⟩;go_wp2_with fail
  refine (iw0 hA1.out key).mono ?_;rintro e w2 ⟨rfl,F2⟩;obtain⟨c0,c1,c2,z,l⟩:=cells3 (F2.heap B1.out id);rw[HF.out];generalize hlm:dc0 pl key=lm;have HLM:=hid hlm;clear hlm;obtain⟨st,la,ll,lc,di⟩:=lm;go_wp2
  refine bodyPost_ret (v:=.tuple #[.agg #[.int .i64 st,.slice la ll lc,.bool di],.bool false]) sR rfl ⟨by rw[HLM.out,HF.out];rfl,?_,?_⟩
  ·rw[E.out];refine (hA1.out.fr F2 id id id).fr (S:=fun b=>b=w.heap.size) ?_ oM oM oM;repeat (with_reducible refine Fr.setCell ?_ (fun _=>by simp) _)
   exact Fr.refl _ _
  ·repeat (with_reducible refine Fr.an0 ?_ oM _)
   exact (F1.trans F2 nI).mono nE
 | some i =>
  obtain⟨p,hp,hful,hkey⟩:=aH0 hf;have k5:=hA1.out.k5 hp;have zp:=hA1.out.zp (i*6+5);have h2:=hA1.out.set hp 5 oM (.bool true) { p with marked:=true } rfl rfl rfl trivial;have hf2:find (pl.set i { p with marked:=true }) key=some i:=by
   rw[cX0 h.nd hp { p with marked:=true } (fun a=>.inl ⟨hful,rfl⟩)];simp[hful,hkey]
  have e1:iv0 pl key=pl.set i { p with marked:=true }:=by simp only[iv0,hf];exact modify_eq hp _
  have e3:dc0 pl key=p.v:=by simp[dc0,hf,hp]
  have e4:dc0 (pl.set i { p with marked:=true }) key=p.v:=by
   have:=bI0 hp { p with marked:=true } i;rw[if_pos rfl] at this;simp[dc0,hf2,this]
  have HF:=hid hf;have HF2:=hid hf2;have E:=hi2 e1 (aI e3 e4);have HW:=hid hw1;have FN:=hid (fh0 hA1.out key);rw[hf] at FN;have H2:=hid h2;obtain⟨w2,hw2⟩:=eX (w1.setCell ⟨bp,i*6+5,none⟩ (.bool true))
  have F12:Fr (fun b=>b=bp) w1 w2:=by rw[<- hw2];exact (Fr.refl (fun b=>b=bp) _).setCell (a:=⟨bp,i*6+5,none⟩) (fun _=>rfl) _
  have HW2:=hid hw2;have l1:=F1.size;clear hf h e1 e3 e4 hw1 b1 hf2 h2 hp hful hkey hw2;go_enter Tryz.func86,Tryz.ntmps86;go_wp2_with fail
  rw[HW.out];refine FN.out.mono ?_;rintro e w' ⟨rfl,rfl⟩;go_wp2_with fail
  rw[HW2.out];have hA2:=hid H2.out;rw[HW2.out] at hA2;refine (iw0 hA2.out key).mono ?_;rintro e w3 ⟨rfl,F3⟩;have F13:=F12.trans F3 nE;obtain⟨c0,c1,c2,z,l⟩:=cells3 (F13.heap B1.out oM);rw[HF2.out,E.out.2.2];obtain⟨key',⟨st,la,ll,lc,di⟩,fu,ma⟩:=p;clear k5 zp;go_wp2
  refine bodyPost_ret (v:=.tuple #[.agg #[.int .i64 st,.slice la ll lc,.bool di],.bool true]) sR rfl ⟨by rw[E.out.2.1,HF.out];rfl,?_,?_⟩
  ·rw[E.out.1];refine (hA2.out.fr F3 id id id).fr (S:=fun b=>b=w.heap.size) ?_ oM oM oM;repeat (with_reducible refine Fr.setCell ?_ (fun _=>by simp) _)
   exact Fr.refl _ _
  ·repeat (with_reducible refine Fr.an0 ?_ oM _)
   exact (F1.mono (S':=fun b=>b=bp) nE).trans F13 nI
end CP
end
end Go.Proofs.YtgdhaaokolfdoaaGreatDoor
namespace Go.Sg.Clk
open Go.RowKit
structure Did (pl:List Pl)(key:Int)(v:Pg)(M:Put):Prop where
 len:M.pl.length=pl.length
 lt:M.hand<pl.length
 there:∃ j,find M.pl key=some j/\M.pl[j]?=some ⟨key,v,true,true⟩
 nd:Nd M.pl
 cases:(∃ i,find pl key=some i/\M.gone=none/\M.pl.countP (·.full)=pl.countP (·.full)) \/
  (find pl key=none/\M.gone=none/\M.pl.countP (·.full)=pl.countP (·.full)+1) \/
  (find pl key=none/\∃ g,M.gone=some g/\g.key≠key/\pl.countP (·.full)=pl.length/\M.pl.countP (·.full)=pl.countP (·.full)/\find M.pl g.key=none)
theorem count_le (pl:List Pl):pl.countP (·.full)<=pl.length:=List.countP_le_length
variable {pl:List Pl}
theorem dM0 (h:empty pl=none):pl.countP (·.full)=pl.length:=by
 rw[List.countP_eq_length];intro p hp;rw[empty,lE9] at h;simpa using h p hp
theorem did {hand:Nat}(hn:Nd pl)(hh:hand<pl.length)(key:Int)(v:Pg):Did pl key v (iN0 pl hand key v):=by
 cases hf:find pl key with
 | some i =>
  obtain⟨p,hp,hfu,hk⟩:=aH0 hf;have e:iN0 pl hand key v=⟨pl.set i ⟨key,v,true,true⟩,hand,none⟩:=by simp[iN0,hf]
  have hq:(⟨key,v,true,true⟩:Pl).full=true->(p.full=true/\(⟨key,v,true,true⟩:Pl).key=p.key)\/find pl (⟨key,v,true,true⟩:Pl).key=none:=fun _=>.inl ⟨hfu,hk.symm⟩
  refine⟨by rw[e];simp,by rw[e];exact hh,⟨i,?_,?_⟩,by rw[e];exact jm0 hn hp _ hq,.inl ⟨i,hf,by rw[e],?_⟩⟩
  ·rw[e];simp only;rw[cX0 hn hp ⟨key,v,true,true⟩ hq];simp
  ·rw[e];simp only;rw[bI0 hp,if_pos rfl]
  ·rw[e];simp only;rw[count_set hp,hfu];have:=kF0 hp hfu;simp;omega
 | none =>
  cases he:empty pl with
  | some i =>
   obtain⟨p,hp,hfu⟩:∃ p,pl[i]?=some p/\p.full=false:=by
    rw[empty,lg9] at he;obtain⟨hi,h1,_⟩:=he;exact⟨pl[i],by simp,by simpa using h1⟩
   have e:iN0 pl hand key v=⟨pl.set i ⟨key,v,true,true⟩,hand,none⟩:=by simp[iN0,hf,he]
   have hq:(⟨key,v,true,true⟩:Pl).full=true->(p.full=true/\(⟨key,v,true,true⟩:Pl).key=p.key)\/find pl (⟨key,v,true,true⟩:Pl).key=none:=fun _=>.inr hf
   refine⟨by rw[e];simp,by rw[e];exact hh,⟨i,?_,?_⟩,by rw[e];exact jm0 hn hp _ hq,.inr (.inl ⟨hf,by rw[e],?_⟩)⟩
   ·rw[e];simp only;rw[cX0 hn hp ⟨key,v,true,true⟩ hq];simp
   ·rw[e];simp only;rw[bI0 hp,if_pos rfl]
   ·rw[e];simp only;rw[count_set hp,hfu];simp
  | none =>
   have e:=ig0 (hand:=hand) (v:=v) hf he;have hl:=kb0 pl.length pl hand;have hi:=np0 pl.length pl hand hh;have hf2:=iU0 pl.length pl hand key;have he2:=fQ0 pl.length pl hand;rw[hf] at hf2;rw[he] at he2;have hn2:Nd (spin pl.length pl hand).1:=by
    intro a b x y hx hy hxf hyf hk;have gx:=od0 (f:=pl.length) (pl:=pl) (h:=hand) a;have gy:=od0 (f:=pl.length) (pl:=pl) (h:=hand) b;rw[hx] at gx;rw[hy] at gy;cases hxa:pl[a]? with
    | none=>rw[hxa] at gx;cases gx
    | some x' =>
     cases hyb:pl[b]? with
     | none=>rw[hyb] at gy;cases gy
     | some y' =>
      rw[hxa] at gx;rw[hyb] at gy;simp only[mC9,Option.some.injEq,Pl.cS0,Pl.mk.injEq] at gx gy;exact hn a b x' y' hxa hyb (by rw[<- gx.2.2.1,hxf]) (by rw[<- gy.2.2.1,hyf]) (by rw[<- gx.1,<- gy.1,hk])
   generalize spin pl.length pl hand=s at *
   obtain⟨p,hp⟩:∃ p,s.1[s.2]?=some p:=⟨_,gE oM⟩
   have hfu:=dx0 he2 hp;have hq:(⟨key,v,true,true⟩:Pl).full=true->(p.full=true/\(⟨key,v,true,true⟩:Pl).key=p.key)\/find s.1 (⟨key,v,true,true⟩:Pl).key=none:=fun _=>.inr hf2
   have hne:=de0 hf2 hp hfu;refine⟨by rw[e];simpa using hl,by rw[e];exact mD9 _ oM,⟨s.2,?_,?_⟩,by rw[e];exact jm0 hn2 hp _ hq,.inr (.inr ⟨hf,p,by rw[e];exact hp,hne,dM0 he,?_,?_⟩)⟩
   ·rw[e];simp only;rw[cX0 hn2 hp ⟨key,v,true,true⟩ hq];simp
   ·rw[e];simp only;rw[bI0 hp,if_pos rfl]
   ·rw[e];simp only;rw[count_set hp,hfu,dM0 he2,dM0 he,hl];simp;omega
   ·rw[e];simp only;rw[cX0 hn2 hp ⟨key,v,true,true⟩ hq];rw[if_neg (by rintro⟨_,h⟩;exact hne h.symm),if_pos ⟨hfu,rfl⟩]
