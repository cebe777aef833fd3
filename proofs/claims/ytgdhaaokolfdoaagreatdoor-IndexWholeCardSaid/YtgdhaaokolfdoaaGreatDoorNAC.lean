/- A pack of texts. Conditions: those that each names. -/
import Derived.Test.YtgdhaaokolfdoaaGreatDoorNAB
import Derived.ProofKit
import Derived.OpenShut
import Derived.Deep.Fields
import Derived.Laws.AppendOwnNone
set_option maxHeartbeats 16000000
set_option maxRecDepth 100000
set_option linter.all false
namespace Go.Proofs.YtgdhaaokolfdoaaGreatDoor
open Go.RowKit Go.Sg Tryz
variable {w:w9}{d:Nat}{at_ n:Int}
def jG0 (h:w.cell? d=some (iI n)) :
  cP 92 #[pO d] w fun e w'=>e = rT (iI n)/\w=w':=by
 go_enter func92,ntmps92;go_wp2
 go_ret;exact⟨rfl,rfl⟩
def size_at (h:w.cell? (aA d 1)=some (iI n)) :
  cP 93 #[pO d] w fun e w'=>e = rT (iI n)/\w=w':=by
 go_enter func93,ntmps93;go_wp2
 go_ret;exact⟨rfl,rfl⟩
def tZ0 (s z:Int)(h1:1<=s)(h2:s<=16384)(h3:96<=z)(h4:z<=512)(w:w9) :
  cP 20 #[iI s,iI z] w fun e w'=>e = rT (pO (aP (w+2) 0)) /\
   w'.heap[w.heap.size]?=some (.map #[] 0)/\w'.heap[w.heap.size+1]?=some (.map #[] 0) /\
   w'.heap[w.heap.size+1+1]?=some (.cells #[iI s,iI z,.map (some w.heap.size),sL none 0 0,.map (some (w.heap.size+1)),iI 0,iI 0,bO false] 151)/\Fq w w':=by
 have vA:=fun (t:TypeId) (W:w9)=>run_makeMap (P:=prog) t W
 go_enter func20,ntmps20;go_wp2
 go_ret;exact⟨rfl,nC rfl⟩
def mL0 (h:w.cell? d=some (iI n))(h1:0<=at_)(h2:at_<n) :
  cP 230 #[pO d,iI at_] w fun e w'=>e = rT (bO true)/\w=w':=by
 go_enter func230,ntmps230;go_wp2
 go_ret;exact⟨rfl,rfl⟩
def pV0 (h:w.cell? d=some (iI n))(hd:w.cell? (aA d 7)=some (bO false))(h1:0<=at_)(h2:at_<n) :
  cP 173 #[pO d,iI at_] w fun e w'=>e = rT (iI 0)/\w=w':=by
 have H:=hid (mL0 h h1 h2);go_enter func173,ntmps173;go_wp2_with (go_at_call 230;refine H.mono ?_;rintro e w' ⟨rfl,rfl⟩)
 go_ret;exact⟨rfl,rfl⟩
end Go.Proofs.YtgdhaaokolfdoaaGreatDoor
namespace Go.Sg
open Go.RowKit
def aR:List Nat:=[156,151,256,29,260,264,196,22]
def iG (w:w9)(b:Nat):Prop:=∀ c t f,w.heap[b]?=some (.cells c t f)->t ∈ aR
variable {w w' w1:w9}{b base bf bq d n:Nat}{c:Array Value}{t:TypeId}{f:Nat × Nat}{S:Nat->Prop}
def iG.cells (h:w.heap[b]?=some (.cells c t f))(ht:t ∈ aR):iG w b:=by
 intro c' t' f' h';rw[h] at h';cases h';exact ht
def iG.map {l:Array MapEntry}{ck:Nat}(h:w.heap[b]?=some (.map l ck)):iG w b:=by
 intro c' t' f' h';rw[h] at h';cases h'
structure Dev where
 C0:Nat
 size:Nat
 fast:Int->Option (List Int)
 loose:List (Int × List Int)
 armed:Nat
 acts:Nat
 down:Bool
def uW (w:w9)(size:Nat):Option Value->Option (List Int)->Prop
 | none,none=>True
 | some v,some bs=>∃ b off cap,v = sL (aP b off) size cap/\T0 w (some ⟨b,off,none⟩) size cap bs/\size<=cap
 | _,_=>False
structure Wr where
 at_:Int
 la:Option Addr
 ll:Nat
 lc:Nat
def Wr.cells (x:Wr):List Value:=[iI x.at_,sL x.la x.ll x.lc]
def Qa (w:w9)(base:Nat)(v:Value)(l:List (Int × List Int)):Prop:=
 ∃ ws:List Wr,w.ownsRow base 196 2 v ws.length (ws.flatMap Wr.cells)/\ws.length=l.length/\∀ (i:Nat) (x:Wr) (y:Int × List Int),ws[i]?=some x->l[i]?=some y->x.at_=y.1/\(T0 w x.la x.ll x.lc y.2/\x.ll<=x.lc)
def kY (w:w9)(base N:Nat)(v:Value):Prop:=
 ∃ n xs,n<=N/\w.ownsRow base 22 1 v n xs/\∀ x ∈ xs,∃ a k cap bs,x = sL a k cap/\T0 w a k cap bs/\k<=512
structure Q4 (w:w9)(base d bf bq:Nat)(x:Dev):Prop where
 dc:∃ lv,w.heap[d]?=some (.cells #[iI x.C0,iI x.size,.map (some bf),lv,.map (some bq),iI x.armed,iI x.acts,bO x.down] 151)/\Qa w base lv x.loose
 fast:∃ l ck,w.heap[bf]?=some (.map (ents l) ck)/\(keys l).Nodup/\∀ k,uW w x.size (look l k) (x.fast k)
 past:∃ l ck,w.heap[bq]?=some (.map (ents l) ck)/\(keys l).Nodup/\(∀ e ∈ l,kY w base x.acts e.v)/\∀ e ∈ l,∀ e' ∈ l,∀ g,e.v.ownBlock=some g->e'.v.ownBlock=some g->e.k=e'.k
 ge:base<=d/\base<=bf/\base<=bq
 ne:bf≠bq
 rg:(1<=x.C0/\x.C0<=16384)/\96<=x.size/\x.size<=512
variable {x:Dev}
def Q4.xW (h:Q4 w base d bf bq x):d<w/\bf<w/\bq<w:=by
 obtain⟨lv,hd,_⟩:=h.dc;obtain⟨l,ck,hf,_⟩:=h.fast;obtain⟨l',js,hq,_⟩:=h.past;exact⟨M0 hd,M0 hf,M0 hq⟩
def K3 {e size:Nat}{v:Value}{xs:List Value}(h:w.ownsRow base e size v n xs)(F:Fr S w w')(hS:∀ g c,w.heap[g]?=some (.cells c e)->¬ S g):w'.ownsRow base e size v n xs:=by
 obtain⟨hl,h0|⟨g,cap,cur,hv,hb,hg,r⟩⟩:=h
 .exact⟨hl,.inl h0⟩
 .exact⟨hl,.inr ⟨g,cap,cur,hv,hb,F.heap hg (hS g cur hg),r⟩⟩
def Q4.fr (h:Q4 w base d bf bq x)(F:Fr S w w')(h1:¬ S d)(h2:¬ S bf)(h3:¬ S bq)
  (h4:∀ g c t,(t=5\/t=196\/t=22)->w.heap[g]?=some (.cells c t)->¬ S g):Q4 w' base d bf bq x:=by
 obtain⟨lv,hd,ws,A0,hlen,X7⟩:=h.dc;obtain⟨l,ck,hf,U9,U8⟩:=h.fast;obtain⟨l',js,hq,ah,jg,fN⟩:=h.past;have hB:∀ a n c bs,T0 w a n c bs->T0 w' a n c bs:=fun a n c bs hb=>hb.fr F fun b c hc=>h4 b c 5 (.inl rfl) hc
 refine⟨⟨lv,F.heap hd h1,ws,K3 A0 F fun g c hg=>h4 g c _ (.inr (.inl rfl)) hg,hlen,fun i y z hy hz=>⟨(X7 i y z hy hz).1,hB _ _ _ _ (X7 i y z hy hz).2.1,(X7 i y z hy hz).2.2⟩⟩,
  ⟨l,ck,F.heap hf h2,U9,fun k=>?_⟩,⟨l',js,F.heap hq h3,ah,fun e he=>?_,fN⟩,h.ge,h.ne,h.rg⟩
 .have:=U8 k;cases hlk:look l k with
  | none=>rw[hlk] at this;cases hx:x.fast k with
   | none=>trivial
   | some bs=>rw[hx] at this;exact this.elim
  | some v=>rw[hlk] at this;cases hx:x.fast k with
   | none=>rw[hx] at this;exact this.elim
   | some bs =>
    rw[hx] at this;obtain⟨b,off,cap,e,hb,mN⟩:=this;exact⟨b,off,cap,e,hB _ _ _ _ hb,mN⟩
 .obtain⟨n,xs,Ku,hx,jj⟩:=jg e he;refine⟨n,xs,Ku,K3 hx F fun g c hg=>h4 g c _ (.inr (.inr rfl)) hg,fun y hy=>?_⟩;obtain⟨a,k,cap,bs,e,hb,hk⟩:=jj y hy;exact⟨a,k,cap,bs,e,hB _ _ _ _ hb,hk⟩
def Dev.fresh (s z:Nat):Dev:=⟨s,z,fun _=>none,[],0,0,false⟩
structure R8 where
 C0:Int
 size:Int
 regions:Int
 T2:Int
 log:Int
 depth:Int
 memory:Int
 seed:Int
abbrev R8.val (p:R8):Value:=.agg #[iI p.C0,iI p.size,iI p.regions,iI p.T2,iI p.log,iI p.depth,iI p.memory,iU p.seed]
structure P0 where
 base:Nat
 s:Nat
 d:Nat
 bf:Nat
 bq:Nat
 bs:Nat
 bw:Nat
 fr:Nat
 dy:Nat
 de:Nat
 bc:Nat
 bp:Nat
 bm:Nat
structure T3 where
 plan:R8
 first:Int
 pages:Nat
 room:Nat
 gen:Nat
 hand:Nat
 taken:Nat->Bool
 fresh:Int->Bool
 dying:Int->Bool
 dead:Int->Bool
 mem:Int->Option r4.Pg
 places:Nat
 dev:Dev
def P0.maps (B:P0):List Nat:=[B.bf,B.bq,B.fr,B.dy,B.de,B.bm]
abbrev P0.ptr (B:P0):Value:=pO (aP B.s 0)
inductive r8
 | s|d|bf|bq|bs|bw|fr|dy|de|bc|bp|bm
 deriving DecidableEq
def r8.kind:r8->Nat
 | .s=>156+1
 | .d=>152
 | .bs=>257
 | .bw=>30
 | .bc=>261
 | .bp=>265
 | _=>0
def P0.at_ (B:P0):r8->Nat
 | .s=>B.s
 | .d=>B.d
 | .bf=>B.bf
 | .bq=>B.bq
 | .bs=>B.bs
 | .bw=>B.bw
 | .fr=>B.fr
 | .dy=>B.dy
 | .de=>B.de
 | .bc=>B.bc
 | .bp=>B.bp
 | .bm=>B.bm
def Az (B:P0)(w:w9)(b:Nat):Prop:=iG w b/\((∃ c t f,w.heap[b]?=some (.cells c t f))\/∃ r,b=B.at_ r)
abbrev D0 (B:P0)(w w':w9):Prop:=Fr (fun b=>B.base<=b/\Az B w b) w w'
def D0.refl (B:P0)(w:w9):D0 B w w:=fR
variable {B:P0}
def D0.trans {w2:w9}(h:D0 B w w1)(k:D0 B w1 w2):D0 B w w2:=by
 refine Fr.trans h k fun b hb hs=>?_
 rcases Classical.em (B.base<=b/\Az B w b) with hm|hm
 .exact hm
 .have e:=h.block b hb hm;refine⟨hs.1,fun c t f hc=>hs.2.1 c t f (e.trans hc),?_⟩;rw[<- e];exact hs.2.2
def D0.none (h:Fq w w'):D0 B w w':=h.mono fun _ _ h=>h.elim
def D0.heap (h:D0 B w w')(hb:w.heap[b]?=some (.cells c t f))(ht:t ∉ aR):w'.heap[b]?=some (.cells c t f):=
 Fr.heap h hb fun hs=>ht (hs.2.1 c t f hb)
def D0.alloc (h:D0 B w w1)(o:Obj):D0 B w (w1.alloc o):=Fr.alloc h o
def T0.T1 {a:Option Addr}{c:Nat}{bs:List Int}(h:T0 w a n c bs)(F:D0 B w w'):T0 w' a n c bs:=
 h.fr F fun b c hb hs=>absurd (hs.2.1 c 5 _ hb) dC
def D0.keeps (h:D0 B w w'){B0:Nat}(hB:∀ r,B.at_ r<B0):KeepsFrom B0 w w':=by
 refine⟨h.size,fun k o hk ho hc=>Fr.heap h ho fun hs=>?_⟩;rcases hs.2.2 with⟨c,t,f,e⟩|⟨r,e⟩
 .rw[ho] at e;cases e;cases hc
 .have:=hB r;omega
end Go.Sg
namespace Go.Proofs.YtgdhaaokolfdoaaGreatDoor
open Go.RowKit Go.Sg Go.Sg.Bits CP Tryz
structure X1 (w:w9)(B:P0)(x:T3):Prop where
 s:w.heap[B.s]?=some (.cells #[pO (aP B.d 0),iI x.plan.C0,iI x.plan.size,iI x.plan.regions,iI x.plan.T2,iI x.plan.log,iI x.plan.depth,iI x.plan.memory,iU x.plan.seed,
  iI x.first,iI x.pages,iI x.room,iI x.gen,pO (aP B.bs 0),.map (some B.fr),.map (some B.dy),.map (some B.de),pO (aP B.bc 0)] 156)
 dev:Q4 w B.base B.d B.bf B.bq x.dev
 bits:cT w B.bs B.bw x.pages x.hand x.taken
 fr:kf w B.fr x.fresh
 dy:kf w B.dy x.dying
 de:kf w B.de x.dead
 mem:cR w B.bc B.bp B.bm x.places x.mem
 load:∀ k p,x.mem k=some p->∃ bs,T0 w p.la p.ll p.lc bs/\bs.length<=x.room
 ne:B.maps.Nodup
 ge:B.base<=B.s/\B.base<=B.bs/\B.base<=B.bw/\B.base<=B.fr/\B.base<=B.dy/\B.base<=B.de/\B.base<=B.bc/\B.base<=B.bp/\B.base<=B.bm
 rg:x.room<=493/\(1<=x.gen/\x.gen<=2199023255552)/\0<=x.first/\x.first+x.pages=x.dev.C0/\x.room+19=x.dev.size
 inr:(∀ k,x.fresh k=true->0<=k/\k<x.pages)/\(∀ k,x.dying k=true->0<=k/\k<x.pages)/\(∀ k,x.dead k=true->0<=k/\k<x.pages)
variable {w w':w9}{bs:List Int}{b k n:Nat}{t:TypeId}{c:Array Value}{f:Nat × Nat}{a:Option Addr}
def ll0 {bs bw hand:Nat}{t:Nat->Bool}(h:cT w bs bw n hand t):(∃ c,w.heap[bs]?=some (.cells c 256))/\∃ c,w.heap[bw]?=some (.cells c 29):=by
 obtain⟨ws,h,_⟩:=h;exact⟨⟨_,h.s⟩,⟨_,h.w_⟩⟩
def kd (w:w9)(b:Nat):Nat:=match w.heap[b]? with
 | some (.cells _ t _)=>t+1
 | _=>0
def qJ (h:w.heap[b]?=some (.cells c t f)):kd w b=t+1:=by rw[kd,h]
def FH {l:Array MapEntry}{ck:Nat}(h:w.heap[b]?=some (.map l ck)):kd w b=0:=by rw[kd,h]
variable {B:P0}{x:T3}
def X1.heaps (h:X1 w B x)(r:r8):B.base<=B.at_ r/\iG w (B.at_ r)/\B.at_ r<w/\kd w (B.at_ r)=r.kind:=by
 obtain⟨g1,g2,g3,g4,g5,g6,g7,g8,g9⟩:=h.ge;obtain⟨k1,k2,k3⟩:=h.dev.ge;obtain⟨lv,hd,_⟩:=h.dev.dc;obtain⟨l,ck,hf,_⟩:=h.dev.fast;obtain⟨l',js,hq,_⟩:=h.dev.past;obtain⟨⟨_,U1⟩,⟨_,ly⟩⟩:=ll0 h.bits;obtain⟨l1,c1,o7,_⟩:=h.fr.ex;obtain⟨l2,c2,vk,_⟩:=h.dy.ex;obtain⟨l3,c3,vi,_⟩:=h.de.ex;obtain⟨⟨_,Cv⟩,⟨_,mK⟩,_,_,xo⟩:=h.mem.heaps;cases r
 .exact⟨g1,iG.cells h.s dC,M0 h.s,qJ h.s⟩
 .exact⟨k1,iG.cells hd dC,M0 hd,qJ hd⟩
 .exact⟨k2,iG.map hf,M0 hf,FH hf⟩
 .exact⟨k3,iG.map hq,M0 hq,FH hq⟩
 .exact⟨g2,iG.cells U1 dC,M0 U1,qJ U1⟩
 .exact⟨g3,iG.cells ly dC,M0 ly,qJ ly⟩
 .exact⟨g4,iG.map o7,M0 o7,FH o7⟩
 .exact⟨g5,iG.map vk,M0 vk,FH vk⟩
 .exact⟨g6,iG.map vi,M0 vi,FH vi⟩
 .exact⟨g7,iG.cells Cv dC,M0 Cv,qJ Cv⟩
 .exact⟨g8,iG.cells mK dC,M0 mK,qJ mK⟩
 .exact⟨g9,iG.map xo,M0 xo,FH xo⟩
variable {r:r8}
def X1.inj (h:X1 w B x){r':r8}(e:B.at_ r=B.at_ r'):r=r':=by
 have hk:r.kind=r'.kind:=by rw[<- (h.heaps r).2.2.2,<- (h.heaps r').2.2.2,e]
 have hn:=h.ne;simp only[P0.maps,List.nodup_cons,d9,not_or,List.not_mem_nil,not_false_eq_true,Mp,and_true] at hn;obtain⟨⟨a1,a2,a3,a4,a5⟩,⟨b1,b2,b3,b4⟩,⟨c1,c2,c3⟩,⟨d1,d2⟩,e1⟩:=hn;cases r <;> cases r' <;> first|rfl|(exact absurd hk dC)|(exact absurd e (by assumption))|(exact absurd e.symm (by assumption))
abbrev eI (B:P0)(L:List r8)(w w':w9):Prop:=Fr (fun b=>∃ r ∈ L,b=B.at_ r) w w'
variable {L:List r8}
def X1.o (h:X1 w B x)(hr:r ∉ L):¬ ∃ r' ∈ L,B.at_ r=B.at_ r':=by
 rintro⟨r',hL,e⟩;exact hr (by rw[h.inj e];exact hL)
def X1.gD (h:X1 w B x)(L:List r8)(hb:w.heap[b]?=some (.cells c t f))(ht:t ∉ [156,151,256,29,260,264]):¬ ∃ r ∈ L,b=B.at_ r:=by
 rintro⟨r,_,rfl⟩;have h1:=qJ hb;rw[(h.heaps r).2.2.2] at h1;cases r <;> simp[r8.kind] at h1 <;> (subst h1;simp at ht)
def X1.T1 (h:X1 w B x)(F:eI B L w w'):D0 B w w':=
 Fr.mono F fun b _ hs=>by obtain⟨r,_,rfl⟩:=hs;exact⟨(h.heaps r).1,(h.heaps r).2.1,.inr ⟨r,rfl⟩⟩
structure CF0 (w':w9)(B:P0)(x:T3)(L:List r8):Prop where
 s:r8.s ∉ L->w'.heap[B.s]?=some (.cells #[pO (aP B.d 0),iI x.plan.C0,iI x.plan.size,iI x.plan.regions,iI x.plan.T2,iI x.plan.log,iI x.plan.depth,iI x.plan.memory,iU x.plan.seed,
  iI x.first,iI x.pages,iI x.room,iI x.gen,pO (aP B.bs 0),.map (some B.fr),.map (some B.dy),.map (some B.de),pO (aP B.bc 0)] 156)
 dev:r8.d ∉ L->r8.bf ∉ L->r8.bq ∉ L->Q4 w' B.base B.d B.bf B.bq x.dev
 bits:r8.bs ∉ L->r8.bw ∉ L->cT w' B.bs B.bw x.pages x.hand x.taken
 fr:r8.fr ∉ L->kf w' B.fr x.fresh
 dy:r8.dy ∉ L->kf w' B.dy x.dying
 de:r8.de ∉ L->kf w' B.de x.dead
 mem:r8.bc ∉ L->r8.bp ∉ L->r8.bm ∉ L->cR w' B.bc B.bp B.bm x.places x.mem
 load:∀ k p,x.mem k=some p->∃ bs,T0 w' p.la p.ll p.lc bs/\bs.length<=x.room
def X1.stays (h:X1 w B x)(F:eI B L w w'):CF0 w' B x L:=by
 refine⟨fun a=>Fr.heap F h.s (h.o a),fun a b c=>h.dev.fr F (h.o a) (h.o b) (h.o c) fun g c t ht hg=>h.gD L hg ?_,fun a b=>h.bits.fr F (h.o a) (h.o b),fun a=>h.fr.fr F (h.o a),fun a=>h.dy.fr F (h.o a),fun a=>h.de.fr F (h.o a),
  fun a b c=>h.mem.fr F (h.o a) (h.o b) (h.o c),fun k p hp=>?_⟩
 .rcases ht with rfl|rfl|rfl <;> decide
 .obtain⟨bs,hb,hl⟩:=h.load k p hp;exact⟨bs,hb.fr F fun b c hc=>h.gD L hc dC,hl⟩
def X1.NK (h:X1 w B x)(F:eI B L w w'){c:Nat}(hb:T0 w a n c bs):T0 w' a n c bs:=
 hb.fr F fun b c hc=>h.gD L hc dC
def X1.M3 (h:X1 w B x)(F:Fr (fun b=>b=k) w w')(hk:w.heap[k]?=some (.cells c t))(ht:t ∉ 5 :: aR):X1 w' B x:=by
 have h1:∀ r,¬ B.at_ r=k:=fun r e=>by
  have h2:=(h.heaps r).2.1 c t;rw[e] at h2;exact ht (jH _ (h2 _ hk))
 have h4:∀ g c' t',t' ∈ 5 :: aR->w.heap[g]?=some (.cells c' t')->¬ g=k:=fun g c' t' h5 hg e=>by
  rw[e,hk] at hg;cases hg;exact ht h5
 refine⟨F.heap h.s (h1 .s),h.dev.fr F (h1 .d) (h1 .bf) (h1 .bq) fun g c' t' h5 hg=>h4 g c' t' (by rcases h5 with rfl|rfl|rfl <;> decide) hg,h.bits.fr F (h1 .bs) (h1 .bw),h.fr.fr F (h1 .fr),h.dy.fr F (h1 .dy),h.de.fr F (h1 .de),h.mem.fr F (h1 .bc) (h1 .bp) (h1 .bm),fun k p hp=>?_,h.ne,h.ge,h.rg,h.inr⟩;obtain⟨bs,hb,hl⟩:=h.load k p hp;exact⟨bs,hb.fr F fun b c hc=>h4 b c 5 dC hc,hl⟩
def _root_.Go.Sg.T0.M3 {c:Nat}(h:T0 w a n c bs)(F:Fr (fun b=>b=k) w w'){cs:Array Value}(hk:w.heap[k]?=some (.cells cs t))(ht:t≠5):T0 w' a n c bs:=
 h.fr F fun b c hc e=>by rw[e,hk] at hc;cases hc;exact ht rfl
def X1.J0 (h:X1 w B x)(F:Fq w w'):X1 w' B x:=by
 have S:=h.stays (L:=[]) (F.mono fun _ _ h=>h.elim);exact⟨S.s dC,S.dev dC dC dC,S.bits dC dC,S.fr dC,S.dy dC,S.de dC,S.mem dC dC dC,S.load,h.ne,h.ge,h.rg,h.inr⟩
end Go.Proofs.YtgdhaaokolfdoaaGreatDoor
namespace Go.Sg
open Go.RowKit
def leB (n:Nat):Nat->List Int
 | 0=>[]
 | k+1=>((n % 256:Nat):Int) :: leB (n/256) k
def e8 (k:Nat):∀ n,(leB n k).length=k:=by
 induction k with
 | zero=>intro n;rfl
 | succ k ih=>intro n;simp[leB,ih]
def jM:List Int->Nat
 | []=>0
 | x :: l=>x.toNat+256*jM l
def PU (k:Nat):∀ n,n<256^k->jM (leB n k)=n:=by
 induction k with
 | zero=>intro n h;simp at h;subst h;rfl
 | succ k ih =>
  intro n h;have h2:n/256<256^k:=by rw[dB] at h;omega
  simp only[leB,jM,ih _ h2,jK];omega
def sg (n:Nat):Nat:=(n/2) ^^^ (if n % 2=1 then 2197175160 else 0)
def nG (i:Nat):Nat:=sg (sg (sg (sg (sg (sg (sg (sg i)))))))
def LS (n:Nat)(x:Int):Nat:=(n/256) ^^^ nG ((n % 256) ^^^ x.toNat)
def yr (bs:List Int):Nat:=bs.foldl LS 4294967295 ^^^ 4294967295
def ju (size kind place stamp:Nat)(load:List Int):List Int:=
 leB kind 1++leB load.length 2++leB place 4++leB stamp 8++load++List.replicate (size-19-load.length) 0
def D6 (size kind place stamp:Nat)(load:List Int):List Int:=ju size kind place stamp load++leB (yr (ju size kind place stamp load)) 4
variable {kind place size stamp:Nat}{load:List Int}
def gn0 (h:load.length+19<=size):(ju size kind place stamp load).length=size-4:=by
 simp[ju,e8];omega
def NQ (h:load.length+19<=size):(D6 size kind place stamp load).length=size:=by
 rw[D6,lA,gn0 h,e8];omega
def Dev.act (D:Dev):Dev:={ D with acts:=D.acts+1,armed:=D.armed-1,down:=if D.armed=0 then D.down else decide (D.armed=1) }
def Dev.write (D:Dev)(at_:Int)(bs:List Int):Dev × Int:=
 if D.down then (D,4) else if at_<0\/(D.C0:Int)<=at_ then (D,2) else if bs.length≠D.size then (D,3)
 else ({ D.act with loose:=D.loose++[(at_,bs)] },if D.act.down then 4 else 0)
end Go.Sg
namespace Go.Proofs.YtgdhaaokolfdoaaGreatDoor
open Go.RowKit Go.Sg Go.Sg.Bits Go.Sg.r4 CP Tryz
def lM (w:w9)(x:T3)(g:Option (Int × Pg))(D:Dev)(err:Int):Prop:=
 match g with
 | none=>D=x.dev/\err=0
 | some (k,q)=>if q.dirty=true then ∃ bs,T0 w q.la q.ll q.lc bs/\(D,err)=x.dev.write (x.first+k) (D6 x.dev.size 2 k.toNat q.stamp.toNat bs) else D=x.dev/\err=0
def Xw (B:P0)(x:T3)(n:Int)(p:Pg)(w:w9)(e:Ending)(w':w9):Prop:=
 ∃ err g D,e = rT (iI err)/\nJ x.mem x.places n g/\lM w' x g D err/\X1 w' B { x with mem:=aQ x.mem n p g,dev:=D }/\D0 B w w'
end Go.Proofs.YtgdhaaokolfdoaaGreatDoor
namespace Go.Sg
open Go.RowKit
structure cA (w:w9)(r:Nat)(bs:List Int)(bad:Bool):Prop where
 ex:∃ a c,w.heap[r]?=some (.cells #[sL a bs.length c,bO bad] 377)/\T0 w a bs.length c bs/\bs.length<=c
 small:bs.length<=65536
def addr_add (b off j:Nat):(⟨b,off,none⟩:Addr).add j=⟨b,off+j,none⟩:=by unfold Addr.add;split <;> simp_all
variable {w:w9}{a:Option Addr}{c m n:Nat}{bs:List Int}
def T0.take (h:T0 w a n c bs)(hm:m<=n):T0 w a m c (bs.take m):=by
 refine⟨⟨by rw[lT,h.Y6.len];omega,fun i x hx=>?_⟩,?_⟩
 .rw[gT] at hx;split at hx
  .exact h.Y6.at_ i x hx
  .cases hx
 .rcases h.at_ with⟨h0,h1,h2⟩|h0
  .exact .inl ⟨h0,oM,h2⟩
  .exact .inr h0
def T0.drop (h:T0 w a n c bs)(hm:m<=n)(hc:n<=c):T0 w (if c=m then a else a.map (·.add m)) (n-m) (c-m) (bs.drop m):=by
 rcases h.at_ with⟨rfl,h1,h2⟩|⟨b,off,cs,rfl,h2⟩
 .have h3:m=0:=by omega
  subst h3;subst h1 h2;have:bs=[]:=vH h.Y6.len;subst this;exact T0.nil w
 .by_cases he:c=m
  .rw[if_pos he];have hn:n-m=0:=by omega
   have hd:bs.drop m=[]:=Qg (by rw[h.Y6.len];omega);rw[hn,hd];exact⟨⟨rfl,fun i x hx=>by simp at hx⟩,.inr ⟨b,off,cs,rfl,h2⟩⟩
  .rw[if_neg he];refine⟨⟨by rw[ed,h.Y6.len],fun i x hx=>?_⟩,.inr ⟨b,off+m,cs,by simp[addr_add],h2⟩⟩;rw[jJ] at hx;obtain⟨b',off',e,hb,hcell⟩:=h.Y6.at_ _ x hx;cases e;exact⟨b,off+m,by simp[addr_add],hb,by rw[qg];exact hcell⟩
def if0 (hb:∀ x ∈ bs,0<=x/\x<256):∀ k,jM (bs.take k)<256^k:=by
 intro k;induction bs generalizing k with
 | nil=>simp[jM];exact iu dC
 | cons x l ih =>
  cases k with
  | zero=>simp[jM]
  | succ k =>
   have h1:=ih (fun y hy=>hb y (by simp[hy])) k;have h2:=hb x sP;simp only[Qk,jM];rw[dB];omega
def wo0 (l:List Int)(x:Int):jM (l++[x])=jM l+x.toNat*256^l.length:=by
 induction l with
 | nil=>simp[jM]
 | cons y l ih =>
  simp only[ak,jM,ih,lC,dB];rw[uf,qg,dU 256 (x.toNat*_),DM]
def wp0 (hb:∀ x ∈ bs,0<=x/\x<256){k:Nat}{x:Int}(hx:bs[k]?=some x):jM (bs.take (k+1))=jM (bs.take k) ||| x.toNat*2^(8*k):=by
 have hk:=(gI.1 hx).1;have e:bs.take (k+1)=bs.take k++[x]:=by rw[ea,hx];rfl
 have hl:=if0 hb k;have e2:(256:Nat)^k=2^(8*k):=by rw[Nat.pow_mul]
 rw[e,wo0,lT,Nat.min_eq_left (FU hk),e2];rw[e2] at hl;rw[Nat.add_comm,Nat.or_comm,<- Nat.shiftLeft_eq,Nat.shiftLeft_add_eq_or_of_lt hl]
def lR0 {base e:Nat}{v:Value}(h:w.ownsRow base e 1 v n (bs.map (Value.int .u8)))(hne:v≠sL none 0 0) :
  ∃ g cap c,v = sL (aP g 0) n cap/\w.heap[g]?=some (.cells c e)/\jm w (some ⟨g,0,none⟩) n bs/\n<=cap:=by
 obtain⟨g,cap,c,rfl,hg,hB⟩:=Ob h hne;refine⟨g,cap,c,rfl,hg,hB,?_⟩;obtain⟨_,⟨h1,_⟩|⟨g',cap',cur,h1,_,_,h2,_⟩⟩:=h
 .cases h1
 .cases h1;exact h2
end Go.Sg
namespace Go.Proofs.YtgdhaaokolfdoaaGreatDoor
open Go.RowKit Go.Sg Tryz
def pO0 (a:Option Addr)(n c m:Nat)(h:m<=c)(W:w9):(Instr.slice 22 (sL a n c) none (some (iI m)) none).run prog W = .ok (sL a m c) W:=by
 rw[run_slice_h W 22 a n c kF .i64 m oM oM];have hs:(sizeOf (prog.elem 22)).run prog W = .ok 1 W:=by kernel_rfl
 rw[hs];simp only[Result.andThen_ok,sliced,jK,uk,Nat.sub_zero];cases a with
 | none=>simp
 | some a=>simp[Addr.add]
def jE0 (a:Option Addr)(n c m:Nat)(h:m<=n)(W:w9):(Instr.slice 22 (sL a n c) (some (iI m)) none none).run prog W = .ok (sL (if c=m then a else a.map (·.add m)) (n-m) (c-m)) W:=by
 rw[run_slice_l W 22 a n c kF .i64 m oM oM];have hs:(sizeOf (prog.elem 22)).run prog W = .ok 1 W:=by kernel_rfl
 rw[hs];simp only[Result.andThen_ok,sliced,jK,Nat.mul_one]
variable {w:w9}{c n r:Nat}{bs:List Int}{a:Option Addr}{bad:Bool}
def yP0 {ad:Addr}{cap:Nat}(h:jm w (some ad) n bs)(hn:n<=65536) :
  cP 83 #[sL (some ad) n cap] w fun e w'=>∃ g cap' c,e = rT (sL (aP g 0) n cap')/\w'.heap[g]?=some (.cells c 5)/\(jm w' (some ⟨g,0,none⟩) n bs/\n<=cap')/\w.heap.size<=g/\Fq w w':=by
 obtain⟨i0,A3,J1,M1,O1⟩:=info_parts B3;have H:=hid h;have hlen:=h.len;have hcell:∀ (o:Obj) (j:Nat) (u:Value),(bs.map (Value.int .u8))[j]?=some u->(w.alloc o).cell? (ad.add j)=some u:=fun o j u hu=>by
  rw[gP] at hu;cases hx:bs[j]? with
  | none=>rw[hx] at hu;cases hu
  | some x =>
   rw[hx] at hu;cases hu;obtain⟨b',off',e,hb,hc⟩:=h.at_ j x hx;cases e;rw[addr_add];exact (((Fr.refl (fun _=>False) w).alloc o).cell (p:=⟨b',off'+j,none⟩) hb id).trans hc
 have HC:=hid hcell;clear h hcell;have q22:∀ (w:w9) (a:Option Addr) (n c n' c':Nat),(binOp .eql 22 (sL a n c) (sL none n' c')).run prog w = .ok (bO a.isNone) w:=fun w a n c n' c'=>Lib.run_eql_slice_nil w _ _ a n c n' c' underlying22
 go_enter func83,ntmps83;go_wp2_with (at_builtin;refine wpList_append_own_at _ rfl (.tmp 5) (.tmp 6) 22 rfl 0 5 i0 _ 1 1 underlying22 A3 J1 M1 O1 rfl dC _ _ _ rfl (pg0 _ _ _ _ (by simp[go_sem])) ad n cap (bs.map (Value.int .u8)) rfl (by simpa using hlen) ?c1 ?c2 ?c3 ?c4 (C3 _) ?_)
 case c1=>exact HC _
 case c2=>intro u hu;obtain⟨x,_,rfl⟩:=N4.1 hu;rfl
 case c3=>simp[maxLen];omega
 case c4=>omega
 intro v1 w1 A0 R0 Y4 G4;try simp only[C7,o8] at A0
 have F1:Fq w w1:=((Fr.refl (fun _=>False) w).alloc _).trans (S':=fun b=>b=w.heap.size) (Fr.of_grownBy R0) fun b hb h=>oM;obtain⟨g,cap',c,rfl,hg,hB,mN⟩:=lR0 A0 Y4;have fJ:w.heap.size<=g:=by
  rcases G4 with h|h <;> simp[Value.ownBlock] at h <;> omega
 have HG:=hi2 hg (aI (aI hB mN) (aI fJ F1));clear A0 R0 G4 hg hB F1 fJ mN;go_wp2
 go_ret;exact⟨g,cap',c,rfl,HG.1,HG.2.1,HG.2.2.1,HG.2.2.2⟩
def BF (h:uN w a n c bs)(hn:n<=65536) :
  cP 83 #[sL a n c] w fun e w'=>∃ a' c',e = rT (sL a' n c')/\(T0 w' a' n c' bs/\n<=c')/\Fq w w':=by
 rcases h.at_ with⟨rfl,rfl,rfl⟩|⟨ad,rfl⟩
 .refine (clone_nil w).mono fun e w' ⟨he,hw⟩=>⟨none,0,he,⟨?_,nR _⟩,by rw[hw];exact fR⟩
  have:bs=[]:=vH h.Y6.len;rw[this];exact T0.nil w'
 .exact (yP0 h.Y6 hn).mono fun e w' ⟨g,c',cs,he,hg,hB,_,hF⟩=>⟨_,_,he,⟨⟨hB.1,.inr ⟨g,0,cs,rfl,hg⟩⟩,hB.2⟩,hF⟩
def Tn (h:uN w a n c bs)(hn:n<=65536) :
  cP 215 #[sL a n c] w fun e w'=>∃ r,e = rT (pO (aP r 0))/\cA w' r bs false/\w.heap.size<=r/\Fq w w':=by
 have HC:=hid (BF h hn);have hl:=h.Y6.len;have HL:=hid hl;clear h hl;go_enter func215,ntmps215;go_wp2_with fail
 refine HC.mono ?_;rintro e w1 ⟨a',c',rfl,hb,F1⟩;have HB:=hi2 hb F1;clear hb F1;go_wp2
 go_ret;have FN:Fq w1 (w1.alloc (.cells #[sL a' n c',bO false] 377)):=fR.alloc _;refine⟨w1.heap.size,rfl,⟨⟨a',c',by rw[HL];exact han _ _,?_,by rw[HL];exact HB.1.2⟩,by rw[HL];exact hn⟩,HB.2.size,HB.2.trans FN nI⟩;rw[HL];exact HB.1.1.fr FN fun _ _ _ h=>h
def yr0 (h:cA w r bs bad)(m:Nat)(hm:m<=bs.length) :
  cP 217 #[pO r,iI m] w fun e w'=>∃ a' c',e = rT (sL a' m c')/\T0 w' a' m c' (bs.take m)/\cA w' r (bs.drop m) bad/\Fr (fun b=>b=r) w w':=by
 obtain⟨⟨a,c,hr,hb,UI⟩,hsm⟩:=h;obtain⟨c0,c1,hz,hl⟩:=cells2 hr;have st:=pO0 a bs.length c m oM;have sf:=jE0 a bs.length c m hm;have hdr:=hb.drop hm UI;generalize ha2:(if c=m then a else a.map (·.add m))=a2 at sf hdr;have HD:=hid hdr;have HB:=hid hb;have HR:=hid hr;have HC:=hid (BQ (w:=w) (hb.take hm).slb oM);clear ha2 hdr hb hr;go_enter func217,ntmps217;go_wp2_with fail
 refine HC.mono ?_;rintro e w1 ⟨a',c',rfl,E5,F1⟩;have aY:=F1.heap HR id;obtain⟨d0,d1,dz,dl⟩:=cells2 aY;have H1:=hi2 E5 (aI F1 aY);clear E5 F1 aY c0 c1 hz hl;go_wp2
 go_ret;obtain⟨E5,F1,aY⟩:=H1.o;have FS:Fr (fun b=>b=r) w1 (w1.setCell r (sL a2 (bs.length-m) (c-m))):=(Fr.refl (fun b=>b=r) _).setCell (a:=⟨r,0,none⟩) (fun _=>rfl) _;have ne:∀ b cs,w1.heap[b]?=some (.cells cs 5)->¬ b=r:=fun b cs h e=>by rw[e,aY] at h;cases h
 refine⟨a',c',rfl,E5.fr FS ne,⟨⟨a2,c-m,?_,?_,?_⟩,?_⟩,(F1.mono nE).trans FS nI⟩
 .rw[hsc _ _ _ _ aY,ed];rfl
 .rw[ed];exact (HD.fr F1 fun _ _ _ h=>h).fr FS ne
 .rw[ed];omega
 .rw[ed];omega
def xB0 (k:Nat)(hk:k=1\/k=2\/k=4\/k=8)(w:w9):cP 236 #[iI k] w fun e w'=>e = rT (bO true)/\w=w':=by
 rcases hk with rfl|rfl|rfl|rfl
 all_goals
  go_enter func236,ntmps236;go_wp2
  go_ret;exact⟨rfl,rfl⟩
def yw0 (h:cA w r bs bad)(O2:∀ x ∈ bs,0<=x/\x<256)(k:Nat)(hk:k=1\/k=2\/k=4\/k=8)(hm:k<=bs.length) :
  cP 216 #[pO r,iI k] w fun e w'=>e = rT (iU (jM (bs.take k)))/\cA w' r (bs.drop k) bad/\Fr (fun b=>b=r) w w':=by
 have HM:=hid fun W=>xB0 k hk W;have HRw:=hid (yr0 h k hm);have RC:=hid fun x (hx:x ∈ bs.take k)=>O2 x (ov hx);have hk8:k<=8:=oM
 have hlen:(bs.take k).length=k:=by rw[lT];omega
 generalize bs.take k=l at *
 clear h O2 hk;go_enter func216,ntmps216;go_wp2_with (go_at_call 236;refine (HM _).mono ?_;rintro e w' ⟨rfl,rfl⟩)
 refine HRw.mono ?_;rintro e w1 ⟨a',c',rfl,E5,hR,F1⟩;have eK:=hid hlen;have I3:=hid E5;have bF:=hi2 hR F1;clear hlen E5 hR F1;go_wp2
 go_loop [5,15] (fun n i=>∃ j:Nat,j<=k/\i = iI j/\n = iU (jM (l.take j))) fun _ i=>k-(intOf i).toNat
 case atStart=>exact⟨0,C3 _,rfl,by simp[jM]⟩
 case round =>
  obtain⟨j,hj,rfl,rfl⟩:=hrel;by_cases hlt:j<k
  .obtain⟨x,hx⟩:∃ x,l[j]?=some x:=⟨l[j]'(by rw[eK.o];exact hlt),gE _⟩
   obtain⟨b,off,rfl,J6,hcell⟩:=I3.Y6.at_ j x hx;have eF:=RC.o x (gM hx);have hn:=wp0 RC hx;have T7:=if0 RC j;have HX:=hi2 hx hn;have HN:=hid T7;clear hx hn T7;have Vi:decide (j<k)=true:=by simpa using hlt
   go_wp2
   go_round
   case rel =>
    refine⟨j+1,oM,by go_num,?_⟩;obtain⟨y,rfl⟩:=iZ eF.1;have hp:(2:Nat)^(8*j)<=2^56:=aZ dC oM;have TR:(256:Nat)^j=2^(8*j):=(by rw[Nat.pow_mul]);have nY:jM (l.take j)<18446744073709551616:=by
     have:=HN.o;rw[TR] at this;omega
    have hy:y<=255:=oM;have A8:y*2^(8*j)<18446744073709551616:=by
     have:=Nat.mul_le_mul hy hp;omega
    have hw:IntKind.u64.wrap ((y:Int)*2^(8*j))=((y*2^(8*j):Nat):Int):=by
     rw[IntKind.wrap_u64,show (y:Int)*2^(8*j)=((y*2^(8*j):Nat):Int) by simp];omega
    rw[hw,u64_or_nat _ _ nY A8];have:=HX.2;simp only[Int.ofNat_eq_natCast,jK] at this;rw[this]
   case measure=>exact wM
  .obtain rfl:j=k:=by omega
   go_wp2
   go_ret;have e:l.take j=l:=tL (by rw[eK];exact nR _);rw[e];exact⟨rfl,bF.o⟩
end Go.Proofs.YtgdhaaokolfdoaaGreatDoor
namespace Go.Sg
open Go.RowKit
def Wr.zero:Wr:=⟨0,none,0,0⟩
def bk (ws:List Wr)(k:Nat):List (Nat × Wr):=(List.range k).map fun j=>(ws.length-1-j,ws.getD (ws.length-1-j) Wr.zero)
def XQ (ws:List Wr)(k:Nat):bk ws (k+1)=bk ws k++[(ws.length-1-k,ws.getD (ws.length-1-k) Wr.zero)]:=by
 simp[bk,Ah]
def Yu (ws:List Wr)(k:Nat):(bk ws k).length=k:=by simp[bk]
variable {a b:Nat}
def lW0 (ws:List Wr)(h:a<=b):bk ws a <+: bk ws b:=by
  induction b with
  | zero => obtain rfl : a = 0 := by omega
            exact Ai
  | succ b ih =>
    by_cases hk:a=b+1
    . subst hk;exact Ai
    . rw[XQ];exact (ih oM).trans (List.prefix_append _ _)
def yV0 (ws:List Wr)(h:a<=b):(bk ws b).take a=bk ws a:=by
 have h1:=lW0 ws h;have h2:=XJ.1 h1;rw[Yu] at h2;exact h2.symm
variable {x:Wr}
def xP0 (ws:List Wr){i k:Nat}(hx:ws[i]?=some x)(hk:ws.length-1-i<k):(i,x) ∈ bk ws k:=by
 have hi:=(gI.1 hx).1;refine N4.2 ⟨ws.length-1-i,by simpa using hk,?_⟩;rw[show ws.length-1-(ws.length-1-i)=i by omega];simp[List.getD,hx]
def pD0 (ws:List Wr){j:Nat}(h:ws[j]?=some x):(ws.flatMap Wr.cells)[2*j]?=some (iI x.at_)/\(ws.flatMap Wr.cells)[2*j+1]?=some (sL x.la x.ll x.lc):=by
 induction ws generalizing j with
 | nil=>simp at h
 | cons y l ih =>
  cases j with
  | zero=>simp at h;subst h;exact⟨rfl,rfl⟩
  | succ j =>
   simp at h;have:=ih h;refine⟨?_,?_⟩
   .rw[show 2*(j+1)=2*j+2 by omega];simpa[dj,Wr.cells] using this.1
   .rw[show 2*(j+1)+1=2*j+1+2 by omega];simpa[dj,Wr.cells] using this.2
end Go.Sg
namespace Go.Proofs.YtgdhaaokolfdoaaGreatDoor
open Go.RowKit Go.Sg Go.Shelf Tryz
attribute [local go_sem] Oper.semAt_some
def lY0 (a:Option Addr)(n c:Nat)(w:w9) :
  cP 174 #[sL a n c] w fun e w'=>e = rT (.func (.func 231) #[] #[pO w])/\w.alloc (.cells #[sL a n c] 149)=w':=by
 go_enter func174,ntmps174;go_wp2
 go_ret;exact⟨rfl,rfl⟩
abbrev MH (ok:Nat->Wr->Prop):={ p:Nat × Wr // ok p.1 p.2 }
abbrev Zn {ok:Nat->Wr->Prop}(x:MH ok):Array Value:=#[iI x.1.1,.agg #[iI x.1.2.at_,sL x.1.2.la x.1.2.ll x.1.2.lc]]
def Hp (bx:Nat)(a:Option Addr)(W W':w9):Prop:=W'.heap[bx]?=W.heap[bx]?/\∀ g,a=some ⟨g,0,none⟩->W'.heap[g]?=W.heap[g]?
variable {w:w9}{base c:Nat}{a:Option Addr}{ws:List Wr}
def rt0 (h:w.ownsRow base 196 2 (sL a ws.length c) ws.length (ws.flatMap Wr.cells)){j:Nat}{x:Wr}(hx:ws[j]?=some x) :
  ∃ g cur,a=some ⟨g,0,none⟩/\w.heap[g]?=some (.cells cur 196)/\cur[2*j]?=some (iI x.at_)/\cur[2*j+1]?=some (sL x.la x.ll x.lc):=by
 obtain⟨hl,⟨h1,h2⟩|⟨g,cap,cur,h1,_,hg,_,_,_,ht⟩⟩:=h
 .have:=(gI.1 hx).1;omega
 .cases h1;obtain⟨k0,k1⟩:=pD0 ws hx;have hj:=(gI.1 hx).1;rw[<- ht] at k0 k1;rw[gT,if_pos oM] at k0 k1;exact⟨g,cur,rfl,hg,by simpa using k0,by simpa using k1⟩
def nv0 {ok:Nat->Wr->Prop}{bx:Nat}(h:w.ownsRow base 196 2 (sL a ws.length c) ws.length (ws.flatMap Wr.cells))(hlen:ws.length<=100000)(hok:∀ i x,ws[i]?=some x->ok i x)(hx:w.heap[bx]?=some (.cells #[sL a ws.length c] 149)) :
  SeqStopsK Fence.wide 9 prog 231 #[pO bx] (Zn (ok:=ok)) (Hp bx a) (fun xs=>xs.map (·.1)=bk ws ws.length) (fun pre=>pre.map (·.1) <+: bk ws ws.length) ws.length w:=fun l J Jx W hW hJ _ hY h0=>by
 have U3:=M0 hx;have C6:=(hW.block bx U3).trans hx;have B6:∀ j x,ws[j]?=some x->∃ g cur,a=some ⟨g,0,none⟩/\W.heap[g]?=some (.cells cur 196)/\cur[2*j]?=some (iI x.at_)/\cur[2*j+1]?=some (sL x.la x.ll x.lc):=fun j x hj=>by
  obtain⟨g,cur,e,hg,r⟩:=rt0 h hj;exact⟨g,cur,e,(hW.block g (M0 hg)).trans hg,r⟩
 have oK:=hid B6;have HX:=hid C6;have cx:=G0 C6 0;simp at cx;clear hx hW h B6 C6;refine callsIn_of_wp func231 rfl trivial ?_ rfl;simp only[ntmps231,zA,lC,cJ,Nat.reduceAdd,Nat.reduceSub,dV,dW,dZ,dX,C7,ak];gi_wp2
 gi_loopw [3] (fun i wr=>∃ k:Nat,k<=ws.length/\i = iI ((ws.length:Int)-1-k)/\(∃ pre:List (MH ok),pre.map (·.1)=bk ws k/\J pre wr)/\Hp bx a W wr) fun i _=>(intOf i+1).toNat
 case atStart=>exact⟨0,C3 _,by simp,⟨[],rfl,h0⟩,rfl,fun _ _=>rfl⟩
 case round =>
  obtain⟨k,hk,rfl,⟨pre,hpre,gY⟩,M4⟩:=hrel;have me:=hid hpre;have ik:pre.length=k:=by have:=congrArg List.length hpre;rw[Yu] at this;simpa using this
  have Sx:=hid ik;clear hpre ik;have cb:=G0 (M4.1.trans HX.o) 0;simp at cb;by_cases hlt:k<ws.length
  .obtain⟨j,hj⟩:∃ j:Nat,ws.length=j+1+k:=⟨ws.length-1-k,oM⟩
   have ej:(ws.length:Int)-1-k=(j:Int):=oM
   obtain⟨x,hx⟩:∃ x,ws[j]?=some x:=⟨_,gE oM⟩
   obtain⟨g,cur,rfl,hg,h1,h2⟩:=oK.o j x hx;have I1:=(M4.2 g rfl).trans hg;have c1:wr.cell? (aA g (j*2))=some (iI x.at_):=(G0 I1 (j*2)).trans (by rw[dU j 2];exact h1);have c2:wr.cell? (aA g (j*2+1))=some (sL x.la x.ll x.lc):=(G0 I1 (j*2+1)).trans (by rw[dU j 2];exact h2);have hs:bk ws (k+1)=bk ws k++[(j,x)]:=by
    rw[XQ,show ws.length-1-k=j by omega];simp[List.getD,hx]
   have HS:=hid hs;have qF:=hok j x hx;have HK:=hid M4;have RJ:=hid ej;have GM:=hid hj;rw[ej];obtain⟨QU,xa,xl,xc⟩:=x;clear hs hg I1 h1 h2 hx M4 ej hj;obtain⟨fn,tmps,assign,body,hy,hR⟩:=hY _ ⟨(j,⟨QU,xa,xl,xc⟩),qF⟩ wr gY (by rw[Sx.o];exact hlt);dsimp only[Zn] at hy;have fK:j<ws.length:=by have:=GM.o;omega
   gi_wp2
   refine hR.mono ?_;rintro e W3 (⟨rfl,o6,Q2⟩|⟨rfl,N3⟩)
   .have rJ:=hid o6;have lY:=hid Q2;clear o6 Q2;gi_wp2
    go_roundw;case rel=>exact⟨k+1,oM,by have:=RJ.o;go_num,⟨_,by rw[HS,B9,me];rfl,rJ.o⟩,lY.1.trans HK.1,fun g' e=>(lY.2 g' e).trans (HK.2 g' e)⟩
    case measure=>simp[intOf]
   .have fV:=hid N3;clear N3;gi_wp2
    refine bodyPost_ret (results_none rfl _ _ _) rfl ?_;exact⟨⟨_,rfl⟩,.inr ⟨_,(by have:=lW0 ws (a:=k+1) (b:=ws.length) (by have:=GM.o;omega);rw[HS] at this;rw[B9,me];exact this),fV.o⟩⟩
  .obtain rfl:k=ws.length:=by omega
   have e1:(ws.length:Int)-1-(ws.length:Int) = -1:=oM
   rw[e1];gi_wp2
   go_end0
   exact⟨⟨_,rfl⟩,.inl ⟨_,me.o,gY⟩⟩
end Go.Proofs.YtgdhaaokolfdoaaGreatDoor
namespace Go.Sg
section
open Go.RowKit Go.ChangeShapes
def fW0 {H:Type}{enc:TypeId × Value->H}{P:Program}(hl:laidOutB P=true){W W':w9}(hb:Below W.heap.size W W') :
  ∀ {ts:List TypeId} {vs:List Value} {ds:List (DataW H)} {ps:List MemPlace},(∀ t ∈ ts,P.readableRec t=true/\t<P.types.size)->(∀ x ∈ ps,x.block<W.heap.size) ->
   DataW.TrodAll enc P W 0 (fun _=>true) true ts vs ds ps->DataW.TrodAll enc P W' 0 (fun b=>decide (b<W)) true ts vs ds ps
 | [],vs,ds,ps,_,_,h=>by obtain⟨rfl,rfl,rfl⟩:=trodAll_nil h;exact h
 | t :: ts,vs,ds,ps,ht,hp,h=>by
  obtain⟨v,vs',d,ds',p,q,rfl,rfl,rfl,h0,r0⟩:=trodAll_cons h;exact⟨p,q,Below.trod hl (ht t sP).1 (ht t sP).2 h0 hb (fun x hx=>hp x (by simp[hx])),
   fW0 hl hb (fun u hu=>ht u (by simp[hu])) (fun x hx=>hp x (by simp[hx])) r0,rfl⟩
def ws0 {H:Type}{enc:TypeId × Value->H}{P:Program}{f:Func}{s:ChangeSpec}{apart:Bool}{W W':w9}{args:Array Value}{ds gs:List (DataW H)}{before:List MemPlace}{tb:TypeId}
  (hl:laidOutB P=true) (We:(f.params.toList.all fun t=>P.readableRec t && decide (t<P.types.size))=true) (hv:s.vars=[]) (hr:f.resultTypes=#[tb]) (hu:P.underlying tb=some .bool)
  (hW:DataW.Whole enc P f.params.toList s.vars apart W args.toList ds gs before) (hb:Below W.heap.size W W') (U9:s.fn H ds={ results:=[.lit (.bool true)],args:=ds }) :
  s.post enc P f apart true false false W args (.bool true) W':=by
 have xL:∀ t ∈ f.params.toList,P.readableRec t=true/\t<P.types.size:=fun t ht=>by
  have:=Qr.1 We t ht;simpa using this
 have B4:=hW;have hlt:=hW.lt;obtain⟨p,q,hA,hV,rfl,_,_⟩:=hW;rw[hv] at hV;cases gs with
 | cons _ _=>simp[DataW.TrodVars] at hV
 | nil =>
  have hq:q=[]:=hV;subst hq;have U9:s.fn H (ds++[])={ results:=[.lit (.bool true)],args:=ds }:=by rw[vL];exact U9
  refine⟨ds,[],_,[],p,[],B4,?_,?_,?_,hb.frame _,fun h=>by cases h⟩
  .rw[U9,hr];exact trodAll_mk1 (shut_bool hu true)
  .rw[U9];exact fW0 hl hb xL (fun x hx=>hlt x (by simp[hx])) hA
  .rw[U9,hv];rfl
end
section
open Go.RowKit Go.ChangeShapes Go.WideShapes Go.Deep
def add_plain (b o k:Nat):(⟨b,o,none⟩:Addr).add k=⟨b,o+k,none⟩:=by
 unfold Addr.add;split <;> simp_all
def mQ0 {w:w9}{a:Addr}{v:Value}(h:w.cell? a=some v):a=⟨a.block,a.off,none⟩:=by
 cases a with
 | mk b o s =>
  cases s with
  | none=>rfl
  | some s=>unfold World.cell? at h;split at h <;> simp at h
section
variable {H:Type}{enc:TypeId × Value->H}{P:Program}{w:w9}
end
end
section
open Go.RowKit
def Dev.sec (D:Dev)(at_:Int):List Int:=match D.loose.reverse.find? (fun y=>decide (y.1=at_)) with
 | some y=>y.2
 | none=>(D.fast at_).getD (List.replicate D.size 0)
variable {D:Dev}{at_:Int}{B:Nat}{W W':w9}
def zI0 {j:Nat}{y:Int × List Int}(hy:D.loose[j]?=some y)(h1:y.1=at_)(h2:∀ (i:Nat) z,j<i->D.loose[i]?=some z->z.1≠at_):D.sec at_=y.2:=by
 have hj:=(gI.1 hy).1;have e:D.loose=D.loose.take j++y :: D.loose.drop (j+1):=by
  conv=>lhs;rw[<- Mb j D.loose]
  congr 1
  rw[FT hj];congr 1
  exact (gI.1 hy).2
 have hf:D.loose.reverse.find? (fun y=>decide (y.1=at_))=some y:=by
  rw[List.find?_eq_some_iff_append];refine⟨by simpa using h1,(D.loose.drop (j+1)).reverse,(D.loose.take j).reverse,?_,?_⟩
  .conv=>lhs;rw[e]
   simp
  .intro a ha;obtain⟨i,hi⟩:=ou.1 (Qs.1 ha);rw[jJ] at hi;have:=h2 (j+1+i) a oM hi;simpa using this
 rw[Dev.sec,hf]
def Iv (h:∀ z ∈ D.loose,z.1≠at_):D.sec at_=(D.fast at_).getD (List.replicate D.size 0):=by
 have hf:D.loose.reverse.find? (fun y=>decide (y.1=at_))=none:=by
  rw[Qm];intro z hz;have:=h z (Qs.1 hz);simpa using this
 rw[Dev.sec,hf]
def gk0 (F:Fq W W'):KeepsFrom B W W':=⟨F.size,fun k o _ hk _=>F.heap hk id⟩
def tN0 {row:Option Nat}{a:Option Addr}{n c:Nat}{bs:List Int}(h:T0 W a n c bs)(hg:W.grownBy W' row)(hr:∀ r,row=some r->B<=r/\∃ o:Obj,W.heap[r]?=some o/\o.isCells=false):T0 W' a n c bs:=by
 refine h.fr (S:=fun b=>some b=row) ⟨hg.os,hg.tape,hg.output,hg.size,fun b hb hn=>hg.block b hb hn⟩ fun b c hb e=>?_
 obtain⟨_,o,ho,hc⟩:=hr b e.symm;rw[hb] at ho;cases ho;cases hc
def T0.zeros {w:w9}{g n cap:Nat}{f:Nat × Nat}(h:w.heap[g]?=some (.cells (List.replicate n (Value.int .u8 0)).toArray 5)):T0 w (some ⟨g,0,none⟩) n cap (List.replicate n 0):=by
 refine⟨⟨by simp,fun i x hx=>⟨g,0,rfl,M0 h,?_⟩⟩,.inr ⟨g,0,_,rfl,h⟩⟩;rw[G0 h];rw[rk] at hx;split at hx
 .cases hx;rename_i hi;simp[hi]
 .cases hx
end
end Go.Sg
namespace Go.Proofs.YtgdhaaokolfdoaaGreatDoor
open Go.RowKit Go.Sg Go.Shelf Tryz
def rX (w:w9):(zeroValue 22).run prog w = .ok (sL none 0 0) w:=by kernel_rfl
variable {w:w9}{base bf bq d:Nat}{D:Dev}
def pz0 (h:Q4 w base d bf bq D)(k:Int) :
  cP 113 #[pO d,iI k] w fun e w'=>∃ a c,e = rT (sL a D.size c)/\(T0 w' a D.size c ((D.fast k).getD (List.replicate D.size 0))/\D.size<=c)/\Fq w w':=by
 obtain⟨lv,hd,_⟩:=h.dc;obtain⟨l,ck,hm,_,hf⟩:=h.fast;have c1:=G0 hd 1;have c2:=G0 hd 2;simp at c1 c2;have hl:=yT (P:=prog) (T:=147) true underlying147 underlying3 rX hm k;have hk:=hf k;have hz:=h.rg.2;cases hlk:Sg.look l k with
 | some v =>
  rw[hlk] at hl hk;cases hfk:D.fast k with
  | none=>rw[hfk] at hk;exact hk.elim
  | some bs =>
   rw[hfk] at hk;obtain⟨b,off,cap,rfl,hb,mN⟩:=hk;have HB:=hi2 hb mN;simp at hl;clear hlk hm hf hd hb mN hfk h;go_enter func113,ntmps113;go_wp2
   go_ret;exact⟨_,_,rfl,HB.o,fR⟩
 | none =>
  rw[hlk] at hl hk;cases hfk:D.fast k with
  | some bs=>rw[hfk] at hk;exact hk.elim
  | none =>
   simp at hl;obtain⟨i0,hi,J1,M1,O1⟩:=info_parts B3;have jb:=fun W=>Ez (P:=prog) 22 5 i0 _ underlying22 hi J1 D.size (by rw[O1];omega) oM W
   rw[M1] at jb;clear hlk hm hf hd hfk h hi J1 M1 O1 hk;go_enter func113,ntmps113;go_wp2
   go_ret;exact⟨_,_,rfl,⟨T0.zeros (f:=(0,0)) (by rw[show (List.replicate D.size (Value.int .u8 0)).toArray=madeCells #[.int .u8 0] D.size by apply Array.toList_inj.1;rw[toList_madeCells_one]];exact han _ _),nR _⟩,fR.alloc _⟩
def zo0 (h:Q4 w base d bf bq D)(k:Int) :
  cP 113 #[pO d,iI k] w fun e w'=>∃ a c,e = rT (sL a D.size c)/\T0 w' a D.size c ((D.fast k).getD (List.replicate D.size 0))/\Fq w w':=
 (pz0 h k).mono fun e w' ⟨a,c,he,hb,F⟩=>⟨a,c,he,hb.1,F⟩
attribute [local go_sem] Oper.semAt_some
def okW (w:w9)(D:Dev)(i:Nat)(x:Wr):Prop:=∃ y,D.loose[i]?=some y/\x.at_=y.1/\T0 w x.la x.ll x.lc y.2
def YN (w W0:w9)(D:Dev)(at_:Nat)(pre:List (MH (okW w D)))(W:w9):Prop:=
 ((W.heap[w.heap.size]?=some (.cells #[iI at_] 3)/\W.heap[w.heap.size+1]?=some (.cells #[sL none 0 0] 22))/\(W.heap[w.heap.size+2]?=some (.cells #[iI 0] 24)/\Fq W0 W))/\∀ y ∈ pre,y.1.2.at_≠(at_:Int)
abbrev QY (w:w9)(a:Option Addr)(n c:Nat)(bs:List Int):Prop:=T0 w a n c bs/\n<=c
def CJ0 (w:w9)(D:Dev)(at_:Nat)(c:Code)(pre:List (MH (okW w D)))(W:w9):Prop:=
 (c = .ret/\∃ dk x,pre=dk++[x]/\x.1.2.at_=(at_:Int)/\(∀ y ∈ dk,y.1.2.at_≠(at_:Int))) /\
  (∃ y:Int × List Int,(∃ x ∈ pre.getLast?,D.loose[x.1.1]?=some y)/\∃ a c,(W.heap[w.heap.size+1]?=some (.cells #[sL a y.2.length c] 22)/\QY W a y.2.length c y.2)/\(W.heap[w.heap.size+2]?=some (.cells #[iI 0] 24)/\Fq w W))
def is0 {n:Nat}{R:Ending->World->Prop}{tmps:Array Value}{DD b:Nat}{W:w9}{a:Option Addr}{l c:Nat}(q1:W.heap[b+1]?=some (.cells #[sL a l c] 22))(q2:W.heap[b+2]?=some (.cells #[iI 0] 24))
  (hK:W.heap[DD]?=some (.deferred (some []))) (hD:b+2<DD) (hR:R (rT (tU #[sL a l c,iI 0])) (W.putObj DD (.deferred none))) (t4:tmps.getD 4 undef = pO (aP (b+1) 0)) (t5:tmps.getD 5 undef = pO (aP (b+1+1) 0)) :
  bodyPostM Fence.wide n prog Tryz.f114 R .ret { tmps:=tmps,defers:=[{ target:=.collected DD,args:=#[] }] } W:=by
 have e1:(W.putObj DD (.deferred none)).cell? (aA (b+1) 0)=some (sL a l c):=by
  have:=G0 ((aC W DD (.deferred none) (b+1) oM).trans q1) 0;simpa using this
 have e2:(W.putObj DD (.deferred none)).cell? (aA (b+1+1) 0)=some (iI 0):=by
  have:=G0 ((aC W DD (.deferred none) (b+2) oM).trans q2) 0;simpa using this
 refine⟨by simp,.inl ⟨_,_,rfl,run_takeDeferred hK,_,?_,hR⟩⟩;rw[Mk] at t4 t5;simp[results,Tryz.results114,go_sem,t4,t5,e1,e2]
def it0 (h:Q4 w base d bf bq D)(A4:D.down=false)(hlen:∀ y ∈ D.loose,y.2.length=D.size)(B5:D.loose.length<=100000)(at_:Nat)(G4:at_<D.C0) :
  cP 114 #[pO d,iI at_] w fun e w'=>∃ a c,e = rT (tU #[sL a D.size c,iI 0])/\QY w' a D.size c (D.sec at_)/\Fq w w':=by
 refine (callsIn_wide (n:=10)).1 ?_;obtain⟨lv,hd,ws,A0,bZ,X7⟩:=h.dc;have c3:=G0 hd 3;simp at c3;have ld:=M0 hd;have lH:∃ a c,lv = sL a ws.length c:=by
  obtain⟨_,⟨h1,h2⟩|⟨g,cap,cur,h1,_⟩⟩:=A0
  .rw[h2];exact⟨_,_,h1⟩
  .exact⟨_,_,h1⟩
 obtain⟨la,lc,rfl⟩:=lH;have rO:=hid (fun W (F:Fq w W)=>pV0 (w:=W) (d:=d) (n:=D.C0) (at_:=at_) (by have:=G0 (F.heap hd id) 0;simpa using this) (by have:=G0 (F.heap hd id) 7;simpa[A4] using this) oM oM);obtain⟨W1,M2⟩:=eX (((w.alloc (.cells #[iI at_] 3)).alloc (.cells #[sL none 0 0] 22)).alloc (.cells #[iI 0] 24))
 obtain⟨x0,x1,x2,F1⟩:=nC M2;have s1:W1.heap.size=w.heap.size+3:=by rw[<- M2];simp
 have y0:=G0 x0 0;have y1:=G0 x1 0;have y2:=G0 x2 0;simp at y0 y1 y2;have d3:W1.cell? (aA d 3)=some (sL la ws.length lc):=(F1.cell (p:=⟨d,3,none⟩) ld id).trans c3;have R6:=hid M2;have HX:=hi2 x0 (aI x1 x2);have E1:=hid F1;have H:=hid h;have HD:=hid hd;have oS:=hid A0;have NB:=hid X7;have Hn:=hid bZ;have Wk:ws.length<=100000:=oM
 clear M2 x0 x1 x2 F1 h hd A0 X7 bZ;refine callsIn_of_wp_marks func114 rfl trivial ?_ rfl;simp only[ntmps114,zA,lC,cJ,Nat.reduceAdd,Nat.reduceSub,dV,dW,dZ,dX,C7,ak];gi_wp2_with (fail)
 rw[R6];refine (callsIn_wide.2 (rO _ E1.o)).mono ?_;rintro e w' ⟨rfl,rfl⟩;gi_wp2_with (fail)
 refine (callsIn_wide.2 (lY0 la ws.length lc _)).mono ?_;rintro e w' ⟨rfl,rfl⟩;gi_wp2_with (fail)
 obtain⟨W0,B4⟩:=eX (W1.alloc (.cells #[sL la ws.length lc] 149))
 have F10:=fA B4
 have U3:W0.heap[w.heap.size+3]?=some (.cells #[sL la ws.length lc] 149):=by rw[<- B4,<- s1];exact han _ _
 have bu:=E1.trans F10 nI;have hsz:W0.heap.size=w.heap.size+4:=by rw[<- B4];simp;omega
 have KF:W0.ownsRow base 196 2 (sL la ws.length lc) ws.length (ws.flatMap Wr.cells):=K3 oS bu fun _ _ _ h=>h;have pw:YN w W0 D at_ [] W0:=⟨⟨⟨F10.heap HX.1 id,F10.heap HX.2.1 id⟩,F10.heap HX.2.2 id,fR⟩,fun _ h=>by cases h⟩;have M8:∀ g,la=some ⟨g,0,none⟩->g<w.heap.size:=fun g e=>by
  obtain⟨_,⟨h1,h2⟩|⟨g',cap,cur,h1,_,hg,_⟩⟩:=oS.o
  .obtain⟨h3,_,_⟩:=Value.slice.inj h1;rw[h3] at e;cases e
  .obtain⟨h3,_,_⟩:=Value.slice.inj h1;rw[h3] at e;cases e;exact M0 hg
 simp only[B4];clear y0 y1 y2 d3 c3;have hok:∀ i x,ws[i]?=some x->okW w D i x:=fun i x hx=>by
  have hi:=(gI.1 hx).1;have hy:D.loose[i]?=some (D.loose[i]'(by have:=Hn.o;omega)):=gE _;exact⟨_,hy,(NB i x _ hx hy).1,(NB i x _ hx hy).2.1⟩
 refine wpIn_rangeFunc_ownH (F:=Fence.wide) rfl oM (gf:=231) (lb:=#[pO (aP (w+3) 0)]) rfl trivial (enters_of func231 kF rfl)
  (nv0 KF Wk hok U3) (fun h k=>⟨k.1.trans h.1,fun g e=>(k.2 g e).trans (h.2 g e)⟩) (fun W l o o' hl _ _ _=>⟨aC _ _ _ _ oM,fun g e=>aC _ _ _ _ (by have:=M8 g e;omega)⟩) (Below.refl _ _) (fun _=>rfl)
  (YN w W0 D at_)
  (CJ0 w D at_)
  (U6 (U6 (U6 (gU _ _ _ fun _=>.inl rfl) (gU _ _ _ fun _=>.inl rfl)) (U6 (gU _ _ _ fun _=>.inl rfl) (oY oM))) (eR _ _))
  (fun c=>U6 (eR _ _) (sj fun y=>U6 (eR _ _) (sj fun a=>sj fun cc=>U6 (U6 (gU _ _ _ fun _=>.inl rfl) fun _ _ _ _ hs hg hr=>⟨tN0 hs.1 hg hr,hs.2⟩) (U6 (gU _ _ _ fun _=>.inl rfl) (oY oM)))))
  pw
  (fun x a' W=>∃ Bx,(w.heap.size+4<=Bx/\W.heap[Bx]?=some (.cells #[iI x.1.2.at_,sL x.1.2.la x.1.2.ll x.1.2.lc] 196))/\a'={ tmps:=#[pO d,iI at_,undef,pO w,pO (aP (w+1) 0),pO (aP (w+1+1) 0),iI 0,undef,pO (aP Bx 0),pO d,iI at_,iI 0,iI 0,bO false,undef,pO d,pO d,pO (aP d 3),sL la ws.length lc,.func (.func 231) #[] #[pO (aP (w+3) 0)],iI x.1.1,.agg #[iI x.1.2.at_,sL x.1.2.la x.1.2.ll x.1.2.lc],undef,undef,undef,undef,undef,undef,undef,undef,undef,undef,undef,undef],defers:=[] })
  (fun x a'=>sj fun Bx=>U6 (U6 (eR _ _) (gU _ _ _ fun _=>.inl rfl)) (eR _ _))
  ?assign ?body ?done ?stop
 case assign =>
  rintro l pre x W K hI hK;have kG:=hI.1.2.2.size;have FN:Fq W (W.alloc (.cells #[iI x.1.2.at_,sL x.1.2.la x.1.2.ll x.1.2.lc] 196)):=fR.alloc _;have HI:=hid hI;have HK:=hid hK;clear hI hK;gi_wp2
  obtain⟨⟨⟨h1,h2⟩,h3,hF⟩,h4⟩:=HI.o;refine HK _ _ ((KeepsOthers.alloc _ _).from _) ⟨FN.block _ oM id,fun g e=>FN.block _ (by have:=M8 g e;omega) id⟩ ⟨⟨⟨FN.heap h1 id,FN.heap h2 id⟩,FN.heap h3 id,hF.trans FN nI⟩,h4⟩ ⟨W.heap.size,⟨oM,han _ _⟩,rfl⟩
 case body =>
  rintro l pre ⟨⟨i,⟨QU,xa,xl,xc⟩⟩,hp⟩ a' W hl ⟨r,hr⟩ ⟨⟨⟨h1,h2⟩,h3,hF⟩,h4⟩ ⟨Bx,⟨OX,pE⟩,rfl⟩ hlt;have hp':=hp;obtain⟨y,hy,DB,dR⟩:=hp';simp only at hy DB dR pE;have z0:=G0 h1 0;have z1:=G0 pE 0;have z2:=G0 pE 1;simp at z0 z1 z2;have u1:=G0 h2 0;have u2:=G0 h3 0;have f1:=X2 h2 0;have f2:=X2 h3 0;simp at u1 u2;have jq:=hi2 h1 (aI h2 (aI h3 (aI hF h4)));have HY:=hi2 hy (aI DB dR);have HBX:=hid pE;clear h1 h2 h3 hF h4 hy DB dR pE;by_cases hx:QU=at_
  .subst hx;have xB:xl<=512:=by
    have h1:=hlen y (gM HY.1);have h2:=HY.2.2.len;have h3:=H.rg.2.2;omega
   have ZP:=hid hp;have Uy:=(HY.2.2.fr (S:=fun _=>False) (bu.trans jq.2.2.2.1 nI) fun _ _ _ h=>h);have HC:=hid (BF Uy.slb oM);have nu:=hid Uy;clear Uy;gi_wp2_with (fail)
   refine (CallsIn.inRound l (callsIn_wide.2 HC.o)).mono ?_;rintro e w2 ⟨a',c',rfl,L4,F2⟩;have lW:=jq.2.2.2.1.size;obtain⟨k1,k2,k3,k4,k5⟩:=jq.o;have v1:=G0 (F2.heap k2 id) 0;have v2:=G0 (F2.heap k3 id) 0;have g1:=X2 (F2.heap k2 id) 0;have g2:=X2 (F2.heap k3 id) 0;simp at v1 v2;have H2:=hi2 L4 F2;have K2:=hi2 (F2.heap k2 id) (F2.heap k3 id);clear L4 F2 k1 k2 k3 k4 k5;gi_wp2
   obtain⟨k1,k2,k3,k4,k5⟩:=jq.o;obtain⟨L4,F2⟩:=H2.o;have kJ:y.2.length=xl:=HY.2.2.len;refine⟨(gk0 F2).trans (((KeepsOthers.setCell _ _ _).trans (KeepsOthers.setCell _ _ _)).from _),⟨rfl,pre,_,rfl,rfl,k5⟩,y,⟨_,by simp;rfl,HY.1⟩,a',c',⟨?_,?_⟩,?_,?_⟩
   .rw[fY _ _ _ _ sP,hsc _ _ _ _ K2.1,kJ];rfl
   .rw[kJ];refine⟨L4.1.fr (S:=fun b=>b=w.heap.size+1\/b=w.heap.size+2) (((Fr.refl (fun b=>b=w.heap.size+1\/b=w.heap.size+2) _).setCell (a:=⟨w+1,0,none⟩) (fun _=>.inl rfl) _).setCell (a:=⟨w+1+1,0,none⟩) (fun _=>.inr rfl) _) fun b c hc e=>?_,L4.2⟩;rcases e with rfl|rfl
    .rw[K2.1] at hc;cases hc
    .rw[K2.2] at hc;cases hc
   .rw[hsc (w:=w2.setCell (aA (w+1) 0) _) _ _ _ ((fY _ _ _ _ sP).trans K2.2)];rfl
   .exact (((bu.trans k4 nI).trans F2 nI).U2 oM _).U2 oM _
  .have hd:(QU == (at_:Int))=false:=by simpa using hx
   have ZP:=hid hx;gi_wp2
   obtain⟨k1,k2,k3,k4,k5⟩:=jq.o;refine⟨KeepsFrom.refl _ _,⟨rfl,fun _ _=>rfl⟩,⟨⟨k1,k2⟩,k3,k4⟩,fun z hz=>?_⟩;rcases X5.1 hz with hz|hz
   .exact k5 z hz
   .simp at hz;subst hz;exact ZP
 case done =>
  rintro DD ys W hD jG ⟨⟨⟨h1,h2⟩,h3,hF⟩,h4⟩ hK;have z0:=G0 h1 0;have u1:=G0 h2 0;have u2:=G0 h3 0;have f1:=X2 h2 0;have f2:=X2 h3 0;simp at z0 u1 u2;have lg:=bu.trans hF nI;have HM:=hid fun W' (F:Fq w W')=>zo0 (H.fr F id id id fun _ _ _ _ _ h=>h) at_;have dP:D.sec at_=(D.fast at_).getD (List.replicate D.size 0):=by
   refine Iv fun z hz=>?_
   obtain⟨i,hi⟩:=ou.1 hz;have gn:=(gI.1 hi).1;have Lt:ws[i]?=some (ws[i]'(by have:=Hn.o;omega)):=gE _;have hm:=xP0 ws (k:=ws.length) Lt (by have:=Hn.o;omega);rw[<- jG] at hm;obtain⟨q,hq,VM⟩:=N4.1 hm;have:=h4 q hq;rw[VM] at this;rw[<- (NB i _ z Lt hi).1];exact this
  have SG:=hid dP;have HB:=hi2 h2 (aI h3 (aI lg hK));clear h1 h2 h3 hF h4 jG dP hK;gi_wp2_with (fail)
  refine (callsIn_wide.2 (HM _ lg)).mono ?_;rintro e w2 ⟨a',c',rfl,L4,F2⟩;have dA:=H.rg.2.2;have HC:=hid (BF L4.slb oM);have bD:=hid F2;clear L4 F2 z0 u1 u2 f1 f2;gi_wp2_with (fail)
  refine (callsIn_wide.2 HC.o).mono ?_;rintro e w3 ⟨a3,c3,rfl,P5,F3⟩;have Z9:=bD.trans F3 nI;obtain⟨k2,k3,k4,k5⟩:=HB.o;have j2:=Z9.heap k2 id;have j3:=Z9.heap k3 id;have u1:=G0 j2 0;have u2:=G0 j3 0;have f1:=X2 j2 0;have f2:=X2 j3 0;simp at u1 u2;have HJ:=hi2 j2 (aI j3 (aI (k4.trans Z9 nI) (aI (Z9.heap k5 id) P5)));clear k2 k3 k4 k5 j2 j3 P5 F3 Z9;gi_wp2
  obtain⟨j2,j3,j4,j5,P5⟩:=HJ.o;obtain⟨W3,S5⟩:=eX ((w3.setCell (aA (w+1) 0) (sL a3 D.size c3)).setCell (aA (w+1+1) 0) (iI 0))
  have q1:W3.heap[w.heap.size+1]?=some (.cells #[sL a3 D.size c3] 22):=by
   rw[<- S5,fY _ _ _ _ sP,hsc _ _ _ _ j2];rfl
  have q2:W3.heap[w.heap.size+2]?=some (.cells #[iI 0] 24):=by
   rw[<- S5,hsc (w:=w3.setCell (aA (w+1) 0) _) _ _ _ ((fY _ _ _ _ sP).trans j3)];rfl
  have Rm:Fr (fun b=>b=w.heap.size+1\/b=w.heap.size+2) w3 W3:=by
   rw[<- S5];exact ((Fr.refl (fun b=>b=w.heap.size+1\/b=w.heap.size+2) _).setCell (a:=⟨w+1,0,none⟩) (fun _=>.inl rfl) _).setCell (a:=⟨w+1+1,0,none⟩) (fun _=>.inr rfl) _
  have q3:=Rm.heap j5 oM;have q4:QY W3 a3 D.size c3 (D.sec at_):=by
   rw[SG];refine⟨P5.1.fr Rm fun b c hc e=>?_,P5.2⟩;rcases e with rfl|rfl
   .rw[j2] at hc;cases hc
   .rw[j3] at hc;cases hc
  rw[S5];have FP:Fr (fun b=>b=DD) W3 (W3.putObj DD (.deferred none)):=(Fr.refl (fun b=>b=DD) _).putObj (fun _=>rfl) _;refine is0 (b:=w.heap.size) q1 q2 q3 oM ⟨a3,c3,rfl,⟨q4.1.fr FP fun b c hc e=>?_,q4.2⟩,?_⟩ rfl rfl
  .rw[e,q3] at hc;cases hc
  .exact (j4.trans (S':=fun b=>b=w.heap.size+1\/b=w.heap.size+2) Rm fun b hb h=>oM).trans (S':=fun b=>b=DD) FP fun b hb h=>oM
 case stop =>
  rintro DD c pre W hD mF ⟨⟨rfl,dk,x,rfl,hx,zV⟩,y,⟨x',C6,hy⟩,a',c',⟨h2,hb⟩,h3,hF⟩ hK;obtain rfl:x=x':=by simpa using C6
  have dP:D.sec at_=y.2:=by
   have hm:=XJ.1 mF;have hlen2:(dk++[x]).length<=ws.length:=by have:=mF.length_le;rw[Yu] at this;simpa using this
   rw[yV0 ws (by simpa using hlen2)] at hm;simp only[Z8,lA,lC,cJ,B9,qf,xX] at hm;rw[XQ] at hm;obtain⟨vw,ew⟩:=List.append_inj' hm rfl;have Dg:=(List.cons.inj ew).1;have hxi:x.1.1=ws.length-1-dk.length:=by rw[Dg]
   have xA:dk.length<ws.length:=by simp at hlen2;omega
   refine zI0 hy ?_ ?_
   .obtain⟨y',hy',e1,_⟩:=x.2;rw[hy] at hy';cases hy';rw[<- e1];exact hx
   .intro i z hi hz;have gn:=(gI.1 hz).1;have Lt:ws[i]?=some (ws[i]'(by have:=Hn.o;omega)):=gE _;have aW:=xP0 ws (k:=dk.length) Lt (by have:=Hn.o;omega);rw[<- vw] at aW;obtain⟨q,hq,VM⟩:=N4.1 aW;have:=zV q hq;rw[VM] at this;rw[<- (NB i _ z Lt hz).1];exact this
  have kJ:=hlen y (gM hy);rw[kJ] at h2 hb;have FP:Fr (fun b=>b=DD) W (W.putObj DD (.deferred none)):=(Fr.refl (fun b=>b=DD) _).putObj (fun _=>rfl) _;have HS:=hi2 dP (aI h2 (aI hb (aI h3 (aI hF (aI hK FP)))));clear dP h2 hb h3 hF hK FP mF hx zV hy kJ C6;gi_wp2
  obtain⟨dP,h2,hb,h3,hF,hK,FP⟩:=HS.o;refine is0 (b:=w.heap.size) h2 h3 hK oM ⟨a',c',rfl,?_,?_⟩ rfl rfl
  .rw[dP];refine⟨hb.1.fr FP fun b c hc e=>?_,hb.2⟩;rw[e,hK] at hc;cases hc
  .exact hF.trans (S':=fun b=>b=DD) FP fun b hb h=>oM
def qh0 (h:Q4 w base d bf bq D)(A4:D.down=false)(hlen:∀ y ∈ D.loose,y.2.length=D.size)(B5:D.loose.length<=100000)(at_:Nat)(G4:at_<D.C0) :
  cP 114 #[pO d,iI at_] w fun e w'=>∃ a c,e = rT (tU #[sL a D.size c,iI 0])/\T0 w' a D.size c (D.sec at_)/\Fq w w':=
 (it0 h A4 hlen B5 at_ G4).mono fun e w' ⟨a,c,he,hb,F⟩=>⟨a,c,he,hb.1,F⟩
end Go.Proofs.YtgdhaaokolfdoaaGreatDoor
namespace Go.Sg
open Go.RowKit
def wq0 (k:Nat):∀ n,leB n (k+1)=leB n k++[((n/256^k % 256:Nat):Int)]:=by
 induction k with
 | zero=>intro n;simp[leB]
 | succ k ih =>
  intro n;have:=ih (n/256);rw[leB,this,leB];simp only[ak];rw[Ak,dB,dU 256]
def kV (k:Nat):∀ n,∀ x ∈ leB n k,0<=x/\x<256:=by
 induction k with
 | zero=>intro n x hx;cases hx
 | succ k ih =>
  intro n x hx;simp only[leB,d9] at hx;rcases hx with rfl|hx
  .omega
  .exact ih _ x hx
def nbytes (n k j:Nat):List Int:=leB n j++List.replicate (k-j) 0
def qB0 (n k j:Nat)(h:j<k):(nbytes n k j).set j ((n/256^j % 256:Nat):Int)=nbytes n k (j+1):=by
 obtain⟨d,hd⟩:∃ d,k-j=d+1:=⟨k-j-1,oM⟩
 have e:k-(j+1)=d:=oM
 rw[nbytes,nbytes,hd,e,wq0,List.replicate_succ,dD];rw[List.set_append_right _ _ (by rw[e8];exact nR _),e8,DT];rfl
def zg (bs:List Int):Array Value:=(bs.map (Value.int .u8)).toArray
def rc0 (bs:List Int)(j:Nat)(x:Int):(zg bs).setIfInBounds j (.int .u8 x)=zg (bs.set j x):=by simp[zg]
variable {w:w9}{base n:Nat}{bs:List Int}
def T0.cells {g c:Nat}(h:w.heap[g]?=some (.cells (zg bs) 5))(hn:bs.length=n):T0 w (some ⟨g,0,none⟩) n c bs:=by
 refine⟨⟨hn,fun i x hx=>⟨g,0,rfl,M0 h,?_⟩⟩,.inr ⟨g,0,_,rfl,h⟩⟩;rw[G0 h];simp[zg,hx]
structure bQ (w:w9)(base r:Nat)(bs:List Int)(limit:Nat):Prop where
 ex:∃ v,w.heap[r]?=some (.cells #[v,iI limit,bO false] 343)/\w.ownsRow base 5 1 v bs.length (bs.map (Value.int .u8))
 ge:base<=r
 room:bs.length<=limit/\limit<=65536
def bQ.fr {S:Nat->Prop}{w':w9}{r:Nat}{limit:Nat}(h:bQ w base r bs limit)(F:Fr S w w')(hS:∀ b,base<=b->b<w.heap.size->¬ S b):bQ w' base r bs limit:=by
 obtain⟨⟨v,hr,A0⟩,hg,hm⟩:=h;refine⟨⟨v,F.heap hr (hS r hg (M0 hr)),?_⟩,hg,hm⟩;obtain⟨hl,h0|⟨g,cap,cur,hv,hb,xw,rest⟩⟩:=A0
 .exact⟨hl,.inl h0⟩
 .exact⟨hl,.inr ⟨g,cap,cur,hv,hb,F.heap xw (hS g hb (M0 xw)),rest⟩⟩
def Oi {v:Value}(h:w.ownsRow base 5 1 v n (bs.map (Value.int .u8))):∃ a c,v = sL a n c/\uN w a n c bs/\(a=none\/∃ g,a=some ⟨g,0,none⟩/\base<=g):=by
 have h':=h;obtain⟨hl,⟨rfl,rfl⟩|⟨g,cap,cur,rfl,hb,hg,_⟩⟩:=h'
 .have:bs=[]:=vH (by simpa using hl);subst this;exact⟨none,0,rfl,(T0.nil w).slb,.inl rfl⟩
 .obtain⟨g',cap',c',e,I1,hB⟩:=Ob h (by intro e;cases e);cases e;exact⟨_,_,rfl,⟨hB,.inr ⟨_,rfl⟩⟩,.inr ⟨g,rfl,hb⟩⟩
end Go.Sg
namespace Go.Proofs.YtgdhaaokolfdoaaGreatDoor
open Go.RowKit Go.Sg Tryz
def tX0 (n k:Nat)(hk:k<=8)(hn:n<18446744073709551616)(w:w9) :
  cP 238 #[iU n,iI k] w fun e w'=>e = rT (sL w k k)/\T0 w' (some ⟨w,0,none⟩) k k (Sg.leB n k)/\Fq w w':=by
 obtain⟨i0,hi,J1,M1,O1⟩:=info_parts B3;have jb:=fun W=>Ez (P:=prog) 22 5 i0 _ underlying22 hi J1 k (by rw[O1];omega) oM W
 rw[M1] at jb;clear hi J1 M1 O1;go_enter func238,ntmps238;go_wp2
 go_loopw [0,11] (fun m i wr=>∃ j:Nat,j<=k/\i = iI j/\m = iU ((n/256^j:Nat):Int)/\wr.heap[w.heap.size]?=some (.cells (zg (nbytes n k j)) 5)/\Fq w wr) fun _ i _=>k-(intOf i).toNat
 case atStart =>
  refine⟨0,C3 _,rfl,by simp,?_,fR.alloc _⟩;rw[han];congr 2
  apply Array.toList_inj.1;rw[toList_madeCells_one];simp[zg,nbytes,Sg.leB]
 case round =>
  obtain⟨j,hj,rfl,rfl,hg,hF⟩:=hrel;by_cases hlt:j<k
  .have hlen:(nbytes n k j).length=k:=by simp[nbytes,e8];omega
   have cj:wr.cell? (aA w j)=some (.int .u8 ((nbytes n k j).getD j 0)):=by
    rw[G0 hg];simp[zg,List.getD,gE (show j<(nbytes n k j).length by omega)]
   have zj:=fun o=>X2 hg o
   have hlg:=M0 hg;have Vi:decide (j<k)=true:=by simpa using hlt
   have HG:=hid hg;have HF:=hid hF;have En:=hid hlen;clear hg hF hlen;go_wp2
   go_roundw;case rel =>
    refine⟨j+1,oM,by go_num,?_,?_,?_⟩
    .rw[dB,<- Ak];simp
    .rw[hsc _ _ _ _ HG,show ((n:Int)/256^j % 256)=((n/256^j % 256:Nat):Int) by simp,rc0,qB0 n k j hlt]
    .exact HF.U2 (nR _) _
   case measure=>exact wM
  .obtain rfl:j=k:=by omega
   go_wp2
   go_ret;have e:nbytes n j j=Sg.leB n j:=by simp[nbytes]
   rw[e] at hg;exact⟨rfl,T0.cells hg (e8 _ _),hF⟩
def Tm (limit:Nat)(hl:limit<=65536)(w:w9) :
  cP 178 #[iI limit] w fun e w'=>e = rT (pO w)/\bQ w' w.heap.size w.heap.size [] limit/\Fq w w':=by
 go_enter func178,ntmps178;go_wp2
 go_ret;exact⟨rfl,⟨⟨_,han _ _,World.ownsRow_nil _ _ _ _⟩,nR _,C3 _,hl⟩,fR.alloc _⟩
variable {w:w9}{base c limit n r:Nat}{bs xs:List Int}{a:Option Addr}
def jL0 {size:Nat}{v:Value}{xs:List Value}(h:w.ownsRow base 5 size v n xs){g:Nat}(hg:some g=v.ownBlock):base<=g/\∃ c,w.heap[g]?=some (.cells c 5):=by
 obtain⟨_,⟨rfl,_⟩|⟨g',cap,cur,rfl,hb,hh,_⟩⟩:=h
 .cases hg
 .cases hg;exact⟨hb,_,hh⟩
def wJ (w:w9)(base r b:Nat):Prop:=base<=b/\(b=r\/∃ c,w.heap[b]?=some (.cells c 5))
def uw0 (h:bQ w base r bs limit)(Z0:base<=w){b off:Nat}(hx:T0 w (some ⟨b,off,none⟩) n c xs)(hroom:bs.length+n<=limit) :
  cP 237 #[pO r,sL (aP b off) n c] w fun e w'=>e = rT (tU #[])/\bQ w' base r (bs++xs) limit/\Fr (wJ w base r) w w':=by
 obtain⟨i0,A3,J1,M1,O1⟩:=info_parts B3;obtain⟨⟨v,hr,A0⟩,cE,jD,xD⟩:=h;obtain⟨a,cv,rfl,_,_⟩:=Oi A0;have c0:=G0 hr 0;have c1:=G0 hr 1;have c2:=G0 hr 2;have cz:=fun o=>X2 hr o
 simp at c0 c1 c2;have lt:=M0 hr;have hd:decide (((limit:Int)-(bs.length:Int))<(n:Int))=false:=by simp;omega
 have ic:¬ ((limit:Int)-(bs.length:Int))<(n:Int):=oM
 have dS:=hx.len;have HR:=hid hr;have HO:=hid A0;have HX:=hid hx;have HXL:=hid dS;clear hr A0 hx dS;go_enter func237,ntmps237;go_wp2
 go_region
 obtain⟨W1,M2⟩:=eX ((w.setCell (aA r 2) (bO false)).drew)
 rw[M2];have F1:Fr (fun b=>b=r) w W1:=by rw[<- M2];exact ((Fr.refl (fun b=>b=r) _).setCell (a:=⟨r,2,none⟩) (fun _=>rfl) _).drew
 have aY:W1.heap[r]?=some (.cells #[sL a bs.length cv,iI limit,bO false] 343):=by
  rw[<- M2];exact (hsc _ _ _ _ HR.o)
 have E3:W1.heap.size=w.heap.size:=by rw[<- M2];simp
 have yj:∀ g cs,w.heap[g]?=some (.cells cs 5)->¬ g=r:=fun g cs hg e=>by rw[e,HR] at hg;cases hg
 have K1:W1.ownsRow base 5 1 (sL a bs.length cv) bs.length (bs.map (Value.int .u8)):=K3 HO F1 yj;have hx1:T0 W1 (some ⟨b,off,none⟩) n c xs:=HX.fr F1 yj;have e0:=G0 aY 0;have e1:=G0 aY 1;have e2:=G0 aY 2;have ez:=fun o=>X2 aY o
 simp at e0 e1 e2;have DH:=M0 aY;have hcell:∀ (j:Nat) (u:Value),(xs.map (Value.int .u8))[j]?=some u->W1.cell? ((⟨b,off,none⟩:Addr).add j)=some u:=fun j u hu=>by
  rw[gP] at hu;cases hx:xs[j]? with
  | none=>rw[hx] at hu;cases hu
  | some x =>
   rw[hx] at hu;cases hu;obtain⟨b',off',e,hb,hc⟩:=hx1.Y6.at_ j x hx;cases e;rw[addr_add];exact hc
 have HC:=hid hcell;have cO:=hid K1;have SV:=hid hx1;have bF:=hid aY;have E1:=hid F1;clear hcell K1 hx1 aY F1 M2 c0 c1 c2 cz yj;go_wp2_with (at_builtin;refine wpList_append_own_at _ rfl (.tmp 37) (.tmp 38) 22 rfl base 5 i0 _ 1 1 underlying22 A3 J1 M1 O1 rfl dC _ _ _ rfl cO ⟨b,off,none⟩ n c (xs.map (Value.int .u8)) rfl (by have:=HXL.o;simpa using this) HC.o ?c2 ?c3 ?c4 oM ?_)
 case c2=>intro u hu;obtain⟨x,_,rfl⟩:=N4.1 hu;rfl
 case c3=>simp[maxLen];omega
 case c4=>omega
 intro v1 w2 N0 R0 Y4 G4;have jE:w2.heap[r]?=some (.cells #[sL a bs.length cv,iI limit,bO false] 343):=by
  refine (R0.block r DH fun e=>?_).trans bF.o;obtain⟨_,cs,hc⟩:=jL0 cO e;rw[bF] at hc;cases hc
 have F2:Fr (fun b=>base<=b/\∃ c,W1.heap[b]?=some (.cells c 5)) W1 w2:=⟨R0.os,R0.tape,R0.output,R0.size,fun b hb hn=>R0.block b hb fun e=>hn (jL0 cO e)⟩;obtain⟨a2,c2',rfl,_,_⟩:=Oi (bs:=bs++xs) (by simpa using N0);have H2:=hi2 N0 (aI jE F2);have x0:=G0 jE 0;have xz:=fun o=>X2 jE o
 simp at x0;have lt2:=M0 jE;clear N0 R0 Y4 G4 jE F2;go_wp2
 go_end0
 obtain⟨N0,jE,F2⟩:=H2.o;have F3:Fr (fun b=>b=r) w2 (w2.setCell r (sL a2 (bs.length+n) c2')):=(Fr.refl (fun b=>b=r) _).setCell (a:=⟨r,0,none⟩) (fun _=>rfl) _;have hlen:(bs++xs).length=bs.length+n:=by rw[lA,HXL]
 refine⟨rfl,⟨⟨_,hsc _ _ _ _ jE,?_⟩,cE,by rw[hlen];omega,xD⟩,?_⟩
 .rw[hlen,B9];exact K3 N0 F3 (fun g cs hg e=>by rw[e,jE] at hg;cases hg)
 .exact ((E1.mono (S':=wJ w base r) fun b _ e=>⟨by rw[e];exact cE,.inl e⟩).trans F2 (fun b hb h=>⟨h.1,by
   by_cases lu:b=r
   .exact .inl lu
   .obtain⟨c,hc⟩:=h.2;exact .inr ⟨c,(E1.block b hb lu).symm.trans hc⟩⟩)).trans F3 (fun b _ e=>⟨by rw[e];exact cE,.inl e⟩)
def uy0 (h:bQ w base r bs limit) :
  cP 237 #[pO r,sL none 0 0] w fun e w'=>e = rT (tU #[])/\bQ w' base r bs limit/\Fr (wJ w base r) w w':=by
 obtain⟨⟨v,hr,A0⟩,cE,jD,xD⟩:=h;obtain⟨a,cv,rfl,_,_⟩:=Oi A0;have c0:=G0 hr 0;have c1:=G0 hr 1;have c2:=G0 hr 2;have cz:=fun o=>X2 hr o
 simp at c0 c1 c2;have lt:=M0 hr;have hd:decide (((limit:Int)-(bs.length:Int))<0)=false:=by simp;omega
 have ic:¬ ((limit:Int)-(bs.length:Int))<0:=oM
 have HR:=hid hr;have HO:=hid A0;clear hr A0;go_enter func237,ntmps237;go_wp2
 go_region
 obtain⟨W1,M2⟩:=eX ((w.setCell (aA r 2) (bO false)).drew)
 rw[M2];have F1:Fr (fun b=>b=r) w W1:=by rw[<- M2];exact ((Fr.refl (fun b=>b=r) _).setCell (a:=⟨r,2,none⟩) (fun _=>rfl) _).drew
 have aY:W1.heap[r]?=some (.cells #[sL a bs.length cv,iI limit,bO false] 343):=by
  rw[<- M2];exact (hsc _ _ _ _ HR.o)
 have yj:∀ g cs,w.heap[g]?=some (.cells cs 5)->¬ g=r:=fun g cs hg e=>by rw[e,HR] at hg;cases hg
 have K1:W1.ownsRow base 5 1 (sL a bs.length cv) bs.length (bs.map (Value.int .u8)):=K3 HO F1 yj;have e0:=G0 aY 0;have e2:=G0 aY 2;have ez:=fun o=>X2 aY o
 simp at e0 e2;have DH:=M0 aY;obtain⟨i0,A3,_⟩:=info_parts B3;have cO:=hid K1;have bF:=hid aY;have E1:=hid F1;clear K1 aY F1 M2 c0 c1 c2 cz yj;go_wp2_with (at_builtin;refine wpList_append_own_none rfl (.tmp 37) (.tmp 38) 22 rfl base 5 i0 1 underlying22 A3 _ _ _ rfl cO rfl ?_)
 go_end0
 have F3:Fr (fun b=>b=r) W1 (W1.setCell r (sL a bs.length cv)):=(Fr.refl (fun b=>b=r) _).setCell (a:=⟨r,0,none⟩) (fun _=>rfl) _;refine⟨rfl,⟨⟨_,hsc _ _ _ _ bF.o,?_⟩,cE,jD,xD⟩,?_⟩
 .exact K3 cO F3 (fun g cs hg e=>by rw[e,bF] at hg;cases hg)
 .exact (E1.mono (S':=wJ w base r) fun b _ e=>⟨by rw[e];exact cE,.inl e⟩).trans F3 (fun b _ e=>⟨by rw[e];exact cE,.inl e⟩)
def pX0 (h:bQ w base r bs limit)(Z0:base<=w)(hx:T0 w a n c xs)(hroom:bs.length+n<=limit) :
  cP 237 #[pO r,sL a n c] w fun e w'=>e = rT (tU #[])/\bQ w' base r (bs++xs) limit/\Fr (wJ w base r) w w':=by
 rcases hx.at_ with⟨rfl,rfl,rfl⟩|⟨b,off,cs,rfl,_⟩
 .have:xs=[]:=vH hx.len;subst this;rw[vL];exact uy0 h
 .exact uw0 h Z0 hx hroom
def BC (h:bQ w base r bs limit)(Z0:base<=w)(n k:Nat)(hk:k=1\/k=2\/k=4\/k=8)(hn:n<18446744073709551616)(hroom:bs.length+k<=limit) :
  cP 179 #[pO r,iU n,iI k] w fun e w'=>e = rT (tU #[])/\bQ w' base r (bs++Sg.leB n k) limit/\Fr (wJ w base r) w w':=by
 have HM:=hid fun W=>xB0 k hk W;have HN:=hid (tX0 n k oM hn w);have H:=hid h;clear h hk;go_enter func179,ntmps179;go_wp2_with (go_at_call 236;refine (HM _).mono ?_;rintro e w' ⟨rfl,rfl⟩)
 refine HN.mono ?_;rintro e w1 ⟨rfl,hb,F1⟩;have E1:=hid F1;have HR:=hid (pX0 (H.fr F1 fun _ _ _ h=>h) (nT Z0 F1.size) hb hroom);clear hb F1;go_wp2_with fail
 refine HR.mono ?_;rintro e w2 ⟨rfl,hW,F2⟩;have Y0:=hi2 hW F2;clear hW F2;go_wp2
 go_end0
 exact⟨rfl,Y0.1,(E1.mono (S':=wJ w base r) nE).trans Y0.2 fun b hb h=>⟨h.1,h.2.imp id fun⟨c,hc⟩=>⟨c,(E1.block b hb id).symm.trans hc⟩⟩⟩
def ux0 (h:bQ w base r bs limit)(Z0:base<=w)(hx:T0 w a n c xs)(hroom:bs.length+n<=limit) :
  cP 237 #[pO r,sL a n c] w fun e w'=>e = rT (tU #[])/\bQ w' base r (bs++xs) limit/\Fr (fun b=>base<=b) w w':=
 (pX0 h Z0 hx hroom).mono fun e w' ⟨he,hw,F⟩=>⟨he,hw,F.mono fun _ _ h=>h.1⟩
def LV (h:bQ w base r bs limit)(Z0:base<=w)(n k:Nat)(hk:k=1\/k=2\/k=4\/k=8)(hn:n<18446744073709551616)(hroom:bs.length+k<=limit) :
  cP 179 #[pO r,iU n,iI k] w fun e w'=>e = rT (tU #[])/\bQ w' base r (bs++Sg.leB n k) limit/\Fr (fun b=>base<=b) w w':=
 (BC h Z0 n k hk hn hroom).mono fun e w' ⟨he,hw,F⟩=>⟨he,hw,F.mono fun _ _ h=>h.1⟩
def On (h:bQ w base r bs limit) :
  cP 180 #[pO r] w fun e w'=>∃ a c,e = rT (sL a bs.length c)/\(T0 w' a bs.length c bs/\bs.length<=c)/\Fq w w':=by
 obtain⟨⟨v,hr,A0⟩,cE,jD,xD⟩:=h;obtain⟨a,cv,rfl,hs,_⟩:=Oi A0;have c0:=G0 hr 0;simp at c0;have HC:=hid (BF hs oM);clear hr A0 hs;go_enter func180,ntmps180;go_wp2_with fail
 refine HC.mono ?_;rintro e w1 ⟨a',c',rfl,hb,F1⟩;have HB:=hi2 hb F1;clear hb F1;go_wp2
 go_ret;exact⟨a',c',rfl,HB.1,HB.2⟩
