/- A pack of texts. Conditions: those that each names. -/
import Derived.Test.YtgdhaaokolfdoaaGreatDoorNAB
import Derived.ProofKit
import Derived.OpenShut
import Derived.Deep.Fields
set_option maxHeartbeats 16000000
set_option maxRecDepth 100000
set_option linter.all false
namespace Go.Proofs.YtgdhaaokolfdoaaGreatDoor
open Go.RowKit Go.Sg Go.Sg.Bits
def cD0 (t:Nat->Bool)(n a b:Nat):Prop:=∀ i,a<=i->i<b->i<n->t i=true
def yr0 (t:Nat->Bool)(n a:Nat)(r:Int):Prop:=(r = -1/\cD0 t n a n)\/∃ i:Nat,r=i/\a<=i/\i<n/\t i=false/\cD0 t n a i
theorem free_at {w:World}{bs bw n hand:Nat}{t:Nat->Bool}(h:bu0 w bs bw n hand t)(hT:Tab w)(a:Nat)(ha:a<=n) :
  Calls Tryz.prog 153 #[.pointer (some ⟨bs,0,none⟩),.int .i64 a] w fun e w'=>∃ r,yr0 t n a r/\e = .returned (.int .i64 r)/\w=w':=by
 obtain⟨ws,h,ht⟩:=h;have c0:=coh h.s 0;have c2:=coh h.s 2;simp at c0 c2;have hl:=h.len;have hr:=h.room;have H:=hid h;have HT:=hid ht;have HTab:=hid hT;clear h ht hT;go_enter Tryz.func153,Tryz.ntmps153;go_wp2
 go_step3
 go_wp2
 go_step3
 go_wp2
 go_loop [5] (fun v=>∃ k:Nat,a/64<=k/\k<=ws.length/\v = .int .i64 k/\cD0 t n a (64*k)) (fun v=>ws.length-(intOf v).toNat)
 case atStart=>exact⟨a/64,nR _,oM,by simp,fun i h1 h2 h3=>oM⟩
 case round =>
  obtain⟨k,hk1,hk2,rfl,hall⟩:=hrel;by_cases hlt:k<ws.length
  ·obtain⟨x,hx⟩:∃ x,ws[k]?=some x:=⟨_,gE hlt⟩
   have cw:=H.out.word hx;have hxl:=H.out.wf x (gM hx);have HX:=hid hx;clear hx;have hbk:∀ m,m<64->t (64*k+m)=x.testBit m:=fun m hm=>by
    rw[<- HT.out,bit,show (64*k+m)/64=k by omega,show (64*k+m) % 64=m by omega];simp[List.getD,HX.out]
   have HBK:=hid hbk;have HALL:=hid hall;clear hbk hall;go_wp2
   rw[xN0 x hxl];go_loopg [6] 64 (fun g v wr=>∃ (lft low:Nat),v = .int .u64 lft/\lft<18446744073709551616/\low<=64/\g=64-low/\(∀ m,m<64->lft.testBit m=(decide (low<=m) && !x.testBit m))/\(∀ m,m<low->x.testBit m=true\/64*k+m<a)/\wr=w)
   case atStart=>exact⟨_,0,rfl,qy0 x hxl,oM,rfl,fun m hm=>by rw[nk0];simp[hm],fun m hm=>oM,rfl⟩
   case round =>
    obtain⟨lft,low,rfl,hll,hlow,hg,hb,hpre,rfl⟩:=hrel;have HBb:=hid hb;have HPre:=hid hpre;clear hb hpre;by_cases hz:lft=0
    ·subst hz;go_wp2
     go_round
     case rel =>
      refine⟨k+1,oM,oM,by simp,fun i h1 h2 h3=>?_⟩;by_cases hik:i<64*k
      ·exact HALL.out i h1 hik h3
      ·have hm:i=64*k+(i-64*k):=oM;have hm2:i-64*k<64:=oM;rw[hm,HBK.out _ hm2];generalize i-64*k=m at *
       by_cases hlm:low<=m
       ·have:=HBb.out m hm2;simp[hlm] at this;exact this
       ·rcases HPre.out m oM with h|h
        ·exact h
        ·omega
     case measure=>simp[intOf];omega
    ·obtain⟨hc1,hc2,hc3⟩:=wd0 hz hll;have hd:=tf0 hz hll;have hdl:=tN0 hz hll;have htz:=hid (AP0 lft hll wr HTab.out);have hne:((lft:Int) != 0)=true:=sO;generalize Lib.ctz 64 lft=m0 at *
     have hx0:low<=m0/\x.testBit m0=false:=by
      have:=HBb.out m0 hc1;rw[hc2] at this;simpa using this.symm
     have hbelow:∀ m,m<m0->x.testBit m=true\/64*k+m<a:=fun m hm=>by
      by_cases hlm:low<=m
      ·have:=HBb.out m oM;rw[hc3 m hm] at this;simp[hlm] at this;exact .inl this
      ·exact HPre.out m oM
     have hall2:cD0 t n a (64*k+m0):=fun i h1 h2 h3=>by
      by_cases hik:i<64*k
      ·exact HALL.out i h1 hik h3
      ·have hm:i=64*k+(i-64*k):=oM;have hm2:i-64*k<64:=oM;rw[hm,HBK.out _ hm2];rcases hbelow (i-64*k) oM with h|h
       ·exact h
       ·omega
     have HB2:=hi2 hc2 (aI hc3 (aI hdl (aI hx0.2 (aI hbelow hall2))));have hx1:=hx0.1;have HD:=hid hd;clear hc2 hc3 hdl hx0 hbelow hall2 hd;rcases (show n<=64*k+m0\/(64*k+m0<n/\a<=64*k+m0)\/(64*k+m0<n/\64*k+m0<a) by omega) with hc|⟨hc,hc'⟩|⟨hc,hc'⟩
     ·go_wp2_with (go_at_call 214;refine htz.out.mono ?_;rintro e w' ⟨rfl,rfl⟩)
      rw[Exit.noGoto_ret];go_ret;obtain⟨hc2,hc3,hdl,hx0,hbelow,hall2⟩:=HB2.out;exact⟨-1,.inl ⟨rfl,fun i h1 h2 h3=>hall2 i h1 oM h3⟩,rfl,rfl⟩
     ·go_wp2_with (go_at_call 214;refine htz.out.mono ?_;rintro e w' ⟨rfl,rfl⟩)
      rw[Exit.noGoto_ret];go_ret;obtain⟨hc2,hc3,hdl,hx0,hbelow,hall2⟩:=HB2.out;exact⟨(64*k+m0:Nat),.inr ⟨64*k+m0,rfl,hc',hc,by rw[HBK.out m0 hc1];exact hx0,hall2⟩,by simp[Int.mul_comm],rfl⟩
     ·go_wp2_with (go_at_call 214;refine htz.out.mono ?_;rintro e w' ⟨rfl,rfl⟩)
      rw[HD.out];obtain⟨hc2,hc3,hdl,hx0,hbelow,hall2⟩:=HB2.out;go_roundg (64-(m0+1))
      case measure=>omega
      case rel =>
       refine⟨lft &&& (lft-1),m0+1,rfl,mN9 Nat.and_le_left hll,oM,rfl,fun m hm=>?_,fun m hm=>?_,rfl⟩
       ·rw[hdl];by_cases he:m=m0
        ·rw[if_pos he];simp;omega
        ·rw[if_neg he,HBb.out m hm];by_cases hlm:m0+1<=m
         ·have:low<=m:=oM;simp[hlm,this]
         ·have h3:=hc3 m oM;rw[HBb.out m hm] at h3;simp[hlm];simpa using h3
       ·rcases lV9 m m0 with h|h
        ·exact hbelow m h
        ·obtain rfl:m=m0:=by omega
         exact .inr hc'
  ·obtain rfl:k=ws.length:=by omega
   go_wp2
   go_ret;exact⟨-1,.inl ⟨rfl,fun i h1 h2 h3=>hall i h1 oM h3⟩,rfl,rfl⟩
end Go.Proofs.YtgdhaaokolfdoaaGreatDoor
namespace Go.Sg.Bits
open Go.RowKit
variable {w:World}{bs bw hand n:Nat}{t:Nat->Bool}
theorem bu0.room (h:bu0 w bs bw n hand t):(1<=n/\n<=65536)/\hand<n:=by
 obtain⟨ws,h,_⟩:=h;exact⟨h.room,h.hand⟩
theorem bu0.cells (h:bu0 w bs bw n hand t):∃ m,w.cell? ⟨bs,0,none⟩=some (.int .i64 n)/\w.cell? ⟨bs,1,none⟩=some (.int .i64 hand)/\w.cell? ⟨bs,2,none⟩=some (.slice (some ⟨bw,0,none⟩) m m)/\∀ o,w.frozen? ⟨bs,o,none⟩=false:=by
 obtain⟨ws,h,_⟩:=h;obtain⟨c0,c1,c2,z,_⟩:=cells3 h.s;exact⟨_,c0,c1,c2,z⟩
theorem bu0.turn (h:bu0 w bs bw n hand t){k:Nat}(hk:k<n):bu0 (w.setCell ⟨bs,1,none⟩ (.int .i64 k)) bs bw n k t:=by
 obtain⟨ws,h,ht⟩:=h;have hne:bs≠bw:=mU0 h.s h.w_ sP;refine⟨ws,⟨?_,?_,h.len,h.room,hk,h.wf,h.pad⟩,ht⟩
 ·rw[hsc _ _ _ _ h.s];simp
 ·rw[ao0 _ _ _ _ hne,h.w_]
theorem bu0.lts (h:bu0 w bs bw n hand t):bs<w.heap.size/\bw<w.heap.size/\bs≠bw:=by
 obtain⟨ws,h,ht⟩:=h;exact⟨loh h.s,loh h.w_,mU0 h.s h.w_ sP⟩
end Go.Sg.Bits
namespace Go.Proofs.YtgdhaaokolfdoaaGreatDoor
section
open Go.RowKit Go.Sg Go.Sg.Bits
def br0 (t:Nat->Bool)(n hand:Nat)(i:Nat):Prop:=
 i<n/\t i=false/\((hand<=i/\cD0 t n hand i)\/(cD0 t n hand n/\cD0 t n 0 i))
def th0 (t:Nat->Bool)(bs bw n hand:Nat)(w:World)(e:Ending)(w':World):Prop:=
 ∃ i,br0 t n hand i/\e = .returned (.tuple #[.int .i64 i,.bool true])/\bu0 w' bs bw n ((i+1) % n) (upd t i true)/\Fr (fun b=>b=bs\/b=bw) w w'
theorem sG0 {w:World}{bs bw n hand:Nat}{t:Nat->Bool}(h:bu0 w bs bw n hand t)(hT:Tab w){j:Nat}(hj:j<n)(hfree:t j=false) :
  Calls Tryz.prog 81 #[.pointer (some ⟨bs,0,none⟩)] w (th0 t bs bw n hand w):=by
 obtain⟨m,c0,c1,c2,z⟩:=h.cells;obtain⟨hr,hh⟩:=h.room;obtain⟨l1,l2,l3⟩:=h.lts;have H:=hid h;have HT:=hid hT;have HJ:=hid hfree;clear h hT hfree;go_enter Tryz.func81,Tryz.ntmps81;go_wp2_with fail
 refine (free_at H.out HT.out hand oM).mono ?_;rintro e w' ⟨r,hf,rfl,rfl⟩;rcases hf with⟨rfl,hall⟩|⟨i,rfl,hhi,hi,hti,hall⟩
 ·have HALL:=hid hall;clear hall;go_wp2_with fail
  refine (free_at H.out HT.out 0 oM).mono ?_;rintro e w' ⟨r,hf,rfl,rfl⟩;rcases hf with⟨rfl,hall⟩|⟨i,rfl,hhi,hi,hti,hall⟩
  ·have:=hall j (la9 _) hj hj;rw[HJ.out] at this;cases this
  ·have HI:=hid (show br0 t n hand i from⟨hi,hti,.inr ⟨HALL.out,hall⟩⟩);have HTI:=hid hti;clear hall hti;go_wp2_with fail
   refine (ku0 H.out i hi HTI.out).mono ?_;rintro e w1 ⟨rfl,hB,F1⟩;obtain⟨m',d0,d1,d2,dz⟩:=hB.cells;have HB:=hid hB;have hmod:=mD9 (i+1) (show 0<n by omega);have hc1:((i:Int)+1) % (n:Int)=(((i+1) % n:Nat):Int):=by simp
   have HC:=hid hc1;clear hB hc1;go_wp2
   go_ret2;exact⟨i,HI.out,rfl,by rw[HC.out];exact HB.out.turn hmod,(F1.mono (fun b _ h=>.inr h)).setCell (fun _=>.inl rfl) _⟩
 ·have HI:=hid (show br0 t n hand i from⟨hi,hti,.inl ⟨hhi,hall⟩⟩);have HTI:=hid hti;clear hall hti;go_wp2_with fail
  refine (ku0 H.out i hi HTI.out).mono ?_;rintro e w1 ⟨rfl,hB,F1⟩;obtain⟨m',d0,d1,d2,dz⟩:=hB.cells;have HB:=hid hB;have hmod:=mD9 (i+1) (show 0<n by omega);have hc1:((i:Int)+1) % (n:Int)=(((i+1) % n:Nat):Int):=by simp
  have HC:=hid hc1;clear hB hc1;go_wp2
  go_ret2;exact⟨i,HI.out,rfl,by rw[HC.out];exact HB.out.turn hmod,(F1.mono (fun b _ h=>.inr h)).setCell (fun _=>.inl rfl) _⟩
theorem yH0:(Tryz.prog.info? 29).map (fun i=>(i.zero,i.size,i.bytes))=some (some (.int .u64 0),1,8):=by kernel_rfl
theorem pW0 (n:Nat)(h1:1<=n)(h2:n<=65536)(w:World) :
  Calls Tryz.prog 95 #[.int .i64 n] w fun e w'=>∃ bs bw,e = .returned (.pointer (some ⟨bs,0,none⟩))/\bu0 w' bs bw n 0 (fun _=>false)/\w.heap.size<=bs/\w.heap.size<=bw/\Fq w w':=by
 obtain⟨i0,hi,hz0,hz1,hz2⟩:=info_parts yH0;have hmk:=fun W=>cz0 (P:=Tryz.prog) 254 29 i0 _ Tryz.underlying254 hi hz0 ((n+63)/64) (by rw[hz2];omega) oM W
 rw[hz1] at hmk;have e:(((n+63)/64:Nat):Int)=((n:Int)+64-1)/64:=oM
 simp only[e] at hmk;clear hi hz0 hz1 hz2 e;go_enter Tryz.func95,Tryz.ntmps95;go_wp2
 go_ret;have hz:madeCells #[Value.int IntKind.u64 0] ((n+63)/64)=fD0 (List.replicate ((n+63)/64) 0):=by
  apply Array.ext
  ·rw[size_madeCells];simp[fD0]
  ·intro i h1 h2;simp[madeCells,fD0,Nat.mod_one]
 refine⟨w.heap.size+1,w.heap.size,by simp,⟨List.replicate ((n+63)/64) 0,?_,fun i=>?_⟩,oM,nR _,((Fr.refl _ _).alloc _).alloc _⟩
 ·obtain⟨g1,g2,_⟩:=ai0 (w:=w) (A:=.cells (madeCells #[.int .u64 0] ((n+63)/64)) 29) (B:=.cells #[.int .i64 n,.int .i64 0,.slice (some ⟨w.heap.size,0,none⟩) ((n+63)/64) ((n+63)/64)] 256) rfl;refine⟨?_,?_,by simp,⟨h1,h2⟩,oM,fun x hx=>?_,fun i _=>?_⟩
  ·rw[List.length_replicate];exact g2
  ·rw[<- hz];exact g1
  ·rw[mh9 hx];decide
  ·simp[bit,List.getD,lF9];split <;> simp
 ·simp[bit,List.getD,lF9];split <;> simp
end
section
open Go.RowKit Go.Sg
theorem mK0 (s:Int)(h1:96<=s)(h2:s<=512)(w:World):Calls Tryz.prog 159 #[.int .i64 s] w fun e w'=>e = .returned (.bool true)/\w=w':=by
 go_enter Tryz.func159,Tryz.ntmps159;go_wp2
 go_ret;exact⟨rfl,rfl⟩
theorem ki0 (s:Int)(h1:96<=s)(h2:s<=512)(w:World):Calls Tryz.prog 94 #[.int .i64 s] w fun e w'=>e = .returned (.int .i64 (s-19))/\w=w':=by
 go_enter Tryz.func94,Tryz.ntmps94;go_wp2_with (go_at_call 159;refine (mK0 s h1 h2 _).mono ?_;rintro e w' ⟨rfl,rfl⟩)
 go_ret;exact⟨rfl,rfl⟩
variable {w:World}{d:Nat}{at_ n:Int}
theorem pJ0 (h:w.cell? ⟨d,0,none⟩=some (.int .i64 n)) :
  Calls Tryz.prog 92 #[.pointer (some ⟨d,0,none⟩)] w fun e w'=>e = .returned (.int .i64 n)/\w=w':=by
 go_enter Tryz.func92,Tryz.ntmps92;go_wp2
 go_ret;exact⟨rfl,rfl⟩
theorem size_at (h:w.cell? ⟨d,1,none⟩=some (.int .i64 n)) :
  Calls Tryz.prog 93 #[.pointer (some ⟨d,0,none⟩)] w fun e w'=>e = .returned (.int .i64 n)/\w=w':=by
 go_enter Tryz.func93,Tryz.ntmps93;go_wp2
 go_ret;exact⟨rfl,rfl⟩
theorem rU0 (s z:Int)(h1:1<=s)(h2:s<=16384)(h3:96<=z)(h4:z<=512)(w:World) :
  Calls Tryz.prog 20 #[.int .i64 s,.int .i64 z] w fun e w'=>e = .returned (.pointer (some ⟨w.heap.size+2,0,none⟩)) /\
   w'.heap[w.heap.size]?=some (.map #[] 0)/\w'.heap[w.heap.size+1]?=some (.map #[] 0) /\
   w'.heap[w.heap.size+1+1]?=some (.cells #[.int .i64 s,.int .i64 z,.map (some w.heap.size),.slice none 0 0,.map (some (w.heap.size+1)),.int .i64 0,.int .i64 0,.bool false] 151)/\Fq w w':=by
 have hmm:=fun (t:TypeId) (W:World)=>run_makeMap (P:=Tryz.prog) t W
 go_enter Tryz.func20,Tryz.ntmps20;go_wp2
 go_ret;exact⟨rfl,aO0 rfl⟩
theorem sF0 (h:w.cell? ⟨d,0,none⟩=some (.int .i64 n))(h1:0<=at_)(h2:at_<n) :
  Calls Tryz.prog 230 #[.pointer (some ⟨d,0,none⟩),.int .i64 at_] w fun e w'=>e = .returned (.bool true)/\w=w':=by
 go_enter Tryz.func230,Tryz.ntmps230;go_wp2
 go_ret;exact⟨rfl,rfl⟩
theorem ol0 (h:w.cell? ⟨d,0,none⟩=some (.int .i64 n))(hd:w.cell? ⟨d,7,none⟩=some (.bool false))(h1:0<=at_)(h2:at_<n) :
  Calls Tryz.prog 173 #[.pointer (some ⟨d,0,none⟩),.int .i64 at_] w fun e w'=>e = .returned (.int .i64 0)/\w=w':=by
 have H:=hid (sF0 h h1 h2);go_enter Tryz.func173,Tryz.ntmps173;go_wp2_with (go_at_call 230;refine H.out.mono ?_;rintro e w' ⟨rfl,rfl⟩)
 go_ret;exact⟨rfl,rfl⟩
end
end Go.Proofs.YtgdhaaokolfdoaaGreatDoor
namespace Go.Sg
open Go.RowKit
def em0:List Nat:=[156,151,256,29,260,264,196,22]
def Mut (w:World)(b:Nat):Prop:=∀ c t f,w.heap[b]?=some (.cells c t f)->t ∈ em0
variable {w w' w1:World}{b base bf bq d n:Nat}{c:Array Value}{t:TypeId}{f:Nat × Nat}{S:Nat->Prop}
theorem Mut.cells (h:w.heap[b]?=some (.cells c t f))(ht:t ∈ em0):Mut w b:=by
 intro c' t' f' h';rw[h] at h';cases h';exact ht
theorem Mut.map {l:Array MapEntry}{ck:Nat}(h:w.heap[b]?=some (.map l ck)):Mut w b:=by
 intro c' t' f' h';rw[h] at h';cases h'
structure Dev where
 sectors:Nat
 size:Nat
 fast:Int->Option (List Int)
 loose:List (Int × List Int)
 armed:Nat
 acts:Nat
 down:Bool
def gX0 (w:World)(size:Nat):Option Value->Option (List Int)->Prop
 | none,none=>True
 | some v,some bs=>∃ b off cap,v = .slice (some ⟨b,off,none⟩) size cap/\ByV w (some ⟨b,off,none⟩) size cap bs/\size<=cap
 | _,_=>False
structure Wr where
 at_:Int
 la:Option Addr
 ll:Nat
 lc:Nat
def Wr.cells (x:Wr):List Value:=[.int .i64 x.at_,.slice x.la x.ll x.lc]
def lD0 (w:World)(base:Nat)(v:Value)(l:List (Int × List Int)):Prop:=
 ∃ ws:List Wr,w.ownsRow base 196 2 v ws.length (ws.flatMap Wr.cells)/\ws.length=l.length/\∀ (i:Nat) (x:Wr) (y:Int × List Int),ws[i]?=some x->l[i]?=some y->x.at_=y.1/\(ByV w x.la x.ll x.lc y.2/\x.ll<=x.lc)
def gz0 (w:World)(base N:Nat)(v:Value):Prop:=
 ∃ n xs,n<=N/\w.ownsRow base 22 1 v n xs/\∀ x ∈ xs,∃ a k cap bs,x = .slice a k cap/\ByV w a k cap bs/\k<=512
structure bt0 (w:World)(base d bf bq:Nat)(x:Dev):Prop where
 dc:∃ lv,w.heap[d]?=some (.cells #[.int .i64 x.sectors,.int .i64 x.size,.map (some bf),lv,.map (some bq),.int .i64 x.armed,.int .i64 x.acts,.bool x.down] 151)/\lD0 w base lv x.loose
 fast:∃ l ck,w.heap[bf]?=some (.map (ents l) ck)/\(keys l).Nodup/\∀ k,gX0 w x.size (look l k) (x.fast k)
 past:∃ l ck,w.heap[bq]?=some (.map (ents l) ck)/\(keys l).Nodup/\(∀ e ∈ l,gz0 w base x.acts e.v)/\∀ e ∈ l,∀ e' ∈ l,∀ g,e.v.ownBlock=some g->e'.v.ownBlock=some g->e.k=e'.k
 ge:base<=d/\base<=bf/\base<=bq
 ne:bf≠bq
 rg:(1<=x.sectors/\x.sectors<=16384)/\96<=x.size/\x.size<=512
variable {x:Dev}
theorem bt0.lts (h:bt0 w base d bf bq x):d<w.heap.size/\bf<w.heap.size/\bq<w.heap.size:=by
 obtain⟨lv,hd,_⟩:=h.dc;obtain⟨l,ck,hf,_⟩:=h.fast;obtain⟨l',ck',hq,_⟩:=h.past;exact⟨loh hd,loh hf,loh hq⟩
theorem oRf {e size:Nat}{v:Value}{xs:List Value}(h:w.ownsRow base e size v n xs)(F:Fr S w w')(hS:∀ g c,w.heap[g]?=some (.cells c e)->¬ S g):w'.ownsRow base e size v n xs:=by
 obtain⟨hl,h0|⟨g,cap,cur,hv,hb,hg,r⟩⟩:=h
 ·exact⟨hl,.inl h0⟩
 ·exact⟨hl,.inr ⟨g,cap,cur,hv,hb,F.heap hg (hS g cur hg),r⟩⟩
theorem bt0.fr (h:bt0 w base d bf bq x)(F:Fr S w w')(h1:¬ S d)(h2:¬ S bf)(h3:¬ S bq)
  (h4:∀ g c t,(t=5\/t=196\/t=22)->w.heap[g]?=some (.cells c t)->¬ S g):bt0 w' base d bf bq x:=by
 obtain⟨lv,hd,ws,hown,hlen,hws⟩:=h.dc;obtain⟨l,ck,hf,hfn,hfs⟩:=h.fast;obtain⟨l',ck',hq,hqn,hqs,hqd⟩:=h.past;have hB:∀ a n c bs,ByV w a n c bs->ByV w' a n c bs:=fun a n c bs hb=>hb.fr F fun b c hc=>h4 b c 5 (.inl rfl) hc
 refine⟨⟨lv,F.heap hd h1,ws,oRf hown F fun g c hg=>h4 g c _ (.inr (.inl rfl)) hg,hlen,fun i y z hy hz=>⟨(hws i y z hy hz).1,hB _ _ _ _ (hws i y z hy hz).2.1,(hws i y z hy hz).2.2⟩⟩,
  ⟨l,ck,F.heap hf h2,hfn,fun k=>?_⟩,⟨l',ck',F.heap hq h3,hqn,fun e he=>?_,hqd⟩,h.ge,h.ne,h.rg⟩
 ·have:=hfs k;cases hlk:look l k with
  | none=>rw[hlk] at this;cases hx:x.fast k with
   | none=>trivial
   | some bs=>rw[hx] at this;exact this.elim
  | some v=>rw[hlk] at this;cases hx:x.fast k with
   | none=>rw[hx] at this;exact this.elim
   | some bs =>
    rw[hx] at this;obtain⟨b,off,cap,e,hb,hcp⟩:=this;exact⟨b,off,cap,e,hB _ _ _ _ hb,hcp⟩
 ·obtain⟨n,xs,hnN,hx,hxs⟩:=hqs e he;refine⟨n,xs,hnN,oRf hx F fun g c hg=>h4 g c _ (.inr (.inr rfl)) hg,fun y hy=>?_⟩;obtain⟨a,k,cap,bs,e,hb,hk⟩:=hxs y hy;exact⟨a,k,cap,bs,e,hB _ _ _ _ hb,hk⟩
def Dev.fresh (s z:Nat):Dev:=⟨s,z,fun _=>none,[],0,0,false⟩
structure bp0 where
 sectors:Int
 size:Int
 regions:Int
 rsectors:Int
 log:Int
 depth:Int
 memory:Int
 seed:Int
abbrev bp0.val (p:bp0):Value:=.agg #[.int .i64 p.sectors,.int .i64 p.size,.int .i64 p.regions,.int .i64 p.rsectors,.int .i64 p.log,.int .i64 p.depth,.int .i64 p.memory,.int .u64 p.seed]
structure Blk where
 base:Nat
 s:Nat
 d:Nat
 bf:Nat
 bq:Nat
 bs:Nat
 bw:Nat
 fr:Nat
 dy:Nat
 de:Nat
 bc:Nat
 bp:Nat
 bm:Nat
structure Sto where
 plan:bp0
 first:Int
 pages:Nat
 room:Nat
 gen:Nat
 hand:Nat
 taken:Nat->Bool
 fresh:Int->Bool
 dying:Int->Bool
 dead:Int->Bool
 mem:Int->Option Clk.Pg
 places:Nat
 dev:Dev
def Blk.maps (B:Blk):List Nat:=[B.bf,B.bq,B.fr,B.dy,B.de,B.bm]
abbrev Blk.ptr (B:Blk):Value:=.pointer (some ⟨B.s,0,none⟩)
inductive cE0
 | s|d|bf|bq|bs|bw|fr|dy|de|bc|bp|bm
 deriving DecidableEq
def cE0.kind:cE0->Nat
 | .s=>156+1
 | .d=>152
 | .bs=>257
 | .bw=>30
 | .bc=>261
 | .bp=>265
 | _=>0
def Blk.at_ (B:Blk):cE0->Nat
 | .s=>B.s
 | .d=>B.d
 | .bf=>B.bf
 | .bq=>B.bq
 | .bs=>B.bs
 | .bw=>B.bw
 | .fr=>B.fr
 | .dy=>B.dy
 | .de=>B.de
 | .bc=>B.bc
 | .bp=>B.bp
 | .bm=>B.bm
def vg0 (B:Blk)(w:World)(b:Nat):Prop:=Mut w b/\((∃ c t f,w.heap[b]?=some (.cells c t f))\/∃ r,b=B.at_ r)
abbrev FrB (B:Blk)(w w':World):Prop:=Fr (fun b=>B.base<=b/\vg0 B w b) w w'
theorem FrB.refl (B:Blk)(w:World):FrB B w w:=Fr.refl _ _
variable {B:Blk}
theorem FrB.trans {w2:World}(h:FrB B w w1)(k:FrB B w1 w2):FrB B w w2:=by
 refine Fr.trans h k fun b hb hs=>?_
 rcases Classical.em (B.base<=b/\vg0 B w b) with hm|hm
 ·exact hm
 ·have e:=h.block b hb hm;refine⟨hs.1,fun c t f hc=>hs.2.1 c t f (e.trans hc),?_⟩;rw[<- e];exact hs.2.2
theorem FrB.none (h:Fq w w'):FrB B w w':=h.mono fun _ _ h=>h.elim
theorem FrB.heap (h:FrB B w w')(hb:w.heap[b]?=some (.cells c t f))(ht:t ∉ em0):w'.heap[b]?=some (.cells c t f):=
 Fr.heap h hb fun hs=>ht (hs.2.1 c t f hb)
theorem FrB.alloc (h:FrB B w w1)(o:Obj):FrB B w (w1.alloc o):=Fr.alloc h o
theorem ByV.frB {a:Option Addr}{c:Nat}{bs:List Int}(h:ByV w a n c bs)(F:FrB B w w'):ByV w' a n c bs:=
 h.fr F fun b c hb hs=>absurd (hs.2.1 c 5 _ hb) dC
theorem FrB.keeps (h:FrB B w w'){B0:Nat}(hB:∀ r,B.at_ r<B0):KeepsFrom B0 w w':=by
 refine⟨h.size,fun k o hk ho hc=>Fr.heap h ho fun hs=>?_⟩;rcases hs.2.2 with⟨c,t,f,e⟩|⟨r,e⟩
 ·rw[ho] at e;cases e;cases hc
 ·have:=hB r;omega
end Go.Sg
namespace Go.Proofs.YtgdhaaokolfdoaaGreatDoor
open Go.RowKit Go.Sg Go.Sg.Bits CP
structure ax0 (w:World)(B:Blk)(x:Sto):Prop where
 s:w.heap[B.s]?=some (.cells #[.pointer (some ⟨B.d,0,none⟩),.int .i64 x.plan.sectors,.int .i64 x.plan.size,.int .i64 x.plan.regions,.int .i64 x.plan.rsectors,.int .i64 x.plan.log,.int .i64 x.plan.depth,.int .i64 x.plan.memory,.int .u64 x.plan.seed,
  .int .i64 x.first,.int .i64 x.pages,.int .i64 x.room,.int .i64 x.gen,.pointer (some ⟨B.bs,0,none⟩),.map (some B.fr),.map (some B.dy),.map (some B.de),.pointer (some ⟨B.bc,0,none⟩)] 156)
 dev:bt0 w B.base B.d B.bf B.bq x.dev
 bits:bu0 w B.bs B.bw x.pages x.hand x.taken
 fr:dD0 w B.fr x.fresh
 dy:dD0 w B.dy x.dying
 de:dD0 w B.de x.dead
 mem:bL0 w B.bc B.bp B.bm x.places x.mem
 load:∀ k p,x.mem k=some p->∃ bs,ByV w p.la p.ll p.lc bs/\bs.length<=x.room
 ne:B.maps.Nodup
 ge:B.base<=B.s/\B.base<=B.bs/\B.base<=B.bw/\B.base<=B.fr/\B.base<=B.dy/\B.base<=B.de/\B.base<=B.bc/\B.base<=B.bp/\B.base<=B.bm
 rg:x.room<=493/\(1<=x.gen/\x.gen<=2199023255552)/\0<=x.first/\x.first+x.pages=x.dev.sectors/\x.room+19=x.dev.size
 inr:(∀ k,x.fresh k=true->0<=k/\k<x.pages)/\(∀ k,x.dying k=true->0<=k/\k<x.pages)/\(∀ k,x.dead k=true->0<=k/\k<x.pages)
variable {w w':World}{bs:List Int}{b k n:Nat}{t:TypeId}{c:Array Value}{f:Nat × Nat}{a:Option Addr}
theorem kX0 {bs bw hand:Nat}{t:Nat->Bool}(h:bu0 w bs bw n hand t):(∃ c,w.heap[bs]?=some (.cells c 256))/\∃ c,w.heap[bw]?=some (.cells c 29):=by
 obtain⟨ws,h,_⟩:=h;exact⟨⟨_,h.s⟩,⟨_,h.w_⟩⟩
def kd (w:World)(b:Nat):Nat:=match w.heap[b]? with
 | some (.cells _ t _)=>t+1
 | _=>0
theorem bY0 (h:w.heap[b]?=some (.cells c t f)):kd w b=t+1:=by rw[kd,h]
theorem jq0 {l:Array MapEntry}{ck:Nat}(h:w.heap[b]?=some (.map l ck)):kd w b=0:=by rw[kd,h]
variable {B:Blk}{x:Sto}
theorem ax0.heaps (h:ax0 w B x)(r:cE0):B.base<=B.at_ r/\Mut w (B.at_ r)/\B.at_ r<w.heap.size/\kd w (B.at_ r)=r.kind:=by
 obtain⟨g1,g2,g3,g4,g5,g6,g7,g8,g9⟩:=h.ge;obtain⟨k1,k2,k3⟩:=h.dev.ge;obtain⟨lv,hd,_⟩:=h.dev.dc;obtain⟨l,ck,hf,_⟩:=h.dev.fast;obtain⟨l',ck',hq,_⟩:=h.dev.past;obtain⟨⟨_,hbs⟩,⟨_,hbw⟩⟩:=kX0 h.bits;obtain⟨l1,c1,hfr,_⟩:=h.fr.ex;obtain⟨l2,c2,hdy,_⟩:=h.dy.ex;obtain⟨l3,c3,hde,_⟩:=h.de.ex;obtain⟨⟨_,hbc⟩,⟨_,hbp⟩,_,_,hbm⟩:=h.mem.heaps;cases r
 ·exact⟨g1,Mut.cells h.s dC,loh h.s,bY0 h.s⟩
 ·exact⟨k1,Mut.cells hd dC,loh hd,bY0 hd⟩
 ·exact⟨k2,Mut.map hf,loh hf,jq0 hf⟩
 ·exact⟨k3,Mut.map hq,loh hq,jq0 hq⟩
 ·exact⟨g2,Mut.cells hbs dC,loh hbs,bY0 hbs⟩
 ·exact⟨g3,Mut.cells hbw dC,loh hbw,bY0 hbw⟩
 ·exact⟨g4,Mut.map hfr,loh hfr,jq0 hfr⟩
 ·exact⟨g5,Mut.map hdy,loh hdy,jq0 hdy⟩
 ·exact⟨g6,Mut.map hde,loh hde,jq0 hde⟩
 ·exact⟨g7,Mut.cells hbc dC,loh hbc,bY0 hbc⟩
 ·exact⟨g8,Mut.cells hbp dC,loh hbp,bY0 hbp⟩
 ·exact⟨g9,Mut.map hbm,loh hbm,jq0 hbm⟩
variable {r:cE0}
theorem ax0.inj (h:ax0 w B x){r':cE0}(e:B.at_ r=B.at_ r'):r=r':=by
 have hk:r.kind=r'.kind:=by rw[<- (h.heaps r).2.2.2,<- (h.heaps r').2.2.2,e]
 have hn:=h.ne;simp only[Blk.maps,List.nodup_cons,lA9,not_or,List.not_mem_nil,not_false_eq_true,no9,and_true] at hn;obtain⟨⟨a1,a2,a3,a4,a5⟩,⟨b1,b2,b3,b4⟩,⟨c1,c2,c3⟩,⟨d1,d2⟩,e1⟩:=hn;cases r <;> cases r' <;> first|rfl|(exact absurd hk dC)|(exact absurd e (by assumption))|(exact absurd e.symm (by assumption))
abbrev FrR (B:Blk)(L:List cE0)(w w':World):Prop:=Fr (fun b=>∃ r ∈ L,b=B.at_ r) w w'
variable {L:List cE0}
theorem ax0.out (h:ax0 w B x)(hr:r ∉ L):¬ ∃ r' ∈ L,B.at_ r=B.at_ r':=by
 rintro⟨r',hL,e⟩;exact hr (by rw[h.inj e];exact hL)
theorem ax0.iM0 (h:ax0 w B x)(L:List cE0)(hb:w.heap[b]?=some (.cells c t f))(ht:t ∉ [156,151,256,29,260,264]):¬ ∃ r ∈ L,b=B.at_ r:=by
 rintro⟨r,_,rfl⟩;have h1:=bY0 hb;rw[(h.heaps r).2.2.2] at h1;cases r <;> simp[cE0.kind] at h1 <;> (subst h1;simp at ht)
theorem ax0.frB (h:ax0 w B x)(F:FrR B L w w'):FrB B w w':=
 Fr.mono F fun b _ hs=>by obtain⟨r,_,rfl⟩:=hs;exact⟨(h.heaps r).1,(h.heaps r).2.1,.inr ⟨r,rfl⟩⟩
structure Ao0 (w':World)(B:Blk)(x:Sto)(L:List cE0):Prop where
 s:cE0.s ∉ L->w'.heap[B.s]?=some (.cells #[.pointer (some ⟨B.d,0,none⟩),.int .i64 x.plan.sectors,.int .i64 x.plan.size,.int .i64 x.plan.regions,.int .i64 x.plan.rsectors,.int .i64 x.plan.log,.int .i64 x.plan.depth,.int .i64 x.plan.memory,.int .u64 x.plan.seed,
  .int .i64 x.first,.int .i64 x.pages,.int .i64 x.room,.int .i64 x.gen,.pointer (some ⟨B.bs,0,none⟩),.map (some B.fr),.map (some B.dy),.map (some B.de),.pointer (some ⟨B.bc,0,none⟩)] 156)
 dev:cE0.d ∉ L->cE0.bf ∉ L->cE0.bq ∉ L->bt0 w' B.base B.d B.bf B.bq x.dev
 bits:cE0.bs ∉ L->cE0.bw ∉ L->bu0 w' B.bs B.bw x.pages x.hand x.taken
 fr:cE0.fr ∉ L->dD0 w' B.fr x.fresh
 dy:cE0.dy ∉ L->dD0 w' B.dy x.dying
 de:cE0.de ∉ L->dD0 w' B.de x.dead
 mem:cE0.bc ∉ L->cE0.bp ∉ L->cE0.bm ∉ L->bL0 w' B.bc B.bp B.bm x.places x.mem
 load:∀ k p,x.mem k=some p->∃ bs,ByV w' p.la p.ll p.lc bs/\bs.length<=x.room
theorem ax0.stays (h:ax0 w B x)(F:FrR B L w w'):Ao0 w' B x L:=by
 refine⟨fun a=>Fr.heap F h.s (h.out a),fun a b c=>h.dev.fr F (h.out a) (h.out b) (h.out c) fun g c t ht hg=>h.iM0 L hg ?_,fun a b=>h.bits.fr F (h.out a) (h.out b),fun a=>h.fr.fr F (h.out a),fun a=>h.dy.fr F (h.out a),fun a=>h.de.fr F (h.out a),
  fun a b c=>h.mem.fr F (h.out a) (h.out b) (h.out c),fun k p hp=>?_⟩
 ·rcases ht with rfl|rfl|rfl <;> decide
 ·obtain⟨bs,hb,hl⟩:=h.load k p hp;exact⟨bs,hb.fr F fun b c hc=>h.iM0 L hc dC,hl⟩
theorem ax0.byv (h:ax0 w B x)(F:FrR B L w w'){c:Nat}(hb:ByV w a n c bs):ByV w' a n c bs:=
 hb.fr F fun b c hc=>h.iM0 L hc dC
theorem ax0.frL (h:ax0 w B x)(F:Fr (fun b=>b=k) w w')(hk:w.heap[k]?=some (.cells c t))(ht:t ∉ 5 :: em0):ax0 w' B x:=by
 have h1:∀ r,¬ B.at_ r=k:=fun r e=>by
  have h2:=(h.heaps r).2.1 c t;rw[e] at h2;exact ht (lM9 _ (h2 _ hk))
 have h4:∀ g c' t',t' ∈ 5 :: em0->w.heap[g]?=some (.cells c' t')->¬ g=k:=fun g c' t' h5 hg e=>by
  rw[e,hk] at hg;cases hg;exact ht h5
 refine⟨F.heap h.s (h1 .s),h.dev.fr F (h1 .d) (h1 .bf) (h1 .bq) fun g c' t' h5 hg=>h4 g c' t' (by rcases h5 with rfl|rfl|rfl <;> decide) hg,h.bits.fr F (h1 .bs) (h1 .bw),h.fr.fr F (h1 .fr),h.dy.fr F (h1 .dy),h.de.fr F (h1 .de),h.mem.fr F (h1 .bc) (h1 .bp) (h1 .bm),fun k p hp=>?_,h.ne,h.ge,h.rg,h.inr⟩;obtain⟨bs,hb,hl⟩:=h.load k p hp;exact⟨bs,hb.fr F fun b c hc=>h4 b c 5 dC hc,hl⟩
theorem _root_.Go.Sg.ByV.frL {c:Nat}(h:ByV w a n c bs)(F:Fr (fun b=>b=k) w w'){cs:Array Value}(hk:w.heap[k]?=some (.cells cs t))(ht:t≠5):ByV w' a n c bs:=
 h.fr F fun b c hc e=>by rw[e,hk] at hc;cases hc;exact ht rfl
theorem ax0.fr0 (h:ax0 w B x)(F:Fq w w'):ax0 w' B x:=by
 have S:=h.stays (L:=[]) (F.mono fun _ _ h=>h.elim);exact⟨S.s dC,S.dev dC dC dC,S.bits dC dC,S.fr dC,S.dy dC,S.de dC,S.mem dC dC dC,S.load,h.ne,h.ge,h.rg,h.inr⟩
end Go.Proofs.YtgdhaaokolfdoaaGreatDoor
namespace Go.Sg
open Go.RowKit
def leB (n:Nat):Nat->List Int
 | 0=>[]
 | k+1=>((n % 256:Nat):Int) :: leB (n/256) k
theorem ap0 (k:Nat):∀ n,(leB n k).length=k:=by
 induction k with
 | zero=>intro n;rfl
 | succ k ih=>intro n;simp[leB,ih]
def leV:List Int->Nat
 | []=>0
 | x :: l=>x.toNat+256*leV l
theorem kz0 (k:Nat):∀ n,n<256^k->leV (leB n k)=n:=by
 induction k with
 | zero=>intro n h;simp at h;subst h;rfl
 | succ k ih =>
  intro n h;have h2:n/256<256^k:=by rw[lK9] at h;omega
  simp only[leB,leV,ih _ h2,lG9];omega
def cl0 (n:Nat):Nat:=(n/2) ^^^ (if n % 2=1 then 2197175160 else 0)
def cY0 (i:Nat):Nat:=cl0 (cl0 (cl0 (cl0 (cl0 (cl0 (cl0 (cl0 i)))))))
def gK0 (n:Nat)(x:Int):Nat:=(n/256) ^^^ cY0 ((n % 256) ^^^ x.toNat)
def tR0 (bs:List Int):Nat:=bs.foldl gK0 4294967295 ^^^ 4294967295
def dj0 (size kind place stamp:Nat)(load:List Int):List Int:=
 leB kind 1++leB load.length 2++leB place 4++leB stamp 8++load++List.replicate (size-19-load.length) 0
def af0 (size kind place stamp:Nat)(load:List Int):List Int:=dj0 size kind place stamp load++leB (tR0 (dj0 size kind place stamp load)) 4
variable {kind place size stamp:Nat}{load:List Int}
theorem fM0 (h:load.length+19<=size):(dj0 size kind place stamp load).length=size-4:=by
 simp[dj0,ap0];omega
theorem cu0 (h:load.length+19<=size):(af0 size kind place stamp load).length=size:=by
 rw[af0,lA,fM0 h,ap0];omega
def Dev.act (D:Dev):Dev:={ D with acts:=D.acts+1,armed:=D.armed-1,down:=if D.armed=0 then D.down else decide (D.armed=1) }
def Dev.write (D:Dev)(at_:Int)(bs:List Int):Dev × Int:=
 if D.down then (D,4) else if at_<0\/(D.sectors:Int)<=at_ then (D,2) else if bs.length≠D.size then (D,3)
 else ({ D.act with loose:=D.loose++[(at_,bs)] },if D.act.down then 4 else 0)
end Go.Sg
namespace Go.Proofs.YtgdhaaokolfdoaaGreatDoor
open Go.RowKit Go.Sg Go.Sg.Bits Go.Sg.Clk CP
def lG0 (w:World)(x:Sto)(g:Option (Int × Pg))(D:Dev)(err:Int):Prop:=
 match g with
 | none=>D=x.dev/\err=0
 | some (k,q)=>if q.dirty=true then ∃ bs,ByV w q.la q.ll q.lc bs/\(D,err)=x.dev.write (x.first+k) (af0 x.dev.size 2 k.toNat q.stamp.toNat bs) else D=x.dev/\err=0
def lE0 (B:Blk)(x:Sto)(n:Int)(p:Pg)(w:World)(e:Ending)(w':World):Prop:=
 ∃ err g D,e = .returned (.int .i64 err)/\cc0 x.mem x.places n g/\lG0 w' x g D err/\ax0 w' B { x with mem:=ej0 x.mem n p g,dev:=D }/\FrB B w w'
end Go.Proofs.YtgdhaaokolfdoaaGreatDoor
namespace Go.Sg
open Go.RowKit
structure fj0 (w:World)(r:Nat)(bs:List Int)(bad:Bool):Prop where
 ex:∃ a c,w.heap[r]?=some (.cells #[.slice a bs.length c,.bool bad] 377)/\ByV w a bs.length c bs/\bs.length<=c
 small:bs.length<=65536
theorem addr_add (b off j:Nat):(⟨b,off,none⟩:Addr).add j=⟨b,off+j,none⟩:=by unfold Addr.add;split <;> simp_all
variable {w:World}{a:Option Addr}{c m n:Nat}{bs:List Int}
theorem ByV.take (h:ByV w a n c bs)(hm:m<=n):ByV w a m c (bs.take m):=by
 refine⟨⟨by rw[lT,h.by_.len];omega,fun i x hx=>?_⟩,?_⟩
 ·rw[gT] at hx;split at hx
  ·exact h.by_.at_ i x hx
  ·cases hx
 ·rcases h.at_ with⟨h0,h1,h2⟩|h0
  ·exact .inl ⟨h0,oM,h2⟩
  ·exact .inr h0
theorem ByV.drop (h:ByV w a n c bs)(hm:m<=n)(hc:n<=c):ByV w (if c=m then a else a.map (·.add m)) (n-m) (c-m) (bs.drop m):=by
 rcases h.at_ with⟨rfl,h1,h2⟩|⟨b,off,cs,rfl,h2⟩
 ·have h3:m=0:=by omega
  subst h3;subst h1 h2;have:bs=[]:=lH9 h.by_.len;subst this;exact ByV.nil w
 ·by_cases he:c=m
  ·rw[if_pos he];have hn:n-m=0:=by omega
   have hd:bs.drop m=[]:=mM9 (by rw[h.by_.len];omega);rw[hn,hd];exact⟨⟨rfl,fun i x hx=>by simp at hx⟩,.inr ⟨b,off,cs,rfl,h2⟩⟩
  ·rw[if_neg he];refine⟨⟨by rw[lv9,h.by_.len],fun i x hx=>?_⟩,.inr ⟨b,off+m,cs,by simp[addr_add],h2⟩⟩;rw[lB9] at hx;obtain⟨b',off',e,hb,hcell⟩:=h.by_.at_ _ x hx;cases e;exact⟨b,off+m,by simp[addr_add],hb,by rw[mw9];exact hcell⟩
theorem hO0 (hb:∀ x ∈ bs,0<=x/\x<256):∀ k,leV (bs.take k)<256^k:=by
 intro k;induction bs generalizing k with
 | nil=>simp[leV];exact lW9 dC
 | cons x l ih =>
  cases k with
  | zero=>simp[leV]
  | succ k =>
   have h1:=ih (fun y hy=>hb y (by simp[hy])) k;have h2:=hb x sP;simp only[mY9,leV];rw[lK9];omega
theorem un0 (l:List Int)(x:Int):leV (l++[x])=leV l+x.toNat*256^l.length:=by
 induction l with
 | nil=>simp[leV]
 | cons y l ih =>
  simp only[lo9,leV,ih,lC,lK9];rw[mA9,mw9,lJ9 256 (x.toNat*_),mR9]
theorem uo0 (hb:∀ x ∈ bs,0<=x/\x<256){k:Nat}{x:Int}(hx:bs[k]?=some x):leV (bs.take (k+1))=leV (bs.take k) ||| x.toNat*2^(8*k):=by
 have hk:=(gI.1 hx).1;have e:bs.take (k+1)=bs.take k++[x]:=by rw[lw9,hx];rfl
 have hl:=hO0 hb k;have e2:(256:Nat)^k=2^(8*k):=by rw[Nat.pow_mul]
 rw[e,un0,lT,Nat.min_eq_left (np9 hk),e2];rw[e2] at hl;rw[Nat.add_comm,Nat.or_comm,<- Nat.shiftLeft_eq,Nat.shiftLeft_add_eq_or_of_lt hl]
theorem kI0 {base e:Nat}{v:Value}(h:w.ownsRow base e 1 v n (bs.map (Value.int .u8)))(hne:v≠.slice none 0 0) :
  ∃ g cap c,v = .slice (some ⟨g,0,none⟩) n cap/\w.heap[g]?=some (.cells c e)/\lI0 w (some ⟨g,0,none⟩) n bs/\n<=cap:=by
 obtain⟨g,cap,c,rfl,hg,hB⟩:=ex0 h hne;refine⟨g,cap,c,rfl,hg,hB,?_⟩;obtain⟨_,⟨h1,_⟩|⟨g',cap',cur,h1,_,_,h2,_⟩⟩:=h
 ·cases h1
 ·cases h1;exact h2
end Go.Sg
namespace Go.Proofs.YtgdhaaokolfdoaaGreatDoor
open Go.RowKit Go.Sg
theorem vx0 (a:Option Addr)(n c m:Nat)(h:m<=c)(W:World):(Instr.slice 22 (.slice a n c) none (some (.int .i64 m)) none).run Tryz.prog W = .ok (.slice a m c) W:=by
 rw[run_slice_h W 22 a n c kF .i64 m oM oM];have hs:(sizeOf (Tryz.prog.elem 22)).run Tryz.prog W = .ok 1 W:=by kernel_rfl
 rw[hs];simp only[Result.andThen_ok,sliced,lG9,mr9,Nat.sub_zero];cases a with
 | none=>simp
 | some a=>simp[Addr.add]
theorem pH0 (a:Option Addr)(n c m:Nat)(h:m<=n)(W:World):(Instr.slice 22 (.slice a n c) (some (.int .i64 m)) none none).run Tryz.prog W = .ok (.slice (if c=m then a else a.map (·.add m)) (n-m) (c-m)) W:=by
 rw[run_slice_l W 22 a n c kF .i64 m oM oM];have hs:(sizeOf (Tryz.prog.elem 22)).run Tryz.prog W = .ok 1 W:=by kernel_rfl
 rw[hs];simp only[Result.andThen_ok,sliced,lG9,Nat.mul_one]
variable {w:World}{c n r:Nat}{bs:List Int}{a:Option Addr}{bad:Bool}
theorem wj0 {ad:Addr}{cap:Nat}(h:lI0 w (some ad) n bs)(hn:n<=65536) :
  Calls Tryz.prog 83 #[.slice (some ad) n cap] w fun e w'=>∃ g cap' c,e = .returned (.slice (some ⟨g,0,none⟩) n cap')/\w'.heap[g]?=some (.cells c 5)/\(lI0 w' (some ⟨g,0,none⟩) n bs/\n<=cap')/\w.heap.size<=g/\Fq w w':=by
 obtain⟨i0,hi0,hz0,hz1,hz2⟩:=info_parts Tryz.info5;have H:=hid h;have hlen:=h.len;have hcell:∀ (o:Obj) (j:Nat) (u:Value),(bs.map (Value.int .u8))[j]?=some u->(w.alloc o).cell? (ad.add j)=some u:=fun o j u hu=>by
  rw[gP] at hu;cases hx:bs[j]? with
  | none=>rw[hx] at hu;cases hu
  | some x =>
   rw[hx] at hu;cases hu;obtain⟨b',off',e,hb,hc⟩:=h.at_ j x hx;cases e;rw[addr_add];exact (((Fr.refl (fun _=>False) w).alloc o).cell (p:=⟨b',off'+j,none⟩) hb id).trans hc
 have HC:=hid hcell;clear h hcell;have q22:∀ (w:World) (a:Option Addr) (n c n' c':Nat),(binOp .eql 22 (.slice a n c) (.slice none n' c')).run Tryz.prog w = .ok (.bool a.isNone) w:=fun w a n c n' c'=>Lib.run_eql_slice_nil w _ _ a n c n' c' Tryz.underlying22
 go_enter Tryz.func83,Tryz.ntmps83;go_wp2_with (at_builtin;refine wpList_append_own_at _ rfl (.tmp 5) (.tmp 6) 22 rfl 0 5 i0 _ 1 1 Tryz.underlying22 hi0 hz0 hz1 hz2 rfl dC _ _ _ rfl (ov0 _ _ _ _ (by simp[go_sem])) ad n cap (bs.map (Value.int .u8)) rfl (by simpa using hlen) ?c1 ?c2 ?c3 ?c4 (la9 _) ?_)
 case c1=>exact HC.out _
 case c2=>intro u hu;obtain⟨x,_,rfl⟩:=ld9.1 hu;rfl
 case c3=>simp[maxLen];omega
 case c4=>omega
 intro v1 w1 hown hgrow hnil hat;try simp only[le9,lp9] at hown
 have F1:Fq w w1:=((Fr.refl (fun _=>False) w).alloc _).trans (S':=fun b=>b=w.heap.size) (Fr.of_grownBy hgrow) (fun b hb h=>oM);obtain⟨g,cap',c,rfl,hg,hB,hcp⟩:=kI0 hown hnil;have hgl:w.heap.size<=g:=by
  rcases hat with h|h <;> simp[Value.ownBlock] at h <;> omega
 have HG:=hi2 hg (aI (aI hB hcp) (aI hgl F1));clear hown hgrow hat hg hB F1 hgl hcp;go_wp2
 go_ret;exact⟨g,cap',c,rfl,HG.out.1,HG.out.2.1,HG.out.2.2.1,HG.out.2.2.2⟩
theorem dz0 (h:SlB w a n c bs)(hn:n<=65536) :
  Calls Tryz.prog 83 #[.slice a n c] w fun e w'=>∃ a' c',e = .returned (.slice a' n c')/\(ByV w' a' n c' bs/\n<=c')/\Fq w w':=by
 rcases h.at_ with⟨rfl,rfl,rfl⟩|⟨ad,rfl⟩
 ·refine (clone_nil w).mono fun e w' ⟨he,hw⟩=>⟨none,0,he,⟨?_,nR _⟩,by rw[hw];exact Fr.refl _ _⟩
  have:bs=[]:=lH9 h.by_.len;rw[this];exact ByV.nil w'
 ·exact (wj0 h.by_ hn).mono fun e w' ⟨g,c',cs,he,hg,hB,_,hF⟩=>⟨_,_,he,⟨⟨hB.1,.inr ⟨g,0,cs,rfl,hg⟩⟩,hB.2⟩,hF⟩
theorem dY0 (h:SlB w a n c bs)(hn:n<=65536) :
  Calls Tryz.prog 215 #[.slice a n c] w fun e w'=>∃ r,e = .returned (.pointer (some ⟨r,0,none⟩))/\fj0 w' r bs false/\w.heap.size<=r/\Fq w w':=by
 have HC:=hid (dz0 h hn);have hl:=h.by_.len;have HL:=hid hl;clear h hl;go_enter Tryz.func215,Tryz.ntmps215;go_wp2_with fail
 refine HC.out.mono ?_;rintro e w1 ⟨a',c',rfl,hb,F1⟩;have HB:=hi2 hb F1;clear hb F1;go_wp2
 go_ret;have FN:Fq w1 (w1.alloc (.cells #[.slice a' n c',.bool false] 377)):=(Fr.refl _ _).alloc _;refine⟨w1.heap.size,rfl,⟨⟨a',c',by rw[HL.out];exact han _ _,?_,by rw[HL.out];exact HB.out.1.2⟩,by rw[HL.out];exact hn⟩,HB.out.2.size,HB.out.2.trans FN nI⟩;rw[HL.out];exact HB.out.1.1.fr FN (fun _ _ _ h=>h)
theorem vH0 (h:fj0 w r bs bad)(m:Nat)(hm:m<=bs.length) :
  Calls Tryz.prog 217 #[.pointer (some ⟨r,0,none⟩),.int .i64 m] w fun e w'=>∃ a' c',e = .returned (.slice a' m c')/\ByV w' a' m c' (bs.take m)/\fj0 w' r (bs.drop m) bad/\Fr (fun b=>b=r) w w':=by
 obtain⟨⟨a,c,hr,hb,hcap⟩,hsm⟩:=h;obtain⟨c0,c1,hz,hl⟩:=cells2 hr;have st:=vx0 a bs.length c m oM;have sf:=pH0 a bs.length c m hm;have hdr:=hb.drop hm hcap;generalize ha2:(if c=m then a else a.map (·.add m))=a2 at sf hdr;have HD:=hid hdr;have HB:=hid hb;have HR:=hid hr;have HC:=hid (fi0 (w:=w) (hb.take hm).slb oM);clear ha2 hdr hb hr;go_enter Tryz.func217,Tryz.ntmps217;go_wp2_with fail
 refine HC.out.mono ?_;rintro e w1 ⟨a',c',rfl,hb1,F1⟩;have hr1:=F1.heap HR.out id;obtain⟨d0,d1,dz,dl⟩:=cells2 hr1;have H1:=hi2 hb1 (aI F1 hr1);clear hb1 F1 hr1 c0 c1 hz hl;go_wp2
 go_ret;obtain⟨hb1,F1,hr1⟩:=H1.out;have FS:Fr (fun b=>b=r) w1 (w1.setCell ⟨r,0,none⟩ (.slice a2 (bs.length-m) (c-m))):=(Fr.refl (fun b=>b=r) _).setCell (a:=⟨r,0,none⟩) (fun _=>rfl) _;have ne:∀ b cs,w1.heap[b]?=some (.cells cs 5)->¬ b=r:=fun b cs h e=>by rw[e,hr1] at h;cases h
 refine⟨a',c',rfl,hb1.fr FS ne,⟨⟨a2,c-m,?_,?_,?_⟩,?_⟩,(F1.mono nE).trans FS nI⟩
 ·rw[hsc _ _ _ _ hr1,lv9];rfl
 ·rw[lv9];exact (HD.out.fr F1 (fun _ _ _ h=>h)).fr FS ne
 ·rw[lv9];omega
 ·rw[lv9];omega
theorem vO0 (k:Nat)(hk:k=1\/k=2\/k=4\/k=8)(w:World):Calls Tryz.prog 236 #[.int .i64 k] w fun e w'=>e = .returned (.bool true)/\w=w':=by
 rcases hk with rfl|rfl|rfl|rfl
 all_goals
  go_enter Tryz.func236,Tryz.ntmps236;go_wp2
  go_ret;exact⟨rfl,rfl⟩
theorem vK0 (h:fj0 w r bs bad)(hby:∀ x ∈ bs,0<=x/\x<256)(k:Nat)(hk:k=1\/k=2\/k=4\/k=8)(hm:k<=bs.length) :
  Calls Tryz.prog 216 #[.pointer (some ⟨r,0,none⟩),.int .i64 k] w fun e w'=>e = .returned (.int .u64 (leV (bs.take k)))/\fj0 w' r (bs.drop k) bad/\Fr (fun b=>b=r) w w':=by
 have HM:=hid (fun W=>vO0 k hk W);have HRw:=hid (vH0 h k hm);have HBY:=hid (fun x (hx:x ∈ bs.take k)=>hby x (lR9 hx));have hk8:k<=8:=oM
 have hlen:(bs.take k).length=k:=by rw[lT];omega
 generalize bs.take k=l at *
 clear h hby hk;go_enter Tryz.func216,Tryz.ntmps216;go_wp2_with (go_at_call 236;refine (HM.out _).mono ?_;rintro e w' ⟨rfl,rfl⟩)
 refine HRw.out.mono ?_;rintro e w1 ⟨a',c',rfl,hb1,hR,F1⟩;have HLEN:=hid hlen;have HB1:=hid hb1;have HR1:=hi2 hR F1;clear hlen hb1 hR F1;go_wp2
 go_loop [5,15] (fun n i=>∃ j:Nat,j<=k/\i = .int .i64 j/\n = .int .u64 (leV (l.take j))) (fun _ i=>k-(intOf i).toNat)
 case atStart=>exact⟨0,la9 _,rfl,by simp[leV]⟩
 case round =>
  obtain⟨j,hj,rfl,rfl⟩:=hrel;by_cases hlt:j<k
  ·obtain⟨x,hx⟩:∃ x,l[j]?=some x:=⟨l[j]'(by rw[HLEN.out];exact hlt),gE _⟩
   obtain⟨b,off,rfl,hbl,hcell⟩:=HB1.out.by_.at_ j x hx;have hx0:=HBY.out x (gM hx);have hn:=uo0 HBY.out hx;have hlt2:=hO0 HBY.out j;have HX:=hi2 hx hn;have HN:=hid hlt2;clear hx hn hlt2;have hjd:decide (j<k)=true:=by simpa using hlt
   go_wp2
   go_round
   case rel =>
    refine⟨j+1,oM,by go_num,?_⟩;obtain⟨y,rfl⟩:=iZ hx0.1;have hp:(2:Nat)^(8*j)<=2^56:=lc9 dC oM;have h256:(256:Nat)^j=2^(8*j):=(by rw[Nat.pow_mul]);have hl1:leV (l.take j)<18446744073709551616:=by
     have:=HN.out;rw[h256] at this;omega
    have hy:y<=255:=oM;have hl2:y*2^(8*j)<18446744073709551616:=by
     have:=Nat.mul_le_mul hy hp;omega
    have hw:IntKind.u64.wrap ((y:Int)*2^(8*j))=((y*2^(8*j):Nat):Int):=by
     rw[IntKind.wrap_u64,show (y:Int)*2^(8*j)=((y*2^(8*j):Nat):Int) by simp];omega
    rw[hw,u64_or_nat _ _ hl1 hl2];have:=HX.out.2;simp only[Int.ofNat_eq_natCast,lG9] at this;rw[this]
   case measure=>simp[intOf];omega
  ·obtain rfl:j=k:=by omega
   go_wp2
   go_ret;have e:l.take j=l:=tL (by rw[HLEN.out];exact nR _);rw[e];exact⟨rfl,HR1.out⟩
end Go.Proofs.YtgdhaaokolfdoaaGreatDoor
namespace Go.Sg
open Go.RowKit
def Wr.zero:Wr:=⟨0,none,0,0⟩
def bk (ws:List Wr)(k:Nat):List (Nat × Wr):=(List.range k).map fun j=>(ws.length-1-j,ws.getD (ws.length-1-j) Wr.zero)
theorem mv0 (ws:List Wr)(k:Nat):bk ws (k+1)=bk ws k++[(ws.length-1-k,ws.getD (ws.length-1-k) Wr.zero)]:=by
 simp[bk,mO9]
theorem qc0 (ws:List Wr)(k:Nat):(bk ws k).length=k:=by simp[bk]
variable {a b:Nat}
theorem kN0 (ws:List Wr)(h:a<=b):bk ws a <+: bk ws b:=by
  induction b with
  | zero => obtain rfl : a = 0 := by omega
            exact List.prefix_rfl
  | succ b ih =>
    by_cases hk:a=b+1
    · subst hk;exact List.prefix_rfl
    · rw[mv0];exact (ih oM).trans (List.prefix_append _ _)
theorem wm0 (ws:List Wr)(h:a<=b):(bk ws b).take a=bk ws a:=by
 have h1:=kN0 ws h;have h2:=nc9.1 h1;rw[qc0] at h2;exact h2.symm
variable {x:Wr}
theorem vW0 (ws:List Wr){i k:Nat}(hx:ws[i]?=some x)(hk:ws.length-1-i<k):(i,x) ∈ bk ws k:=by
 have hi:=(gI.1 hx).1;refine ld9.2 ⟨ws.length-1-i,by simpa using hk,?_⟩;rw[show ws.length-1-(ws.length-1-i)=i by omega];simp[List.getD,hx]
theorem oX0 (ws:List Wr){j:Nat}(h:ws[j]?=some x):(ws.flatMap Wr.cells)[2*j]?=some (.int .i64 x.at_)/\(ws.flatMap Wr.cells)[2*j+1]?=some (.slice x.la x.ll x.lc):=by
 induction ws generalizing j with
 | nil=>simp at h
 | cons y l ih =>
  cases j with
  | zero=>simp at h;subst h;exact⟨rfl,rfl⟩
  | succ j =>
   simp at h;have:=ih h;refine⟨?_,?_⟩
   ·rw[show 2*(j+1)=2*j+2 by omega];simpa[lj9,Wr.cells] using this.1
   ·rw[show 2*(j+1)+1=2*j+1+2 by omega];simpa[lj9,Wr.cells] using this.2
end Go.Sg
namespace Go.Proofs.YtgdhaaokolfdoaaGreatDoor
open Go.RowKit Go.Sg Go.Shelf
attribute [local go_sem] Oper.semAt_some
theorem kP0 (a:Option Addr)(n c:Nat)(w:World) :
  Calls Tryz.prog 174 #[.slice a n c] w fun e w'=>e = .returned (.func (.func 231) #[] #[.pointer (some ⟨w.heap.size,0,none⟩)])/\w.alloc (.cells #[.slice a n c] 149)=w':=by
 go_enter Tryz.func174,Tryz.ntmps174;go_wp2
 go_ret;exact⟨rfl,rfl⟩
abbrev zU0 (ok:Nat->Wr->Prop):={ p:Nat × Wr // ok p.1 p.2 }
abbrev AJ0 {ok:Nat->Wr->Prop}(x:zU0 ok):Array Value:=#[.int .i64 x.1.1,.agg #[.int .i64 x.1.2.at_,.slice x.1.2.la x.1.2.ll x.1.2.lc]]
def KpB (bx:Nat)(a:Option Addr)(W W':World):Prop:=W'.heap[bx]?=W.heap[bx]?/\∀ g,a=some ⟨g,0,none⟩->W'.heap[g]?=W.heap[g]?
variable {w:World}{base c:Nat}{a:Option Addr}{ws:List Wr}
theorem pR0 (h:w.ownsRow base 196 2 (.slice a ws.length c) ws.length (ws.flatMap Wr.cells)){j:Nat}{x:Wr}(hx:ws[j]?=some x) :
  ∃ g cur,a=some ⟨g,0,none⟩/\w.heap[g]?=some (.cells cur 196)/\cur[2*j]?=some (.int .i64 x.at_)/\cur[2*j+1]?=some (.slice x.la x.ll x.lc):=by
 obtain⟨hl,⟨h1,h2⟩|⟨g,cap,cur,h1,_,hg,_,_,_,ht⟩⟩:=h
 ·have:=(gI.1 hx).1;omega
 ·cases h1;obtain⟨k0,k1⟩:=oX0 ws hx;have hj:=(gI.1 hx).1;rw[<- ht] at k0 k1;rw[gT,if_pos oM] at k0 k1;exact⟨g,cur,rfl,hg,by simpa using k0,by simpa using k1⟩
theorem mw0 {ok:Nat->Wr->Prop}{bx:Nat}(h:w.ownsRow base 196 2 (.slice a ws.length c) ws.length (ws.flatMap Wr.cells))(hlen:ws.length<=100000)(hok:∀ i x,ws[i]?=some x->ok i x)(hx:w.heap[bx]?=some (.cells #[.slice a ws.length c] 149)) :
  SeqStopsK Fence.wide 9 Tryz.prog 231 #[.pointer (some ⟨bx,0,none⟩)] (AJ0 (ok:=ok)) (KpB bx a) (fun xs=>xs.map (·.1)=bk ws ws.length) (fun pre=>pre.map (·.1) <+: bk ws ws.length) ws.length w:=fun l J Jx W hW hJ _ hY h0=>by
 have hbx:=loh hx;have hx':=(hW.block bx hbx).trans hx;have hcl:∀ j x,ws[j]?=some x->∃ g cur,a=some ⟨g,0,none⟩/\W.heap[g]?=some (.cells cur 196)/\cur[2*j]?=some (.int .i64 x.at_)/\cur[2*j+1]?=some (.slice x.la x.ll x.lc):=fun j x hj=>by
  obtain⟨g,cur,e,hg,r⟩:=pR0 h hj;exact⟨g,cur,e,(hW.block g (loh hg)).trans hg,r⟩
 have HCL:=hid hcl;have HX:=hid hx';have cx:=coh hx' 0;simp at cx;clear hx hW h hcl hx';refine callsIn_of_wp Tryz.func231 rfl trivial ?_ rfl;simp only[Tryz.ntmps231,zA,lC,lz9,Nat.reduceAdd,Nat.reduceSub,lq9,lr9,ly9,ls9,le9,lo9];gi_wp2
 gi_loopw [3] (fun i wr=>∃ k:Nat,k<=ws.length/\i = .int .i64 ((ws.length:Int)-1-k)/\(∃ pre:List (zU0 ok),pre.map (·.1)=bk ws k/\J pre wr)/\KpB bx a W wr) (fun i _=>(intOf i+1).toNat)
 case atStart=>exact⟨0,la9 _,by simp,⟨[],rfl,h0⟩,rfl,fun _ _=>rfl⟩
 case round =>
  obtain⟨k,hk,rfl,⟨pre,hpre,hJs⟩,hkp⟩:=hrel;have HPRE:=hid hpre;have hplen:pre.length=k:=by have:=congrArg List.length hpre;rw[qc0] at this;simpa using this
  have HPL:=hid hplen;clear hpre hplen;have cb:=coh (hkp.1.trans HX.out) 0;simp at cb;by_cases hlt:k<ws.length
  ·obtain⟨j,hj⟩:∃ j:Nat,ws.length=j+1+k:=⟨ws.length-1-k,oM⟩
   have ej:(ws.length:Int)-1-k=(j:Int):=oM
   obtain⟨x,hx⟩:∃ x,ws[j]?=some x:=⟨_,gE oM⟩
   obtain⟨g,cur,rfl,hg,h1,h2⟩:=HCL.out j x hx;have hg':=(hkp.2 g rfl).trans hg;have c1:wr.cell? ⟨g,j*2,none⟩=some (.int .i64 x.at_):=(coh hg' (j*2)).trans (by rw[lJ9 j 2];exact h1);have c2:wr.cell? ⟨g,j*2+1,none⟩=some (.slice x.la x.ll x.lc):=(coh hg' (j*2+1)).trans (by rw[lJ9 j 2];exact h2);have hs:bk ws (k+1)=bk ws k++[(j,x)]:=by
    rw[mv0,show ws.length-1-k=j by omega];simp[List.getD,hx]
   have HS:=hid hs;have HOK:=hok j x hx;have HK:=hid hkp;have HEJ:=hid ej;have HJL:=hid hj;rw[ej];obtain⟨xat,xa,xl,xc⟩:=x;clear hs hg hg' h1 h2 hx hkp ej hj;obtain⟨fn,tmps,assign,body,hy,hR⟩:=hY _ ⟨(j,⟨xat,xa,xl,xc⟩),HOK⟩ wr hJs (by rw[HPL.out];exact hlt);dsimp only[AJ0] at hy;have hj0:j<ws.length:=by have:=HJL.out;omega
   gi_wp2
   refine hR.mono ?_;rintro e W3 (⟨rfl,hJ3,hk3⟩|⟨rfl,hJx3⟩)
   ·have HJ3:=hid hJ3;have HK3:=hid hk3;clear hJ3 hk3;gi_wp2
    go_roundw;case rel=>exact⟨k+1,oM,by have:=HEJ.out;go_num,⟨_,by rw[HS.out,lt9,HPRE.out];rfl,HJ3.out⟩,HK3.out.1.trans HK.out.1,fun g' e=>(HK3.out.2 g' e).trans (HK.out.2 g' e)⟩
    case measure=>simp[intOf]
   ·have HJX:=hid hJx3;clear hJx3;gi_wp2
    refine bodyPost_ret (results_none rfl _ _ _) rfl ?_;exact⟨⟨_,rfl⟩,.inr ⟨_,(by have:=kN0 ws (a:=k+1) (b:=ws.length) (by have:=HJL.out;omega);rw[HS.out] at this;rw[lt9,HPRE.out];exact this),HJX.out⟩⟩
  ·obtain rfl:k=ws.length:=by omega
   have e1:(ws.length:Int)-1-(ws.length:Int) = -1:=oM
   rw[e1];gi_wp2
   go_end0
   exact⟨⟨_,rfl⟩,.inl ⟨_,HPRE.out,hJs⟩⟩
end Go.Proofs.YtgdhaaokolfdoaaGreatDoor
namespace Go.Sg
section
open Go.RowKit Go.ChangeShapes
theorem fv0 {H:Type}{enc:TypeId × Value->H}{P:Program}(hl:laidOutB P=true){W W':World}(hb:Below W.heap.size W W') :
  ∀ {ts:List TypeId} {vs:List Value} {ds:List (DataW H)} {ps:List MemPlace},(∀ t ∈ ts,P.readableRec t=true/\t<P.types.size)->(∀ x ∈ ps,x.block<W.heap.size) ->
   DataW.TrodAll enc P W 0 (fun _=>true) true ts vs ds ps->DataW.TrodAll enc P W' 0 (fun b=>decide (b<W.heap.size)) true ts vs ds ps
 | [],vs,ds,ps,_,_,h=>by obtain⟨rfl,rfl,rfl⟩:=trodAll_nil h;exact h
 | t :: ts,vs,ds,ps,ht,hp,h=>by
  obtain⟨v,vs',d,ds',p,q,rfl,rfl,rfl,h0,r0⟩:=trodAll_cons h;exact⟨p,q,Below.trod hl (ht t sP).1 (ht t sP).2 h0 hb (fun x hx=>hp x (by simp[hx])),
   fv0 hl hb (fun u hu=>ht u (by simp[hu])) (fun x hx=>hp x (by simp[hx])) r0,rfl⟩
theorem ur0 {H:Type}{enc:TypeId × Value->H}{P:Program}{f:Func}{s:ChangeSpec}{apart:Bool}{W W':World}{args:Array Value}{ds gs:List (DataW H)}{before:List MemPlace}{tb:TypeId}
  (hl:laidOutB P=true) (hts':(f.params.toList.all fun t=>P.readableRec t && decide (t<P.types.size))=true) (hv:s.vars=[]) (hr:f.resultTypes=#[tb]) (hu:P.underlying tb=some .bool)
  (hW:DataW.Whole enc P f.params.toList s.vars apart W args.toList ds gs before) (hb:Below W.heap.size W W') (hfn:s.fn H ds={ results:=[.lit (.bool true)],args:=ds }) :
  s.post enc P f apart true false false W args (.bool true) W':=by
 have hts:∀ t ∈ f.params.toList,P.readableRec t=true/\t<P.types.size:=fun t ht=>by
  have:=ns9.1 hts' t ht;simpa using this
 have hW0:=hW;have hlt:=hW.lt;obtain⟨p,q,hA,hV,rfl,_,_⟩:=hW;rw[hv] at hV;cases gs with
 | cons _ _=>simp[DataW.TrodVars] at hV
 | nil =>
  have hq:q=[]:=hV;subst hq;have hfn:s.fn H (ds++[])={ results:=[.lit (.bool true)],args:=ds }:=by rw[mF9];exact hfn
  refine⟨ds,[],_,[],p,[],hW0,?_,?_,?_,hb.frame _,fun h=>by cases h⟩
  ·rw[hfn,hr];exact trodAll_mk1 (shut_bool hu true)
  ·rw[hfn];exact fv0 hl hb hts (fun x hx=>hlt x (by simp[hx])) hA
  ·rw[hfn,hv];rfl
end
section
open Go.RowKit Go.ChangeShapes Go.WideShapes Go.Deep
theorem sI0 {w:World}{a:Addr}{v:Value}(h:w.cell? a=some v):a=⟨a.block,a.off,none⟩:=by
 cases a with
 | mk b o s =>
  cases s with
  | none=>rfl
  | some s=>unfold World.cell? at h;split at h <;> simp at h
section
variable {H:Type}{enc:TypeId × Value->H}{P:Program}{w:World}
