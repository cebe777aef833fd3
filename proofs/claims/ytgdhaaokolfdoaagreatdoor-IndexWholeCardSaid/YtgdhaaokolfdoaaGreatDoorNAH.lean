/- A pack of texts. Conditions: those that each names. -/
import Derived.Test.YtgdhaaokolfdoaaGreatDoorNAC
import Derived.Deep.RegionHeld3
import Derived.Deep.AppendLies
import Derived.Deep.RegionLaw
import Derived.Deep.CutRange
set_option maxHeartbeats 16000000
set_option maxRecDepth 100000
set_option linter.all false
namespace Go.Proofs.YtgdhaaokolfdoaaGreatDoor
open Go.RowKit Go.Sg Tryz
abbrev uw (D:Dev)(bf bq:Nat)(lv:Value):Array Value:=#[iI D.C0,iI D.size,.map (some bf),lv,.map (some bq),iI D.armed,iI D.acts,bO D.down]
variable {w w1:w9}{base bf bq cap cc cl d gg:Nat}{D:Dev}{lv v:Value}{at_ k:Int}{ca:Option Addr}{bs:List Int}
def xS0 (h:w.heap[d]?=some (.cells (uw D bf bq lv) 151))(Q7:D.acts<=1000000)(mJ:D.armed<=9223372036854775807) :
  cP 112 #[pO d] w fun e w'=>e = rT (bO D.act.down)/\w'.heap[d]?=some (.cells (uw D.act bf bq lv) 151)/\Fr (fun b=>b=d) w w':=by
 have c5:=G0 h 5;have c6:=G0 h 6;have c7:=G0 h 7;have z:=fun o=>X2 h o
 have l:=M0 h;simp at c5 c6 c7;have H:=hid h;clear h;by_cases ha:D.armed=0
 .have ha':¬ (0:Int)<(D.armed:Int):=by omega
  have HA:=hid ha;clear ha;go_enter func112,ntmps112;go_wp2
  go_ret;refine⟨?_,?_,(Fr.refl (fun b=>b=d) _).setCell (a:=⟨d,6,none⟩) (fun _=>rfl) _⟩
  .simp[Dev.act,HA.o]
  .rw[hsc _ _ _ _ H];simp[Dev.act,HA.o]
 .have ha':(0:Int)<(D.armed:Int):=by omega
  have HA:=hid ha;clear ha;go_enter func112,ntmps112;go_wp2
  go_ret;have hb:(((D.armed:Int)-1) == 0)=D.act.down:=by
   have h0:=HA.o;by_cases h1:D.armed=1
   .simp[Dev.act,h1]
   .have:¬ ((D.armed:Int)-1=0):=oM;simp[Dev.act,h0,h1,this]
  refine⟨by rw[hb];rfl,?_,(((Fr.refl (fun b=>b=d) _).setCell (a:=⟨d,6,none⟩) (fun _=>rfl) _).setCell (a:=⟨d,5,none⟩) (fun _=>rfl) _).setCell (a:=⟨d,7,none⟩) (fun _=>rfl) _⟩;rw[hb];have h6:=hsc w d 6 (iI ((D.acts:Int)+1)) H.o;have h5:=hsc _ d 5 (iI ((D.armed:Int)-1)) h6;have h7:=hsc _ d 7 (bO D.act.down) h5;rw[h7];have e1:((D.armed:Int)-1)=((D.armed-1:Nat):Int):=oM
  rw[e1];simp[Dev.act]
def yQ (w:w9):(zeroValue 203).run prog w = .ok (sL none 0 0) w:=by kernel_rfl
def Hx:(prog.info? 196).map (fun i=>(i.zero,i.size,i.bytes))=some (some (.agg #[iI 0,sL none 0 0]),2,32):=by kernel_rfl
def jV:(prog.info? 22).map (fun i=>(i.zero,i.size,i.bytes))=some (some (sL none 0 0),1,24):=by kernel_rfl
def lN (w:w9)(base d bq:Nat)(b:Nat):Prop:=b=d\/b=bq\/(base<=b/\∃ c t,(t=196\/t=22)/\w.heap[b]?=some (.cells c t))
def Re (w:w9)(base d:Nat)(b:Nat):Prop:=b=d\/(base<=b/\∃ c,w.heap[b]?=some (.cells c 196))
def kY.fr {S:Nat->Prop}{w':w9}{N:Nat}(h:kY w base N v)(F:Fr S w w')(h22:∀ g c,w.heap[g]?=some (.cells c 22)->¬ S g)(h5:∀ g c,w.heap[g]?=some (.cells c 5)->¬ S g):kY w' base N v:=by
 obtain⟨n,xs,hn,hx,jj⟩:=h;refine⟨n,xs,hn,K3 hx F h22,fun y hy=>?_⟩;obtain⟨a,k,cap,bs,e,hb,hk⟩:=jj y hy;exact⟨a,k,cap,bs,e,hb.fr F h5,hk⟩
def qi0 {w4:w9}(h:Q4 w base d bf bq D)(Z0:base<=w){ws:List Wr}(hd:w.heap[d]?=some (.cells (uw D bf bq lv) 151))(A0:w.ownsRow base 196 2 lv ws.length (ws.flatMap Wr.cells))(bZ:ws.length=D.loose.length)
  (X7:∀ (i:Nat) (x:Wr) (y:Int × List Int),ws[i]?=some x->D.loose[i]?=some y->x.at_=y.1/\(T0 w x.la x.ll x.lc y.2/\x.ll<=x.lc)) (hb:T0 w ca cl cc bs) (hcc:cl<=cc)
  (C2:w4.ownsRow base 196 2 (sL gg (ws.length+1) cap) (ws.length+1) (ws.flatMap Wr.cells++[iI at_,sL ca cl cc]))
  (R0:(w.alloc (.cells #[iI at_,sL ca cl cc] 196)).drew.grownBy w4 lv.ownBlock) (G4:lv.ownBlock=some gg\/gg=w.heap.size+1) :
  Q4 (w4.setCell (aA d 3) (sL gg (ws.length+1) cap)) base d bf bq { D with loose:=D.loose++[(at_,bs)] } /\
   Fr (Re w base d) w (w4.setCell (aA d 3) (sL gg (ws.length+1) cap)):=by
 have rh:∀ b,some b=lv.ownBlock->base<=b/\∃ c,w.heap[b]?=some (.cells c 196):=fun b e=>by
  obtain⟨_,⟨h1,_⟩|⟨g',cap',cur',h1,P4,I1,_⟩⟩:=A0
  .rw[h1] at e;cases e
  .rw[h1] at e;have e2:b=g':=Option.some.inj e;rw[e2];exact⟨P4,_,I1⟩
 have FA:Fr (fun b=>some b=lv.ownBlock) w (w.alloc (.cells #[iI at_,sL ca cl cc] 196)).drew:=(fR.alloc _).drew;have F4:Fr (fun b=>some b=lv.ownBlock) w w4:=FA.trans (S':=fun b=>some b=lv.ownBlock) ⟨R0.os,R0.tape,R0.output,R0.size,fun b hb hn=>R0.block b hb hn⟩ nI;have nd:¬ some d=lv.ownBlock:=fun e=>by obtain⟨_,c,hc⟩:=rh d e;rw[hd] at hc;cases hc
 have ti:=F4.heap hd nd;have F5:Fr (fun b=>b=d) w4 (w4.setCell (aA d 3) (sL gg (ws.length+1) cap)):=(Fr.refl (fun b=>b=d) _).setCell (a:=⟨d,3,none⟩) (fun _=>rfl) _;have bg:Fr (fun b=>some b=lv.ownBlock\/b=d) w (w4.setCell (aA d 3) (sL gg (ws.length+1) cap)):=(F4.mono fun _ _ h=>.inl h).trans F5 fun _ _ h=>.inr h;have n5:∀ g c t,t≠196->t≠151->w.heap[g]?=some (.cells c t)->¬ (some g=lv.ownBlock\/g=d):=fun g c t h1 h2 hg e=>by
  rcases e with e|e
  .obtain⟨_,c',hc⟩:=rh g e;rw[hg] at hc;cases hc;exact h1 rfl
  .rw[e,hd] at hg;cases hg;exact h2 rfl
 have nm:∀ g l ck,w.heap[g]?=some (.map l ck)->¬ (some g=lv.ownBlock\/g=d):=fun g l ck hg e=>by
  rcases e with e|e
  .obtain⟨_,c',hc⟩:=rh g e;rw[hg] at hc;cases hc
  .rw[e,hd] at hg;cases hg
 have hB:∀ {a n c bs},T0 w a n c bs->T0 (w4.setCell (aA d 3) (sL gg (ws.length+1) cap)) a n c bs:=fun hb=>hb.fr bg fun b c hc=>n5 b c 5 dC dC hc
 have CK:(w4.setCell (aA d 3) (sL gg (ws.length+1) cap)).heap[d]?=some (.cells (uw D bf bq (sL gg (ws.length+1) cap)) 151):=by
  rw[hsc _ _ _ _ ti];rfl
 obtain⟨l,ck,hf,U9,U8⟩:=h.fast;obtain⟨l',js,hq,ah,jg,fN⟩:=h.past;refine⟨⟨⟨_,CK,ws++[⟨at_,ca,cl,cc⟩],?_,by simp[bZ],fun i x y hx hy=>?_⟩,⟨l,ck,bg.heap hf (nm _ _ _ hf),U9,fun k=>?_⟩,⟨l',js,bg.heap hq (nm _ _ _ hq),ah,fun e he=>?_,fN⟩,h.ge,h.ne,h.rg⟩,?_⟩
 .have e1:(ws++[(⟨at_,ca,cl,cc⟩:Wr)]).flatMap Wr.cells=ws.flatMap Wr.cells++[iI at_,sL ca cl cc]:=by simp[Wr.cells]
  rw[e1,lA];refine K3 C2 F5 fun g c hg e=>?_;rw[e,ti] at hg;cases hg
 .by_cases hi:i<ws.length
  .rw[jn hi] at hx;rw[jn oM] at hy;exact⟨(X7 i x y hx hy).1,hB (X7 i x y hx hy).2.1,(X7 i x y hx hy).2.2⟩
  .have C6:=hx;have hlt:=(gI.1 hx).1;simp at hlt;obtain rfl:i=ws.length:=by omega
   rw[kN (nR _),DT] at hx;rw[bZ,kN (nR _),DT] at hy;simp at hx hy;subst hx hy;exact⟨rfl,hB hb,hcc⟩
 .have:=U8 k;cases hlk:Sg.look l k with
  | none=>rw[hlk] at this;cases hx:D.fast k with
   | none=>trivial
   | some bs=>rw[hx] at this;exact this.elim
  | some v=>rw[hlk] at this;cases hx:D.fast k with
   | none=>rw[hx] at this;exact this.elim
   | some bs =>
    rw[hx] at this;obtain⟨b,off,cap,e,hb,mN⟩:=this;exact⟨b,off,cap,e,hB hb,mN⟩
 .obtain⟨n,xs,Ku,hx,jj⟩:=jg e he;refine⟨n,xs,Ku,K3 hx bg fun g c hg=>n5 g c 22 dC dC hg,fun y hy=>?_⟩;obtain⟨a,k,cap,bs,e,hb,hk⟩:=jj y hy;exact⟨a,k,cap,bs,e,hB hb,hk⟩
 .refine bg.mono fun b hb e=>?_
  rcases e with e|e
  .obtain⟨h1,c,h2⟩:=rh b e;exact .inr ⟨h1,c,h2⟩
  .exact .inl e
def XI (h:Q4 w base d bf bq D)(hd:w.heap[d]?=some (.cells (uw D bf bq lv) 151))(hl:Qa w base lv D.loose)(av:w1.heap[d]?=some (.cells (uw D.act bf bq lv) 151))(F:Fr (fun b=>b=d) w w1):Q4 w1 base d bf bq D.act:=by
 have n5:∀ g c t,t≠151->w.heap[g]?=some (.cells c t)->¬ g=d:=fun g c t h2 hg e=>by rw[e,hd] at hg;cases hg;exact h2 rfl
 have nm:∀ g l ck,w.heap[g]?=some (.map l ck)->¬ g=d:=fun g l ck hg e=>by rw[e,hd] at hg;cases hg
 have hB:∀ {a n c bs},T0 w a n c bs->T0 w1 a n c bs:=fun hb=>hb.fr F fun b c hc=>n5 b c 5 dC hc
 obtain⟨l,ck,hf,U9,U8⟩:=h.fast;obtain⟨l',js,hq,ah,jg,fN⟩:=h.past;obtain⟨ws,A0,bZ,X7⟩:=hl;refine⟨⟨_,av,ws,K3 A0 F fun g c hg=>n5 g c 196 dC hg,bZ,fun i x y hx hy=>⟨(X7 i x y hx hy).1,hB (X7 i x y hx hy).2.1,(X7 i x y hx hy).2.2⟩⟩,⟨l,ck,F.heap hf (nm _ _ _ hf),U9,fun k=>?_⟩,⟨l',js,F.heap hq (nm _ _ _ hq),ah,fun e he=>?_,fN⟩,h.ge,h.ne,h.rg⟩
 .have:=U8 k;show uW w1 D.size _ (D.fast k);cases hlk:Sg.look l k with
  | none=>rw[hlk] at this;cases hx:D.fast k with
   | none=>trivial
   | some bs=>rw[hx] at this;exact this.elim
  | some v=>rw[hlk] at this;cases hx:D.fast k with
   | none=>rw[hx] at this;exact this.elim
   | some bs =>
    rw[hx] at this;obtain⟨b,off,cap,e,hb,mN⟩:=this;exact⟨b,off,cap,e,hB hb,mN⟩
 .obtain⟨n,xs,Ku,hx,jj⟩:=jg e he;refine⟨n,xs,Qn Ku,K3 hx F fun g c hg=>n5 g c 22 dC hg,fun y hy=>?_⟩;obtain⟨a,k,cap,bs,e,hb,hk⟩:=jj y hy;exact⟨a,k,cap,bs,e,hB hb,hk⟩
variable {l:List Z4}
def LN {c:Nat}(hn:(keys l).Nodup){e:Z4}(he:e ∈ Sg.put l k v c):(e.k=k/\e.v=v)\/(e.k≠k/\e ∈ l):=by
 induction l with
 | nil=>simp[Sg.put] at he;subst he;exact .inl ⟨rfl,rfl⟩
 | cons x r ih =>
  have Kq:(keys r).Nodup:=by simp[keys] at hn ⊢;exact hn.2
  have hx:∀ y ∈ r,y.k≠x.k:=by
   intro y hy e;simp[keys] at hn;exact hn.1 y hy e
  unfold Sg.put at he;split at he
  .rename_i hk;have A5:x.k=k:=by simpa using hk
   rcases d9.1 he with rfl|he
   .exact .inl ⟨by simp,rfl⟩
   .exact .inr ⟨fun e2=>hx e he (by rw[e2,A5]),jH _ he⟩
  .rename_i hk;have A5:¬ x.k=k:=by simpa using hk
   rcases d9.1 he with rfl|he
   .exact .inr ⟨A5,by simp⟩
   .rcases ih Kq he with h|⟨h1,h2⟩
    .exact .inl h
    .exact .inr ⟨h1,jH _ h2⟩
def PQ (h:Sg.look l k=some v):∃ e ∈ l,e.k=k/\e.v=v:=by
 unfold Sg.look at h;cases hf:l.find? (·.k == k) with
 | none=>rw[hf] at h;cases h
 | some e =>
  rw[hf] at h;have h1:=List.find?_some hf;exact⟨e,Xz hf,by simpa using h1,by simpa using h⟩
def vT0 {w6:w9}(h:Q4 w base d bf bq D)(Z0:base<=w){ck:Nat}(hq:w.heap[bq]?=some (.map (ents l) ck))(ah:(keys l).Nodup)(jg:∀ e ∈ l,kY w base D.acts e.v)
  (fN:∀ e ∈ l,∀ e' ∈ l,∀ g,e.v.ownBlock=some g->e'.v.ownBlock=some g->e.k=e'.k) {pv:Value} (og:Sg.look l at_=some pv\/pv = sL none 0 0) {n:Nat} {xs:List Value} (A0:w.ownsRow base 22 1 pv n xs)
  (jj:∀ x ∈ xs,∃ a k cap bs,x = sL a k cap/\T0 w a k cap bs/\k<=512) (hn:n+1<=D.acts) (hb:T0 w ca cl cc bs) (B6:cl<=512)
  (aB:w6.ownsRow base 22 1 (sL gg (n+1) cap) (n+1) (xs++[sL ca cl cc]))
  (R0:(w.alloc (.cells #[sL ca cl cc] 22)).drew.grownBy w6 pv.ownBlock) (G4:pv.ownBlock=some gg\/gg=w.heap.size+1) :
  Q4 (w6.putObj bq (.map (ents (Sg.put l at_ (sL gg (n+1) cap) ck)) (bump l at_ ck))) base d bf bq D /\
   Fr (lN w base d bq) w (w6.putObj bq (.map (ents (Sg.put l at_ (sL gg (n+1) cap) ck)) (bump l at_ ck))):=by
 have rh:∀ b,some b=pv.ownBlock->base<=b/\∃ c,w.heap[b]?=some (.cells c 22):=fun b e=>by
  obtain⟨_,⟨h1,_⟩|⟨g',cap',cur',h1,P4,I1,_⟩⟩:=A0
  .rw[h1] at e;cases e
  .rw[h1] at e;have e2:b=g':=Option.some.inj e;rw[e2];exact⟨P4,_,I1⟩
 have FA:Fr (fun b=>some b=pv.ownBlock) w (w.alloc (.cells #[sL ca cl cc] 22)).drew:=(fR.alloc _).drew;have F6:Fr (fun b=>some b=pv.ownBlock) w w6:=FA.trans (S':=fun b=>some b=pv.ownBlock) ⟨R0.os,R0.tape,R0.output,R0.size,fun b hb hn=>R0.block b hb hn⟩ nI;have hq6:=F6.heap hq (fun e=>by obtain⟨_,c,hc⟩:=rh bq e;rw[hq] at hc;cases hc);obtain⟨W,hW⟩:=eX (w6.putObj bq (.map (ents (Sg.put l at_ (sL gg (n+1) cap) ck)) (bump l at_ ck)))
 have hqW:W.heap[bq]?=some (.map (ents (Sg.put l at_ (sL gg (n+1) cap) ck)) (bump l at_ ck)):=by rw[<- hW];exact wK _ _ _ (M0 hq6)
 have lO:Fr (fun b=>b=bq) w6 W:=by rw[<- hW];exact (Fr.refl (fun b=>b=bq) _).putObj (fun _=>rfl) _
 rw[hW];have F:Fr (fun b=>some b=pv.ownBlock\/b=bq) w W:=(F6.mono fun _ _ h=>.inl h).trans lO fun _ _ h=>.inr h;have n5:∀ g c t,t≠22->w.heap[g]?=some (.cells c t)->¬ (some g=pv.ownBlock\/g=bq):=fun g c t h1 hg e=>by
  rcases e with e|e
  .obtain⟨_,c',hc⟩:=rh g e;rw[hg] at hc;cases hc;exact h1 rfl
  .rw[e,hq] at hg;cases hg
 have hB:∀ {a n c bs},T0 w a n c bs->T0 W a n c bs:=fun hb=>hb.fr F fun b c hc=>n5 b c 5 dC hc
 obtain⟨lv,hd,ws,KG,bZ,X7⟩:=h.dc;obtain⟨l0,If,hf,U9,U8⟩:=h.fast;refine⟨⟨⟨lv,F.heap hd (n5 _ _ 151 dC hd),ws,K3 KG F fun g c hg=>n5 g c 196 dC hg,bZ,fun i x y hx hy=>⟨(X7 i x y hx hy).1,hB (X7 i x y hx hy).2.1,(X7 i x y hx hy).2.2⟩⟩,⟨l0,If,F.heap hf ?_,U9,fun k=>?_⟩,⟨_,_,hqW,ED ah _ _ _,fun e he=>?_,fun e he e' Ps g hg I1=>?_⟩,h.ge,h.ne,h.rg⟩,?_⟩
 .intro e;rcases e with e|e
  .obtain⟨_,c',hc⟩:=rh bf e;rw[hf] at hc;cases hc
  .exact h.ne e
 .have:=U8 k;cases hlk:Sg.look l0 k with
  | none=>rw[hlk] at this;cases hx:D.fast k with
   | none=>trivial
   | some bs=>rw[hx] at this;exact this.elim
  | some v=>rw[hlk] at this;cases hx:D.fast k with
   | none=>rw[hx] at this;exact this.elim
   | some bs =>
    rw[hx] at this;obtain⟨b,off,cap,e,hb,mN⟩:=this;exact⟨b,off,cap,e,hB hb,mN⟩
 .rcases LN ah he with⟨_,hv⟩|⟨hk,hm⟩
  .rw[hv];refine⟨n+1,_,hn,K3 aB lO (fun g c hg e=>by rw[e,hq6] at hg;cases hg),fun x hx=>?_⟩;rcases X5.1 hx with hx|hx
   .obtain⟨a,k,cap,bs,e,hb,hk⟩:=jj x hx;exact⟨a,k,cap,bs,e,hB hb,hk⟩
   .simp at hx;subst hx;exact⟨_,_,_,_,rfl,hB hb,B6⟩
  .obtain⟨m,ys,ew,hy,jG⟩:=jg e hm;refine⟨m,ys,ew,?_,fun y hy=>?_⟩
   .have hy':=hy;obtain⟨nY,h0|⟨g,cap',cur,hv,zK,xw,rest⟩⟩:=hy
    .exact⟨nY,.inl h0⟩
    .refine⟨nY,.inr ⟨g,cap',cur,hv,zK,F.heap xw ?_,rest⟩⟩;intro e2;rcases e2 with e2|e2
     .rcases og with og|og
      .obtain⟨e0,TO,TP,TQ⟩:=PQ og;have:=fN e0 TO e hm g (by rw[TQ];exact e2.symm) (by rw[hv];rfl);exact hk (by rw[<- this,TP])
      .rw[og] at e2;cases e2
     .rw[e2,hq] at xw;cases xw
   .obtain⟨a,k,cap,bs,e,hb,hk⟩:=jG y hy;exact⟨a,k,cap,bs,e,hB hb,hk⟩
 .have key:∀ e1 ∈ l,e1.k≠at_->e1.v.ownBlock=some gg->False:=fun e1 h1 h2 h3=>by
   rcases G4 with G4|G4
   .rcases og with og|og
    .obtain⟨e0,TO,TP,TQ⟩:=PQ og;have:=fN e0 TO e1 h1 gg (by rw[TQ];exact G4) h3;exact h2 (by rw[<- this,TP])
    .rw[og] at G4;cases G4
   .obtain⟨m,ys,ew,⟨nY,⟨h0,_⟩|⟨g',cap',cur,hv,zK,xw,_⟩⟩,_⟩:=jg e1 h1
    .rw[h0] at h3;cases h3
    .rw[hv] at h3;have:g'=gg:=Option.some.inj h3;have:=M0 xw;omega
  rcases LN ah he with⟨hk,hv⟩|⟨hk,hm⟩ <;> rcases LN ah Ps with⟨A5,hv'⟩|⟨A5,O8⟩
  .rw[hk,A5]
  .rw[hv] at hg;have:gg=g:=Option.some.inj hg;subst this;exact (key e' O8 A5 I1).elim
  .rw[hv'] at I1;have:gg=g:=Option.some.inj I1;subst this;exact (key e hm hk hg).elim
  .exact fN e hm e' O8 g hg I1
 .refine F.mono fun b hb e=>?_
  rcases e with e|e
  .obtain⟨h1,c,h2⟩:=rh b e;exact .inr (.inr ⟨h1,c,22,.inr rfl,h2⟩)
  .exact .inr (.inl e)
def lN.trans {w2:w9}(h:Fr (lN w base d bq) w w1)(k:Fr (lN w1 base d bq) w1 w2):Fr (lN w base d bq) w w2:=
 Fr.trans h k fun b hb hs=>by
  rcases Classical.em (lN w base d bq b) with hm|hm
  .exact hm
  .have e:=h.block b hb hm;rcases hs with hs|hs|⟨h1,c,t,ht,hc⟩
   .exact .inl hs
   .exact .inr (.inl hs)
   .exact .inr (.inr ⟨h1,c,t,ht,by rw[<- e];exact hc⟩)
def Mid (base d bf bq:Nat)(D:Dev)(bx:Nat)(v:Value)(w3 w:w9):Prop:=Q4 w base d bf bq D/\Fr (Re w3 base d) w3 w/\w.cell? (aA bx 1)=some v
def WritePost (base d bf bq:Nat)(D:Dev)(at_:Nat)(bs:List Int)(w:w9)(e:Ending)(w':w9):Prop:=
 e = rT (iI (if D.act.down=true then 4 else 0))/\Q4 w' base d bf bq { D.act with loose:=D.loose++[((at_:Int),bs)] }/\Fr (lN w base d bq) w w'
def nf0 (h:Q4 w base d bf bq D)(Z0:base<=w)(A4:D.down=false)(Q7:D.acts<=1000000)(mJ:D.armed<=9223372036854775807)(B5:D.loose.length<=100000)(at_:Nat)(G4:at_<D.C0)
   {la:Option Addr} {lc:Nat} (hb:T0 w la D.size lc bs) :
   cP 229 #[pO d,iI at_,sL la D.size lc] w (WritePost base d bf bq D at_ bs w):=by
 obtain⟨i0,A3,J1,M1,O1⟩:=info_parts Hx;obtain⟨j0,fK,cH,jz1,cI⟩:=info_parts jV;obtain⟨lv,hd,ws,A0,bZ,X7⟩:=h.dc;have hz:=h.rg.2;have c0:=G0 hd 0;have c1:=G0 hd 1;have c7:=G0 hd 7;simp[A4] at c0 c1 c7;have lH:∃ a c,lv = sL a ws.length c:=by
   obtain⟨_,⟨h1,h2⟩|⟨g,cap,cur,h1,_⟩⟩:=A0
   . rw[h2];exact⟨_,_,h1⟩
   . exact⟨_,_,h1⟩
 obtain⟨va,vc,rfl⟩:=lH;have rO:=hid (pV0 (w:=w) (d:=d) (n:=D.C0) (at_:=at_) c0 c7 oM oM);have oG:=hid (xS0 (lv:=sL va ws.length vc) hd Q7 oM);have H:=hid h;have HB:=hid hb;have uD:=hid hb.len;have oS:=hid A0;have HW:=hi2 bZ X7;have vZ:=hid hd;clear h hb A0 bZ X7 hd A4;go_enter func229,ntmps229;go_wp2_with fail
 refine rO.mono ?_;rintro e w' ⟨rfl,rfl⟩;go_wp2_with fail
 refine oG.mono ?_;rintro e w1 ⟨rfl,av,F1⟩;generalize hdn:D.act.down=dn;have GD:=hid hdn;have yj:∀ g cs,w.heap[g]?=some (.cells cs 5)->¬ g=d:=fun g cs hg e=>by
   obtain⟨Xq,Fd,_⟩:=H.dc;rw[e,Fd] at hg;cases hg
 have E5:=HB.fr F1 yj;have oK:=hid (BF E5.slb oM);have K1:=K3 oS F1 (fun g c hg e=>by
   obtain⟨Xq,Fd,_⟩:=H.dc;rw[e,Fd] at hg;cases hg)
 have qC:=hi2 av (aI F1 K1);have CL:=G0 av 1;simp at CL;have JN:D.act.size=D.size:=rfl;rw[JN] at CL;clear E5 av F1 K1 yj c0 c1 c7 JN hdn;go_wp2_with fail
 refine oK.mono ?_;rintro e w2 ⟨ca,cc,rfl,⟨L4,hcc⟩,F2⟩;have HCC:=hid hcc;clear hcc;obtain⟨w3,K7⟩:=eX (w2.alloc (.cells #[iI at_,sL ca D.size cc] 196))
 have Z9:=fA K7
 have J7:=F2.trans Z9 nI;have dQ:=fB K7
 have ie:=J7.heap qC.1 id;have K0:=K3 qC.2.2 J7 fun _ _ _ h=>h;have d3:=G0 ie 3;have dz:=fun o=>X2 ie o
 have x0:=G0 dQ 0;have x1:=G0 dQ 1;simp at d3 x0 x1;have ld:=M0 ie;have lx:=M0 dQ;have nd:∀ {W:w9} {v:Value} {n:Nat} {xs:List Value} {c:Array Value},W.ownsRow base 196 2 v n xs->W.heap[d]?=some (.cells c 151)->v.ownBlock≠some d:=fun ho hh e=>by
   obtain⟨_,⟨rfl,_⟩|⟨g',cap,cur,rfl,hb,hg,_⟩⟩:=ho
   . cases e
   . cases e;rw[hg] at hh;cases hh
 have ND:=hid (nd K0 ie);have NX:=hid (show (sL va ws.length vc).ownBlock≠some w2.heap.size from fun e=>by
   obtain⟨_,⟨h1,_⟩|⟨g',cap,cur,h1,hb,hg,_⟩⟩:=oS.o
   . rw[h1] at e;cases e
   . rw[h1] at e;have e2:g'=w2.heap.size:=Option.some.inj e;rw[e2] at hg;have:=M0 hg;have:=qC.2.1.size;have:=F2.size;omega)
 have NDX:=hid (show ¬ d=w2.heap.size by have:=M0 vZ.o;have:=qC.2.1.size;have:=F2.size;omega);have Fw:w<=(w3:Nat):=nT qC.2.1.size J7.size;have GV:=hid K0;have H3:=hi2 ie (aI dQ (aI J7 (L4.fr Z9 fun _ _ _ h=>h)));have fx:=hid K7;clear K7 Z9 J7 dQ ie K0 L4 F2 CL nd;have bZ:ws.length<=100000:=by have:=HW.1;omega
 have RI:=hid ((XI H vZ ⟨ws,oS.o,HW.1,HW.2⟩ qC.1 qC.2.1).fr H3.2.2.1 id id id fun _ _ _ _ _ h=>h);have MQ:=qC.2.1;have SU:=hid (fun (i:Nat) (x:Wr) (y:Int × List Int) (hx:ws[i]?=some x) (hy:D.loose[i]?=some y)=>(⟨(HW.2 i x y hx hy).1,((HW.2 i x y hx hy).2.1.fr MQ fun g c hg e=>by rw[e,vZ] at hg;cases hg).fr H3.2.2.1 fun _ _ _ h=>h,(HW.2 i x y hx hy).2.2⟩:x.at_=y.1/\(T0 w3 x.la x.ll x.lc y.2/\x.ll<=x.lc)));obtain⟨pl,QG,hq,ah,jg,fN⟩:=H.past;have HPQ:=hi2 (H3.2.2.1.heap (MQ.heap hq fun e=>by rw[e,vZ] at hq;cases hq) id) (aI ah (aI (fun x (he:x ∈ pl)=>(kY.fr (kY.fr (jg x he) MQ (fun g c hg e=>by rw[e,vZ.o] at hg;cases hg) fun g c hg e=>by rw[e,vZ.o] at hg;cases hg) H3.2.2.1 (fun _ _ _ h=>h) (fun _ _ _ h=>h):kY w3 base D.acts x.v)) fN));clear hq ah jg fN MQ;go_upto_region 8 with fail
 rw[fx];go_cut [8] from 30 to 39 fun v wx=>v = bO dn/\Mid base d bf bq { D.act with loose:=D.loose++[((at_:Int),bs)] } w2.heap.size (sL ca D.size cc) w3 wx
 case first =>
  go_region_law
    ((refine step_append_lies _ rF _ _ _ rF base 196 i0 _ 2 32 underlying149 A3 J1 M1 O1 rfl oM (sL va ws.length vc) ws.length (ws.flatMap Wr.cells) rF ((GV.alloc _).drew)
        ⟨w3,0,none⟩ 1 1 [iI at_,sL ca D.size cc] rF rF (World.news_of_block (cs:=#[iI at_,sL ca D.size cc]) (t:=196) (fr:=(0,0)) (han w3 _)) (by simp[Value.oneCell'])
        oM (by unfold maxLen;omega) oM sO (w3.heap.size+1) sP ?_;intro gg cap w4 C2 R0 sQ hlt4;
       have GL:=hi2 C2 (aI R0 sQ);
       have d3:w4.cell? (aA d 3)=some (sL va ws.length vc):=(R0.cell_far ⟨d,3,none⟩ sO (Ne.symm ND.o)).trans (by simp[go_sem,d3,ld]);
       have x0:w4.cell? w2=some (iI at_):=(R0.cell_far ⟨w2,0,none⟩ sO (Ne.symm NX.o)).trans (by simp[go_sem,x0,lx]);
       have x1:w4.cell? (aA w2 1)=some (sL ca D.size cc):=(R0.cell_far ⟨w2,1,none⟩ sO (Ne.symm NX.o)).trans (by simp[go_sem,x1,lx]);
       have dz:w4.frozen? ⟨d,3,none⟩=false:=(R0.frozen_far ⟨d,3,none⟩ sO (Ne.symm ND.o)).trans (by simp[go_sem,dz,ld]);
       clear C2 R0 sQ))
  all_goals
   obtain⟨C2,tx,sQ⟩:=GL.o;obtain⟨kB,dQ,J7,P5⟩:=H3.o;obtain⟨uY,F5⟩:=qi0 RI oM kB GV HW.1 SU P5 HCC C2 tx sQ;have y1:(w4.setCell (aA d 3) (sL gg (ws.length+1) cap)).cell? (aA w2 1)=some (sL ca D.size cc):=by
     rw[World.cell?_of_block (fY _ _ _ _ (by simpa using NDX.o))];exact x1
   have HM:=hid (show Mid base d bf bq { D.act with loose:=D.loose++[((at_:Int),bs)] } w2.heap.size (sL ca D.size cc) w3 _ from⟨uY,F5,y1⟩);clear uY F5 y1 C2 tx sQ kB dQ J7 P5 GL;go_wp2_with fail
   go_meet
   case rel=>exact⟨rfl,HM.o⟩
 case rest =>
   obtain⟨rfl,uY,F5,y1⟩:=hcut;obtain⟨kB,dQ,J7,P5⟩:=H3.o;have n196:∀ g c t,t≠196->t≠151->w3.heap[g]?=some (.cells c t)->¬ Re w3 base d g:=fun g c t h1 h2 hg e=>by
     rcases e with e|⟨_,c',e⟩
     .rw[e,kB] at hg;cases hg;exact h2 rfl
     .rw[hg] at e;cases e;exact h1 rfl
   obtain⟨zX,ah,KP,fN⟩:=HPQ.o;have pT:wc.heap[bq]?=some (.map (ents pl) QG):=F5.heap zX (fun e=>by
     rcases e with e|⟨_,c',e⟩
     .rw[e,kB] at zX;cases zX
     .rw[zX] at e;cases e)
   have Dp:∀ x ∈ pl,kY wc base D.acts x.v:=fun x hx=>kY.fr (KP x hx) F5 (fun g c hg=>n196 g c 22 dC dC hg) fun g c hg=>n196 g c 5 dC dC hg
   have A6:T0 wc ca D.size cc bs:=P5.fr F5 fun g c hg=>n196 g c 5 dC dC hg;have hlk:=fun (W:w9) (hW:W.heap[bq]?=some (.map (ents pl) QG))=>yT (P:=prog) (T:=148) false underlying148 underlying3 yQ hW (at_:Int)
   have og:Sg.look pl at_=some ((Sg.look pl at_).getD (sL none 0 0))\/(Sg.look pl at_).getD (sL none 0 0) = sL none 0 0:=by
     cases Sg.look pl at_ with
     | none=>exact .inr rfl
     | some v=>exact .inl rfl
   have jf:kY wc base D.acts ((Sg.look pl at_).getD (sL none 0 0)):=by
     cases hl:Sg.look pl at_ with
     | none=>exact⟨0,[],C3 _,World.ownsRow_nil _ _ _ _,fun x hx=>by cases hx⟩
     | some v =>
      obtain⟨e0,h1,_,h3⟩:=PQ hl;have:=Dp e0 h1;rw[h3] at this;exact this
   simp only[jI,if_false] at hlk;generalize (Sg.look pl at_).getD (sL none 0 0)=pv at hlk og jf;obtain⟨pn,pxs,xI,oe,KN⟩:=jf;have ri:=fun (W:w9) (v:Value) (hW:W.heap[bq]?=some (.map (ents pl) QG))=>Bv (P:=prog) (T:=148) underlying148 underlying3 hW (at_:Int) v
   have k4:wc.cell? (aA d 4)=some (.map (some bq)):=by
     obtain⟨Xq,CK,_⟩:=uY.dc;simpa using G0 CK 4
   have l5d:d<wc:=World.block_lt_of_cell? _ _ k4;have l5x:=World.block_lt_of_cell? _ _ y1;have l5q:=M0 pT;have s5:=F5.size;have NPQ:=hid (show pv.ownBlock≠some bq from fun e=>by
     obtain⟨_,⟨h1,_⟩|⟨g',cap',cur',h1,_,I1,_⟩⟩:=oe
     .rw[h1] at e;cases e
     .rw[h1] at e;have e2:g'=bq:=Option.some.inj e;rw[e2,pT] at I1;cases I1)
   have NPD:=hid (show pv.ownBlock≠some d from fun e=>by
     obtain⟨_,⟨h1,_⟩|⟨g',cap',cur',h1,_,I1,_⟩⟩:=oe
     .rw[h1] at e;cases e
     .rw[h1] at e;have e2:g'=d:=Option.some.inj e;obtain⟨Xq,CK,_⟩:=uY.dc;rw[e2,CK] at I1;cases I1)
   have HP:=hi2 oe (aI KN og);have RT:=hid (show Fr (lN w base d bq) w wc from lN.trans (w1:=w1) (qC.2.1.mono fun b _ e=>.inl e) (lN.trans (w1:=w3) (J7.mono nE) (F5.mono (fun b _ e=>by
     rcases e with e|⟨e1,c,e2⟩
     .exact .inl e
     .exact .inr (.inr ⟨e1,c,196,.inl rfl,e2⟩)))))
   have Cv:base<=wc:=oM
   have Ha:=hi2 pT (aI ah (aI Dp fN));have H5:=hi2 uY (aI F5 A6);clear oe KN og ah Dp fN uY F5 A6 kB dQ J7 P5 n196 zX KP;have nY:=hlk wc.drew pT;have A8:=hlk (wc.alloc (.cells #[sL ca D.size cc] 22)).drew ((fE _ _ _ l5q).trans pT);have Ev:=hid ri;clear hlk ri;go_wp2
   go_region_law
     ((refine step_append_lies _ rF _ _ _ rF base 22 j0 _ 1 24 underlying203 fK cH jz1 cI rfl oM pv pn pxs rF ((HP.1.alloc _).drew)
        ⟨wc,0,none⟩ 1 1 [sL ca D.size cc] rF rF (World.news_of_block (cs:=#[sL ca D.size cc]) (t:=22) (fr:=(0,0)) (han wc _)) (by simp[Value.oneCell'])
        oM (by unfold maxLen;omega) oM sO (wc.heap.size+1) sP ?_;intro g6 cap6 w6 aB iW Ju hlt6;
       have HE:=hid (vT0 H5.1 Cv Ha.1 Ha.2.1 (fun x hx=>(Ha.2.2.1 x hx).imp fun n ⟨xs,h1,h2⟩=>⟨xs,Qn h1,h2⟩) Ha.2.2.2 HP.2.2 HP.1 HP.2.1 (Qt xI) H5.2.2 hz.2 aB iW Ju);
       have pT:w6.heap[bq]?=some (.map (ents pl) QG):=(iW.block bq sO (Ne.symm NPQ.o)).trans ((fE _ _ _ l5q).trans Ha.1);
       have hup6:=fun v=>Ev w6 v pT;
       have k46:w6.cell? (aA d 4)=some (.map (some bq)):=(iW.cell_far ⟨d,4,none⟩ sO (Ne.symm NPD.o)).trans (by simp[go_sem,k4,l5d]);
       clear aB iW Ju))
   all_goals
     cases dn;all_goals
      go_wp2
      go_ret;exact⟨by rw[GD];rfl,HE.1,lN.trans RT HE.2⟩
