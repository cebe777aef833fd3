/- A pack of texts. Conditions: those that each names. -/
import Derived.Test.YtgdhaaokolfdoaaGreatDoorNAD
import Derived.Deep.RegionHeld3
import Derived.Deep.AppendLies
import Derived.Deep.RegionLaw
import Derived.Deep.CutRange
set_option maxHeartbeats 16000000
set_option maxRecDepth 100000
set_option linter.all false
namespace Go.Proofs.YtgdhaaokolfdoaaGreatDoor
open Go.RowKit Go.Sg
abbrev tQ0 (D:Dev)(bf bq:Nat)(lv:Value):Array Value:=#[.int .i64 D.sectors,.int .i64 D.size,.map (some bf),lv,.map (some bq),.int .i64 D.armed,.int .i64 D.acts,.bool D.down]
variable {w w1:World}{base bf bq cap cc cl d gg:Nat}{D:Dev}{lv v:Value}{at_ k:Int}{ca:Option Addr}{bs:List Int}
theorem va0 (h:w.heap[d]?=some (.cells (tQ0 D bf bq lv) 151))(hacts:D.acts<=1000000)(harm:D.armed<=9223372036854775807) :
  Calls Tryz.prog 112 #[.pointer (some ⟨d,0,none⟩)] w fun e w'=>e = .returned (.bool D.act.down)/\w'.heap[d]?=some (.cells (tQ0 D.act bf bq lv) 151)/\Fr (fun b=>b=d) w w':=by
 have c5:=coh h 5;have c6:=coh h 6;have c7:=coh h 7;have z:=fun o=>foh h o
 have l:=loh h;simp at c5 c6 c7;have H:=hid h;clear h;by_cases ha:D.armed=0
 ·have ha':¬ (0:Int)<(D.armed:Int):=by omega
  have HA:=hid ha;clear ha;go_enter Tryz.func112,Tryz.ntmps112;go_wp2
  go_ret;refine⟨?_,?_,(Fr.refl (fun b=>b=d) _).setCell (a:=⟨d,6,none⟩) (fun _=>rfl) _⟩
  ·simp[Dev.act,HA.out]
  ·rw[hsc _ _ _ _ H.out];simp[Dev.act,HA.out]
 ·have ha':(0:Int)<(D.armed:Int):=by omega
  have HA:=hid ha;clear ha;go_enter Tryz.func112,Tryz.ntmps112;go_wp2
  go_ret;have hb:(((D.armed:Int)-1) == 0)=D.act.down:=by
   have h0:=HA.out;by_cases h1:D.armed=1
   ·simp[Dev.act,h1]
   ·have:¬ ((D.armed:Int)-1=0):=oM;simp[Dev.act,h0,h1,this]
  refine⟨by rw[hb];rfl,?_,(((Fr.refl (fun b=>b=d) _).setCell (a:=⟨d,6,none⟩) (fun _=>rfl) _).setCell (a:=⟨d,5,none⟩) (fun _=>rfl) _).setCell (a:=⟨d,7,none⟩) (fun _=>rfl) _⟩;rw[hb];have h6:=hsc w d 6 (.int .i64 ((D.acts:Int)+1)) H.out;have h5:=hsc _ d 5 (.int .i64 ((D.armed:Int)-1)) h6;have h7:=hsc _ d 7 (.bool D.act.down) h5;rw[h7];have e1:((D.armed:Int)-1)=((D.armed-1:Nat):Int):=oM
  rw[e1];simp[Dev.act]
theorem Tryz.xL0 (w:World):(zeroValue 203).run Tryz.prog w = .ok (.slice none 0 0) w:=by kernel_rfl
theorem Tryz.wK0:(Tryz.prog.info? 196).map (fun i=>(i.zero,i.size,i.bytes))=some (some (.agg #[.int .i64 0,.slice none 0 0]),2,32):=by kernel_rfl
theorem Tryz.info22:(Tryz.prog.info? 22).map (fun i=>(i.zero,i.size,i.bytes))=some (some (.slice none 0 0),1,24):=by kernel_rfl
def lH0 (w:World)(base d bq:Nat)(b:Nat):Prop:=b=d\/b=bq\/(base<=b/\∃ c t,(t=196\/t=22)/\w.heap[b]?=some (.cells c t))
def zO0 (w:World)(base d:Nat)(b:Nat):Prop:=b=d\/(base<=b/\∃ c,w.heap[b]?=some (.cells c 196))
theorem gz0.fr {S:Nat->Prop}{w':World}{N:Nat}(h:gz0 w base N v)(F:Fr S w w')(h22:∀ g c,w.heap[g]?=some (.cells c 22)->¬ S g)(h5:∀ g c,w.heap[g]?=some (.cells c 5)->¬ S g):gz0 w' base N v:=by
 obtain⟨n,xs,hn,hx,hxs⟩:=h;refine⟨n,xs,hn,oRf hx F h22,fun y hy=>?_⟩;obtain⟨a,k,cap,bs,e,hb,hk⟩:=hxs y hy;exact⟨a,k,cap,bs,e,hb.fr F h5,hk⟩
theorem oE0 {w4:World}(h:bt0 w base d bf bq D)(hbase:base<=w.heap.size){ws:List Wr}(hd:w.heap[d]?=some (.cells (tQ0 D bf bq lv) 151))(hown:w.ownsRow base 196 2 lv ws.length (ws.flatMap Wr.cells))(hwl:ws.length=D.loose.length)
  (hws:∀ (i:Nat) (x:Wr) (y:Int × List Int),ws[i]?=some x->D.loose[i]?=some y->x.at_=y.1/\(ByV w x.la x.ll x.lc y.2/\x.ll<=x.lc)) (hb:ByV w ca cl cc bs) (hcc:cl<=cc)
  (hown4:w4.ownsRow base 196 2 (.slice (some ⟨gg,0,none⟩) (ws.length+1) cap) (ws.length+1) (ws.flatMap Wr.cells++[.int .i64 at_,.slice ca cl cc]))
  (hgrow:(w.alloc (.cells #[.int .i64 at_,.slice ca cl cc] 196)).drew.grownBy w4 lv.ownBlock) (hat:lv.ownBlock=some gg\/gg=w.heap.size+1) :
  bt0 (w4.setCell ⟨d,3,none⟩ (.slice (some ⟨gg,0,none⟩) (ws.length+1) cap)) base d bf bq { D with loose:=D.loose++[(at_,bs)] } /\
   Fr (zO0 w base d) w (w4.setCell ⟨d,3,none⟩ (.slice (some ⟨gg,0,none⟩) (ws.length+1) cap)):=by
 have hob:∀ b,some b=lv.ownBlock->base<=b/\∃ c,w.heap[b]?=some (.cells c 196):=fun b e=>by
  obtain⟨_,⟨h1,_⟩|⟨g',cap',cur',h1,hb',hg',_⟩⟩:=hown
  ·rw[h1] at e;cases e
  ·rw[h1] at e;have e2:b=g':=Option.some.inj e;rw[e2];exact⟨hb',_,hg'⟩
 have FA:Fr (fun b=>some b=lv.ownBlock) w (w.alloc (.cells #[.int .i64 at_,.slice ca cl cc] 196)).drew:=((Fr.refl _ _).alloc _).drew;have F4:Fr (fun b=>some b=lv.ownBlock) w w4:=FA.trans (S':=fun b=>some b=lv.ownBlock) ⟨hgrow.os,hgrow.tape,hgrow.output,hgrow.size,fun b hb hn=>hgrow.block b hb hn⟩ nI;have nd:¬ some d=lv.ownBlock:=fun e=>by obtain⟨_,c,hc⟩:=hob d e;rw[hd] at hc;cases hc
 have hd4:=F4.heap hd nd;have F5:Fr (fun b=>b=d) w4 (w4.setCell ⟨d,3,none⟩ (.slice (some ⟨gg,0,none⟩) (ws.length+1) cap)):=(Fr.refl (fun b=>b=d) _).setCell (a:=⟨d,3,none⟩) (fun _=>rfl) _;have F45:Fr (fun b=>some b=lv.ownBlock\/b=d) w (w4.setCell ⟨d,3,none⟩ (.slice (some ⟨gg,0,none⟩) (ws.length+1) cap)):=(F4.mono (fun _ _ h=>.inl h)).trans F5 (fun _ _ h=>.inr h);have n5:∀ g c t,t≠196->t≠151->w.heap[g]?=some (.cells c t)->¬ (some g=lv.ownBlock\/g=d):=fun g c t h1 h2 hg e=>by
  rcases e with e|e
  ·obtain⟨_,c',hc⟩:=hob g e;rw[hg] at hc;cases hc;exact h1 rfl
  ·rw[e,hd] at hg;cases hg;exact h2 rfl
 have nm:∀ g l ck,w.heap[g]?=some (.map l ck)->¬ (some g=lv.ownBlock\/g=d):=fun g l ck hg e=>by
  rcases e with e|e
  ·obtain⟨_,c',hc⟩:=hob g e;rw[hg] at hc;cases hc
  ·rw[e,hd] at hg;cases hg
 have hB:∀ {a n c bs},ByV w a n c bs->ByV (w4.setCell ⟨d,3,none⟩ (.slice (some ⟨gg,0,none⟩) (ws.length+1) cap)) a n c bs:=fun hb=>hb.fr F45 fun b c hc=>n5 b c 5 dC dC hc
 have hd5:(w4.setCell ⟨d,3,none⟩ (.slice (some ⟨gg,0,none⟩) (ws.length+1) cap)).heap[d]?=some (.cells (tQ0 D bf bq (.slice (some ⟨gg,0,none⟩) (ws.length+1) cap)) 151):=by
  rw[hsc _ _ _ _ hd4];rfl
 obtain⟨l,ck,hf,hfn,hfs⟩:=h.fast;obtain⟨l',ck',hq,hqn,hqs,hqd⟩:=h.past;refine⟨⟨⟨_,hd5,ws++[⟨at_,ca,cl,cc⟩],?_,by simp[hwl],fun i x y hx hy=>?_⟩,⟨l,ck,F45.heap hf (nm _ _ _ hf),hfn,fun k=>?_⟩,⟨l',ck',F45.heap hq (nm _ _ _ hq),hqn,fun e he=>?_,hqd⟩,h.ge,h.ne,h.rg⟩,?_⟩
 ·have e1:(ws++[(⟨at_,ca,cl,cc⟩:Wr)]).flatMap Wr.cells=ws.flatMap Wr.cells++[.int .i64 at_,.slice ca cl cc]:=by simp[Wr.cells]
  rw[e1,lA];refine oRf hown4 F5 (fun g c hg e=>?_);rw[e,hd4] at hg;cases hg
 ·by_cases hi:i<ws.length
  ·rw[lh9 hi] at hx;rw[lh9 oM] at hy;exact⟨(hws i x y hx hy).1,hB (hws i x y hx hy).2.1,(hws i x y hx hy).2.2⟩
  ·have hx':=hx;have hlt:=(gI.1 hx).1;simp at hlt;obtain rfl:i=ws.length:=by omega
   rw[lk9 (nR _),nq9] at hx;rw[hwl,lk9 (nR _),nq9] at hy;simp at hx hy;subst hx hy;exact⟨rfl,hB hb,hcc⟩
 ·have:=hfs k;cases hlk:Sg.look l k with
  | none=>rw[hlk] at this;cases hx:D.fast k with
   | none=>trivial
   | some bs=>rw[hx] at this;exact this.elim
  | some v=>rw[hlk] at this;cases hx:D.fast k with
   | none=>rw[hx] at this;exact this.elim
   | some bs =>
    rw[hx] at this;obtain⟨b,off,cap,e,hb,hcp⟩:=this;exact⟨b,off,cap,e,hB hb,hcp⟩
 ·obtain⟨n,xs,hnN,hx,hxs⟩:=hqs e he;refine⟨n,xs,hnN,oRf hx F45 fun g c hg=>n5 g c 22 dC dC hg,fun y hy=>?_⟩;obtain⟨a,k,cap,bs,e,hb,hk⟩:=hxs y hy;exact⟨a,k,cap,bs,e,hB hb,hk⟩
 ·refine F45.mono fun b hb e=>?_
  rcases e with e|e
  ·obtain⟨h1,c,h2⟩:=hob b e;exact .inr ⟨h1,c,h2⟩
  ·exact .inl e
theorem mi0 (h:bt0 w base d bf bq D)(hd:w.heap[d]?=some (.cells (tQ0 D bf bq lv) 151))(hl:lD0 w base lv D.loose)(hd1:w1.heap[d]?=some (.cells (tQ0 D.act bf bq lv) 151))(F:Fr (fun b=>b=d) w w1):bt0 w1 base d bf bq D.act:=by
 have n5:∀ g c t,t≠151->w.heap[g]?=some (.cells c t)->¬ g=d:=fun g c t h2 hg e=>by rw[e,hd] at hg;cases hg;exact h2 rfl
 have nm:∀ g l ck,w.heap[g]?=some (.map l ck)->¬ g=d:=fun g l ck hg e=>by rw[e,hd] at hg;cases hg
 have hB:∀ {a n c bs},ByV w a n c bs->ByV w1 a n c bs:=fun hb=>hb.fr F fun b c hc=>n5 b c 5 dC hc
 obtain⟨l,ck,hf,hfn,hfs⟩:=h.fast;obtain⟨l',ck',hq,hqn,hqs,hqd⟩:=h.past;obtain⟨ws,hown,hwl,hws⟩:=hl;refine⟨⟨_,hd1,ws,oRf hown F (fun g c hg=>n5 g c 196 dC hg),hwl,fun i x y hx hy=>⟨(hws i x y hx hy).1,hB (hws i x y hx hy).2.1,(hws i x y hx hy).2.2⟩⟩,⟨l,ck,F.heap hf (nm _ _ _ hf),hfn,fun k=>?_⟩,⟨l',ck',F.heap hq (nm _ _ _ hq),hqn,fun e he=>?_,hqd⟩,h.ge,h.ne,h.rg⟩
 ·have:=hfs k;show gX0 w1 D.size _ (D.fast k);cases hlk:Sg.look l k with
  | none=>rw[hlk] at this;cases hx:D.fast k with
   | none=>trivial
   | some bs=>rw[hx] at this;exact this.elim
  | some v=>rw[hlk] at this;cases hx:D.fast k with
   | none=>rw[hx] at this;exact this.elim
   | some bs =>
    rw[hx] at this;obtain⟨b,off,cap,e,hb,hcp⟩:=this;exact⟨b,off,cap,e,hB hb,hcp⟩
 ·obtain⟨n,xs,hnN,hx,hxs⟩:=hqs e he;refine⟨n,xs,ni9 hnN,oRf hx F fun g c hg=>n5 g c 22 dC hg,fun y hy=>?_⟩;obtain⟨a,k,cap,bs,e,hb,hk⟩:=hxs y hy;exact⟨a,k,cap,bs,e,hB hb,hk⟩
variable {l:List Ent}
theorem it0 {c:Nat}(hn:(keys l).Nodup){e:Ent}(he:e ∈ Sg.put l k v c):(e.k=k/\e.v=v)\/(e.k≠k/\e ∈ l):=by
 induction l with
 | nil=>simp[Sg.put] at he;subst he;exact .inl ⟨rfl,rfl⟩
 | cons x r ih =>
  have hn':(keys r).Nodup:=by simp[keys] at hn ⊢;exact hn.2
  have hx:∀ y ∈ r,y.k≠x.k:=by
   intro y hy e;simp[keys] at hn;exact hn.1 y hy e
  unfold Sg.put at he;split at he
  ·rename_i hk;have hk':x.k=k:=by simpa using hk
   rcases lA9.1 he with rfl|he
   ·exact .inl ⟨by simp,rfl⟩
   ·exact .inr ⟨fun e2=>hx e he (by rw[e2,hk']),lM9 _ he⟩
  ·rename_i hk;have hk':¬ x.k=k:=by simpa using hk
   rcases lA9.1 he with rfl|he
   ·exact .inr ⟨hk',by simp⟩
   ·rcases ih hn' he with h|⟨h1,h2⟩
    ·exact .inl h
    ·exact .inr ⟨h1,lM9 _ h2⟩
theorem mC0 (h:Sg.look l k=some v):∃ e ∈ l,e.k=k/\e.v=v:=by
 unfold Sg.look at h;cases hf:l.find? (·.k == k) with
 | none=>rw[hf] at h;cases h
 | some e =>
  rw[hf] at h;have h1:=List.find?_some hf;exact⟨e,mV9 hf,by simpa using h1,by simpa using h⟩
theorem tP0 {w6:World}(h:bt0 w base d bf bq D)(hbase:base<=w.heap.size){ck:Nat}(hq:w.heap[bq]?=some (.map (ents l) ck))(hqn:(keys l).Nodup)(hqs:∀ e ∈ l,gz0 w base D.acts e.v)
  (hqd:∀ e ∈ l,∀ e' ∈ l,∀ g,e.v.ownBlock=some g->e'.v.ownBlock=some g->e.k=e'.k) {pv:Value} (hpv:Sg.look l at_=some pv\/pv = .slice none 0 0) {n:Nat} {xs:List Value} (hown:w.ownsRow base 22 1 pv n xs)
  (hxs:∀ x ∈ xs,∃ a k cap bs,x = .slice a k cap/\ByV w a k cap bs/\k<=512) (hn:n+1<=D.acts) (hb:ByV w ca cl cc bs) (hcl:cl<=512)
  (hown6:w6.ownsRow base 22 1 (.slice (some ⟨gg,0,none⟩) (n+1) cap) (n+1) (xs++[.slice ca cl cc]))
  (hgrow:(w.alloc (.cells #[.slice ca cl cc] 22)).drew.grownBy w6 pv.ownBlock) (hat:pv.ownBlock=some gg\/gg=w.heap.size+1) :
  bt0 (w6.putObj bq (.map (ents (Sg.put l at_ (.slice (some ⟨gg,0,none⟩) (n+1) cap) ck)) (bump l at_ ck))) base d bf bq D /\
   Fr (lH0 w base d bq) w (w6.putObj bq (.map (ents (Sg.put l at_ (.slice (some ⟨gg,0,none⟩) (n+1) cap) ck)) (bump l at_ ck))):=by
 have hob:∀ b,some b=pv.ownBlock->base<=b/\∃ c,w.heap[b]?=some (.cells c 22):=fun b e=>by
  obtain⟨_,⟨h1,_⟩|⟨g',cap',cur',h1,hb',hg',_⟩⟩:=hown
  ·rw[h1] at e;cases e
  ·rw[h1] at e;have e2:b=g':=Option.some.inj e;rw[e2];exact⟨hb',_,hg'⟩
 have FA:Fr (fun b=>some b=pv.ownBlock) w (w.alloc (.cells #[.slice ca cl cc] 22)).drew:=((Fr.refl _ _).alloc _).drew;have F6:Fr (fun b=>some b=pv.ownBlock) w w6:=FA.trans (S':=fun b=>some b=pv.ownBlock) ⟨hgrow.os,hgrow.tape,hgrow.output,hgrow.size,fun b hb hn=>hgrow.block b hb hn⟩ nI;have hq6:=F6.heap hq (fun e=>by obtain⟨_,c,hc⟩:=hob bq e;rw[hq] at hc;cases hc);obtain⟨W,hW⟩:=eX (w6.putObj bq (.map (ents (Sg.put l at_ (.slice (some ⟨gg,0,none⟩) (n+1) cap) ck)) (bump l at_ ck)))
 have hqW:W.heap[bq]?=some (.map (ents (Sg.put l at_ (.slice (some ⟨gg,0,none⟩) (n+1) cap) ck)) (bump l at_ ck)):=by rw[<- hW];exact aR0 _ _ _ (loh hq6)
 have F67:Fr (fun b=>b=bq) w6 W:=by rw[<- hW];exact (Fr.refl (fun b=>b=bq) _).putObj (fun _=>rfl) _
 rw[hW];have F:Fr (fun b=>some b=pv.ownBlock\/b=bq) w W:=(F6.mono (fun _ _ h=>.inl h)).trans F67 (fun _ _ h=>.inr h);have n5:∀ g c t,t≠22->w.heap[g]?=some (.cells c t)->¬ (some g=pv.ownBlock\/g=bq):=fun g c t h1 hg e=>by
  rcases e with e|e
  ·obtain⟨_,c',hc⟩:=hob g e;rw[hg] at hc;cases hc;exact h1 rfl
  ·rw[e,hq] at hg;cases hg
 have hB:∀ {a n c bs},ByV w a n c bs->ByV W a n c bs:=fun hb=>hb.fr F fun b c hc=>n5 b c 5 dC hc
 obtain⟨lv,hd,ws,hownL,hwl,hws⟩:=h.dc;obtain⟨l0,ck0,hf,hfn,hfs⟩:=h.fast;refine⟨⟨⟨lv,F.heap hd (n5 _ _ 151 dC hd),ws,oRf hownL F (fun g c hg=>n5 g c 196 dC hg),hwl,fun i x y hx hy=>⟨(hws i x y hx hy).1,hB (hws i x y hx hy).2.1,(hws i x y hx hy).2.2⟩⟩,⟨l0,ck0,F.heap hf ?_,hfn,fun k=>?_⟩,⟨_,_,hqW,dV0 hqn _ _ _,fun e he=>?_,fun e he e' he' g hg hg'=>?_⟩,h.ge,h.ne,h.rg⟩,?_⟩
 ·intro e;rcases e with e|e
  ·obtain⟨_,c',hc⟩:=hob bf e;rw[hf] at hc;cases hc
  ·exact h.ne e
 ·have:=hfs k;cases hlk:Sg.look l0 k with
  | none=>rw[hlk] at this;cases hx:D.fast k with
   | none=>trivial
   | some bs=>rw[hx] at this;exact this.elim
  | some v=>rw[hlk] at this;cases hx:D.fast k with
   | none=>rw[hx] at this;exact this.elim
   | some bs =>
    rw[hx] at this;obtain⟨b,off,cap,e,hb,hcp⟩:=this;exact⟨b,off,cap,e,hB hb,hcp⟩
 ·rcases it0 hqn he with⟨_,hv⟩|⟨hk,hm⟩
  ·rw[hv];refine⟨n+1,_,hn,oRf hown6 F67 (fun g c hg e=>by rw[e,hq6] at hg;cases hg),fun x hx=>?_⟩;rcases lb9.1 hx with hx|hx
   ·obtain⟨a,k,cap,bs,e,hb,hk⟩:=hxs x hx;exact⟨a,k,cap,bs,e,hB hb,hk⟩
   ·simp at hx;subst hx;exact⟨_,_,_,_,rfl,hB hb,hcl⟩
  ·obtain⟨m,ys,hm2,hy,hys⟩:=hqs e hm;refine⟨m,ys,hm2,?_,fun y hy=>?_⟩
   ·have hy':=hy;obtain⟨hl1,h0|⟨g,cap',cur,hv,hbg,hgg,rest⟩⟩:=hy
    ·exact⟨hl1,.inl h0⟩
    ·refine⟨hl1,.inr ⟨g,cap',cur,hv,hbg,F.heap hgg ?_,rest⟩⟩;intro e2;rcases e2 with e2|e2
     ·rcases hpv with hpv|hpv
      ·obtain⟨e0,h01,h02,h03⟩:=mC0 hpv;have:=hqd e0 h01 e hm g (by rw[h03];exact e2.symm) (by rw[hv];rfl);exact hk (by rw[<- this,h02])
      ·rw[hpv] at e2;cases e2
     ·rw[e2,hq] at hgg;cases hgg
   ·obtain⟨a,k,cap,bs,e,hb,hk⟩:=hys y hy;exact⟨a,k,cap,bs,e,hB hb,hk⟩
 ·have key:∀ e1 ∈ l,e1.k≠at_->e1.v.ownBlock=some gg->False:=fun e1 h1 h2 h3=>by
   rcases hat with hat|hat
   ·rcases hpv with hpv|hpv
    ·obtain⟨e0,h01,h02,h03⟩:=mC0 hpv;have:=hqd e0 h01 e1 h1 gg (by rw[h03];exact hat) h3;exact h2 (by rw[<- this,h02])
    ·rw[hpv] at hat;cases hat
   ·obtain⟨m,ys,hm2,⟨hl1,⟨h0,_⟩|⟨g',cap',cur,hv,hbg,hgg,_⟩⟩,_⟩:=hqs e1 h1
    ·rw[h0] at h3;cases h3
    ·rw[hv] at h3;have:g'=gg:=Option.some.inj h3;have:=loh hgg;omega
  rcases it0 hqn he with⟨hk,hv⟩|⟨hk,hm⟩ <;> rcases it0 hqn he' with⟨hk',hv'⟩|⟨hk',hm'⟩
  ·rw[hk,hk']
  ·rw[hv] at hg;have:gg=g:=Option.some.inj hg;subst this;exact (key e' hm' hk' hg').elim
  ·rw[hv'] at hg';have:gg=g:=Option.some.inj hg';subst this;exact (key e hm hk hg).elim
  ·exact hqd e hm e' hm' g hg hg'
 ·refine F.mono fun b hb e=>?_
  rcases e with e|e
  ·obtain⟨h1,c,h2⟩:=hob b e;exact .inr (.inr ⟨h1,c,22,.inr rfl,h2⟩)
  ·exact .inr (.inl e)
theorem lH0.trans {w2:World}(h:Fr (lH0 w base d bq) w w1)(k:Fr (lH0 w1 base d bq) w1 w2):Fr (lH0 w base d bq) w w2:=
 Fr.trans h k fun b hb hs=>by
  rcases Classical.em (lH0 w base d bq b) with hm|hm
  ·exact hm
  ·have e:=h.block b hb hm;rcases hs with hs|hs|⟨h1,c,t,ht,hc⟩
   ·exact .inl hs
   ·exact .inr (.inl hs)
   ·exact .inr (.inr ⟨h1,c,t,ht,by rw[<- e];exact hc⟩)
def Mid (base d bf bq:Nat)(D:Dev)(bx:Nat)(v:Value)(w3 w:World):Prop:=bt0 w base d bf bq D/\Fr (zO0 w3 base d) w3 w/\w.cell? ⟨bx,1,none⟩=some v
def WritePost (base d bf bq:Nat)(D:Dev)(at_:Nat)(bs:List Int)(w:World)(e:Ending)(w':World):Prop:=
 e = .returned (.int .i64 (if D.act.down=true then 4 else 0))/\bt0 w' base d bf bq { D.act with loose:=D.loose++[((at_:Int),bs)] }/\Fr (lH0 w base d bq) w w'
theorem mg0 (h:bt0 w base d bf bq D)(hbase:base<=w.heap.size)(hdown:D.down=false)(hacts:D.acts<=1000000)(harm:D.armed<=9223372036854775807)(hmany:D.loose.length<=100000)(at_:Nat)(hat:at_<D.sectors)
   {la:Option Addr} {lc:Nat} (hb:ByV w la D.size lc bs) :
   Calls Tryz.prog 229 #[.pointer (some ⟨d,0,none⟩),.int .i64 at_,.slice la D.size lc] w (WritePost base d bf bq D at_ bs w):=by
 obtain⟨i0,hi0,hz0,hz1,hz2⟩:=info_parts Tryz.wK0;obtain⟨j0,hj0,jz0,jz1,jz2⟩:=info_parts Tryz.info22;obtain⟨lv,hd,ws,hown,hwl,hws⟩:=h.dc;have hz:=h.rg.2;have c0:=coh hd 0;have c1:=coh hd 1;have c7:=coh hd 7;simp[hdown] at c0 c1 c7;have hlv:∃ a c,lv = .slice a ws.length c:=by
   obtain⟨_,⟨h1,h2⟩|⟨g,cap,cur,h1,_⟩⟩:=hown
   · rw[h2];exact⟨_,_,h1⟩
   · exact⟨_,_,h1⟩
 obtain⟨va,vc,rfl⟩:=hlv;have HRD:=hid (ol0 (w:=w) (d:=d) (n:=D.sectors) (at_:=at_) c0 c7 oM oM);have HACT:=hid (va0 (lv:=.slice va ws.length vc) hd hacts oM);have H:=hid h;have HB:=hid hb;have HBL:=hid hb.len;have HOWN:=hid hown;have HW:=hi2 hwl hws;have HD0:=hid hd;clear h hb hown hwl hws hd hdown;go_enter Tryz.func229,Tryz.ntmps229;go_wp2_with fail
 refine HRD.out.mono ?_;rintro e w' ⟨rfl,rfl⟩;go_wp2_with fail
 refine HACT.out.mono ?_;rintro e w1 ⟨rfl,hd1,F1⟩;generalize hdn:D.act.down=dn;have HDN:=hid hdn;have ne5:∀ g cs,w.heap[g]?=some (.cells cs 5)->¬ g=d:=fun g cs hg e=>by
   obtain⟨lv',hd',_⟩:=H.out.dc;rw[e,hd'] at hg;cases hg
 have hb1:=HB.out.fr F1 ne5;have HCL:=hid (dz0 hb1.slb oM);have hown1:=oRf HOWN.out F1 (fun g c hg e=>by
   obtain⟨lv',hd',_⟩:=H.out.dc;rw[e,hd'] at hg;cases hg)
 have HD1:=hi2 hd1 (aI F1 hown1);have hdc1:=coh hd1 1;simp at hdc1;have hda1:D.act.size=D.size:=rfl;rw[hda1] at hdc1;clear hb1 hd1 F1 hown1 ne5 c0 c1 c7 hda1 hdn;go_wp2_with fail
 refine HCL.out.mono ?_;rintro e w2 ⟨ca,cc,rfl,⟨hb2,hcc⟩,F2⟩;have HCC:=hid hcc;clear hcc;obtain⟨w3,hw3⟩:=eX (w2.alloc (.cells #[.int .i64 at_,.slice ca D.size cc] 196))
 have F23:Fq w2 w3:=by rw[<- hw3];exact (Fr.refl _ _).alloc _
 have F13:=F2.trans F23 nI;have hx3:w3.heap[w2.heap.size]?=some (.cells #[.int .i64 at_,.slice ca D.size cc] 196):=by rw[<- hw3];exact han _ _
 have hd3:=F13.heap HD1.out.1 id;have hown3:=oRf HD1.out.2.2 F13 (fun _ _ _ h=>h);have d3:=coh hd3 3;have dz:=fun o=>foh hd3 o
 have x0:=coh hx3 0;have x1:=coh hx3 1;simp at d3 x0 x1;have ld:=loh hd3;have lx:=loh hx3;have nd:∀ {W:World} {v:Value} {n:Nat} {xs:List Value} {c:Array Value},W.ownsRow base 196 2 v n xs->W.heap[d]?=some (.cells c 151)->v.ownBlock≠some d:=fun ho hh e=>by
   obtain⟨_,⟨rfl,_⟩|⟨g',cap,cur,rfl,hb,hg,_⟩⟩:=ho
   · cases e
   · cases e;rw[hg] at hh;cases hh
 have ND:=hid (nd hown3 hd3);have NX:=hid (show (Value.slice va ws.length vc).ownBlock≠some w2.heap.size from fun e=>by
   obtain⟨_,⟨h1,_⟩|⟨g',cap,cur,h1,hb,hg,_⟩⟩:=HOWN.out
   · rw[h1] at e;cases e
   · rw[h1] at e;have e2:g'=w2.heap.size:=Option.some.inj e;rw[e2] at hg;have:=loh hg;have:=HD1.out.2.1.size;have:=F2.size;omega)
 have NDX:=hid (show ¬ d=w2.heap.size by have:=loh HD0.out;have:=HD1.out.2.1.size;have:=F2.size;omega);have hs3:w.heap.size<=w3.heap.size:=nT HD1.out.2.1.size F13.size;have HO3:=hid hown3;have H3:=hi2 hd3 (aI hx3 (aI F13 (hb2.fr F23 (fun _ _ _ h=>h))));have HW3:=hid hw3;clear hw3 F23 F13 hx3 hd3 hown3 hb2 F2 hdc1 nd;have hwl:ws.length<=100000:=by have:=HW.out.1;omega
 have HDEV:=hid ((mi0 H.out HD0.out ⟨ws,HOWN.out,HW.out.1,HW.out.2⟩ HD1.out.1 HD1.out.2.1).fr H3.out.2.2.1 id id id (fun _ _ _ _ _ h=>h));have F1w:=HD1.out.2.1;have HWS3:=hid (fun (i:Nat) (x:Wr) (y:Int × List Int) (hx:ws[i]?=some x) (hy:D.loose[i]?=some y)=>(⟨(HW.out.2 i x y hx hy).1,((HW.out.2 i x y hx hy).2.1.fr F1w (fun g c hg e=>by rw[e,HD0.out] at hg;cases hg)).fr H3.out.2.2.1 (fun _ _ _ h=>h),(HW.out.2 i x y hx hy).2.2⟩:x.at_=y.1/\(ByV w3 x.la x.ll x.lc y.2/\x.ll<=x.lc)));obtain⟨pl,pck,hq,hqn,hqs,hqd⟩:=H.out.past;have HPQ:=hi2 (H3.out.2.2.1.heap (F1w.heap hq (fun e=>by rw[e,HD0.out] at hq;cases hq)) id) (aI hqn (aI (fun x (he:x ∈ pl)=>(gz0.fr (gz0.fr (hqs x he) F1w (fun g c hg e=>by rw[e,HD0.out] at hg;cases hg) (fun g c hg e=>by rw[e,HD0.out] at hg;cases hg)) H3.out.2.2.1 (fun _ _ _ h=>h) (fun _ _ _ h=>h):gz0 w3 base D.acts x.v)) hqd));clear hq hqn hqs hqd F1w;go_upto_region 8 with fail
 rw[HW3.out];go_cut [8] from 30 to 39 (fun v wx=>v = .bool dn/\Mid base d bf bq { D.act with loose:=D.loose++[((at_:Int),bs)] } w2.heap.size (.slice ca D.size cc) w3 wx)
 case first =>
  go_region_law
    ((refine step_append_lies _ rF _ _ _ rF base 196 i0 _ 2 32 Tryz.underlying149 hi0 hz0 hz1 hz2 rfl oM (.slice va ws.length vc) ws.length (ws.flatMap Wr.cells) rF ((HO3.out.alloc _).drew)
        ⟨w3.heap.size,0,none⟩ 1 1 [.int .i64 at_,.slice ca D.size cc] rF rF (World.news_of_block (cs:=#[.int .i64 at_,.slice ca D.size cc]) (t:=196) (fr:=(0,0)) (han w3 _)) (by simp[Value.oneCell'])
        oM (by unfold maxLen;omega) oM sO (w3.heap.size+1) sP ?_;intro gg cap w4 hown4 hgrow hat4 hlt4;
       have HG4:=hi2 hown4 (aI hgrow hat4);
       have d3:w4.cell? ⟨d,3,none⟩=some (.slice va ws.length vc):=(hgrow.cell_far ⟨d,3,none⟩ sO (Ne.symm ND.out)).trans (by simp[go_sem,d3,ld]);
       have x0:w4.cell? ⟨w2.heap.size,0,none⟩=some (.int .i64 at_):=(hgrow.cell_far ⟨w2.heap.size,0,none⟩ sO (Ne.symm NX.out)).trans (by simp[go_sem,x0,lx]);
       have x1:w4.cell? ⟨w2.heap.size,1,none⟩=some (.slice ca D.size cc):=(hgrow.cell_far ⟨w2.heap.size,1,none⟩ sO (Ne.symm NX.out)).trans (by simp[go_sem,x1,lx]);
       have dz:w4.frozen? ⟨d,3,none⟩=false:=(hgrow.frozen_far ⟨d,3,none⟩ sO (Ne.symm ND.out)).trans (by simp[go_sem,dz,ld]);
       clear hown4 hgrow hat4))
  all_goals
   obtain⟨hown4,hgrow4,hat4⟩:=HG4.out;obtain⟨hd3',hx3,F13,hb3⟩:=H3.out;obtain⟨hD5,F5⟩:=oE0 HDEV.out oM hd3' HO3.out HW.out.1 HWS3.out hb3 HCC.out hown4 hgrow4 hat4;have y1:(w4.setCell ⟨d,3,none⟩ (.slice (some ⟨gg,0,none⟩) (ws.length+1) cap)).cell? ⟨w2.heap.size,1,none⟩=some (.slice ca D.size cc):=by
     rw[World.cell?_of_block (ao0 _ _ _ _ (by simpa using NDX.out))];exact x1
   have HM:=hid (show Mid base d bf bq { D.act with loose:=D.loose++[((at_:Int),bs)] } w2.heap.size (.slice ca D.size cc) w3 _ from⟨hD5,F5,y1⟩);clear hD5 F5 y1 hown4 hgrow4 hat4 hd3' hx3 F13 hb3 HG4;go_wp2_with fail
   go_meet
   case rel=>exact⟨rfl,HM.out⟩
 case rest =>
   obtain⟨rfl,hD5,F5,y1⟩:=hcut;obtain⟨hd3',hx3,F13,hb3⟩:=H3.out;have n196:∀ g c t,t≠196->t≠151->w3.heap[g]?=some (.cells c t)->¬ zO0 w3 base d g:=fun g c t h1 h2 hg e=>by
     rcases e with e|⟨_,c',e⟩
     ·rw[e,hd3'] at hg;cases hg;exact h2 rfl
     ·rw[hg] at e;cases e;exact h1 rfl
   obtain⟨hq3,hqn,hqs3,hqd⟩:=HPQ.out;have hq5:wc.heap[bq]?=some (.map (ents pl) pck):=F5.heap hq3 (fun e=>by
     rcases e with e|⟨_,c',e⟩
     ·rw[e,hd3'] at hq3;cases hq3
     ·rw[hq3] at e;cases e)
   have hqs5:∀ x ∈ pl,gz0 wc base D.acts x.v:=fun x hx=>gz0.fr (hqs3 x hx) F5 (fun g c hg=>n196 g c 22 dC dC hg) (fun g c hg=>n196 g c 5 dC dC hg)
   have hb5:ByV wc ca D.size cc bs:=hb3.fr F5 (fun g c hg=>n196 g c 5 dC dC hg);have hlk:=fun (W:World) (hW:W.heap[bq]?=some (.map (ents pl) pck))=>bF0 (P:=Tryz.prog) (T:=148) false Tryz.underlying148 Tryz.underlying3 Tryz.xL0 hW (at_:Int)
   have hpv:Sg.look pl at_=some ((Sg.look pl at_).getD (.slice none 0 0))\/(Sg.look pl at_).getD (.slice none 0 0) = .slice none 0 0:=by
     cases Sg.look pl at_ with
     | none=>exact .inr rfl
     | some v=>exact .inl rfl
   have hpx:gz0 wc base D.acts ((Sg.look pl at_).getD (.slice none 0 0)):=by
     cases hl:Sg.look pl at_ with
     | none=>exact⟨0,[],la9 _,World.ownsRow_nil _ _ _ _,fun x hx=>by cases hx⟩
     | some v =>
      obtain⟨e0,h1,_,h3⟩:=mC0 hl;have:=hqs5 e0 h1;rw[h3] at this;exact this
   simp only[lI9,if_false] at hlk;generalize (Sg.look pl at_).getD (.slice none 0 0)=pv at hlk hpv hpx;obtain⟨pn,pxs,hpn,hpown,hpxs⟩:=hpx;have hup:=fun (W:World) (v:Value) (hW:W.heap[bq]?=some (.map (ents pl) pck))=>bg0 (P:=Tryz.prog) (T:=148) Tryz.underlying148 Tryz.underlying3 hW (at_:Int) v
   have k4:wc.cell? ⟨d,4,none⟩=some (.map (some bq)):=by
     obtain⟨lv',hd5,_⟩:=hD5.dc;simpa using coh hd5 4
   have l5d:d<wc.heap.size:=World.block_lt_of_cell? _ _ k4;have l5x:=World.block_lt_of_cell? _ _ y1;have l5q:=loh hq5;have s5:=F5.size;have NPQ:=hid (show pv.ownBlock≠some bq from fun e=>by
     obtain⟨_,⟨h1,_⟩|⟨g',cap',cur',h1,_,hg',_⟩⟩:=hpown
     ·rw[h1] at e;cases e
     ·rw[h1] at e;have e2:g'=bq:=Option.some.inj e;rw[e2,hq5] at hg';cases hg')
   have NPD:=hid (show pv.ownBlock≠some d from fun e=>by
     obtain⟨_,⟨h1,_⟩|⟨g',cap',cur',h1,_,hg',_⟩⟩:=hpown
     ·rw[h1] at e;cases e
     ·rw[h1] at e;have e2:g'=d:=Option.some.inj e;obtain⟨lv',hd5,_⟩:=hD5.dc;rw[e2,hd5] at hg';cases hg')
   have HP:=hi2 hpown (aI hpxs hpv);have HFT:=hid (show Fr (lH0 w base d bq) w wc from lH0.trans (w1:=w1) (HD1.out.2.1.mono (fun b _ e=>.inl e)) (lH0.trans (w1:=w3) (F13.mono nE) (F5.mono (fun b _ e=>by
     rcases e with e|⟨e1,c,e2⟩
     ·exact .inl e
     ·exact .inr (.inr ⟨e1,c,196,.inl rfl,e2⟩)))))
   have hbc:base<=wc.heap.size:=oM
   have HQ5:=hi2 hq5 (aI hqn (aI hqs5 hqd));have H5:=hi2 hD5 (aI F5 hb5);clear hpown hpxs hpv hqn hqs5 hqd hD5 F5 hb5 hd3' hx3 F13 hb3 n196 hq3 hqs3;have hl1:=hlk wc.drew hq5;have hl2:=hlk (wc.alloc (.cells #[.slice ca D.size cc] 22)).drew ((am0 _ _ _ l5q).trans hq5);have HUP:=hid hup;clear hlk hup;go_wp2
   go_region_law
     ((refine step_append_lies _ rF _ _ _ rF base 22 j0 _ 1 24 Tryz.underlying203 hj0 jz0 jz1 jz2 rfl oM pv pn pxs rF ((HP.out.1.alloc _).drew)
        ⟨wc.heap.size,0,none⟩ 1 1 [.slice ca D.size cc] rF rF (World.news_of_block (cs:=#[.slice ca D.size cc]) (t:=22) (fr:=(0,0)) (han wc _)) (by simp[Value.oneCell'])
        oM (by unfold maxLen;omega) oM sO (wc.heap.size+1) sP ?_;intro g6 cap6 w6 hown6 hgrow6 hat6 hlt6;
       have HE:=hid (tP0 H5.out.1 hbc HQ5.out.1 HQ5.out.2.1 (fun x hx=>(HQ5.out.2.2.1 x hx).imp fun n ⟨xs,h1,h2⟩=>⟨xs,ni9 h1,h2⟩) HQ5.out.2.2.2 HP.out.2.2 HP.out.1 HP.out.2.1 (nu9 hpn) H5.out.2.2 hz.2 hown6 hgrow6 hat6);
       have hq5:w6.heap[bq]?=some (.map (ents pl) pck):=(hgrow6.block bq sO (Ne.symm NPQ.out)).trans ((am0 _ _ _ l5q).trans HQ5.out.1);
       have hup6:=fun v=>HUP.out w6 v hq5;
       have k46:w6.cell? ⟨d,4,none⟩=some (.map (some bq)):=(hgrow6.cell_far ⟨d,4,none⟩ sO (Ne.symm NPD.out)).trans (by simp[go_sem,k4,l5d]);
       clear hown6 hgrow6 hat6))
   all_goals
     cases dn;all_goals
      go_wp2
      go_ret;exact⟨by rw[HDN.out];rfl,HE.out.1,lH0.trans HFT.out HE.out.2⟩
