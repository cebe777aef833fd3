/- A pack of texts. Conditions: those that each names. -/
import Derived.Test.YtgdhaaokolfdoaaGreatDoorNAP
set_option maxHeartbeats 16000000
set_option maxRecDepth 100000
set_option linter.all false
namespace Go.Proofs.YtgdhaaokolfdoaaGreatDoor
section
open Go.RowKit Go.Sg
def ts0 (w:World)(v:Value)(m:Nat)(news:List Value):Prop:=
 ∃ a c,v = .slice a m c/\((a=none/\m=0/\c=0/\news=[])\/∃ ad,a=some ad/\∀ j u,news[j]?=some u->w.cell? (ad.add j)=some u)
variable {w w' w1 wr:World}{a:Option Addr}{b base bf bq c d e j n size:Nat}{v:Value}{xs:List Value}
theorem ag0 {P:Program}{ops:Array Oper}{rest:List Oper}{o:Oper}{a:Act}{Q:Exit->Act->World->Prop}(hgd:o.guard=none)(s x:Operand)(t:TypeId)
  (ho:o.op = .call { callee:=.builtin .append,args:=#[s,x],argTypes:=#[t,t] }) (base:Nat) (e:TypeId) (i:TypeInfo) (z:Value) (size bytes:Nat) (ht:P.underlying t=some (.slice e)) (hi:P.info? e=some i) (hz:i.zero=some z)
  (hsize:i.size=size) (hby:i.bytes=bytes) (hzs:z.cells.size=size) (hsz:0<size) (v:Value) (n:Nat) (xs:List Value) (hs:a.eval s=v) (hown:w.ownsRow base e size v n xs)
  (vx:Value) (m:Nat) (news:List Value) (hx:a.eval x=vx) (hsrc:ts0 w vx m news) (hl:news.length=m*size) (h1:∀ u ∈ news,u.oneCell'=true) (h63:n+m<=maxLen) (hbytes:(n+m)*bytes<=140737488355328) (hbase:base<=w.heap.size)
  (h:∀ v' w',w'.ownsRow base e size v' (n+m) (xs++news)->w.grownBy w' v.ownBlock->(v≠.slice none 0 0->v'≠.slice none 0 0)->wpList P ops Q rest (a.put o.dst v') w'):wpList P ops Q (o :: rest) a w:=by
 obtain⟨a',c,rfl,⟨rfl,rfl,rfl,rfl⟩|⟨ad,rfl,hc⟩⟩:=hsrc
 ·exact wpList_append_own_none hgd s x t ho base e i size ht hi v n xs hs hown hx (h v w (by simpa using hown) ⟨rfl,rfl,rfl,nR _,fun _ _ _=>rfl⟩ id)
 ·exact wpList_append_own_at _ hgd s x t ho base e i z size bytes ht hi hz hsize hby hzs hsz v n xs hs hown ad m c news hx hl hc h1 h63 hbytes hbase fun v' w' h1 h2 h3 _=>h v' w' h1 h2 fun hv e=>hv (h3.1 e).1
theorem aI0 (g off k:Nat):(⟨g,off,none⟩:Addr).add k=⟨g,off+k,none⟩:=addr_add g off k
theorem oSl (h:w.ownsRow b e size v n xs):∃ a c,v = .slice a n c/\n<=c/\c<=maxLen/\(a=none->n=0/\c=0)/\(∀ ad,a=some ad->∃ g,ad=⟨g,0,none⟩/\g<w.heap.size):=by
 obtain⟨hl,⟨rfl,rfl⟩|⟨g,cap,cur,rfl,hb,hg,hc,hm,r⟩⟩:=h
 ·exact⟨none,0,rfl,nR _,la9 _,fun _=>⟨rfl,rfl⟩,fun _ e=>by cases e⟩
 ·exact⟨_,cap,rfl,hc,hm,fun e=>(by cases e),fun ad e=>by cases e;exact⟨g,rfl,loh hg⟩⟩
theorem al0 (h:w.ownsRow b e size (.slice a n c) n xs){u:Value}(hj:xs[j]?=some u):∃ g,a=some ⟨g,0,none⟩/\g<w.heap.size/\w.cell? ⟨g,j,none⟩=some u:=by
 have hi:=(gI.1 hj).1;obtain⟨hl,⟨h0,h1⟩|⟨g,cap,cur,hv,hb,hg,hc,hm,hs,ht⟩⟩:=h
 ·subst h1;simp at hl;subst hl;simp at hi
 ·cases hv;refine⟨g,rfl,loh hg,?_⟩;rw[coh hg];rw[<- ht,gT] at hj;split at hj
  ·simpa using hj
  ·cases hj
theorem il0 (h:w.ownsRow b e size v n xs):ts0 w v n xs:=by
 obtain⟨a,c,rfl,hnc,_,h0,h1⟩:=oSl h;refine⟨a,c,rfl,?_⟩;cases a with
 | none =>
  obtain⟨rfl,rfl⟩:=h0 rfl;exact .inl ⟨rfl,rfl,rfl,by have:=h.1;simpa using this⟩
 | some ad =>
  obtain⟨g,rfl,_⟩:=h1 ad rfl;refine .inr ⟨_,rfl,fun j u hj=>?_⟩;obtain⟨g',e',_,hc⟩:=al0 h hj;cases e';rw[aI0,lp9];exact hc
theorem jj0 (h:w.ownsRow b e size (.slice a n c) n xs)(k:Nat)(hk:k<=n):ts0 w (.slice a k c) k (xs.take (k*size)):=by
 obtain⟨a',c',e1,hnc,_,h0,h1⟩:=oSl h;cases e1;refine⟨a,c,rfl,?_⟩;cases a with
 | none =>
  obtain⟨rfl,rfl⟩:=h0 rfl;obtain rfl:k=0:=oM
  exact .inl ⟨rfl,rfl,rfl,by simp⟩
 | some ad =>
  obtain⟨g,rfl,_⟩:=h1 ad rfl;refine .inr ⟨_,rfl,fun j u hj=>?_⟩;rw[gT] at hj;split at hj
  ·obtain⟨g',e',_,hc⟩:=al0 h hj;cases e';rw[aI0,lp9];exact hc
  ·cases hj
theorem fI0 (h:w.ownsRow b e size (.slice a n c) n xs)(k:Nat)(hk:k<=n):ts0 w (.slice (if c=k then a else a.map (·.add (k*size))) (n-k) (c-k)) (n-k) (xs.drop (k*size)):=by
 obtain⟨a',c',e1,hnc,_,h0,h1⟩:=oSl h;cases e1;refine⟨_,_,rfl,?_⟩;cases a with
 | none =>
  obtain⟨rfl,rfl⟩:=h0 rfl;have hx:xs=[]:=by have:=h.1;simpa using this
  exact .inl ⟨by simp,oM,oM,by simp[hx]⟩
 | some ad =>
  obtain⟨g,rfl,_⟩:=h1 ad rfl;by_cases hck:c=k
  ·rw[if_pos hck];have hn:n=k:=by omega
   have hd:xs.drop (k*size)=[]:=mM9 (by rw[h.1,hn];exact nR _);exact .inr ⟨_,rfl,fun j u hj=>by rw[hd] at hj;simp at hj⟩
  ·rw[if_neg hck];refine .inr ⟨_,rfl,fun j u hj=>?_⟩;rw[lB9] at hj;obtain⟨g',e',_,hc⟩:=al0 h hj;cases e';show w.cell? (((⟨g,0,none⟩:Addr).add (k*size)).add j)=some u;rw[aI0,lp9,aI0];exact hc
theorem eA0 (t size:Nat)(hu:Tryz.prog.underlying t=some (.slice (Tryz.prog.elem t)))(hs:∀ W,(sizeOf (Tryz.prog.elem t)).run Tryz.prog W = .ok size W)(a:Option Addr)(n c m:Nat)(h:m<=c)(W:World):(Instr.slice t (.slice a n c) none (some (.int .i64 m)) none).run Tryz.prog W = .ok (.slice a m c) W:=by
 rw[run_slice_h W t a n c hu .i64 m oM oM];rw[hs];simp only[Result.andThen_ok,sliced,lG9,mr9,Nat.sub_zero];cases a with
 | none=>simp
 | some a=>simp[Addr.add]
theorem bW0 (t size:Nat)(hu:Tryz.prog.underlying t=some (.slice (Tryz.prog.elem t)))(hs:∀ W,(sizeOf (Tryz.prog.elem t)).run Tryz.prog W = .ok size W)(a:Option Addr)(n c m:Nat)(h:m<=n)(W:World):(Instr.slice t (.slice a n c) (some (.int .i64 m)) none none).run Tryz.prog W = .ok (.slice (if c=m then a else a.map (·.add (m*size))) (n-m) (c-m)) W:=by
 rw[run_slice_l W t a n c hu .i64 m oM oM];rw[hs];simp only[Result.andThen_ok,sliced,lG9]
theorem ci0 (hown:w.ownsRow base e size v n xs)(hg:w.grownBy w' v.ownBlock):Fr (fun b=>base<=b) w w':=
 ⟨hg.os,hg.tape,hg.output,hg.size,fun b hb hn=>hg.block b hb (fun e=>hn (hown.lt b e.symm).1)⟩
theorem BL0 (a:Option Addr)(n c m:Nat)(h:m<=c)(W:World):(Instr.slice 52 (.slice a n c) none (some (.int .i64 m)) none).run Tryz.prog W = .ok (.slice a m c) W:=eA0 52 1 kF (fun W=>by kernel_rfl) a n c m h W
theorem yL0 (a:Option Addr)(n c m:Nat)(h:m<=n)(W:World):(Instr.slice 52 (.slice a n c) (some (.int .i64 m)) none none).run Tryz.prog W = .ok (.slice (if c=m then a else a.map (·.add (m*1))) (n-m) (c-m)) W:=bW0 52 1 kF (fun W=>by kernel_rfl) a n c m h W
theorem oN (h:w.ownsRow b e size v n xs)(F:Fq w w'):w'.ownsRow b e size v n xs:=oRf h F (fun _ _ _ h=>h)
theorem fX0 {B:Blk}(h:w.ownsRow b e size v n xs)(he:e ∉ em0)(F:FrB B w w'):w'.ownsRow b e size v n xs:=
 oRf h F fun g c hg hs=>he (hs.2.1 c e _ hg)
theorem own_base (h:w.ownsRow b e size v n xs):w.ownsRow 0 e size v n xs:=by
 obtain⟨hl,h0|⟨g,cap,cur,hv,hb,r⟩⟩:=h
 ·exact⟨hl,.inl h0⟩
 ·exact⟨hl,.inr ⟨g,cap,cur,hv,la9 _,r⟩⟩
def ti0 (bf:Nat)(D:Dev)(w1:World)(k:Nat)(wr:World):Prop:=
 (∃ l ck,wr.heap[bf]?=some (.map (ents l) ck)/\(keys l).Nodup/\∀ j,gX0 wr D.size (Sg.look l j) (er0 D.fast (D.loose.take k) j))/\Fr (fun b=>b=bf) w1 wr
theorem _root_.Go.Sg.gX0.fr {S:Nat->Prop}{v:Option Value}{bs:Option (List Int)}(h:gX0 w size v bs)(F:Fr S w w')(h5:∀ g c,w.heap[g]?=some (.cells c 5)->¬ S g):gX0 w' size v bs:=by
 cases v with
 | none=>cases bs with
  | none=>trivial
  | some b=>exact h.elim
 | some v=>cases bs with
  | none=>exact h.elim
  | some b =>
   obtain⟨g,off,cap,e,hb,hc⟩:=h;exact⟨g,off,cap,e,hb.fr F h5,hc⟩
variable {D:Dev}
theorem sH0 {w2:World}{k:Nat}{l:List Ent}{ck:Nat}(hl:wr.heap[bf]?=some (.map (ents l) ck))(hn:(keys l).Nodup)(hf:∀ j,gX0 wr D.size (Sg.look l j) (er0 D.fast (D.loose.take k) j))(F1:Fr (fun b=>b=bf) w1 wr)
  {at_:Int} {bs:List Int} (hk:D.loose[k]?=some (at_,bs)) {ca:Option Addr} {cc:Nat} (hb:ByV w2 ca D.size cc bs) (hcc:D.size<=cc) (hz:0<D.size) (F:Fq wr w2) :
  ti0 bf D w1 (k+1) (w2.putObj bf (.map (ents (Sg.put l at_ (.slice ca D.size cc) ck)) (bump l at_ ck))):=by
 have hl2:=F.heap hl id;refine⟨⟨_,_,aR0 _ _ _ (loh hl2),dV0 hn _ _ _,fun j=>?_⟩,?_⟩
 ·have F2:Fr (fun b=>b=bf) w2 (w2.putObj bf (.map (ents (Sg.put l at_ (.slice ca D.size cc) ck)) (bump l at_ ck))):=(Fr.refl (fun b=>b=bf) _).putObj (fun _=>rfl) _;have h5:∀ g c,w2.heap[g]?=some (.cells c 5)->¬ g=bf:=fun g c hg e=>by rw[e,hl2] at hg;cases hg
  have et:D.loose.take (k+1)=D.loose.take k++[(at_,bs)]:=by rw[lw9,hk];rfl
  rw[gn0,et,fK0,zb0];by_cases hj:at_=j
  ·subst hj;rw[if_pos rfl,if_pos rfl];have hb':=hb.fr F2 h5;rcases hb.at_ with⟨_,h0,_⟩|⟨b,off,cs,rfl,_⟩
   ·omega
   ·exact⟨b,off,cc,rfl,hb',hcc⟩
  ·rw[if_neg hj,if_neg (fun e=>hj e.symm)];exact ((hf j).fr F (fun _ _ _ h=>h)).fr F2 h5
 ·exact (F1.trans F nE).putObj (fun _=>rfl) _
theorem AN0 {ws:List Wr}(h:w.ownsRow base 196 2 (.slice a ws.length c) ws.length (ws.flatMap Wr.cells)){x:Wr}(hx:ws[j]?=some x) :
  ∃ g,a=some ⟨g,0,none⟩/\g<w.heap.size/\w.cell? ⟨g,j*2,none⟩=some (.int .i64 x.at_)/\w.cell? ⟨g,j*2+1,none⟩=some (.slice x.la x.ll x.lc):=by
 obtain⟨k0,k1⟩:=oX0 ws hx;rw[lJ9] at k0 k1;obtain⟨g,e,hg,h1⟩:=al0 h k0;obtain⟨g',e',_,h2⟩:=al0 h k1;rw[e] at e';cases e';exact⟨g,e,hg,h1,h2⟩
def An0 (base d bf bq:Nat)(D:Dev)(w:World)(e:Ending)(w':World):Prop:=
 (D.act.down=true/\e = .returned (.int .i64 4)/\bt0 w' base d bf bq D.act/\Fr (fun b=>b=d) w w') \/
 (D.act.down=false/\e = .returned (.int .i64 0)/\bt0 w' base d bf bq D.synced/\Fr (fun b=>b=d\/b=bf) w w')
theorem vu0 (h:bt0 w base d bf bq D){lv:Value}(hd:w.heap[d]?=some (.cells (tQ0 D bf bq lv) 151))(hl:lD0 w base lv D.loose)(hd1:w1.heap[d]?=some (.cells (tQ0 D.act bf bq lv) 151))(F1:Fr (fun b=>b=d) w w1)(hS:ti0 bf D w1 D.loose.length wr) :
  bt0 (wr.setCell ⟨d,3,none⟩ (.slice none 0 0)) base d bf bq D.synced/\Fr (fun b=>b=d\/b=bf) w (wr.setCell ⟨d,3,none⟩ (.slice none 0 0)):=by
 have h1:=mi0 h hd hl hd1 F1;obtain⟨⟨l,ck,hf,hfn,hfs⟩,F2⟩:=hS;obtain⟨l0,ck0,hf0,_⟩:=h1.fast;have ndf:¬ d=bf:=fun e=>by rw[<- e,hd1] at hf0;cases hf0
 have hdr:=F2.heap hd1 ndf;have F3:Fr (fun b=>b=d) wr (wr.setCell ⟨d,3,none⟩ (.slice none 0 0)):=(Fr.refl (fun b=>b=d) _).setCell (a:=⟨d,3,none⟩) (fun _=>rfl) _;have F13:Fr (fun b=>b=d\/b=bf) w1 (wr.setCell ⟨d,3,none⟩ (.slice none 0 0)):=(F2.mono (fun _ _ h=>.inr h)).trans F3 (fun _ _ h=>.inl h);have n1:∀ g c t,t≠151->w1.heap[g]?=some (.cells c t)->¬ (g=d\/g=bf):=fun g c t ht hg e=>by
  rcases e with e|e
  ·rw[e,hd1] at hg;cases hg;exact ht rfl
  ·rw[e,hf0] at hg;cases hg
 obtain⟨l',ck',hq,hqn,hqs,hqd⟩:=h1.past;refine⟨⟨⟨.slice none 0 0,?_,[],World.ownsRow_nil _ _ _ _,rfl,fun i x y hx _=>by simp at hx⟩,⟨l,ck,?_,hfn,fun j=>?_⟩,⟨l',ck',?_,hqn,fun e he=>?_,hqd⟩,h1.ge,h1.ne,h1.rg⟩,(F1.mono (fun _ _ h=>.inl h)).trans F13 nI⟩
 ·rw[hsc _ _ _ _ hdr];rfl
 ·exact F3.heap hf (fun e=>ndf e.symm)
 ·have:=hfs j;rw[List.take_length] at this;exact this.fr F3 (fun g c hg e=>by rw[e,hdr] at hg;cases hg)
 ·exact F13.heap hq (fun e=>by
   rcases e with e|e
   ·rw[e,hd1] at hq;cases hq
   ·exact h1.ne e.symm)
 ·exact gz0.fr (hqs e he) F13 (fun g c hg=>n1 g c 22 dC hg) (fun g c hg=>n1 g c 5 dC hg)
theorem xV0 (h:bt0 w base d bf bq D)(hdown:D.down=false)(hacts:D.acts<=1000000)(harm:D.armed<=9223372036854775807)(hmany:D.loose.length<=100000)(hlen:∀ y ∈ D.loose,y.2.length=D.size) :
  Calls Tryz.prog 41 #[.pointer (some ⟨d,0,none⟩)] w (An0 base d bf bq D w):=by
 obtain⟨lv,hd,hl⟩:=h.dc;have hz:=h.rg.2;have c7:=coh hd 7;simp[hdown] at c7;have HACT:=hid (va0 (lv:=lv) hd hacts harm);have H:=hi2 h (aI hd hl);have hlv:∃ a c,lv = .slice a D.loose.length c:=by
  obtain⟨ws,hown,hwl,hws⟩:=hl;rw[<- hwl];obtain⟨_,⟨h1,h2⟩|⟨g,cap,cur,h1,_⟩⟩:=hown
  ·rw[h2];exact⟨_,_,h1⟩
  ·exact⟨_,_,h1⟩
 obtain⟨va,vc,rfl⟩:=hlv;obtain⟨n,hn⟩:=eX D.loose.length
 have hn9:n<=100000:=oM
 have HN:=hid hn;have HL:=hid hlen;have ld:=loh hd;clear h hd hl hlen hn hmany;cases hdn:D.act.down with
 | true =>
  have HDN:=hid hdn;rw[hdn] at HACT;clear hdn;go_enter Tryz.func41,Tryz.ntmps41;go_wp2_with fail
  refine HACT.out.mono ?_;rintro e w1 ⟨rfl,hd1,F1⟩;have H1:=hi2 hd1 F1;clear hd1 F1;go_wp2_with fail
  go_ret;exact .inl ⟨HDN.out,rfl,mi0 H.out.1 H.out.2.1 H.out.2.2 H1.out.1 H1.out.2,H1.out.2⟩
 | false =>
  have HDN:=hid hdn;rw[hdn] at HACT;clear hdn;go_enter Tryz.func41,Tryz.ntmps41;go_wp2_with fail
  refine HACT.out.mono ?_;rintro e w1 ⟨rfl,hd1,F1⟩;have H1:=hi2 hd1 F1;have c3:=coh hd1 3;simp at c3;rw[HN.out] at c3;have ld1:=loh hd1;obtain⟨ws,hown,hwl,hws⟩:=H.out.2.2;have nd:∀ g c t,t≠151->w.heap[g]?=some (.cells c t)->¬ g=d:=fun g c t ht hg e=>by rw[e,H.out.2.1] at hg;cases hg;exact ht rfl
  obtain⟨l0,ck0,hf0,hfn0,hfs0⟩:=H.out.1.fast;have hnf:¬ bf=d:=fun e=>by rw[e,H.out.2.1] at hf0;cases hf0
  have hS0:ti0 bf D w1 0 w1:=⟨⟨l0,ck0,F1.heap hf0 hnf,hfn0,fun j=>(hfs0 j).fr F1 (fun g c hg=>nd g c _ dC hg)⟩,Fr.refl _ _⟩;have HOW:=hi2 (oRf hown F1 (fun g c hg=>nd g c _ dC hg)) (aI hwl (fun i x y hx hy=>(⟨(hws i x y hx hy).1,(hws i x y hx hy).2.1.fr F1 (fun g c hg=>nd g c _ dC hg),(hws i x y hx hy).2.2⟩:x.at_=y.1/\(ByV w1 x.la x.ll x.lc y.2/\x.ll<=x.lc))));have HF0:=hid (F1.heap hf0 hnf);have HS0:=hid hS0;clear hd1 F1 hown hwl hws hf0 hfn0 hfs0 hS0 nd c7;go_wp2_with fail
  go_loopw [22] (fun i wr=>∃ k:Nat,k<=n/\i = .int .i64 k/\ti0 bf D w1 k wr) (fun i _=>n-(intOf i).toNat)
  case atStart=>exact⟨0,la9 _,rfl,HS0.out⟩
  case round =>
   obtain⟨k,hk,rfl,hS⟩:=hrel;have nc:∀ g c t,w1.heap[g]?=some (.cells c t)->¬ g=bf:=fun g c t hg e=>by rw[e,HF0.out] at hg;cases hg
   by_cases hlt:k<n
   ·have hdk:decide ((k:Int)<(n:Int))=true:=sO;have hki:(k:Int)<(n:Int):=oM;obtain⟨⟨l,ck,hl,hfn,hfs⟩,FS⟩:=hS;obtain⟨x,hx⟩:∃ x,ws[k]?=some x:=⟨_,gE (by rw[HOW.out.2.1,HN.out];exact hlt)⟩
    obtain⟨⟨ya,yb⟩,hy⟩:∃ y,D.loose[k]?=some y:=⟨_,gE (by rw[HN.out];exact hlt)⟩
    obtain⟨hxa,hxb,hxc⟩:=HOW.out.2.2 k x (ya,yb) hx hy;have hrow:wr.ownsRow base 196 2 (.slice va ws.length vc) ws.length (ws.flatMap Wr.cells):=by
     have:=oRf HOW.out.1 FS (fun g c hg=>nc g c _ hg);rw[HOW.out.2.1];rw[HOW.out.2.1] at this;exact this
    obtain⟨g,rfl,hg,u0,u1⟩:=AN0 hrow hx;have hyl:yb.length=D.size:=HL.out _ (gM hy);have hxl:x.ll=D.size:=(by rw[<- hxb.len];exact hyl);simp only at hxa;rw[hxa] at u0;rw[hxl] at u1 hxb hxc;obtain⟨W,hW⟩:=eX (wr.alloc (.cells #[.int .i64 ya,.slice x.la D.size x.lc] 196))
    have bW:W.heap[wr.heap.size]?=some (.cells #[.int .i64 ya,.slice x.la D.size x.lc] 196):=(by rw[<- hW];exact han _ _);have FW:Fq wr W:=(by rw[<- hW];exact (Fr.refl _ _).alloc _);have hdW:W.heap[d]?=some (.cells (tQ0 D.act bf bq (.slice (some ⟨g,0,none⟩) D.loose.length vc)) 151):=FW.heap (FS.heap H1.out.1 (nc _ _ _ H1.out.1)) id;have hlW:=FW.heap hl id;have HC:=hid (fun V (F:Fq W V)=>show (V.cell? ⟨wr.heap.size,0,none⟩=some (.int .i64 ya)/\V.cell? ⟨wr.heap.size,1,none⟩=some (.slice x.la D.size x.lc))/\V.cell? ⟨d,2,none⟩=some (.map (some bf))/\(V.heap[bf]?=some (.map (ents l) ck)/\wr.heap.size<V.heap.size/\d<V.heap.size) by
     obtain⟨t0,t1,tz,tl⟩:=cells2 (F.heap bW id);have hdV:=F.heap hdW id;exact⟨⟨t0,t1⟩,by simpa using coh hdV 2,F.heap hlW id,tl,loh hdV⟩)
    have hxb':ByV W x.la D.size x.lc yb:=(hxb.fr FS (fun g c hg=>nc g c _ hg)).fr FW (fun _ _ _ h=>h);have HCL:=hid (fun V (F:Fq W V)=>dz0 (hxb'.fr F (fun _ _ _ h=>h)).slb (show D.size<=65536 by omega));have HUP:=hid (fun (V:World) (hV:V.heap[bf]?=some (.map (ents l) ck)) (v:Value)=>bg0 (P:=Tryz.prog) (T:=147) Tryz.underlying147 Tryz.underlying3 hV ya v);have HSy:=hi2 hl (aI hfn (aI hfs (aI FS (aI hy FW))));have HW:=hid hW;clear hl hfn hfs FS hx hy hxa hxb hxc hrow hyl hxl hW bW FW hdW hlW hxb' nc;go_upto_region 8 with fail
    rw[HW.out];obtain⟨⟨t0,t1⟩,t2,t3,tl1,tl2⟩:=HC.out _ (Fr.refl _ _);have hup:=HUP.out _ t3;have FG:Fq W W.drew:=(Fr.refl _ _).drew;clear u0 u1;go_region_law (((try go_simp);go_at_call 83;refine (HCL.out _ FG).mono ?_;rintro e V1 ⟨ca,cc,rfl,⟨hb1,hcc⟩,G1⟩;have FG:=FG.trans G1 nI;obtain⟨⟨t0,t1⟩,t2,t3,tl1,tl2⟩:=HC.out _ FG;have hup:=HUP.out _ t3;have HB1:=hi2 hb1 (aI hcc FG);clear hb1 hcc G1))
    all_goals
     go_wp2_with fail
     go_roundw;case rel =>
      obtain⟨hl,hfn,hfs,FS,hy,FW⟩:=HSy.out;obtain⟨hb1,hcc,FG⟩:=HB1.out;exact⟨k+1,hlt,by go_num,sH0 hl hfn hfs FS hy hb1 hcc oM (FW.trans FG nI)⟩
     case measure=>simp[intOf];omega
   ·obtain rfl:k=n:=by omega
    have hdk:decide ((k:Int)<(k:Int))=false:=sP;have HSy:=hid hS;have hdr:=hS.2.heap H1.out.1 (nc _ _ _ H1.out.1);have HDR:=hid hdr;have z:=fun o=>foh hdr o
    have ldr:=loh hdr;have c3r:=coh hdr 3;simp at c3r;clear hS hdr;go_wp2_with fail
    go_ret;obtain⟨hD',F'⟩:=vu0 H.out.1 H.out.2.1 H.out.2.2 H1.out.1 H1.out.2 (by rw[HN.out];exact HSy.out);exact .inr ⟨HDN.out,rfl,hD',F'⟩
end
section
open Go.RowKit Go.Sg Go.Sg.Bits Go.Sg.Clk CP SF
variable {w w':World}{B:Blk}{x:Sto}{a:Bool}{N:Nat}
theorem ax0.oY0 (h:ax0 w B x)(F:Fr (fun b=>b=B.d\/b=B.bf) w w'){D:Dev}(hD:bt0 w' B.base B.d B.bf B.bq D)(e1:D.sectors=x.dev.sectors)(e2:D.size=x.dev.size):ax0 w' B { x with dev:=D }/\FrB B w w':=by
 have FR:FrR B [.d,.bf] w w':=F.mono (fun b _ hs=>hs.elim (fun e=>⟨.d,by simp,e⟩) (fun e=>⟨.bf,by simp,e⟩));have S:=h.stays FR;have hrg:=h.rg;exact⟨⟨S.s dC,hD,S.bits dC dC,S.fr dC,S.dy dC,S.de dC,S.mem dC dC dC,S.load,h.ne,h.ge,⟨hrg.1,hrg.2.1,hrg.2.2.1,by rw[e1];exact hrg.2.2.2.1,by rw[e2];exact hrg.2.2.2.2⟩,h.inr⟩,h.frB FR⟩
variable {P:aC0}
theorem yy0 {c:Cont}(hi:Is w x c P a N)(hdn:x.dev.act.down=true)(hD:bt0 w' B.base B.d B.bf B.bq x.dev.act):aP0 w' B (x.cs c) P (N+1):=by
 refine⟨x.dev.act,hD,⟨nu9 hi.dev.acts,ni9 hi.dev.many,hi.dev.len,hi.dev.prot,?_,fun h=>(by cases h),hi.dev.byt⟩,hdn,rfl,rfl⟩;show x.dev.armed-1<=_;have:=hi.dev.armed;omega
def Am0 (l:Nat)(B:Blk)(y:Cs)(P:aC0)(a:Bool)(N:Nat)(w:World)(e:Ending)(w':World):Prop:=
 FrB B w w'/\((e = .returned (.int .i64 0)/\cZ0 l w' B y P a (N+1))\/(e = .returned (.int .i64 4)/\a=true/\aP0 w' B y P (N+1)))
theorem zf0 {y:Cs}(h:cZ0 1 w B y P a N)(hN:N+1<=90000):Calls Tryz.prog 41 #[.pointer (some ⟨B.d,0,none⟩)] w (Am0 2 B y P a N w):=by
 obtain⟨⟨x,c,hS,rfl,hi,hcl,-⟩,hT,hb⟩:=h;have hfew:=hi.few;refine (xV0 hS.dev hi.down (nT hi.dev.acts oM) hi.dev.armed (nT hi.dev.many oM) hi.dev.len).mono ?_;rintro e w' (⟨hdn,rfl,hD,F⟩|⟨hdn,rfl,hD,F⟩)
 ·obtain⟨hS',FB⟩:=hS.oY0 (F.mono fun _ _ h=>.inl h) hD rfl rfl;refine⟨FB,.inr ⟨rfl,?_,yy0 hi hdn hD⟩⟩;cases a with
  | true=>rfl
  | false=>rw[Dev.mq0 hi.down (hi.dev.calm rfl)] at hdn;cases hdn
 ·obtain⟨hS',FB⟩:=hS.oY0 F hD rfl rfl;have hh:=hi.holds.frB FB;exact⟨FB,.inl ⟨rfl,⟨⟨_,c,hS',rfl,⟨hdn,hi.dev.synced,⟨hh.ok,fun k q hq=>(by
   obtain⟨s0,b0,a1,a2,a3,a4,a5⟩:=hh.mem k q hq;exact⟨s0,b0,a1,a2,a3,a4,fun hd=>by rw[show ({ x with dev:=x.dev.synced }:Sto).dev.sec _=x.dev.sec _ from Dev.jc0 _ _];exact a5 hd⟩),fun k st bs hk hm=>by
   rw[show ({ x with dev:=x.dev.synced }:Sto).dev.sec _=x.dev.sec _ from Dev.jc0 _ _];exact hh.dev k st bs hk hm⟩,hi.ptk,hi.apart,hN⟩,fun _=>hcl oM,fun _=>rfl⟩,hT.fr FB (fun h=>oM),hb⟩⟩⟩
end
section
open Go.RowKit Go.Sg CP SF
structure aL0 where
 per:Nat
 most:Nat
 depth:Nat
 rp:Int
 rs:Int
abbrev aL0.cells (x:aL0)(s:Nat):Array Value:=#[.pointer (some ⟨s,0,none⟩),.int .i64 x.per,.int .i64 x.most,.int .i64 x.depth,.int .i64 x.rp,.int .i64 x.rs]
def aj0 (w:World)(bd s:Nat)(x:aL0):Prop:=w.heap[bd]?=some (.cells (x.cells s) 209)
variable {w:World}{bd d s:Nat}
theorem aU0 {b:Nat}{x0 x1 x2 x3 x4 x5:Value}{t:TypeId}(h:w.heap[b]?=some (.cells #[x0,x1,x2,x3,x4,x5] t)) :
  w.cell? ⟨b,0,none⟩=some x0/\w.cell? ⟨b,1,none⟩=some x1/\w.cell? ⟨b,2,none⟩=some x2/\w.cell? ⟨b,3,none⟩=some x3/\w.cell? ⟨b,4,none⟩=some x4/\w.cell? ⟨b,5,none⟩=some x5/\(∀ o,w.frozen? ⟨b,o,none⟩=false)/\b<w.heap.size:=
 ⟨by simpa using coh h 0,by simpa using coh h 1,by simpa using coh h 2,by simpa using coh h 3,by simpa using coh h 4,by simpa using coh h 5,fun o=>foh h o,loh h⟩
abbrev cR0 (bd:Nat):Value:=.pointer (some ⟨bd,0,none⟩)
abbrev fT0 (p s:Int):Value:=.agg #[.int .i64 p,.int .i64 s]
def dR0 (p s:Int):Bool:=decide (0<=p) && decide (p<=2147483647) && decide (0<=s)
def ni0 (p s:Int)(w:World)(e:Ending)(w':World):Prop:=e = .returned (.bool (dR0 p s))/\Fq w w'
theorem dQ0 (p s:Int)(w:World):Calls Tryz.prog 117 #[fT0 p s] w (ni0 p s w):=by
 obtain⟨w1,hw1⟩:=eX (w.alloc (.cells #[.int .i64 p,.int .i64 s] 35))
 have b0:w1.heap[w.heap.size]?=some (.cells #[.int .i64 p,.int .i64 s] 35):=by rw[<- hw1];exact han _ _
 have HF:=hid (show Fq w w1 by rw[<- hw1];exact (Fr.refl _ _).alloc _);obtain⟨c0,c1,cz,cl⟩:=cells2 b0;have HW:=hid hw1;clear hw1 b0;go_enter Tryz.func117,Tryz.ntmps117;go_upto_region 1 with fail
 rw[HW.out];by_cases h1:0<=p
 ·have d1:decide ((0:Int)<=p)=true:=decide_eq_true h1;by_cases h2:p<=2147483647
  ·have d2:decide (p<=(2147483647:Int))=true:=decide_eq_true h2;by_cases h3:0<=s
   ·have d3:decide ((0:Int)<=s)=true:=decide_eq_true h3;go_wp2_with fail
    refine bodyPost_ret (v:=.bool true) sR rfl ⟨by simp[dR0,d1,d2,d3],HF.out⟩
   ·have d3:decide ((0:Int)<=s)=false:=decide_eq_false h3;go_wp2_with fail
    refine bodyPost_ret (v:=.bool false) sR rfl ⟨by simp[dR0,d1,d2,d3],HF.out⟩
  ·have d2:decide (p<=(2147483647:Int))=false:=decide_eq_false h2;go_wp2_with fail
   refine bodyPost_ret (v:=.bool false) sR rfl ⟨by simp[dR0,d1,d2],HF.out⟩
 ·have d1:decide ((0:Int)<=p)=false:=decide_eq_false h1;go_wp2_with fail
  refine bodyPost_ret (v:=.bool false) sR rfl ⟨by simp[dR0,d1],HF.out⟩
def aL0.slots (x:aL0):Nat:=2^x.depth
def aL0.leaves (x:aL0):Nat:=(x.slots+x.per-1)/x.per
def aL0.in_ (x:aL0)(i:Nat):Nat:=min x.per (x.slots-i*x.per)
def gW0 (v:Value)(w:World)(e:Ending)(w':World):Prop:=e = .returned v/\∃ m,w'=w.drewN m
theorem ji0 {P:Program}{f:FuncId}{args:Array Value}{n:Nat}{v:Value}(h:Calls P f args (w.drewN n) (gW0 v (w.drewN n))):Calls P f args (w.drewN n) fun e w''=>e = .returned v/\∃ m,w''=w.drewN m:=
 h.mono fun _ _ ⟨he,m,hm⟩=>⟨he,n+m,by rw[hm];simp[World.drewN,mw9]⟩
theorem lW0 (h:d<=20):2^d<=1048576/\0<2^d:=⟨nT (lc9 dC h) dC,lW9 dC⟩
theorem gY0 (h:d<=20):wrap64 (2^d)=((2^d:Nat):Int):=by
 obtain⟨h1,h2⟩:=lW0 h;have e:(2:Int)^d=((2^d:Nat):Int):=by simp
 rw[e];generalize 2^d=n at *
 simp only[wrap64];omega
variable {x:aL0}
theorem ga0 (h:aj0 w bd s x)(hd:x.depth<=20):Calls Tryz.prog 125 #[cR0 bd] w (gW0 (.int .i64 x.slots) w):=by
 obtain⟨c0,c1,c2,c3,c4,c5,cz,cl⟩:=aU0 h;have HP:=hid (gY0 hd);clear h;go_enter Tryz.func125,Tryz.ntmps125;go_wp2_with fail
 rw[HP.out];go_ret;exact⟨rfl,0,rfl⟩
theorem dr0 (hd:x.depth<=20):x.slots<=1048576/\0<x.slots:=lW0 hd
theorem lj0 (h:aj0 w bd s x)(hd:x.depth<=20)(hp:0<x.per)(hp':x.per<=65536):Calls Tryz.prog 182 #[cR0 bd] w (gW0 (.int .i64 x.leaves) w):=by
 obtain⟨c0,c1,c2,c3,c4,c5,cz,cl⟩:=aU0 h;have HSl:=hid (fun W (F:Fq w W)=>ga0 (F.heap h id:aj0 W bd s x) hd);obtain⟨hs1,hs2⟩:=dr0 hd;have HL:=hid (show (x.slots+x.per-1)/x.per=x.leaves from rfl);clear h;generalize x.slots=n at *
 have e2:((n:Int)+(x.per:Int)-1)/(x.per:Int)=(x.leaves:Int):=by
  rw[show (n:Int)+(x.per:Int)-1=((n+x.per-1:Nat):Int) by omega,<- HL.out];simp
 have HE:=hid e2;clear e2;go_enter Tryz.func182,Tryz.ntmps182;go_wp2_with fail
 go_quiet ((go_at_call 125;exact ji0 (HSl.out _ ((Fr.refl _ _).drewN _))))
 go_wp2_with fail
 refine bodyPost_ret (v:=.int .i64 x.leaves) (by simp[results,go_sem,HE.out]) rfl ⟨rfl,_,rfl⟩
theorem rn0 (h:aj0 w bd s x)(hd:x.depth<=20)(hp:0<x.per)(hp':x.per<=65536)(i:Nat)(hi:i*x.per<=x.slots):Calls Tryz.prog 183 #[cR0 bd,.int .i64 i] w (gW0 (.int .i64 (x.in_ i)) w):=by
 obtain⟨c0,c1,c2,c3,c4,c5,cz,cl⟩:=aU0 h;have HSl:=hid (fun W (F:Fq w W)=>ga0 (F.heap h id:aj0 W bd s x) hd);obtain⟨hs1,hs2⟩:=dr0 hd;have HL:=hid (show min x.per (x.slots-i*x.per)=x.in_ i from rfl);clear h;generalize x.slots=n at *
 obtain⟨ip,hip⟩:=eX (i*x.per)
 have e1:(i:Int)*(x.per:Int)=(ip:Int):=by rw[<- hip];simp
 rw[hip] at hi HL;have hw:wrap64 ((i:Int)*(x.per:Int))=(ip:Int):=by rw[e1];simp only[wrap64];omega
 have HE:=hid e1;clear hip;go_enter Tryz.func183,Tryz.ntmps183;go_wp2_with fail
 go_quiet ((go_at_call 125;exact ji0 (HSl.out _ ((Fr.refl _ _).drewN _))))
 go_wp2_with fail
 have hm:min (x.per:Int) ((n:Int)-(ip:Int))=(x.in_ i:Int):=by rw[<- HL.out];omega
 refine bodyPost_ret (v:=.int .i64 (x.in_ i)) (by simp[results,go_sem,hm]) rfl ⟨rfl,_,rfl⟩
def tl0 (n:Int)(w:World)(e:Ending)(w':World):Prop:=e = .returned (.int .i64 n)/\w=w'
theorem eX0 (h:aj0 w bd s x):Calls Tryz.prog 56 #[cR0 bd] w (tl0 x.depth w):=by
 obtain⟨c0,c1,c2,c3,c4,c5,cz,cl⟩:=aU0 h;clear h;go_enter Tryz.func56,Tryz.ntmps56;go_wp2_with fail
 go_ret;exact⟨rfl,rfl⟩
def wr0 (p s:Int)(w:World)(e:Ending)(w':World):Prop:=e = .returned (fT0 p s)/\Fq w w'
theorem xh0 (h:aj0 w bd s x):Calls Tryz.prog 57 #[cR0 bd] w (wr0 x.rp x.rs w):=by
 obtain⟨c0,c1,c2,c3,c4,c5,cz,cl⟩:=aU0 h;clear h;go_enter Tryz.func57,Tryz.ntmps57;go_wp2_with fail
 refine bodyPost_ret (v:=fT0 x.rp x.rs) sR rfl ⟨rfl,?_⟩;with_reducible (repeat (first|exact Fr.refl _ _|apply Fr.drew|apply Fr.alloc|refine Fr.an0 ?_ oM _))
end
end Go.Proofs.YtgdhaaokolfdoaaGreatDoor
namespace Go.Sg
structure Bt where
 hash:Nat
 rg:Int
 at_:Int
 sz:Int
 deriving DecidableEq
inductive Tr where
 | leaf (r:Int × Int) (es:List Bt)
 | node (l r:Tr)
namespace Tr
def high:Tr->Nat
 | leaf _ _=>0
 | node l r=>max l.high r.high+1
def slots:Tr->Nat->List (Int × Int)
 | leaf r _,g=>List.replicate (2^g) r
 | node l r,g=>l.slots (g-1)++r.slots (g-1)
def refs:Tr->List (Int × Int)
 | leaf r _=>[r]
 | node l r=>l.refs++r.refs
def at_:Tr->Nat->Nat->Nat->Nat->Nat × Nat × (Int × Int) × List Bt
 | leaf r es,_,_,d,p=>(d,p,r,es)
 | node l r,g,k,d,p=>if k<2^(g-1) then l.at_ (g-1) k (d+1) (2*p) else r.at_ (g-1) (k-2^(g-1)) (d+1) (2*p+1)
def put:Tr->Nat->Nat->((Int × Int)->List Bt->Tr)->Tr
 | leaf r es,_,_,f=>f r es
 | node l r,g,k,f=>if k<2^(g-1) then node (l.put (g-1) k f) r else node l (r.put (g-1) (k-2^(g-1)) f)
theorem ba0:∀ (t:Tr) (g:Nat),t.high<=g->(t.slots g).length=2^g
 | leaf _ _,g,_=>by simp[slots]
 | node l r,g,h=>by
  simp only[high] at h;rw[slots,lA,ba0 l (g-1) oM,ba0 r (g-1) oM];obtain⟨k,rfl⟩:∃ k,g=k+1:=⟨g-1,oM⟩
  simp only[lY9,lK9];omega
theorem ce0 {g:Nat}(h:1<=g):2^g=2^(g-1)+2^(g-1):=by
 obtain⟨k,rfl⟩:∃ k,g=k+1:=⟨g-1,oM⟩
 simp only[lY9,lK9];omega
theorem gb0:∀ (t:Tr) (g k d p:Nat),t.high<=g->k<2^g->(t.slots g)[k]?=some (t.at_ g k d p).2.2.1
 | leaf r es,g,k,d,p,_,hk=>by
  simp only[slots,at_];rw[lF9,if_pos hk]
 | node l r,g,k,d,p,h,hk=>by
  simp only[high] at h;have h2:=ce0 (g:=g) oM;have hl:=ba0 l (g-1) oM;simp only[slots,at_];by_cases hlt:k<2^(g-1)
  ·rw[if_pos hlt,lh9 (by rw[hl];exact hlt)];exact gb0 l (g-1) k _ _ oM hlt
  ·rw[if_neg hlt,lk9 (by rw[hl];omega),hl];exact gb0 r (g-1) _ _ _ oM oM
theorem cC0:∀ (t:Tr) (g k d p:Nat),(t.at_ g k d p).1<=d+t.high
 | leaf _ _,_,_,d,_=>by simp[at_,high]
 | node l r,g,k,d,p=>by
  simp only[at_,high];split
  ·have:=cC0 l (g-1) k (d+1) (2*p);omega
  ·have:=cC0 r (g-1) (k-2^(g-1)) (d+1) (2*p+1);omega
theorem te0:∀ (t:Tr) (g k d p:Nat),d<=(t.at_ g k d p).1
 | leaf _ _,_,_,d,_=>by simp[at_]
 | node l r,g,k,d,p=>by
  simp only[at_];split
  ·have:=te0 l (g-1) k (d+1) (2*p);omega
  ·have:=te0 r (g-1) (k-2^(g-1)) (d+1) (2*p+1);omega
theorem kQ0:∀ (t:Tr) (g k d p:Nat),t.high<=g->k<2^g->(t.at_ g k d p).2.1=(p*2^g+k)/2^(d+g-(t.at_ g k d p).1)
 | leaf _ _,g,k,d,p,_,hk=>by
  simp only[at_];rw[show d+g-d=g by omega,lJ9,Nat.mul_add_div (lW9 dC),mu9 hk];omega
 | node l r,g,k,d,p,h,hk=>by
  simp only[high] at h;have h2:=ce0 (g:=g) oM;simp only[at_];by_cases hlt:k<2^(g-1)
  ·rw[if_pos hlt];have:=kQ0 l (g-1) k (d+1) (2*p) oM hlt;rw[this,show d+1+(g-1)=d+g by omega];congr 1
   rw[h2,mA9,lJ9 2 p,mR9,Nat.two_mul,mA9]
  ·rw[if_neg hlt];have:=kQ0 r (g-1) (k-2^(g-1)) (d+1) (2*p+1) oM oM;rw[this,show d+1+(g-1)=d+g by omega];congr 1
   rw[h2,nj9,mA9,lJ9 2 p,mR9,Nat.two_mul,mA9];omega
theorem iW0:∀ (t:Tr) (g:Nat),t.high<=g->t.slots (g+1)=(t.slots g).flatMap fun r=>[r,r]
 | leaf r _,g,_=>by
  simp only[slots];rw[lK9];generalize 2^g=n;induction n with
  | zero=>rfl
  | succ n ih=>rw[List.replicate_succ,lj9,<- ih,show (n+1)*2=n*2+1+1 by omega];rfl
 | node l r,g,h=>by
  simp only[high] at h;obtain⟨k,rfl⟩:∃ k,g=k+1:=⟨g-1,oM⟩
  simp only[slots,lY9,li9];rw[iW0 l k oM,iW0 r k oM]
end Tr
namespace Tr
def lo:Tr->Nat->Nat->Nat
 | leaf _ _,_,_=>0
 | node l r,g,k=>if k<2^(g-1) then l.lo (g-1) k else 2^(g-1)+r.lo (g-1) (k-2^(g-1))
def wd:Tr->Nat->Nat->Nat
 | leaf _ _,g,_=>g
 | node l r,g,k=>if k<2^(g-1) then l.wd (g-1) k else r.wd (g-1) (k-2^(g-1))
theorem gZ0:∀ (t:Tr) (g k d p:Nat),t.high<=g->(t.at_ g k d p).1+t.wd g k=d+g
 | leaf _ _,g,_,d,_,_=>rfl
 | node l r,g,k,d,p,h=>by
  simp only[high] at h;simp only[at_,wd];split
  ·have:=gZ0 l (g-1) k (d+1) (2*p) oM;omega
  ·have:=gZ0 r (g-1) (k-2^(g-1)) (d+1) (2*p+1) oM;omega
theorem nE0:∀ (t:Tr) (g k d p:Nat),t.high<=g->p*2^g+t.lo g k=(t.at_ g k d p).2.1*2^t.wd g k
 | leaf _ _,g,_,d,p,_=>by simp[at_,lo,wd]
 | node l r,g,k,d,p,h=>by
  simp only[high] at h;have h2:=ce0 (g:=g) oM;simp only[at_,wd,lo];split
  ·have:=nE0 l (g-1) k (d+1) (2*p) oM;rw[<- this,h2,mA9,lJ9 2 p,mR9,Nat.two_mul,mA9]
  ·have:=nE0 r (g-1) (k-2^(g-1)) (d+1) (2*p+1) oM;rw[<- this,h2,nj9,mA9,lJ9 2 p,mR9,Nat.two_mul,mA9];omega
theorem lo_le:∀ (t:Tr) (g k:Nat),t.high<=g->k<2^g->t.lo g k<=k/\k<t.lo g k+2^t.wd g k/\t.lo g k+2^t.wd g k<=2^g
 | leaf _ _,g,k,_,hk=>by simp[lo,wd];exact hk
 | node l r,g,k,h,hk=>by
  simp only[high] at h;have h2:=ce0 (g:=g) oM;simp only[lo,wd];split
  ·have:=lo_le l (g-1) k oM (by assumption);omega
  ·have:=lo_le r (g-1) (k-2^(g-1)) oM oM;omega
theorem lQ0 (f:(Int × Int)->List Bt->Tr):∀ (t:Tr) (g k:Nat),t.high<=g->k<2^g ->
  (t.put g k f).slots g=(t.slots g).take (t.lo g k)++(f (t.at_ g k 0 0).2.2.1 (t.at_ g k 0 0).2.2.2).slots (t.wd g k)++(t.slots g).drop (t.lo g k+2^t.wd g k):=by
 suffices H:∀ (t:Tr) (g k d p:Nat),t.high<=g->k<2^g ->
   (t.put g k f).slots g=(t.slots g).take (t.lo g k)++(f (t.at_ g k d p).2.2.1 (t.at_ g k d p).2.2.2).slots (t.wd g k)++(t.slots g).drop (t.lo g k+2^t.wd g k) from fun t g k=>H t g k 0 0
 intro t;induction t with
 | leaf r es =>
  intro g k d p _ hk;simp only[put,slots,lo,wd,at_,List.take_zero,le9];rw[mM9 sP,mF9]
 | node l r ihl ihr =>
  intro g k d p h hk;simp only[high] at h;have h2:=ce0 (g:=g) oM;have hl:=ba0 l (g-1) oM;simp only[put,slots,lo,wd,at_];by_cases hlt:k<2^(g-1)
  ·have hle:=lo_le l (g-1) k oM hlt;rw[if_pos hlt,if_pos hlt,if_pos hlt,if_pos hlt];simp only[slots];rw[ihl (g-1) k (d+1) (2*p) oM hlt,me9 oM,mL9 oM];simp only[lm9]
  ·have hle:=lo_le r (g-1) (k-2^(g-1)) oM oM;rw[if_neg hlt,if_neg hlt,if_neg hlt,if_neg hlt];simp only[slots];rw[ihr (g-1) (k-2^(g-1)) (d+1) (2*p+1) oM oM,<- hl,List.take_length_add_append,mw9,List.drop_length_add_append];simp only[lm9]
theorem sP0:∀ (t:Tr) (g k j:Nat),t.high<=g->k<2^g->t.lo g k<=j->j<t.lo g k+2^t.wd g k->t.at_ g j 0 0=t.at_ g k 0 0:=by
 suffices H:∀ (t:Tr) (g k j d p:Nat),t.high<=g->k<2^g->t.lo g k<=j->j<t.lo g k+2^t.wd g k->t.at_ g j d p=t.at_ g k d p from fun t g k j=>H t g k j 0 0
 intro t;induction t with
 | leaf r es=>intros;rfl
 | node l r ihl ihr =>
  intro g k j d p h hk h1 h2';simp only[high] at h;have h2:=ce0 (g:=g) oM;simp only[lo,wd] at h1 h2';simp only[at_];by_cases hlt:k<2^(g-1)
  ·rw[if_pos hlt] at h1;rw[if_pos hlt,if_pos hlt] at h2';have hle:=lo_le l (g-1) k oM hlt;rw[if_pos hlt,if_pos oM];exact ihl (g-1) k j _ _ oM hlt h1 h2'
  ·rw[if_neg hlt] at h1;rw[if_neg hlt,if_neg hlt] at h2';have hle:=lo_le r (g-1) (k-2^(g-1)) oM oM;rw[if_neg hlt,if_neg oM];exact ihr (g-1) _ _ _ _ oM oM oM oM
end Tr
