/- A pack of texts. Conditions: those that each names. -/
import Derived.Test.YtgdhaaokolfdoaaGreatDoorNAR
import Derived.Lib.SmallJoins
set_option maxHeartbeats 16000000
set_option maxRecDepth 100000
set_option linter.all false
namespace Go.Sg
theorem mF0 (n:Nat):∀ L:List Nat,L.length<n->∃ j,j<n/\j ∉ L:=by
 induction n with
 | zero=>intro L h;omega
 | succ n ih =>
  intro L h;by_cases hn:n ∈ L
  ·have hlt:(L.filter (fun k=>k != n)).length<L.length:=List.length_filter_lt_length_iff_exists.2 ⟨n,hn,by simp⟩;obtain⟨j,hj,hm⟩:=ih (L.filter (fun k=>k != n)) oM;refine⟨j,oM,fun hL=>hm ?_⟩;simp only[mb9,hL,true_and,bne_iff_ne,ne_eq];omega
  ·exact⟨n,oM,hn⟩
def sw (n m k:Nat):Nat:=if k=n then m else k
variable {l:List Nat}{m n:Nat}
theorem pu0 (h:l.Nodup)(hn:n ∈ l)(p:Nat->Bool)(hp:p n=true):(l.filter (fun k=>p k && k != n)).length+1=(l.filter p).length:=by
 have h1:l.filter (fun k=>p k && k != n)=(l.filter p).erase n:=by
  rw[List.Nodup.erase_eq_filter (h.filter p),List.filter_filter];congr 1;funext k;rw[Bool.and_comm]
 have hm:n ∈ l.filter p:=mb9.2 ⟨hn,hp⟩;rw[h1,List.length_erase_of_mem hm];have:=List.length_pos_of_mem hm;omega
theorem ui0 (h:l.Nodup)(hm:m=n\/m ∉ l):(l.map (sw n m)).Nodup:=by
 rw[List.Nodup,mE9];refine List.Pairwise.imp_of_mem ?_ h;intro a b ha hb hab;simp only[sw];rcases hm with rfl|hm
 ·split <;> split <;> omega
 ·split <;> split
  ·omega
  ·rintro rfl;exact hm hb
  ·rintro rfl;exact hm ha
  ·exact hab
theorem rY0 {x:Nat}:x ∈ l.map (sw n m)↔(x=m/\n ∈ l)\/(x ∈ l/\x≠n):=by
 simp only[ld9,sw];constructor
 ·rintro⟨a,ha,rfl⟩;split
  ·rename_i e;subst e;exact .inl ⟨rfl,ha⟩
  ·rename_i e;exact .inr ⟨ha,e⟩
 ·rintro (⟨rfl,h⟩|⟨h,e⟩)
  ·exact⟨n,h,by simp⟩
  ·exact⟨x,h,by simp[e]⟩
end Go.Sg
namespace Go.Proofs.YtgdhaaokolfdoaaGreatDoor
open Go.RowKit Go.Sg Go.Sg.Bits Go.Sg.Clk CP SF
structure Live (y:Cs)(own:List Nat)(M:Nat):Prop where
 nd:own.Nodup
 lt:∀ k ∈ own,k<y.pages
 tk:∀ k ∈ own,y.taken k=true/\y.dying k=false/\y.dead k=false
 all:∀ k,k<y.pages->y.taken k=true->k ∈ own\/y.dying k=true\/y.dead k=true
 dy:∃ L:List Nat,(∀ k:Nat,y.dying k=true->k ∈ L)/\L.length+(own.filter (fun k:Nat=>!y.fresh k)).length<=M
 de:∃ L:List Nat,(∀ k:Nat,y.dead k=true->k ∈ L)/\L.length<=M
variable {y:Cs}{own:List Nat}{M N lc ll m n:Nat}{bs:List Int}{w:World}{a:Bool}{la:Option Addr}
theorem Live.perm {own':List Nat}(h:Live y own M)(p:own.Perm own'):Live y own' M:=by
 obtain⟨L,h1,h2⟩:=h.dy;exact⟨p.nodup_iff.1 h.nd,fun k hk=>h.lt k (p.mem_iff.2 hk),fun k hk=>h.tk k (p.mem_iff.2 hk),fun k hk ht=>(h.all k hk ht).imp (fun h=>p.mem_iff.1 h) id,⟨L,h1,by rw[<- (p.filter _).length_eq];exact h2⟩,h.de⟩
theorem Live.free (h:Live y own M)(hn:own.length+2*M<y.pages):∃ j,j<y.pages/\y.taken j=false:=by
 obtain⟨L,h1,h2⟩:=h.dy;obtain⟨L',h3,h4⟩:=h.de;obtain⟨j,hj,hm⟩:=mF0 y.pages (own++L++L') sO;refine⟨j,hj,?_⟩;cases ht:y.taken j with
 | false=>rfl
 | true =>
  exfalso;apply hm;rcases h.all j hj ht with h|h|h
  ·simp[h]
  ·simp[h1 j h]
  ·simp[h3 j h]
def Cs.put (y:Cs)(n m:Nat)(bs:List Int):Cs:=if y.fresh n=true then { y with cont:=fE0 y.cont n (some (y.gen,bs)) } else y.moved n m bs
theorem kY0 {f:Int->Bool}{k:Nat}{b:Bool}:ed0 f n b k=if k=n then b else f k:=by
 simp only[ed0];by_cases h:k=n
 ·rw[if_pos h,if_pos oM]
 ·rw[if_neg h,if_neg oM]
theorem Live.new (h:Live y own M)(ap:Apart y.taken y.fresh y.dying y.dead)(hn:br0 y.taken y.pages y.hand n):Live (y.new n bs) (own++[n]) M:=by
 have hno:n ∉ own:=fun hm=>by have:=(h.tk n hm).1;rw[hn.2.1] at this;cases this
 have ht:∀ k,y.taken k=true->(y.new n bs).taken k=true:=fun k hk=>by
  show upd y.taken n true k=true;simp only[upd];split
  ·rfl
  ·exact hk
 have hdy:y.dying n=false:=by
  cases e:y.dying n with
  | false=>rfl
  | true=>have:=ap.yt n e;rw[hn.2.1] at this;cases this
 have hde:y.dead n=false:=by
  cases e:y.dead n with
  | false=>rfl
  | true=>have:=ap.et n e;rw[hn.2.1] at this;cases this
 obtain⟨L,h1,h2⟩:=h.dy;refine⟨?_,fun k hk=>?_,fun k hk=>?_,fun k hk hk2=>?_,⟨L,h1,?_⟩,h.de⟩
 ·rw[mg9];exact⟨h.nd,by simp,fun a ha b hb=>by simp at hb;subst hb;rintro rfl;exact hno ha⟩
 ·rcases lb9.1 hk with hk|hk
  ·exact h.lt k hk
  ·simp at hk;subst hk;exact hn.1
 ·rcases lb9.1 hk with hk|hk
  ·exact⟨ht k (h.tk k hk).1,(h.tk k hk).2⟩
  ·simp at hk;subst hk;exact⟨by show upd y.taken k true k=true;simp[upd],hdy,hde⟩
 ·by_cases e:k=n
  ·subst e;simp
  ·have hk2':upd y.taken n true k=true:=hk2;simp only[upd,if_neg e] at hk2';exact (h.all k hk hk2').imp (fun h=>lN9 _ h) id
 ·have e:(own++[n]).filter (fun k:Nat=>!(y.new n bs).fresh k)=own.filter (fun k:Nat=>!y.fresh k):=by
   rw[lP9];have e1:[n].filter (fun k:Nat=>!(y.new n bs).fresh k)=[]:=by
    simp[Cs.new,ed0]
   rw[e1,mF9];refine nk9 fun k hk=>?_
   show (!(ed0 y.fresh n true k))=_;rw[kY0,if_neg (by rintro rfl;exact hno hk)]
  rw[e];exact h2
theorem Live.put (h:Live y own M)(ap:Apart y.taken y.fresh y.dying y.dead)(hn:n ∈ own)(hm:y.fresh n=true/\m=n\/y.fresh n=false/\br0 y.taken y.pages y.hand m):Live (y.put n m bs) (own.map (sw n m)) M:=by
 rcases hm with⟨hf,rfl⟩|⟨hf,ht⟩
 ·rw[Cs.put,if_pos hf];have e:own.map (sw m m)=own:=by
   have:sw m m=id:=by funext k;simp only[sw,id];split <;> omega
   rw[this,List.map_id]
  rw[e];exact⟨h.nd,h.lt,h.tk,h.all,h.dy,h.de⟩
 ·rw[Cs.put,if_neg (by rw[hf];decide)];have hno:m ∉ own:=fun hm=>by have:=(h.tk m hm).1;rw[ht.2.1] at this;cases this
  have hmn:m≠n:=by rintro rfl;exact hno hn
  have hdy:y.dying m=false:=by
   cases e:y.dying m with
   | false=>rfl
   | true=>have:=ap.yt m e;rw[ht.2.1] at this;cases this
  have hde:y.dead m=false:=by
   cases e:y.dead m with
   | false=>rfl
   | true=>have:=ap.et m e;rw[ht.2.1] at this;cases this
  have htk:∀ k,(y.moved n m bs).taken k=if k=m then true else y.taken k:=fun k=>rfl
  have hyk:∀ k:Nat,(y.moved n m bs).dying k=if k=n then true else y.dying k:=fun k=>by
   show ed0 y.dying n true k=_;exact kY0
  have hfk:∀ k:Nat,(y.moved n m bs).fresh k=if k=m then true else y.fresh k:=fun k=>by
   show ed0 y.fresh m true k=_;exact kY0
  have hdk:∀ k:Nat,(y.moved n m bs).dead k=y.dead k:=fun k=>rfl
  obtain⟨L,h1,h2⟩:=h.dy;refine⟨ui0 h.nd (.inr hno),fun k hk=>?_,fun k hk=>?_,fun k hk hk2=>?_,⟨n :: L,fun k hk=>?_,?_⟩,h.de⟩
  ·rcases rY0.1 hk with⟨rfl,_⟩|⟨hk,_⟩
   ·exact ht.1
   ·exact h.lt k hk
  ·rcases rY0.1 hk with⟨rfl,_⟩|⟨hk,hkn⟩
   ·rw[htk,hyk,hdk,if_pos rfl,if_neg hmn];exact⟨rfl,hdy,hde⟩
   ·have hkm:¬ k=m:=fun e=>hno (by rw[<- e];assumption)
    rw[htk,hyk,hdk,if_neg hkn,if_neg hkm];exact h.tk k (by assumption)
  ·rw[hyk,hdk,rY0];by_cases e:k=m
   ·exact .inl (.inl ⟨e,hn⟩)
   ·rw[htk,if_neg e] at hk2;by_cases e2:k=n
    ·rw[if_pos e2];exact .inr (.inl rfl)
    ·rw[if_neg e2];exact (h.all k hk hk2).imp (fun h=>.inr ⟨h,e2⟩) id
  ·rw[hyk] at hk;split at hk
   ·rename_i e;subst e;simp
   ·exact lM9 _ (h1 k hk)
  ·have e:((own.map (sw n m)).filter (fun k:Nat=>!(y.moved n m bs).fresh k)).length+1=(own.filter (fun k:Nat=>!y.fresh k)).length:=by
    rw[List.filter_map,ln9,<- pu0 h.nd hn (fun k=>!y.fresh k) (by simp[hf])];congr 2
    refine nk9 fun k hk=>?_
    show (!(y.moved n m bs).fresh (sw n m k:Nat))=_;rw[hfk];simp only[sw];by_cases e:k=n
    ·subst e;simp
    ·have hkm:k≠m:=(by rintro rfl;exact hno hk);simp[e,hkm]
   simp only[lC];omega
theorem Live.commit (h:Live y own M)(hl:own.length<=M):Live y.commit own M:=by
 obtain⟨L,h1,h2⟩:=h.dy;refine⟨h.nd,h.lt,fun k hk=>?_,fun k hk ht=>?_,⟨[],fun k hk=>(by cases hk),?_⟩,⟨L,h1,oM⟩⟩
 ·obtain⟨a1,a2,a3⟩:=h.tk k hk;refine⟨?_,rfl,a2⟩;show (y.taken k && !y.dead k)=true;rw[a1,a3];rfl
 ·have ht':(y.taken k && !y.dead k)=true:=ht;rw[mp9] at ht';rcases h.all k hk ht'.1 with h|h|h
  ·exact .inl h
  ·exact .inr (.inr h)
  ·rw[h] at ht';cases ht'.2
 ·have e:own.filter (fun k:Nat=>!y.commit.fresh k)=own:=mI9.2 fun k _=>rfl
  rw[e];simpa using hl
theorem uT0 (hm:y.fresh n=true/\m=n\/y.fresh n=false):(y.put n m bs).cont=fE0 y.cont m (some (y.gen,bs)):=by
 rcases hm with⟨hf,rfl⟩|hf
 ·rw[Cs.put,if_pos hf]
 ·rw[Cs.put,if_neg (by rw[hf];decide)];rfl
theorem dJ0 (y:Cs)(n m:Nat)(bs:List Int):Like y (y.put n m bs)/\(y.put n m bs).gen=y.gen/\(y.put n m bs).dead=y.dead:=by
 rw[Cs.put];split
 ·exact⟨⟨rfl,rfl,rfl,rfl,rfl,rfl,rfl⟩,rfl,rfl⟩
 ·exact⟨⟨rfl,rfl,rfl,rfl,rfl,rfl,rfl⟩,rfl,rfl⟩
theorem iT0 (c:Cont)(k:Int)(v:Option (Nat × List Int)):fE0 c k v k=v:=by simp[fE0]
theorem ee0 {c:Cont}{k j:Int}{v:Option (Nat × List Int)}(h:j≠k):fE0 c k v j=c j:=by simp[fE0,h]
variable {B:Blk}{P:aC0}
theorem aw0.apart (h:aw0 w B y P a N):Apart y.taken y.fresh y.dying y.dead:=by
 obtain⟨x,c,hS,rfl,hi⟩:=h.ex;exact hi.apart
def yW0 (B:Blk)(y:Cs)(P:aC0)(a:Bool)(N:Nat)(n:Nat)(bs:List Int)(w:World)(e:Ending)(w':World):Prop:=
 FrB B w w'/\((∃ m,(y.fresh n=true/\m=n\/y.fresh n=false/\br0 y.taken y.pages y.hand m)/\e = .returned (.tuple #[.agg #[.int .i64 m,.int .i64 y.gen],.int .i64 0])/\aw0 w' B (y.put n m bs) P a (N+1)) \/
  (∃ p s,e = .returned (.tuple #[.agg #[.int .i64 p,.int .i64 s],.int .i64 4])/\a=true/\aP0 w' B y P (N+1)))
theorem xO0 {P:aQ0}(h:aw0 w B y P a N)(n:Nat)(st:Int)(hin:Inp w B la ll lc bs)(hby:∀ b ∈ bs,0<=b/\b<256)(hl:ll<=y.room)
  (hp:n<y.pages) (ht:y.taken n=true) (hd:y.dead n=false) (hj:∃ j,j<y.pages/\y.taken j=false) (hN:N+1<=90000) :
  Calls Tryz.prog 26 #[B.ptr,.agg #[.int .i64 n,.int .i64 st],.slice la ll lc] w (yW0 B y P a N n bs w):=by
 cases hf:y.fresh n with
 | true =>
  refine (vo0 h n st hin hby hl hp ht hf hN).mono ?_;rintro e w' ⟨err,rfl,⟨rfl,hS⟩|⟨rfl,ha,hD⟩,F⟩
  ·exact⟨F,.inl ⟨n,.inl ⟨hf,rfl⟩,rfl,by rw[Cs.put,if_pos hf];exact hS⟩⟩
  ·exact⟨F,.inr ⟨_,_,rfl,ha,hD⟩⟩
 | false =>
  obtain⟨j,hj,hfree⟩:=hj;refine (za0 h n st hin hby hl hp ht hf hd hj hfree hN).mono ?_;rintro e w' ⟨m,err,hm,rfl,⟨rfl,hS⟩|⟨rfl,ha,hD⟩,F⟩
  ·exact⟨F,.inl ⟨m,.inr ⟨hf,hm⟩,rfl,by rw[Cs.put,if_neg (by rw[hf];decide)];exact hS⟩⟩
  ·exact⟨F,.inr ⟨0,0,rfl,ha,hD⟩⟩
def Bp0 (B:Blk)(y:Cs)(P:aC0)(a:Bool)(N:Nat)(bs:List Int)(w:World)(e:Ending)(w':World):Prop:=
 FrB B w w'/\((∃ m,br0 y.taken y.pages y.hand m/\e = .returned (.tuple #[.agg #[.int .i64 m,.int .i64 y.gen],.int .i64 0])/\aw0 w' B (y.new m bs) P a (N+1)) \/
  (∃ p s,e = .returned (.tuple #[.agg #[.int .i64 p,.int .i64 s],.int .i64 4])/\a=true/\aP0 w' B y P (N+1)))
theorem AX0 {P:aQ0}(h:aw0 w B y P a N)(hin:Inp w B la ll lc bs)(hby:∀ b ∈ bs,0<=b/\b<256)(hl:ll<=y.room)
  (hj:∃ j,j<y.pages/\y.taken j=false) (hN:N+1<=90000):Calls Tryz.prog 22 #[B.ptr,.slice la ll lc] w (Bp0 B y P a N bs w):=by
 obtain⟨j,hj,hfree⟩:=hj;refine (new_c h hin hby hl hj hfree hN).mono ?_;rintro e w' ⟨m,err,hm,rfl,⟨rfl,hS⟩|⟨rfl,ha,hD⟩,F⟩
 ·exact⟨F,.inl ⟨m,hm,rfl,hS⟩⟩
 ·exact⟨F,.inr ⟨0,0,rfl,ha,hD⟩⟩
def Au0 (B:Blk)(y:Cs)(P:aC0)(a:Bool)(N:Nat)(load:List Int)(w:World)(e:Ending)(w':World):Prop:=
 FrB B w w'/\((∃ la lc,e = .returned (.tuple #[.slice la load.length lc,.int .i64 0])/\ByV w' la load.length lc load/\aw0 w' B y P a (N+1)) \/
  (e = .returned (.tuple #[.slice none 0 0,.int .i64 4])/\a=true/\aP0 w' B y P (N+1)))
theorem zo0 (h:aw0 w B y P a N)(p stamp:Nat){load:List Int}(hc:y.cont p=some (stamp,load))(hN:N+1<=90000) :
  Calls Tryz.prog 24 #[B.ptr,.agg #[.int .i64 p,.int .i64 stamp]] w (Au0 B y P a N load w):=by
 refine (zp0 h p stamp hc hN).mono ?_;rintro e w' ⟨err,⟨rfl,hS⟩|⟨rfl,ha,hD⟩,F,h1,-,h3⟩
 ·obtain⟨la,lc,rfl,hb⟩:=h3 rfl rfl;exact⟨F,.inl ⟨la,lc,rfl,hb,hS⟩⟩
 ·obtain rfl:=h1 dC;exact⟨F,.inr ⟨rfl,ha,hD⟩⟩
end Go.Proofs.YtgdhaaokolfdoaaGreatDoor
namespace Go.Sg
def xG0 (x:Int × Int):List Int:=leB x.1.toNat 4++leB x.2.toNat 8
def ae0 (l:List (Int × Int)):List Int:=l.flatMap xG0
theorem uN0 (x:Int × Int):(xG0 x).length=12:=by simp[xG0,ap0]
theorem cM0 (l:List (Int × Int)):(ae0 l).length=12*l.length:=by
 induction l with
 | nil=>rfl
 | cons x l ih=>simp only[ae0,lj9,lA,lC] at ih ⊢;rw[uN0,ih];omega
def aF0 (x:Int × Int):Prop:=0<=x.1/\x.1<=2147483647/\0<=x.2/\x.2<9223372036854775808
structure tt0 (w:World)(a:Option Addr)(l:List (Int × Int)):Prop where
 at_:∀ (i:Nat) (x:Int × Int),l[i]?=some x->∃ b off,a=some ⟨b,off,none⟩/\b<w.heap.size/\w.cell? ⟨b,off+i*2,none⟩=some (.int .i64 x.1)/\w.cell? ⟨b,off+i*2+1,none⟩=some (.int .i64 x.2)
variable {w w':World}{a:Option Addr}{l:List (Int × Int)}
theorem tt0.fr {S:Nat->Prop}(h:tt0 w a l)(F:Fr S w w')(hS:∀ b off,a=some ⟨b,off,none⟩->b<w.heap.size->l≠[]->¬ S b):tt0 w' a l:=
 ⟨fun i x hx=>by
  obtain⟨b,off,e,hb,h1,h2⟩:=h.at_ i x hx;have hn:l≠[]:=by rintro rfl;simp at hx
  exact⟨b,off,e,nLL hb F.size,(F.cell (p:=⟨b,off+i*2,none⟩) hb (hS b off e hb hn)).trans h1,(F.cell (p:=⟨b,off+i*2+1,none⟩) hb (hS b off e hb hn)).trans h2⟩⟩
theorem tt0.fr0 (h:tt0 w a l)(F:Fq w w'):tt0 w' a l:=h.fr F (fun _ _ _ _ _ h=>h)
end Go.Sg
namespace Go.Proofs.YtgdhaaokolfdoaaGreatDoor
section
open Go.RowKit Go.Sg CP SF
def yn0 (l:List (Int × Int))(w:World)(e:Ending)(w':World):Prop:=∃ a c,e = .returned (.slice a (12*l.length) c)/\ByV w' a (12*l.length) c (ae0 l)/\Fq w w'
def Ai0 (base r limit:Nat)(bs:List Int)(n k:Nat)(w:World)(e:Ending)(w':World):Prop:=e = .returned (.tuple #[])/\eZ0 w' base r (bs++Sg.leB n k) limit/\Fr (WtS w base r) w w'
def ym0 (limit:Nat)(w:World)(e:Ending)(w':World):Prop:=e = .returned (.pointer (some ⟨w.heap.size,0,none⟩))/\eZ0 w' w.heap.size w.heap.size [] limit/\Fq w w'
def Ak0 (bs:List Int)(w:World)(e:Ending)(w':World):Prop:=∃ a c,e = .returned (.slice a bs.length c)/\(ByV w' a bs.length c bs/\bs.length<=c)/\Fq w w'
variable {w:World}{base limit r:Nat}{bs:List Int}
theorem vC0 (h:eZ0 w base r bs limit)(hbase:base<=w.heap.size)(n k:Nat)(kz:Int)(hkz:kz=k)(hk:k=1\/k=2\/k=4\/k=8)(hn:n<18446744073709551616)(hroom:bs.length+k<=limit) :
  Calls Tryz.prog 179 #[.pointer (some ⟨r,0,none⟩),.int .u64 n,.int .i64 kz] w (Ai0 base r limit bs n k w):=by
 subst hkz;exact dp0 h hbase n k hk hn hroom
theorem xw0 (limit:Nat)(z:Int)(hz:z=limit)(hl:limit<=65536)(w:World):Calls Tryz.prog 178 #[.int .i64 z] w (ym0 limit w):=by
 subst hz;exact dX0 limit hl w
theorem vp0 (h:eZ0 w base r bs limit):Calls Tryz.prog 180 #[.pointer (some ⟨r,0,none⟩)] w (Ak0 bs w):=ft0 h
theorem iy0 {a:Option Addr}{c n:Nat}{l:List (Int × Int)}(h:tt0 w a l)(hr:∀ x ∈ l,aF0 x)(hn:l.length=n)(hn1:n<=64) :
  Calls Tryz.prog 119 #[.slice a n c] w (yn0 l w):=by
 have H:=hid h;have HR:=hi2 hr hn;have HNW:=hid (xw0 (12*n) (12*(n:Int)) sP oM w);clear h hr hn;go_enter Tryz.func119,Tryz.ntmps119;go_wp2_with (go_at_call 178;refine HNW.out.mono ?_)
 rintro e w1 ⟨rfl,hW,F1⟩;have HW1:=hi2 hW F1;clear hW F1;go_wp2_with fail
 go_loopw [12] (fun i wr=>∃ k:Nat,k<=n/\i = .int .i64 k/\eZ0 wr w.heap.size w.heap.size (ae0 (l.take k)) (12*n)/\Fq w wr) (fun i _=>n-(intOf i).toNat)
 case atStart=>exact⟨0,la9 _,rfl,HW1.out.1,HW1.out.2⟩
 case round =>
  obtain⟨k,hk,rfl,hW,F⟩:=hrel;have HW:=hi2 hW F;by_cases hlt:k<n
  ·have hx:l[k]?=some (l[k]'(by rw[HR.out.2];exact hlt)):=gE _;generalize l[k]'(by rw[HR.out.2];exact hlt)=x at hx;have hrx:=HR.out.1 x (gM hx);obtain⟨z1,z2⟩:=x;obtain⟨p,rfl⟩:=iZ hrx.1;obtain⟨q,rfl⟩:=iZ hrx.2.2.1;have hp1:p<=2147483647:=by have:=hrx.2.1;simp only at this;omega
   have hq1:q<9223372036854775808:=by have:=hrx.2.2.2;simp only at this;omega
   obtain⟨b,off,rfl,hb,h0,h1⟩:=(H.out.fr0 F).at_ k _ hx;simp only at h0 h1;have hd:decide ((k:Int)<(n:Int))=true:=by simp;omega
   have hu1:IntKind.u64.wrap (p:Int)=(p:Int):=by simp[IntKind.wrap,IntKind.signed,IntKind.bits];omega
   have hu2:IntKind.u64.wrap (q:Int)=(q:Int):=by simp[IntKind.wrap,IntKind.signed,IntKind.bits];omega
   have hll:(ae0 (l.take k)).length=12*k:=by rw[cM0,lT,HR.out.2];omega
   have HN1:=hid (fun W (F:Fq wr W)=>vC0 (hW.fr F (fun _ _ _ h=>h)) (nT HW.out.2.size F.size) p 4 4 sP oM oM (by rw[hll];omega));have HX:=hi2 hx hll;have hsz:w.heap.size<wr.heap.size:=by obtain⟨⟨v,hr,_⟩,_⟩:=HW.out.1;exact loh hr
   clear hx hrx hll hW F;go_upto_region 5 with fail
   obtain⟨W2,hW2⟩:=eX (wr.alloc (.cells #[.int .i64 p,.int .i64 q] 35))
   rw[hW2];have F2:Fq wr W2:=by rw[<- hW2];exact (Fr.refl _ _).alloc _
   have j9:W2.heap[wr.heap.size]?=some (.cells #[.int .i64 p,.int .i64 q] 35):=by rw[<- hW2];exact han _ _
   have H2:=hi2 F2 j9;obtain⟨e0,e1,ez,el⟩:=cells2 j9;have HC:=hid (HN1.out W2 F2);clear h0 h1 F2 j9 hW2 HN1;go_wp2_with (go_at_call 179;refine HC.out.mono ?_)
   rintro e W3 ⟨rfl,hW3,F3⟩;have j9:=F3.heap H2.out.2 (fun h=>by
    rcases h.2 with h|⟨c,h⟩
    ·omega
    ·rw[H2.out.2] at h;cases h)
   obtain⟨e0,e1,ez,el⟩:=cells2 j9;have F03:Fq w W3:=((HW.out.2.trans H2.out.1 nI)).trans F3 (fun b hb h=>by have:=h.1;omega);have HC2:=hid (vC0 hW3 F03.size q 8 8 sP oM oM (by rw[lA,HX.out.2,ap0];omega));have H3:=hid F03;clear F3 hW3 F03 j9 HC;go_wp2_with (go_at_call 179;refine HC2.out.mono ?_)
   rintro e W4 ⟨rfl,hW4,F4⟩;have H4:=hi2 hW4 (H3.out.trans F4 (fun b hb h=>by have:=h.1;omega));clear F4 hW4;go_wp2_with fail
   go_roundw;case rel =>
    refine⟨k+1,hlt,by go_num,?_,H4.out.2⟩;have e1:ae0 (l.take (k+1))=ae0 (l.take k)++Sg.leB p 4++Sg.leB q 8:=by
     rw[lw9,HX.out.1];simp[ae0,xG0]
    rw[e1];exact H4.out.1
   case measure=>simp[intOf];omega
  ·obtain rfl:k=n:=by omega
   have hd:decide ((k:Int)<(k:Int))=false:=by simp
   have HB:=hid (vp0 hW);clear hW F;go_wp2_with (go_at_call 180;refine HB.out.mono ?_)
   rintro e W2 ⟨a2,c2,rfl,⟨hb2,-⟩,F2⟩;have H2:=hi2 hb2 F2;clear hb2 F2;go_wp2_with fail
   refine bodyPost_ret (v:=.slice a2 (ae0 (l.take k)).length c2) (by simp[results,go_sem]) rfl ?_;have e1:l.take k=l:=tL (by rw[HR.out.2];exact nR _);have hb:=H2.out.1;rw[e1,cM0] at hb;rw[e1,cM0];exact⟨a2,c2,rfl,hb,HW.out.2.trans H2.out.2 nI⟩
end
section
open Go.RowKit Go.Sg Go.Sg.Bits Go.Sg.Clk CP SF
abbrev noP:aQ0:=fun _=>none
structure Bx0 (y:Cs)(k:Nat)(bs:List Int):Prop where
 pages:y.pages=48
 room:y.room=77
 gen:y.gen=1
 places:y.places=8
 hand:y.hand=k % 48
 taken:∀ j,j<48->y.taken j=decide (j<k)
 cont:∀ j:Nat,j<k->y.cont j=some (1,bs++[(j:Int)])
theorem Tryz.js0:(Tryz.prog.info? 35).map (fun i=>(i.zero,i.size,i.bytes))=some (some (.agg #[.int .i64 0,.int .i64 0]),2,16):=by kernel_rfl
end
end Go.Proofs.YtgdhaaokolfdoaaGreatDoor
namespace Go.Sg
def dB0 (x:Int × Int):List Value:=[.int .i64 x.1,.int .i64 x.2]
theorem oBT {w:World}{base n size e:Nat}{v:Value}{xs:List Value}(h:w.ownsRow base e size v n xs){g:Nat}(hg:some g=v.ownBlock):base<=g/\∃ c,w.heap[g]?=some (.cells c e):=by
 obtain⟨_,⟨rfl,_⟩|⟨g',cap,cur,rfl,hb,hgc,_⟩⟩:=h
 ·simp[Value.ownBlock] at hg
 ·have:g=g':=by simpa[Value.ownBlock] using hg
  subst this;exact⟨hb,_,hgc⟩
theorem ie0 (l:List (Int × Int)):(l.flatMap dB0).length=l.length*2:=by
 induction l with
 | nil=>rfl
 | cons x l ih=>simp only[lj9,lA,lC,ih,dB0];simp;omega
end Go.Sg
namespace Go.Proofs.YtgdhaaokolfdoaaGreatDoor
open Go.RowKit Go.Sg CP SF
abbrev dC0 (w:World)(base:Nat)(v:Value)(l:List (Int × Int)):Prop:=w.ownsRow base 35 2 v l.length (l.flatMap dB0)
def yk0 (l:List (Int × Int))(w:World)(e:Ending)(w':World):Prop:=∃ v,e = .returned (.tuple #[v,.int .i64 0])/\dC0 w' w.heap.size v l/\Fq w w'
def Bn0 (r:Nat)(bs:List Int)(k:Nat)(w:World)(e:Ending)(w':World):Prop:=e = .returned (.int .u64 (leV (bs.take k)))/\fj0 w' r (bs.drop k) false/\Fr (fun b=>b=r) w w'
variable {w:World}{l:List (Int × Int)}
theorem xv0 {r:Nat}{bs:List Int}(h:fj0 w r bs false)(hby:∀ x ∈ bs,0<=x/\x<256)(k:Nat)(kz:Int)(hkz:kz=k)(hk:k=1\/k=2\/k=4\/k=8)(hm:k<=bs.length) :
  Calls Tryz.prog 216 #[.pointer (some ⟨r,0,none⟩),.int .i64 kz] w (Bn0 r bs k w):=by
 subst hkz;exact vK0 h hby k hk hm
theorem so0 (x:Int × Int):∀ z ∈ xG0 x,0<=z/\z<256:=fun z hz=>by
 rcases lb9.1 hz with h|h <;> exact Sg.bw0 _ _ z h
theorem bh0 (l:List (Int × Int)):∀ z ∈ ae0 l,0<=z/\z<256:=fun z hz=>by
 obtain⟨x,_,h⟩:=mf9.1 hz;exact so0 x z h
theorem fY0 {k p q:Nat}(h:l[k]?=some ((p:Int),(q:Int))):ae0 (l.drop k)=Sg.leB p 4++(Sg.leB q 8++ae0 (l.drop (k+1))):=by
 have hk:=(gI.1 h).1;have e:l[k]=((p:Int),(q:Int)):=(gI.1 h).2;rw[mc9 hk,e];simp[ae0,xG0]
theorem ka0 (n k:Nat)(t:List Int):(Sg.leB n k++t).take k=Sg.leB n k:=by
 rw[me9 (by rw[ap0];exact nR _),tL (by rw[ap0];exact nR _)]
theorem jN0 (n k:Nat)(t:List Int):(Sg.leB n k++t).drop k=t:=by
 rw[mL9 (by rw[ap0];exact nR _),ng9 (by rw[ap0];exact nR _)];rfl
def vf0 (bs:List Int)(w:World)(e:Ending)(w':World):Prop:=∃ r,e = .returned (.pointer (some ⟨r,0,none⟩))/\fj0 w' r bs false/\w.heap.size<=r/\Fq w w'
theorem ko0 {a:Option Addr}{c n:Nat}(h:SlB w a (12*n) c (ae0 l))(hr:∀ x ∈ l,aF0 x)(hn:l.length=n)(hn1:n<=64) :
  Calls Tryz.prog 181 #[.slice a (12*n) c,.int .i64 n] w (yk0 l w):=by
 obtain⟨i0,hi0,hz0,hz1,hz2⟩:=info_parts Tryz.js0;have HR:=hi2 hr hn;have HNW:=hid (show Calls Tryz.prog 215 #[.slice a (12*n) c] w (vf0 (ae0 l) w) from dY0 h oM);clear h hr hn;go_enter Tryz.func181,Tryz.ntmps181;go_wp2_with (go_at_call 215;refine HNW.out.mono ?_)
 rintro e w1 ⟨r,rfl,hW,hrb,F1⟩;have HW1:=hi2 hW F1;clear hW F1;go_wp2_with fail
 go_loopw [7,17] (fun v i wr=>∃ k:Nat,k<=n/\i = .int .i64 k/\fj0 wr r (ae0 (l.drop k)) false/\dC0 wr w.heap.size v (l.take k)/\Fq w wr) (fun _ i _=>n-(intOf i).toNat)
 case atStart=>exact⟨0,la9 _,rfl,HW1.out.1,World.ownsRow_nil _ _ _ _,HW1.out.2⟩
 case round =>
  obtain⟨k,hk,rfl,hW,hown,F⟩:=hrel;have HW:=hi2 hW (aI hown F);by_cases hlt:k<n
  ·have hx:l[k]?=some (l[k]'(by rw[HR.out.2];exact hlt)):=gE _;generalize l[k]'(by rw[HR.out.2];exact hlt)=x at hx;have hrx:=HR.out.1 x (gM hx);obtain⟨z1,z2⟩:=x;obtain⟨p,rfl⟩:=iZ hrx.1;obtain⟨q,rfl⟩:=iZ hrx.2.2.1;have hp1:p<=2147483647:=by have:=hrx.2.1;simp only at this;omega
   have hq1:q<9223372036854775808:=by have:=hrx.2.2.2;simp only at this;omega
   have hd:decide ((k:Int)<(n:Int))=true:=by simp;omega
   have hW':=hW;rw[fY0 hx] at hW';have HN1:=hid (xv0 hW' (by rw[<- fY0 hx];exact bh0 _) 4 4 sP oM (by rw[lA,ap0];omega));have HX:=hid hx;have HRX:=hid hrx;clear hx hW hW' hown F hrx;go_wp2_with (go_at_call 216;refine HN1.out.mono ?_)
   rintro e W2 ⟨rfl,hR2,F2⟩;rw[ka0,kz0 4 p oM];rw[jN0] at hR2;have hwl:=loh (show wr.heap[r]?=some _ from HW.out.1.ex.choose_spec.choose_spec.1);have HN2:=hid (xv0 hR2 (fun z hz=>bh0 l z (by
    have:z ∈ ae0 (l.drop k):=(by rw[fY0 HX.out];exact lu9 _ hz);obtain⟨y,hy,hz'⟩:=mf9.1 this;exact mf9.2 ⟨y,ml9 hy,hz'⟩)) 8 8 sP oM (by rw[lA,ap0];omega))
   have H2:=hid F2;have hcp:IntKind.i64.wrap (p:Int)=(p:Int):=by rw[IntKind.wrap_i64];omega
   have hcq:IntKind.i64.wrap (q:Int)=(q:Int):=by rw[IntKind.wrap_i64];omega
   clear hR2 F2 HN1;go_wp2_with (go_at_call 216;refine HN2.out.mono ?_)
   rintro e W3 ⟨rfl,hR3,F3⟩;rw[ka0,kz0 8 q oM];rw[jN0] at hR3;have F13:Fr (fun b=>b=r) wr W3:=H2.out.trans F3 nI;have hown3:dC0 W3 w.heap.size u7 (l.take k):=oRf HW.out.2.1 F13 (fun g cs hg e=>by rw[e,HW.out.1.ex.choose_spec.choose_spec.1] at hg;cases hg);have H3:=hi2 hR3 (aI F13 hown3);clear hR3 F3 F13 hown3;go_upto_region 8 with fail
   obtain⟨W4,hW4⟩:=eX (W3.alloc (.cells #[.int .i64 p,.int .i64 q] 35))
   rw[hW4];have F4:Fq W3 W4:=by rw[<- hW4];exact (Fr.refl _ _).alloc _
   have j9:W4.heap[W3.heap.size]?=some (.cells #[.int .i64 p,.int .i64 q] 35):=by rw[<- hW4];exact han _ _
   have H4:=hi2 F4 j9;obtain⟨e0,e1,ez,el⟩:=cells2 j9;clear F4 j9 hW4;have hrt:=dQ0 (p:Int) (q:Int) W4;unfold ni0 at hrt;rw[show dR0 (p:Int) (q:Int)=true by simp[dR0];omega] at hrt;have HRT:=hid hrt;clear hrt;go_wp2_with (go_at_call 117;refine HRT.out.mono ?_)
   rintro e W5 ⟨rfl,F5⟩;have j9:=F5.heap H4.out.2 id;have H5:=hi2 (H4.out.1.trans F5 nI) j9;clear e0 e1 ez el;obtain⟨e0,e1,ez,el⟩:=cells2 j9;clear F5 j9;have hown5:dC0 W5 w.heap.size u7 (l.take k):=oRf H3.out.2.2 H5.out.1 (fun _ _ _ h=>h);have hR5:fj0 W5 r (ae0 (l.drop (k+1))) false:=H3.out.1.fr H5.out.1 id (fun _ _ _ h=>h);have hlen:(l.take k).length=k:=by rw[lT,HR.out.2];omega
   have F15:Fq w W5:=(HW.out.2.2.trans H3.out.2.1 (fun b hb e=>by subst e;omega)).trans H5.out.1 nI;have H6:=hi2 hown5 (aI hR5 F15);have HLN:=hid hlen;have hsz:w.heap.size<=W5.heap.size:=F15.size;clear hown5 hR5 F15 hlen HRT;go_wp2_with (at_builtin;refine wpList_append_own_at _ rfl (.tmp 29) (.tmp 31) 33 rfl w.heap.size 35 i0 _ 2 16 Tryz.underlying33 hi0 hz0 hz1 hz2 rfl dC _ _ _ rfl (H6.out.1.alloc _) ⟨W5.heap.size,0,none⟩ 1 1 [.int .i64 p,.int .i64 q] rfl rfl (World.news_of_block (cs:=#[.int .i64 p,.int .i64 q]) (t:=35) (fr:=(0,0)) (han _ _)) (by simp[Value.oneCell']) (by rw[HLN.out];simp[maxLen];omega) (by have:=HLN.out;omega) sO ?_)
   intro v2 W2 hown2 hgrow2 hnil2 hat2;have hF2:Fr (fun b=>some b=u7.ownBlock) W5 W2:=((Fr.refl _ _).alloc _).trans (S':=fun b=>some b=u7.ownBlock) ⟨hgrow2.os,hgrow2.tape,hgrow2.output,hgrow2.size,fun b hb hn=>hgrow2.block b hb hn⟩ (fun b hb h=>h);have hR7:fj0 W2 r (ae0 (l.drop (k+1))) false:=H6.out.2.1.fr hF2 (fun e=>by
    obtain⟨_,c,hc⟩:=oBT H6.out.1 e;obtain⟨a,c',h1,_⟩:=H6.out.2.1.ex;rw[hc] at h1;cases h1) (fun b c hb e=>by
    obtain⟨_,c',hc⟩:=oBT H6.out.1 e;rw[hc] at hb;cases hb)
   have hF7:Fq w W2:=H6.out.2.2.trans hF2 (fun b hb e=>by have:=(oBT H6.out.1 e).1;omega);have H7:=hi2 hown2 (aI hR7 hF7);clear hown2 hgrow2 hnil2 hat2 hF2 hR7 hF7;go_wp2_with fail
   go_roundw;case rel =>
    refine⟨k+1,hlt,by go_num,H7.out.2.1,?_,H7.out.2.2⟩;have e1:l.take (k+1)=l.take k++[((p:Int),(q:Int))]:=(by rw[lw9,HX.out];rfl);have e2:(l.take (k+1)).flatMap dB0=(l.take k).flatMap dB0++[.int .i64 p,.int .i64 q]:=(by rw[e1,li9];rfl);have e3:(l.take (k+1)).length=(l.take k).length+1:=(by rw[e1,lA];rfl);show W2.ownsRow _ 35 2 _ (l.take (k+1)).length ((l.take (k+1)).flatMap dB0);rw[e2,e3,lT];exact H7.out.1
   case measure=>simp[intOf];omega
  ·obtain rfl:k=n:=by omega
   have hd:decide ((k:Int)<(k:Int))=false:=by simp
   clear hW hown F;go_wp2_with fail
   go_ret2;have e1:l.take k=l:=tL (by rw[HR.out.2];exact nR _);have:=HW.out.2.1;rw[e1] at this;exact⟨_,rfl,this,HW.out.2.2⟩
end Go.Proofs.YtgdhaaokolfdoaaGreatDoor
namespace Go.Sg
abbrev Rf:=Int × Int
def chunk (l:List Rf)(per i:Nat):List Rf:=(l.drop (i*per)).take per
variable {l:List Rf}{i k per:Nat}{L:List Nat}
theorem cP0 (hk:k<per):(chunk l per i)[k]?=l[i*per+k]?:=by
 rw[chunk,gT,if_pos hk,lB9]
theorem bk0 (l:List Rf)(per i:Nat):(chunk l per i).length=min per (l.length-i*per):=by
 rw[chunk,lT,lv9]
def bQ0 (l:List Rf)(L:List Nat)(r:Rf):List Rf:=L.foldl (fun l n=>l.set n r) l
theorem gc0 (L:List Nat)(r:Rf):∀ l:List Rf,(bQ0 l L r).length=l.length:=by
 induction L with
 | nil=>intro l;rfl
 | cons n L ih=>intro l;rw[bQ0,List.foldl_cons];exact (ih _).trans sP
theorem bf0 (L:List Nat)(r:Rf):∀ (l:List Rf) (i:Nat),(bQ0 l L r)[i]?=if i ∈ L then (l[i]?).map (fun _=>r) else l[i]?:=by
 induction L with
 | nil=>intro l i;simp[bQ0]
 | cons n L ih =>
  intro l i;have h1:(bQ0 l (n :: L) r)=bQ0 (l.set n r) L r:=rfl;have h2:(l.set n r)[i]?=if i=n then (l[i]?).map (fun _=>r) else l[i]?:=by
   rw[lU9];by_cases e:n=i
   ·subst e;rw[if_pos rfl,if_pos rfl];by_cases hl:n<l.length
    ·rw[if_pos hl,gE hl];rfl
    ·rw[if_neg hl,mi9 oM];rfl
   ·rw[if_neg e,if_neg (fun h=>e h.symm)]
  rw[h1,ih,h2];by_cases hi:i ∈ L
  ·rw[if_pos hi,if_pos (lM9 _ hi)];split
   ·cases l[i]? <;> rfl
   ·rfl
  ·rw[if_neg hi];by_cases e:i=n
   ·rw[if_pos e,if_pos (by simp[e])]
   ·rw[if_neg e,if_neg (by simp[e,hi])]
theorem dI0 {l':List Rf}(h:∀ i:Nat,l[i]?=l'[i]?):l=l':=ms9 h
variable {r:Rf}
theorem sW0 {L':List Nat}(h:∀ n,n ∈ L↔n ∈ L'):bQ0 l L r=bQ0 l L' r:=
 dI0 fun i=>by rw[bf0,bf0];simp only[h]
theorem iZ0 (l:List Rf)(L L':List Nat)(r:Rf):bQ0 l (L++L') r=bQ0 (bQ0 l L r) L' r:=by simp[bQ0]
theorem fR0 (h:∀ x ∈ l,aF0 x)(hr:aF0 r):∀ x ∈ bQ0 l L r,aF0 x:=by
 intro x hx;obtain⟨i,hi,rfl⟩:=List.mem_iff_getElem.1 hx;have h1:=bf0 L r l i;rw[gE hi] at h1;split at h1
 ·cases hl:l[i]? with
  | none=>rw[hl] at h1;cases h1
  | some v=>rw[hl] at h1;rw[show (bQ0 l L r)[i]=r from Option.some.inj h1];exact hr
 ·exact h _ (gM h1.symm)
theorem qU0 (h:∀ n ∈ L,n/per=i)(hp:0<per):chunk (bQ0 l L r) per i=bQ0 (chunk l per i) (L.map (· % per)) r:=by
 refine dI0 fun k=>?_
 rw[bf0];by_cases hk:k<per
 ·rw[cP0 hk,bf0,cP0 hk];have e:i*per+k ∈ L↔k ∈ L.map (· % per):=by
   rw[ld9];constructor
   ·intro h1;exact⟨_,h1,by rw[lJ9,Nat.mul_add_mod];exact Nat.mod_eq_of_lt hk⟩
   ·rintro⟨n,hn,rfl⟩;have h1:=h n hn;have h2:=Nat.div_add_mod n per;rw[h1,lJ9] at h2;rw[h2];exact hn
  simp only[e]
 ·rw[chunk,gT,if_neg hk,chunk,gT,if_neg hk];simp
theorem mo0 {j:Nat}(h:∀ n ∈ L,n/per=i)(hij:j≠i):chunk (bQ0 l L r) per j=chunk l per j:=by
 refine dI0 fun k=>?_
 by_cases hk:k<per
 ·rw[cP0 hk,cP0 hk,bf0,if_neg];intro hm;have h1:=h _ hm;rw[lJ9,Nat.mul_add_div oM,mu9 hk] at h1;omega
 ·rw[chunk,gT,if_neg hk,chunk,gT,if_neg hk]
theorem dK0 {l:List Nat}(h:l.Nodup){n m:Nat}(hk:l[k]?=some n):l.map (sw n m)=l.set k m:=by
 refine ms9 fun j=>?_
 rw[gP,lU9];by_cases e:k=j
 ·subst e;rw[hk,if_pos rfl,if_pos (gI.1 hk).1];simp[sw]
 ·rw[if_neg e];cases hj:l[j]? with
  | none=>rfl
  | some v =>
   have:v≠n:=by
    rintro rfl;exact e ((mG9 (gI.1 hk).1 h).1 (hk.trans hj.symm))
   simp[sw,this]
end Go.Sg
namespace Go.Proofs.YtgdhaaokolfdoaaGreatDoor
open Go.RowKit Go.Sg Go.Sg.Bits Go.Sg.Clk CP SF
def pgs (rp:Int)(au0:List Rf):List Nat:=rp.toNat :: au0.map (fun r=>r.1.toNat)
structure kU0 (y:Cs)(x:aL0):Prop where
 most:x.depth<=x.most/\x.most<=20
 per:0<x.per/\12*x.per<=y.room
 fits:∀ d,d<=x.most->12*((2^d+x.per-1)/x.per)<=y.room
 room:y.room<=493
structure wu0 (c:Cont)(per:Nat)(au0 slots:List Rf):Prop where
 sr:∀ r ∈ slots,aF0 r
 tr:∀ r ∈ au0,aF0 r
 at_:∀ (i:Nat) r,au0[i]?=some r->c r.1=some (r.2.toNat,ae0 (chunk slots per i))
structure fC0 (y:Cs)(x:aL0)(au0 slots:List Rf):Prop where
 z:kU0 y x
 slen:slots.length=x.slots
 tlen:au0.length=x.leaves
 leaf:wu0 y.cont x.per au0 slots
 rr:0<=x.rp/\0<=x.rs
 root:y.cont x.rp=some (x.rs.toNat,ae0 au0)
variable {y:Cs}{x:aL0}{N base bd i lc ll n:Nat}{w w':World}{a:Bool}{v:Value}{la:Option Addr}{bs:List Int}
theorem kU0.leaves (h:kU0 y x):12*x.leaves<=y.room:=h.fits x.depth h.most.1
theorem kU0.qu0 (h:kU0 y x):x.leaves<=41/\x.per<=41:=by
 have h1:=h.leaves;have h2:=h.per.2;have h3:=h.room;omega
theorem kU0.fx0 (h:kU0 y x):x.slots<=x.leaves*x.per:=by
 unfold aL0.leaves;have h1:=h.per.1;have h2:=Nat.div_add_mod (x.slots+x.per-1) x.per;have h3:=mD9 (x.slots+x.per-1) h1;rw[lJ9] at h2;omega
theorem kU0.ul0 (h:kU0 y x)(hi:i<x.leaves):i*x.per<x.slots:=by
 unfold aL0.leaves at hi;have h1:=h.per.1;have h2:(i+1)*x.per<=x.slots+x.per-1:=(mQ9 h1).1 hi;rw[lZ9] at h2;omega
variable {l slots au0:List Rf}
theorem ew0 (h:∀ r ∈ l,aF0 r)(per i:Nat):∀ r ∈ chunk l per i,aF0 r:=fun r hr=>h r (ml9 (lR9 hr))
def Aw0 (p:bp0)(w:World)(e:Ending)(w':World):Prop:=e = .returned p.val/\Fq w w'
variable {B:Blk}{P:aC0}
theorem rD0 (h:aw0 w B y P a N):Calls Tryz.prog 33 #[B.ptr] w (Aw0 y.plan w):=by
 obtain⟨⟨x,c,hS,rfl,hi⟩,hT,hb⟩:=h;have hs:=hS.s;clear hS hi hT hb;obtain⟨⟨a,b,c,d,f,dp,hh,s⟩,x1,x2,x3,x4,x5,x6,x7,x8,x9,x10,x11,x12⟩:=x;have c1:=coh hs 1;have c2:=coh hs 2;have c3:=coh hs 3;have c4:=coh hs 4;have c5:=coh hs 5;have c6:=coh hs 6;have c7:=coh hs 7;have c8:=coh hs 8;simp at c1 c2 c3 c4 c5 c6 c7 c8;have l:=loh hs;have n:¬ w.heap.size=B.s:=oM
 clear hs;go_enter Tryz.func33,Tryz.ntmps33;go_wp2
 refine bodyPost_ret (v:=.agg #[.int .i64 a,.int .i64 b,.int .i64 c,.int .i64 d,.int .i64 f,.int .i64 dp,.int .i64 hh,.int .u64 s]) sR rfl ⟨rfl,?_⟩;repeat (with_reducible refine Fr.an0 ?_ oM _)
 exact (Fr.refl _ _).alloc _
def atZ (p:bp0):aL0:=⟨(cd0 p).per.toNat,p.depth.toNat,0,0,0⟩
def AtP (s:Nat)(p:bp0)(w:World)(e:Ending)(w':World):Prop:=∃ bd,e = .returned (cR0 bd)/\aj0 w' bd s (atZ p)/\w.heap.size<=bd/\Fq w w'
theorem jI0 {p:bp0}(h:cj0 p=true):(6<=(cd0 p).per/\(cd0 p).per=(p.size-19)/12/\(cd0 p).per<=41)/\(0<=p.depth/\p.depth<=8)/\(2:Int)^p.depth.toNat<=(cd0 p).per*(cd0 p).per:=by
 rw[cj0,mp9] at h;obtain⟨h1,h2⟩:=h;obtain⟨a1,a2,a3,a4,a5,a6,a7⟩:=of_decide_eq_true h1;obtain⟨b1,b2⟩:=of_decide_eq_true h2;refine⟨?_,a6,b1⟩;have e:(cd0 p).per=(p.size-19)/12:=rfl;rw[e];omega
theorem wb0 (hf:cj0 y.plan=true)(hp:(x.per:Int)=(cd0 y.plan).per)(hm:(x.most:Int)=y.plan.depth)(hr:(y.room:Int)+19=y.plan.size)(hd:x.depth<=x.most)(h493:y.room<=493):kU0 y x:=by
 obtain⟨⟨h1,h2,h3⟩,h4,h5⟩:=jI0 hf;have e5:2^x.most<=x.per*x.per:=by
  have:y.plan.depth.toNat=x.most:=oM
  rw[this,<- hp] at h5;exact_mod_cast h5
 refine⟨⟨hd,oM⟩,⟨oM,oM⟩,fun d hdm=>?_,h493⟩;have e1:2^d<=x.per*x.per:=nT (lc9 dC hdm) e5;have e2:(2^d+x.per-1)/x.per<=x.per:=by
  have h0:0<x.per:=oM
  refine Nat.le_of_lt_succ ((Nat.div_lt_iff_lt_mul h0).2 ?_);rw[lZ9];omega
 have:12*x.per<=y.room:=oM
 omega
theorem nR0 (h:aw0 w B y P a N)(hfit:cj0 y.plan=true):Calls Tryz.prog 118 #[B.ptr] w (AtP B.s y.plan w):=by
 obtain⟨⟨h6,-,h41⟩,h8,-⟩:=jI0 hfit;have HPl:=hid (fun W (F:Fq w W)=>rD0 (h.fr0 F));generalize y.plan=p at *
 have HFit:=hid (fun W=>qC0 p W);rw[hfit] at HFit;have hz:atZ p=⟨(cd0 p).per.toNat,p.depth.toNat,0,0,0⟩:=rfl;obtain⟨pa,pb,pc,pd,pf,dp,ph,ps⟩:=p;have HL:=hid (show (cd0 ⟨pa,pb,pc,pd,pf,dp,ph,ps⟩).per.toNat=(cd0 ⟨pa,pb,pc,pd,pf,dp,ph,ps⟩).per by omega);generalize cd0 ⟨pa,pb,pc,pd,pf,dp,ph,ps⟩=L at *
 obtain⟨l1,l2,l3,per,l5,l6,l7⟩:=L;have HZ:=hid hz;simp only at h6 h41 h8;clear h hfit hz;go_enter Tryz.func118,Tryz.ntmps118;go_wp2_with (go_at_call 33;refine (HPl.out _ (Fr.refl _ _)).mono ?_)
 rintro e w1 ⟨rfl,F1⟩;have HF1:=hid F1;clear F1;go_wp2_with (go_at_call 91;refine (HFit.out _).mono ?_)
 rintro e w2 ⟨rfl,F2⟩;have HF2:=hid (HF1.out.trans F2 nI);clear F2;simp only[if_true];go_upto_region 2 with fail
 obtain⟨W3,hW3⟩:=eX (w2.alloc (.cells #[.int .i64 2,.int .i64 l1,.int .i64 l2,.int .i64 l3,.int .i64 per,.int .i64 l5,.int .i64 l6,.int .i64 l7] 169))
 rw[hW3];have F3:Fq w2 W3:=by rw[<- hW3];exact (Fr.refl _ _).alloc _
 have b3:W3.heap[w2.heap.size]?=some (.cells #[.int .i64 2,.int .i64 l1,.int .i64 l2,.int .i64 l3,.int .i64 per,.int .i64 l5,.int .i64 l6,.int .i64 l7] 169):=by rw[<- hW3];exact han _ _
 have HF3:=hid (HF2.out.trans F3 nI);have c4:=coh b3 4;simp at c4;have l3:=loh b3;have hm:max per 1=per:=oM
 have hfd:∀ W,(Instr.field 31 (.agg #[.int .i64 pa,.int .i64 pb,.int .i64 pc,.int .i64 pd,.int .i64 pf,.int .i64 dp,.int .i64 ph,.int .u64 ps]) 5).run Tryz.prog W = .ok (.int .i64 dp) W:=fun W=>by kernel_rfl
 clear F3 b3 hW3;go_region_held3 (fun W=>W.cell? ⟨w2.heap.size,4,none⟩=some (.int .i64 per)) (go_keep)
  (first
   | (go_at_call 33;refine (HPl.out _ (by first|exact HF3.out|exact HF3.out.drew)).mono ?_;rintro e W4 ⟨he,F4⟩;obtain rfl:e = .returned (.agg #[.int .i64 pa,.int .i64 pb,.int .i64 pc,.int .i64 pd,.int .i64 pf,.int .i64 dp,.int .i64 ph,.int .u64 ps]):=he;have c4:=(F4.cell (p:=⟨w2.heap.size,4,none⟩) (by first|exact l3|(simp;omega)) id).trans c4;have HF4:=hid (show Fq W3 W4 by first|exact F4|exact ((Fr.refl _ _).drew).trans F4 nI);clear F4))
 all_goals (go_wp2_with fail)
 all_goals go_ret
 all_goals (
  refine⟨_,rfl,?_,nT HF3.out.size HF4.out.size,(HF3.out.trans HF4.out nI).alloc _⟩;rw[HZ.out];show _=some (Obj.cells #[_,.int .i64 (per.toNat:Int),.int .i64 (dp.toNat:Int),.int .i64 ((0:Nat):Int),.int .i64 0,.int .i64 0] 209);rw[HL.out,show (dp.toNat:Int)=dp by omega];exact han _ _)
theorem du0 {base' e size:Nat}{xs:List Value}(h:w.ownsRow base' e size v n xs)(hb:base<=base'):w.ownsRow base e size v n xs:=by
 obtain⟨hl,h0|⟨g,cap,cur,hv,hg,r⟩⟩:=h
 ·exact⟨hl,.inl h0⟩
 ·exact⟨hl,.inr ⟨g,cap,cur,hv,nT hb hg,r⟩⟩
def As0 (B:Blk)(y:Cs)(P:aC0)(a:Bool)(N:Nat)(load:List Int)(w:World)(e:Ending)(w':World):Prop:=
 ∃ la ll lc err,e = .returned (.tuple #[.slice la ll lc,.int .i64 err])/\FrB B w w'/\((err=0/\ll=load.length/\ByV w' la load.length lc load/\aw0 w' B y P a (N+1))\/(err=4/\a=true/\aP0 w' B y P (N+1)))
theorem om0 (h:aw0 w B y P a N)(p stamp:Int)(hp:0<=p)(hs:0<=stamp){load:List Int}(hc:y.cont p=some (stamp.toNat,load))(hN:N+1<=90000) :
  Calls Tryz.prog 24 #[B.ptr,fT0 p stamp] w (As0 B y P a N load w):=by
 obtain⟨p,rfl⟩:=iZ hp;obtain⟨s,rfl⟩:=iZ hs;refine (zo0 h p s (by simpa using hc) hN).mono ?_;rintro e w' ⟨F,⟨la,lc,rfl,hb,hS⟩|⟨rfl,ha,hD⟩⟩
 ·exact⟨_,_,_,_,rfl,F,.inl ⟨rfl,rfl,hb,hS⟩⟩
 ·exact⟨_,_,_,_,rfl,F,.inr ⟨rfl,ha,hD⟩⟩
def ql0 (B:Blk)(y:Cs)(P:aC0)(a:Bool)(N:Nat)(n:Nat)(bs:List Int)(w:World)(e:Ending)(w':World):Prop:=
 ∃ p s err,e = .returned (.tuple #[fT0 p s,.int .i64 err])/\FrB B w w'/\((err=0/\(∃ m:Nat,p=m/\s=y.gen/\(y.fresh n=true/\m=n\/y.fresh n=false/\br0 y.taken y.pages y.hand m)/\aw0 w' B (y.put n m bs) P a (N+1)))\/(err=4/\a=true/\aP0 w' B y P (N+1)))
theorem iO0 {P:aQ0}(h:aw0 w B y P a N)(n:Nat)(st:Int)(hin:Inp w B la ll lc bs)(hby:∀ b ∈ bs,0<=b/\b<256)(hl:ll<=y.room)
  (hp:n<y.pages) (ht:y.taken n=true) (hd:y.dead n=false) (hj:∃ j,j<y.pages/\y.taken j=false) (hN:N+1<=90000) :
  Calls Tryz.prog 26 #[B.ptr,fT0 n st,.slice la ll lc] w (ql0 B y P a N n bs w):=by
 refine (xO0 h n st hin hby hl hp ht hd hj hN).mono ?_;rintro e w' ⟨F,⟨m,hm,rfl,hS⟩|⟨p,s,rfl,ha,hD⟩⟩
 ·exact⟨_,_,_,rfl,F,.inl ⟨rfl,m,rfl,rfl,hm,hS⟩⟩
 ·exact⟨_,_,_,rfl,F,.inr ⟨rfl,ha,hD⟩⟩
def Bo0 (B:Blk)(y:Cs)(P:aC0)(a:Bool)(N:Nat)(bs:List Int)(w:World)(e:Ending)(w':World):Prop:=
 ∃ p s err,e = .returned (.tuple #[fT0 p s,.int .i64 err])/\FrB B w w'/\((err=0/\(∃ m:Nat,p=m/\s=y.gen/\br0 y.taken y.pages y.hand m/\aw0 w' B (y.new m bs) P a (N+1)))\/(err=4/\a=true/\aP0 w' B y P (N+1)))
theorem pX0 {P:aQ0}(h:aw0 w B y P a N)(hin:Inp w B la ll lc bs)(hby:∀ b ∈ bs,0<=b/\b<256)(hl:ll<=y.room)
  (hj:∃ j,j<y.pages/\y.taken j=false) (hN:N+1<=90000):Calls Tryz.prog 22 #[B.ptr,.slice la ll lc] w (Bo0 B y P a N bs w):=by
 refine (AX0 h hin hby hl hj hN).mono ?_;rintro e w' ⟨F,⟨m,hm,rfl,hS⟩|⟨p,s,rfl,ha,hD⟩⟩
 ·exact⟨_,_,_,rfl,F,.inl ⟨rfl,m,rfl,rfl,hm,hS⟩⟩
 ·exact⟨_,_,_,rfl,F,.inr ⟨rfl,ha,hD⟩⟩
def AL0 (B:Blk)(y:Cs)(P:aC0)(a:Bool)(N:Nat)(l:List Rf)(w:World)(e:Ending)(w':World):Prop:=
 ∃ v err,e = .returned (.tuple #[v,.int .i64 err])/\FrB B w w'/\((err=0/\dC0 w' w.heap.size v l/\aw0 w' B y P a (N+1))\/(err=4/\a=true/\aP0 w' B y P (N+1)))
theorem aj0.frB {s:Nat}(h:aj0 w bd s x)(F:FrB B w w'):aj0 w' bd s x:=F.heap h dC
theorem oa0 (h:aw0 w B y P a N)(hD:aj0 w bd B.s x)(hC:fC0 y x au0 slots)(hN:N+1<=90000) :
  Calls Tryz.prog 120 #[cR0 bd] w (AL0 B y P a N au0 w):=by
 have HRD:=hid (fun W (F:Fq w W)=>om0 (h.fr0 F) x.rp x.rs hC.rr.1 hC.rr.2 hC.root hN);have HD:=hid hD;have HC:=hid hC;obtain⟨c0,c1,c2,c3,c4,c5,cz,cl⟩:=aU0 hD;clear h hD hC;go_enter Tryz.func120,Tryz.ntmps120;go_wp2_with fail
 go_region_held3 (fun W=>W.cell? ⟨bd,0,none⟩=some (.pointer (some ⟨B.s,0,none⟩))/\W.cell? ⟨bd,4,none⟩=some (.int .i64 x.rp)/\W.cell? ⟨bd,5,none⟩=some (.int .i64 x.rs)) (go_keep)
  (first
   | (go_at_call 24;refine (HRD.out _ (by first|exact Fr.refl _ _|exact (Fr.refl _ _).drew)).mono ?_;rintro e W2 ⟨la,ll,lc,err,rfl,F2,hr⟩;replace F2:FrB B w W2:=FrB.trans (FrB.none (by first|exact Fr.refl _ _|exact (Fr.refl _ _).drew)) F2;obtain⟨c0,c1,c2,c3,c4,c5,cz,cl⟩:=aU0 (HD.out.frB F2);have H2:=hi2 F2 hr;clear F2 hr))
 rcases H2.out.2 with⟨rfl,rfl,hb,hS⟩|⟨rfl,ha,hDn⟩
 ·have hll:(ae0 au0).length=12*x.leaves:=by rw[cM0,HC.out.tlen]
  rw[hll] at hb;have HPs:=hid (fun W (F:Fq W2 W)=>ko0 (hb.fr F (fun _ _ _ h=>h)).slb HC.out.leaf.tr HC.out.tlen (by have:=HC.out.z.qu0;omega));have HS:=hi2 hS H2.out.1;have HLv:=hid (lj0 (HD.out.frB H2.out.1) (by have:=HC.out.z.most;omega) HC.out.z.per.1 (by have:=HC.out.z.qu0;omega));clear hb hS;rw[hll];go_wp2_with (go_at_call 182;refine HLv.out.mono ?_)
  rintro e W3 ⟨rfl,m,rfl⟩;go_wp2_with (go_at_call 181;refine (HPs.out _ ((Fr.refl _ _).drewN _)).mono ?_)
  rintro e W4 ⟨v,rfl,hown,F4⟩;have H4:=hi2 hown F4;clear hown F4;go_wp2_with fail
  go_ret2;have F24:Fq W2 W4:=((Fr.refl _ _).drewN m).trans H4.out.2 nI;exact⟨v,0,rfl,FrB.trans HS.out.2 (FrB.none F24),.inl ⟨rfl,du0 H4.out.1 (nT HS.out.2.size sP),HS.out.1.fr0 F24⟩⟩
 ·have HX:=hi2 ha (aI hDn H2.out.1);clear hDn ha;go_wp2_with fail
  go_ret2;exact⟨_,4,rfl,HX.out.2.2,.inr ⟨rfl,HX.out.1,HX.out.2.1⟩⟩
theorem nt0 (h:dC0 w base v l):∃ a c,v = .slice a l.length c/\tt0 w a l:=by
 obtain⟨hl,⟨h0,h1⟩|⟨g,cap,cur,hv,hb,hg,hc,hm,hs,ht⟩⟩:=h
 ·refine⟨none,0,by rw[h0,h1],⟨fun i x hx=>?_⟩⟩;have:=(gI.1 hx).1;omega
 ·refine⟨some ⟨g,0,none⟩,cap,hv,⟨fun i x hx=>?_⟩⟩;have hi:=(gI.1 hx).1;have key:∀ j,j<2->cur[i*2+j]?=(l.flatMap dB0)[i*2+j]?:=fun j hj=>by
   have h2:(cur.toList.take (l.length*2))[i*2+j]?=(l.flatMap dB0)[i*2+j]?:=by rw[ht]
   rw[gT,if_pos oM] at h2;simpa using h2
  have fm:∀ (l:List Rf) (i:Nat) (x:Rf),l[i]?=some x->(l.flatMap dB0)[i*2]?=some (.int .i64 x.1)/\(l.flatMap dB0)[i*2+1]?=some (.int .i64 x.2):=by
   intro l;induction l with
   | nil=>intro i x hx;simp at hx
   | cons y l ih =>
    intro i x hx;cases i with
    | zero=>simp at hx;subst hx;exact⟨rfl,rfl⟩
    | succ i =>
     rw[gS] at hx;obtain⟨h1,h2⟩:=ih i x hx;have e:(i+1)*2=i*2+2:=oM;rw[e];exact⟨h1,h2⟩
  obtain⟨f0,f1⟩:=fm l i x hx;refine⟨g,0,rfl,loh hg,?_,?_⟩
  ·rw[coh hg,lp9];exact (key 0 oM).trans f0
  ·rw[coh hg,lp9];exact (key 1 oM).trans f1
structure iG0 (w:World)(a:Option Addr)(l:List Rf):Prop where
 row:tt0 w a l
 ty:∀ b off,a=some ⟨b,off,none⟩->l≠[]->∃ c,w.heap[b]?=some (.cells c 35)
theorem iG0.fr {S:Nat->Prop}{a:Option Addr}(h:iG0 w a l)(F:Fr S w w')(hS:∀ b c,w.heap[b]?=some (.cells c 35)->¬ S b):iG0 w' a l:=
 ⟨h.row.fr F fun b off e _ hne hs=>by
  obtain⟨c,hc⟩:=h.ty b off e hne;exact hS b c hc hs,fun b off e hne=>by
  obtain⟨c,hc⟩:=h.ty b off e hne;exact⟨c,F.heap hc (hS b c hc)⟩⟩
theorem iG0.frB {a:Option Addr}(h:iG0 w a l)(F:FrB B w w'):iG0 w' a l:=h.fr F fun b c hc hs=>absurd (hs.2.1 c 35 _ hc) dC
theorem iG0.fr0 {a:Option Addr}(h:iG0 w a l)(F:Fq w w'):iG0 w' a l:=h.fr F fun _ _ _ h=>h
theorem by0 (h:dC0 w base v l):∃ a c,v = .slice a l.length c/\iG0 w a l:=by
 obtain⟨a,c,e,hr⟩:=nt0 h;refine⟨a,c,e,hr,fun b off ha hne=>?_⟩;obtain⟨hl,⟨h0,h1⟩|⟨g,cap,cur,hv,hb,hg,_⟩⟩:=h
 ·exact absurd (mJ9.1 h1) hne
 ·rw[e] at hv;cases hv;cases ha;exact⟨_,hg⟩
theorem mA0 (h:aw0 w B y P a N)(hD:aj0 w bd B.s x)(hz:kU0 y x)(hL:wu0 y.cont x.per au0 slots)(hsl:slots.length=x.slots)(htl:au0.length=x.leaves){ta:Option Addr}{tc:Nat}(hn:au0.length=n)(hT:iG0 w ta au0)(hi:i<n)(hN:N+1<=90000) :
  Calls Tryz.prog 121 #[cR0 bd,.slice ta n tc,.int .i64 i] w (AL0 B y P a N (chunk slots x.per i) w):=by
 obtain⟨r,hr⟩:∃ r,au0[i]?=some r:=⟨_,gE oM⟩
 have hrr:=hL.tr r (gM hr);obtain⟨b,off,rfl,hb,g0,g1⟩:=hT.row.at_ i r hr;have HT:=hid hT;have hbs:∀ W2:World,FrB B w W2->W2.cell? ⟨b,off+i*2,none⟩=w.cell? ⟨b,off+i*2,none⟩/\W2.cell? ⟨b,off+i*2+1,none⟩=w.cell? ⟨b,off+i*2+1,none⟩:=fun W2 F=>by
  obtain⟨c,hc⟩:=hT.ty b off rfl (by rintro rfl;simp at hr);have hn:¬ (B.base<=b/\vg0 B w b):=fun hs=>absurd (hs.2.1 c 35 _ hc) dC
  exact⟨Fr.cell F (p:=⟨b,_,none⟩) hb hn,Fr.cell F (p:=⟨b,_,none⟩) hb hn⟩
 have HBS:=hid hbs;have HRD:=hid (fun W (F:Fq w W)=>om0 (h.fr0 F) r.1 r.2 hrr.1 hrr.2.2.1 (hL.at_ i r hr) hN);have HD:=hid hD;have HC:=hi2 hz (aI hL (aI hsl (aI hn htl)));have hi':(i:Int)<(n:Int):=oM
 obtain⟨c0,c1,c2,c3,c4,c5,cz,cl⟩:=aU0 hD;clear h hD hz hL hsl htl hn hT hr hrr hbs;go_enter Tryz.func121,Tryz.ntmps121;go_wp2_with fail
 go_region_held3 (fun W=>W.cell? ⟨bd,0,none⟩=some (.pointer (some ⟨B.s,0,none⟩))/\W.cell? ⟨b,off+i*2,none⟩=some (.int .i64 r.1)/\W.cell? ⟨b,off+i*2+1,none⟩=some (.int .i64 r.2)) (go_keep)
  (first
   | (go_at_call 24;refine (HRD.out _ (by first|exact Fr.refl _ _|exact (Fr.refl _ _).drew)).mono ?_;rintro e W2 ⟨la,ll,lc,err,rfl,F2,hr⟩;replace F2:FrB B w W2:=FrB.trans (FrB.none (by first|exact Fr.refl _ _|exact (Fr.refl _ _).drew)) F2;obtain⟨c0,c1,c2,c3,c4,c5,cz,cl⟩:=aU0 (HD.out.frB F2);have g0:=(HBS.out W2 F2).1.trans g0;have g1:=(HBS.out W2 F2).2.trans g1;have H2:=hi2 F2 hr;clear F2 hr))
 rcases H2.out.2 with⟨rfl,rfl,hb,hS⟩|⟨rfl,ha,hDn⟩
 ·have hle:x.leaves<=41/\x.per<=41:=HC.out.1.qu0;have hil:i<x.leaves:=by have:=HC.out.2.2.2.1;have:=HC.out.2.2.2.2;omega
  have hcl:(chunk slots x.per i).length=x.in_ i:=by rw[bk0,HC.out.2.2.1];rfl
  have hin:x.in_ i<=41:=by unfold aL0.in_;omega
  have hll:(ae0 (chunk slots x.per i)).length=12*x.in_ i:=by rw[cM0,hcl]
  rw[hll] at hb;have HPs:=hid (fun W (F:Fq W2 W)=>ko0 (hb.fr F (fun _ _ _ h=>h)).slb (ew0 HC.out.2.1.sr x.per i) hcl oM);have HS:=hi2 hS H2.out.1;have HLv:=hid (rn0 (HD.out.frB H2.out.1) (by have:=HC.out.1.most;omega) HC.out.1.per.1 oM i (by have:=HC.out.1.ul0 hil;omega));clear hb hS hcl;rw[hll];go_wp2_with (go_at_call 183;refine HLv.out.mono ?_)
  rintro e W3 ⟨rfl,m,rfl⟩;go_wp2_with (go_at_call 181;refine (HPs.out _ ((Fr.refl _ _).drewN _)).mono ?_)
  rintro e W4 ⟨v,rfl,hown,F4⟩;have H4:=hi2 hown F4;clear hown F4;go_wp2_with fail
  go_ret2;have F24:Fq W2 W4:=((Fr.refl _ _).drewN m).trans H4.out.2 nI;exact⟨v,0,rfl,FrB.trans HS.out.2 (FrB.none F24),.inl ⟨rfl,du0 H4.out.1 (nT HS.out.2.size sP),HS.out.1.fr0 F24⟩⟩
 ·have HX:=hi2 ha (aI hDn H2.out.1);clear hDn ha;go_wp2_with fail
  go_ret2;exact⟨_,4,rfl,HX.out.2.2,.inr ⟨rfl,HX.out.1,HX.out.2.1⟩⟩
