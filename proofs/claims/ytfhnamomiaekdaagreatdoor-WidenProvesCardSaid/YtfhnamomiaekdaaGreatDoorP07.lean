/-
  Plain words of layers 9, 18: pairs step by step, choices that may be.
-/
import Derived.Test.YtfhnamomiaekdaaGreatDoorP02
import Derived.Test.YtfhnamomiaekdaaGreatDoorP06
import Derived.Test.YtfhnamomiaekdaaGreatDoorP05
set_option linter.unusedVariables false
set_option linter.unusedSimpArgs false
namespace Go.Inq
def bN(key:Int)(l:List Nat)(i:Nat):List Cho:=((List.range i).map fun a=>(l.drop (a+1)).map fun(b:Nat)=>(⟨key,(l.getD a 0:Nat),b⟩:Cho)).flatten
theorem zV(key:Int)(l:List Nat){i:Nat}(h:i<l.length):bN key l (i+1)=bN key l i++(l.drop (i+1)).map fun(b:Nat)=>(⟨key,(l[i]:Nat),b⟩:Cho):=by
 unfold bN;rw[List.range_succ,List.map_append,List.flatten_append];simp[List.getD_eq_getElem?_getD,List.getElem?_eq_getElem h]
theorem rR(key:Int)(a:Nat)(r:List Nat):∀i,bN key (a::r) (i+1)=(r.map fun(b:Nat)=>(⟨key,a,b⟩:Cho))++bN key r i
 |0=>by simp[bN,List.range_succ]
 |i+1=>by
  have h1:bN key (a::r) (i+1+1)=bN key (a::r) (i+1)++((a::r).drop (i+1+1)).map fun(b:Nat)=>(⟨key,((a::r).getD (i+1) 0:Nat),b⟩:Cho):=by
   unfold bN;rw[List.range_succ,List.map_append,List.flatten_append];simp
  have h2:bN key r (i+1)=bN key r i++(r.drop (i+1)).map fun(b:Nat)=>(⟨key,(r.getD i 0:Nat),b⟩:Cho):=by
   unfold bN;rw[List.range_succ,List.map_append,List.flatten_append];simp
  rw[h1,h2,rR key a r i];simp
theorem uw(key:Int):∀l:List Nat,bN key l l.length=dD key l
 |[]=>by simp[bN,dD]
 |a::r=>by rw[List.length_cons,rR,uw key r];rfl
def dB(H:List Txn)(k:Nat):List Cho:=(((bO H).take k).map fun key=>dD key (bg H key)).flatten
theorem pU{H:List Txn}{k:Nat}(h:k<(bO H).length):dB H (k+1)=dB H k++dD (bO H)[k] (bg H (bO H)[k]):=by
 unfold dB;rw[List.take_succ_eq_append_getElem h,List.map_append,List.flatten_append];simp
theorem rT(H:List Txn):dB H (bO H).length=cK H:=by unfold dB cK;rw[List.take_length]
theorem uy(key:Int):∀l:List Nat,(dD key l).length≤l.length*l.length
 |[]=>by simp[dD]
 |a::r=>by
  unfold dD;rw[List.length_append,List.length_map,List.length_cons];have:=uy key r;rw[Nat.add_mul,Nat.mul_add];omega
theorem uz(key:Int)(l:List Nat):∀i,(bN key l i).length≤i*l.length
 |0=>by simp[bN]
 |i+1=>by
  have h1:bN key l (i+1)=bN key l i++(l.drop (i+1)).map fun(b:Nat)=>(⟨key,(l.getD i 0:Nat),b⟩:Cho):=by
   unfold bN;rw[List.range_succ,List.map_append,List.flatten_append];simp
  rw[h1,List.length_append,List.length_map,List.length_drop,Nat.add_mul];have:=uz key l i;omega
theorem jI{H:List Txn}(hr:ay H=true):(bO H).length≤16:=by
 have hb:∀t∈H,∀k∈t.writes,0≤k∧k<16:=fun t ht k hk=>by
  obtain⟨i,hi,rfl⟩:=List.getElem_of_mem ht;exact(((aC H).1 hr).2 i hi).IV k hk
 rw[zI hb,List.length_map];exact Nat.le_trans (List.length_filter_le _ _) (by simp)
theorem mO{H:List Txn}(h32:H.length≤32):∀k,k≤(bO H).length→(dB H k).length≤k*1024
 |0,_=>by simp[dB]
 |k+1,hk=>by
  rw[pU (by omega),List.length_append];have h1:=mO h32 k (by omega);have h2:=uy (bO H)[k] (bg H (bO H)[k]);have h3:=mH H (bO H)[k];have h4:(bg H (bO H)[k]).length*(bg H (bO H)[k]).length≤32*32:=Nat.mul_le_mul (by omega) (by omega);omega
theorem uD{H:List Txn}(hr:ay H=true):(cK H).length≤16384:=by
 have h1:=mO ((aC H).1 hr).1 _ (Nat.le_refl _);rw[rT]at h1;have:=jI hr;omega
theorem jh{key:Int}{c:Cho}:∀{l:List Nat},c∈dD key l→c.key=key∧∃a b:Nat,c.a=a∧c.b=b∧a∈l∧b∈l
 |[],h=>by simp[dD]at h
 |a::r,h=>by
  unfold dD at h;rw[List.mem_append]at h;rcases h with h|h
  ·obtain⟨b,hb,rfl⟩:=List.mem_map.1 h;exact⟨rfl,a,b,rfl,rfl,by simp,by simp[hb]⟩
  ·obtain⟨h1,x,y,h2,h3,h4,h5⟩:=jh h;exact⟨h1,x,y,h2,h3,by simp[h4],by simp[h5]⟩
theorem qW{key:Int}{c:Cho}:∀{l:List Nat},l.Pairwise (·<·)→c∈dD key l→c.a<c.b
 |[],_,h=>by simp[dD]at h
 |a::r,hp,h=>by
  rw[List.pairwise_cons]at hp;unfold dD at h;rw[List.mem_append]at h;rcases h with h|h
  ·obtain⟨b,hb,rfl⟩:=List.mem_map.1 h;have:=hp.1 b hb;show(a:Int)<(b:Int);omega
  ·exact qW hp.2 h
theorem oK{H:List Txn}{c:Cho}(h:c∈cK H):∃a b:Nat,c.a=a∧c.b=b∧a<b∧b<H.length∧c.key∈(aF H a).writes∧c.key∈(aF H b).writes:=by
 unfold cK at h;obtain⟨l,hl,hc⟩:=List.mem_flatten.1 h;obtain⟨key,_,rfl⟩:=List.mem_map.1 hl;obtain⟨hk,a,b,ha,hb,h1,h2⟩:=jh hc;have hlt:=qW (fU H key) hc;obtain⟨_,h3⟩:=bB.1 h1;obtain⟨h4,h5⟩:=bB.1 h2;rw[hk];exact⟨a,b,ha,hb,by omega,h4,h3,h5⟩
def wrB(H:List Txn)(t key:Int):Bool:=decide (0≤t)&&decide (t<(H.length:Int))&&(aF H t.toNat).writes.contains key
def jC(H:List Txn)(c:Cho):Bool:=decide (c.a≠c.b)&&wrB H c.a c.key&&wrB H c.b c.key
def gW(H:List Txn)(l:List Cho):Bool:=ay H&&decide (l.length≤20000)&&l.all (jC H)
theorem EU{H:List Txn}{t:Nat}{key:Int}(h:t<H.length):wrB H (t:Int) key=(aF H t).writes.contains key:=by unfold wrB;simp[h]
theorem EW{H:List Txn}{t key:Int}:wrB H t key=true↔∃n:Nat,t=n∧n<H.length∧key∈(aF H n).writes:=by
 unfold wrB;constructor
 ·intro h;simp only[Bool.and_eq_true,decide_eq_true_eq,List.contains_iff_mem]at h;exact⟨t.toNat,by omega,by omega,h.2⟩
 ·rintro⟨n,rfl,h1,h2⟩;simp[h1,h2]
theorem pV{H:List Txn}{c:Cho}:jC H c=true↔∃a b:Nat,c.a=a∧c.b=b∧a≠b∧a<H.length∧b<H.length∧c.key∈(aF H a).writes∧c.key∈(aF H b).writes:=by
 unfold jC;rw[Bool.and_eq_true,Bool.and_eq_true,EW,EW];constructor
 ·rintro⟨⟨h1,a,ha,h2,h3⟩,b,hb,h4,h5⟩;have:=of_decide_eq_true h1;exact⟨a,b,ha,hb,by omega,h2,h4,h3,h5⟩
 ·rintro⟨a,b,ha,hb,h1,h2,h3,h4,h5⟩;exact⟨⟨decide_eq_true (by omega),a,ha,h2,h4⟩,b,hb,h3,h5⟩
theorem FX{H:List Txn}{c:Cho}(h:c∈cK H):jC H c=true:=by
 obtain⟨a,b,ha,hb,h1,h2,h3,h4⟩:=oK h;exact pV.2 ⟨a,b,ha,hb,by omega,by omega,h2,h3,h4⟩
def j5(c:Cho):Cho:=⟨c.key,c.b,c.a⟩
theorem zW{H:List Txn}{c:Cho}(h:jC H c=true):jC H (j5 c)=true:=by
 obtain⟨a,b,ha,hb,h1,h2,h3,h4,h5⟩:=pV.1 h;exact pV.2 ⟨b,a,hb,ha,h1.symm,h3,h2,h5,h4⟩
end Go.Inq
namespace Go.Proofs.YtfhnamomiaekdaaGreatDoor
open Go.RowKit Go.Inq
set_option maxHeartbeats 4000000
attribute [local go_sem↓] Go.wp_at_zero Go.wp_at_succ
def j6(x:Cho):List Value:=[.int .i64 x.key,.int .i64 x.a,.int .i64 x.b]
theorem ji:∀(x:Cho),∀u∈j6 x,u.oneCell'=true:=by
 intro x u hu;simp[j6]at hu;rcases hu with rfl|rfl|rfl<;>rfl
theorem CU:(Tryz.prog.info? 102).map (fun i=>(i.zero,i.size,i.bytes))=some (some (.agg #[.int .i64 0,.int .i64 0,.int .i64 0]),3,24):=by kernel_rfl
def bR(w:World)(K:Nat→Prop)(v:Value)(l:List Cho):Prop:=SlR 3 (Flat j6) w K v l
section
variable{w w':World}{K K':Nat→Prop}{v:Value}{l:List Cho}
theorem bR.keep(h:bR w K v l)(ha:Agree K w w')(hk:∀b,K b→K' b):bR w' K' v l:=SlR.keep (Flat.bf _) h ha hk
theorem bR.below(h:bR w (Old w) v l)(hb:Below w.heap.size w w'):bR w' (Old w') v l:=SlR.below (Flat.bf _) h hb
theorem bR.fit(h:bR w K v l)(hk:∀b,K b→K' b):bR w K' v l:=SlR.fit (Flat.bf _) h hk
theorem bR.nil(w:World)(K:Nat→Prop)(A:Option Addr)(c:Nat):bR w K (.slice A 0 c) []:=SlR.nil _ _ _ _ _ _
theorem bR.at_{A:Option Addr}{n c:Nat}(h:bR w K (.slice A n c) l){i:Nat}(hi:i<l.length):
 ∃b off,A=some ⟨b,off,none⟩∧K b∧w.cell? ⟨b,off+i*3,none⟩=some (.int .i64 l[i].key)∧w.cell? ⟨b,off+i*3+1,none⟩=some (.int .i64 l[i].a)∧w.cell? ⟨b,off+i*3+2,none⟩=some (.int .i64 l[i].b):=by
 obtain⟨b,off,cs,hA,hK,_,hR,hc⟩:=SlR.at_ h hi;unfold Flat at hR;subst hR;exact⟨b,off,hA,hK,hc 0 _ rfl,hc 1 _ rfl,hc 2 _ rfl⟩
end
def iD(w:World)(base:Nat)(v:Value)(l:List Cho):Prop:=w.ownsRow base 102 3 v l.length (l.map j6).flatten
def Ny(w:World)(l:List Cho)(e:Ending)(w':World):Prop:=∃v,e= .returned v∧iD w' w.heap.size v l∧Below w.heap.size w w'
theorem iD.form{w:World}{base:Nat}{v:Value}{l:List Cho}(h:iD w base v l):∃A c,v= .slice A l.length c:=bH h
theorem iD.sl{w:World}{base:Nat}{v:Value}{l:List Cho}(h:iD w base v l){K:Nat→Prop}(hK:∀g,base≤g→g<w.heap.size→K g):bR w K v l:=SlR.of_flat h rfl (fun _=>rfl) hK
theorem iD.nil(w:World)(base:Nat):iD w base (.slice none 0 0) []:=World.ownsRow_nil _ _ _ _
set_option maxRecDepth 100000 in
theorem CV(A:Option Addr)(c:Nat)(H:List Txn)(w:World)(h:aA w (Old w) (.slice A H.length c) H)(hn:aG H)(hr:ay H=true):
 Calls Tryz.prog 52 #[.agg #[.slice A H.length c]] w (Ny w (cK H)):=by
 obtain⟨ic,hic,hi1,hi2,hi3⟩:=info_parts CU;obtain⟨W0,hW0⟩:∃W0,w.alloc (.cells #[.slice A H.length c] 24)=W0:=⟨_,rfl⟩;have hB:=ah (Below.refl w.heap.size w) hW0 (Nat.le_refl _);have k0:=Blk.newEq hW0;have h0:=hide (h.below hB);have h32:H.length≤32:=((aC H).1 hr).1;have O6:=jI hr;have hpt:=hide (mO h32);have hstep:=hide (fun k (hk:k<(bO H).length)=>pU hk);have hall:=hide (rT H);have hs0:=aD hW0;replace hn:=hide hn;replace hr:=hide hr;replace h:=hide h;have c0:=Blk.n0 k0;replace hs0:=hide hs0;go_enter Tryz.func52,Tryz.ntmps52;go_wp2_with fail;clear hW0 c0;refine(xQ A c H _ h0.out hn.out hr.out).mono ?_;rintro e wk ⟨vk,rfl,hKO,hbk⟩;obtain⟨Ak,ck,rfl⟩:=hKO.form;have hwW:w.heap.size<W0.heap.size:=(by have:=hs0.out;omega);have hKS:=hide (hKO.sl (K:=fun b=>W0.heap.size≤b∧b<wk.heap.size) (fun g h1 h2=>⟨h1,h2⟩));replace k0:=k0.below hbk k0.lt;have hb:=hB.trans (hbk.mono hB.size);have O7:=hbk.size;clear hbk hB h0 hKO;generalize hKL:bO H=KL at*;go_wp2_with fail;go_loopw [3,14] (fun s3 s14 wr=>∃k:Nat,k≤KL.length∧s14= .int .i64 k∧iD wr w.heap.size s3 (dB H k)∧Below w.heap.size w wr∧Agree (fun b=>w.heap.size≤b∧b<wk.heap.size) wk wr∧wk.heap.size≤wr.heap.size∧Hid (∀g,s3.ownBlock=some g→wk.heap.size≤g)) (fun _ s14 _=>KL.length-(intOf s14).toNat);case atStart=>exact⟨0,Nat.zero_le _,by go_num,iD.nil _ _,hb,Agree.refl _ _,Nat.le_refl _,hide fun g hg=>by simp[Value.ownBlock]at hg⟩
 case round=>
  clear hb;obtain⟨Wo,rfl⟩:∃Wo,Wo=wr:=⟨_,rfl⟩;obtain⟨k,hk,rfl,hown,hb,hag,KT,jk⟩:=hrel;have CP:(0:Int)≤(k:Int):=Int.natCast_nonneg _;by_cases hlt:k<KL.length
  ·have CQ:(k:Int)<(KL.length:Int):=(by omega);obtain⟨bk,ok,rfl,_,hck⟩:=(hKS.out.keep (hag.mono fun b hb=>⟨by omega,hb.2⟩) (fun b h=>h)).at_ hlt;have m0:=k0.agree hag ⟨Nat.le_refl _,k0.lt⟩;have hst:=hide (hstep.out k hlt);have hlen:=hpt.out k hk;have c0:=Blk.n0 m0;generalize KL[k]=key at*;go_wp2_with fail;clear c0 hck;refine(pR A c H key _ (h.out.below hb) hn.out hr.out).mono ?_;rintro e wl ⟨vl,rfl,hLO,hbl⟩;have hLn:=mH H key;have hpa:=hide (uw key (bg H key));have hpi:=hide (fun i (hi:i<(bg H key).length)=>zV key (bg H key) hi);have hpl:=hide (uz key (bg H key));generalize bg H key=L at*;obtain⟨Al,cl,hv⟩:=hLO.form;rw[aI]at hv;subst hv;have hLS:=hide (hLO.sl (K:=fun b=>Wo.heap.size≤b∧b<wl.heap.size) (fun g h1 h2=>⟨h1,h2⟩));have hb2:=hb.trans (hbl.mono hb.size);have KU:=hbl.size;have KV:Agree (fun b=>w.heap.size≤b∧b<wk.heap.size) wk wl:=hag.trans (Agree.below hbl fun b hb=>by omega);have hown2:iD wl w.heap.size _ (dB H k):=own_below hown hbl (Nat.le_refl _);have hlt2:=hide (fun g hg=>(hown.lt g hg).2);clear hLO hbl hb hag hown m0;go_wp2_with fail;go_loopw [3,23] (fun s3 s23 wq=>∃i:Nat,i≤L.length∧s23= .int .i64 i∧iD wq w.heap.size s3 (dB H k++bN key L i)∧Below w.heap.size w wq∧Agree (fun b=>w.heap.size≤b∧b<wk.heap.size) wk wq∧Agree (fun b=>Wo.heap.size≤b∧b<wl.heap.size) wl wq∧wl.heap.size≤wq.heap.size∧Hid (∀g,s3.ownBlock=some g→wk.heap.size≤g∧(g<Wo.heap.size∨wl.heap.size≤g))) (fun _ s23 _=>L.length-(intOf s23).toNat);case atStart=>exact⟨0,Nat.zero_le _,by go_num,by simpa[bN]using hown2,hb2,KV,Agree.refl _ _,Nat.le_refl _,hide fun g hg=>⟨jk.out g hg,.inl (hlt2.out g hg)⟩⟩
   case round=>
    clear hown2 hb2 KV hlt2 jk;obtain⟨Wp,rfl⟩:∃Wp,Wp=wr:=⟨_,rfl⟩;obtain⟨i,hi,rfl,hown,hb,hag,zX,FY,jk⟩:=hrel;have hj1:(0:Int)≤(i:Int):=Int.natCast_nonneg _;by_cases hil:i<L.length
    ·have hj2:(i:Int)<(L.length:Int):=(by omega);obtain⟨bl,ol,rfl,_,hcl⟩:=(hLS.out.keep zX (fun b h=>h)).at_ (i:=i) (by rw[aI];exact hil);rw[je hil]at hcl;have Nz:=hide (hpi.out i hil);have hdl:(L.drop (i+1)).length=L.length-(i+1):=List.length_drop;have xD:=hpl.out i;have hlen3:i*L.length≤32*32:=Nat.mul_le_mul (by omega) (by omega);generalize L[i]=a at*;have hle:i+1≤L.length:=(by omega);have hle3:(i:Int)+1≤(L.length:Int):=(by omega);have O8:L.length≤cl:=by
      obtain⟨_,_,e,h2⟩:=SlR.len hLS.out;injection e with e1 e2 e3
      rw[aI]at h2;omega
     by_cases hcap:cl=i+1
     ·have hLi:L.length=i+1:=(by omega);have hd0:L.drop (i+1)=[]:=List.drop_of_length_le (by omega);have hown3:Hid (iD Wp w.heap.size u3 (dB H k++bN key L (i+1))):=hide (by rw[Nz.out,hd0,List.map_nil,List.append_nil];exact hown);have hz0:L.length-(i+1)=0:=(by omega);clear hd0 O8;replace hown:=hide hown;subst hcap;go_wp2_with fail
      go_loop [3,33] (fun s3 s33=>s33= .int .i64 0∧iD Wp w.heap.size s3 (dB H k++bN key L (i+1))∧Hid (∀g,s3.ownBlock=some g→wk.heap.size≤g∧(g<Wo.heap.size∨wl.heap.size≤g))) (fun _ _=>0)
      case atStart=>exact⟨rfl,hown3.out,jk⟩
      case round=>
       clear hown3 jk;obtain⟨rfl,hown3,jk⟩:=hrel;go_wp2;go_roundw;case rel=>exact⟨i+1,by omega,by go_num,hown3,hb,hag,zX,FY,jk⟩
       case measure=>simp[intOf];omega
     ·go_wp2_with fail;have hdo:=hide (fun j (hj:j<L.length-(i+1))=>(show i+1+j<L.length by omega));go_loopw [3,33] (fun s3 s33 wq=>∃j:Nat,j≤L.length-(i+1)∧s33= .int .i64 j∧iD wq w.heap.size s3 (dB H k++bN key L i++((L.drop (i+1)).take j).map fun(b:Nat)=>(⟨key,(a:Nat),b⟩:Cho))∧Below w.heap.size w wq∧Agree (fun b=>w.heap.size≤b∧b<wk.heap.size) wk wq∧Agree (fun b=>Wo.heap.size≤b∧b<wl.heap.size) wl wq∧wl.heap.size≤wq.heap.size∧Hid (∀g,s3.ownBlock=some g→wk.heap.size≤g∧(g<Wo.heap.size∨wl.heap.size≤g))) (fun _ s33 _=>(L.length-(i+1))-(intOf s33).toNat);case atStart=>exact⟨0,Nat.zero_le _,by go_num,by simpa using hown,hb,hag,zX,FY,jk⟩
      case round=>
       clear hown hb hag zX FY jk hcl;obtain⟨j,hj,rfl,hown,hb,hag,zX,FY,jk⟩:=hrel;have hjj:(0:Int)≤(j:Int):=Int.natCast_nonneg _;by_cases hjl:j<L.length-(i+1)
       ·have hj3:(j:Int)<((L.length-(i+1):Nat):Int):=(by omega);have hix:=hdo.out j hjl;obtain⟨_,_,e,_,hcj⟩:=(hLS.out.keep zX (fun b h=>h)).at_ (i:=i+1+j) (by rw[aI];exact hix);injection e with e
        injection e with e1 e2
        subst e1 e2;rw[je hix,←Nat.add_assoc]at hcj;have hdj:Hid (((L.drop (i+1)).take (j+1))=(L.drop (i+1)).take j++[L[i+1+j]]):=hide (by rw[take_snoc' (by rw[hdl];exact hjl),List.getElem_drop]);have hjn:((L.drop (i+1)).take j).length≤32:=(by rw[List.length_take,hdl];omega);have NA:(dB H k).length≤16384:=(by omega);have QA:(dB H k++bN key L i++((L.drop (i+1)).take j).map fun(b:Nat)=>(⟨key,(a:Nat),b⟩:Cho)).length≤20000:=by
         rw[List.length_append,List.length_append,List.length_map];omega
        obtain⟨Av,cv,rfl⟩:=hown.form;generalize hM:(dB H k++bN key L i++((L.drop (i+1)).take j).map fun(b:Nat)=>(⟨key,(a:Nat),b⟩:Cho))=M at*;generalize L[i+1+j]=y at*;have hM2:Hid ((dB H k++bN key L i++((L.drop (i+1)).take (j+1)).map fun(b:Nat)=>(⟨key,(a:Nat),b⟩:Cho))=M++[⟨key,a,y⟩]):=hide (by rw[hdj.out,List.map_append,←List.append_assoc,hM];rfl);have wD:=hb.size;clear hM hjn NA hdj;replace hown:=hide hown;go_wp2_with (at_builtin;refine aY (enc:=j6) rfl (.tmp 37) (.tmp 42) 65 rfl w.heap.size 102 ic _ 3 24 Tryz.underlying65 hic hi1 hi2 hi3 rfl (by decide) (.slice Av M.length cv) M rfl hown.out (fun _=>rfl) (⟨key,a,y⟩:Cho) _ rfl rfl ji (by simp[maxLen];omega) (by omega) wD w w.heap.size (Nat.le_refl _) hb ?_;intro v1 w6 hown1 hg1 hb1 l5);have hg6:=hg1.size;simp only[World.size_alloc]at hg6;have hA1:Agree (fun b=>w.heap.size≤b∧b<wk.heap.size) wk w6:=(hag.trans (Agree.alloc (fun b hb=>by omega) _)).trans (Agree.grown hg1 fun b hb=>⟨by simp;omega,fun e=>by have:=(jk.out b e.symm).1;omega⟩);have hA2:Agree (fun b=>Wo.heap.size≤b∧b<wl.heap.size) wl w6:=(zX.trans (Agree.alloc (fun b hb=>by omega) _)).trans (Agree.grown hg1 fun b hb=>⟨by simp;omega,fun e=>by have:=(jk.out b e.symm).2;omega⟩);go_wp2;go_roundw;case rel=>exact⟨j+1,by omega,by go_num,by rw[hM2.out];exact hown1,hb1,hA1,hA2,by omega,hide fun g hg=>by
         rcases l5 with e|e
         ·rw[e]at hg;exact jk.out g hg
         ·rw[e]at hg;injection hg with hg;omega⟩
        case measure=>simp[intOf];omega
       ·obtain rfl:j=L.length-(i+1):=(by omega);rw[List.take_of_length_le (by rw[hdl];exact Nat.le_refl _),List.append_assoc,←Nz.out]at hown;go_wp2;go_roundw;case rel=>exact⟨i+1,by omega,by go_num,hown,hb,hag,zX,FY,jk⟩
        case measure=>simp[intOf];omega
    ·obtain rfl:i=L.length:=(by omega);rw[hpa.out,←hst.out]at hown;go_wp2;go_roundw;case rel=>exact⟨k+1,by omega,by go_num,hown,hb,hag,by omega,hide fun g hg=>(jk.out g hg).1⟩
     case measure=>simp[intOf];omega
  ·obtain rfl:k=KL.length:=(by omega);rw[hall.out]at hown;go_wp2;go_ret;exact⟨_,rfl,hown,hb⟩
set_option maxHeartbeats 2000000
def pW{α:Type}(p:α→Bool)(l:List α):Int:=match l.findIdx? p with|some k=>k|none=> -1
theorem iE{α:Type}{p:α→Bool}{l:List α}{k:Nat}(hk:k<l.length)(h:p l[k]=true)(h0:∀j (hj:j<l.length),j<k→p l[j]=false):pW p l=k:=by
 unfold pW;have:l.findIdx? p=some k:=by
  rw[List.findIdx?_eq_some_iff_getElem];exact⟨hk,h,fun j hj=>by rw[h0 j (by omega) hj];simp⟩
 rw[this]
theorem gq{α:Type}{p:α→Bool}{l:List α}(h0:∀j (hj:j<l.length),p l[j]=false):pW p l= -1:=by
 unfold pW;have:l.findIdx? p=none:=by
  rw[List.findIdx?_eq_none_iff];intro y hy;obtain⟨j,hj,rfl⟩:=List.getElem_of_mem hy;exact h0 j hj
 rw[this]
theorem iF{α:Type}(p:α→Bool)(l:List α):decide (0≤pW p l)=l.any p:=by
 unfold pW;cases hf:l.findIdx? p with
 |none=>
  rw[List.findIdx?_eq_none_iff]at hf;have:l.any p=false:=(by rw[List.any_eq_false];intro x hx;rw[hf x hx];simp);rw[this];rfl
 |some k=>
  rw[List.findIdx?_eq_some_iff_getElem]at hf;obtain⟨h1,h2,_⟩:=hf;have:l.any p=true:=List.any_eq_true.2 ⟨_,List.getElem_mem h1,h2⟩;rw[this];simp
set_option maxRecDepth 100000 in
theorem CW (f:Nat) (hf:∀args w,(callFunc f args).run Tryz.prog w= .ok (.enter f args) w) (lb:Array Value) (p:Cho→Bool) (A:Option Addr) (c:Nat) (l:List Cho) (w:World) (h:bR w (Old w) (.slice A l.length c) l) (hl:l.length≤1000000000)
 (hp:∀W,Below w.heap.size w W→∀x∈l,Calls Tryz.prog f (#[.agg #[.int .i64 x.key,.int .i64 x.a,.int .i64 x.b]]++lb) W fun e W'=>e= .returned (.bool (p x))∧Below W.heap.size W W'):
 Calls Tryz.prog 202 #[.slice A l.length c,.func (.func f) #[] lb] w fun e w'=>e= .returned (.int .i64 (pW p l))∧Below w.heap.size w w':=by
 have hhit:=hide (fun k=>iE (p:=p) (l:=l) (k:=k));have hnone:=hide (gq (p:=p) (l:=l));replace h:=hide h;replace hp:=hide hp;go_enter Tryz.func202,Tryz.ntmps202;go_wp2_with fail;go_loopw [8] (fun s8 wr=>∃k:Nat,k≤l.length∧s8= .int .i64 k∧Hid (∀j (hj:j<l.length),j<k→p l[j]=false)∧Below w.heap.size w wr) (fun s8 _=>l.length-(intOf s8).toNat);case atStart=>exact⟨0,Nat.zero_le _,by go_num,fun j hj h=>absurd h (by omega),Below.refl _ _⟩
 case round=>
  obtain⟨k,hk,rfl,hall,hb⟩:=hrel;have hk1:(0:Int)≤(k:Int):=Int.natCast_nonneg _;by_cases hlt:k<l.length
  ·have hi2:(k:Int)<(l.length:Int):=(by omega);obtain⟨b,off,rfl,_,d0,d1,d2⟩:=(h.out.below hb).at_ hlt;have hcall:=hide (hp.out _ hb _ (List.getElem_mem hlt));have hh:=hide (fun g=>hhit.out k hlt g hall.out);have hst:Hid (p l[k]=false→∀j (hj:j<l.length),j<k+1→p l[j]=false):=fun g j hj hjk=>by
    by_cases e:j=k
    ·subst e;exact g
    ·exact hall.out j hj (by omega)
   clear hall;generalize l[k]=x at*;go_wp2_with fail;refine hcall.out.mono ?_;rintro e W2 ⟨rfl,hb2⟩;have hb3:=hb.trans (hb2.mono hb.size);cases hpx:p x with
   |true=>
    have hr:=hide (hh.out hpx);clear hpx hh hst hcall;go_wp2;go_ret;exact⟨bV hr.out.symm,hb3⟩
   |false=>
    have hr:=hide (hst.out hpx);clear hpx hh hst hcall;go_wp2;go_roundw;case rel=>exact⟨k+1,by omega,by go_num,hr,hb3⟩
    case measure=>simp[intOf];omega
  ·have hr:=hide (hnone.out fun j hj=>hall.out j hj (by omega));go_wp2;go_ret;exact⟨bV hr.out.symm,hb⟩
theorem wE (f:Nat) (hf:∀args w,(callFunc f args).run Tryz.prog w= .ok (.enter f args) w) (lb:Array Value) (p:Cho→Bool) (A:Option Addr) (c:Nat) (l:List Cho) (w:World) (h:bR w (Old w) (.slice A l.length c) l) (hl:l.length≤1000000000)
 (hp:∀W,Below w.heap.size w W→∀x∈l,Calls Tryz.prog f (#[.agg #[.int .i64 x.key,.int .i64 x.a,.int .i64 x.b]]++lb) W fun e W'=>e= .returned (.bool (p x))∧Below W.heap.size W W'):
 Calls Tryz.prog 146 #[.slice A l.length c,.func (.func f) #[] lb] w fun e w'=>e= .returned (.bool (l.any p))∧Below w.heap.size w w':=by
 have hd:=hide (iF p l);have hcall:=hide (CW f hf lb p A c l w h hl hp);clear hp hf h;go_enter Tryz.func146,Tryz.ntmps146;go_wp2_with fail;refine hcall.out.mono ?_;rintro e w1 ⟨rfl,hb⟩;clear hcall;go_wp2;go_ret;exact⟨by rw[←hd.out];rfl,hb⟩
theorem CX(A:Option Addr)(c:Nat)(l:List It)(xa xb:Int)(w:World)(h:ItS w (Old w) (.slice A l.length c) l)(hl:l.length≤1000000000):
 Calls Tryz.prog 227 #[.slice A l.length c,.agg #[.int .i64 xa,.int .i64 xb]] w fun e w'=>e= .returned (.int .i64 (pW (fun x:It=>decide (x.a=xa)&&decide (x.b=xb)) l))∧Below w.heap.size w w':=by
 have hhit:=hide (fun k=>iE (p:=fun x:It=>decide (x.a=xa)&&decide (x.b=xb)) (l:=l) (k:=k));have hnone:=hide (gq (p:=fun x:It=>decide (x.a=xa)&&decide (x.b=xb)) (l:=l));obtain⟨W0,hW0⟩:∃W0,w.alloc (.cells #[.int .i64 xa,.int .i64 xb] 106)=W0:=⟨_,rfl⟩;have hB:=ah (Below.refl w.heap.size w) hW0 (Nat.le_refl _);have k0:=Blk.newEq hW0;replace h:=hide h;go_enter Tryz.func227,Tryz.ntmps227;go_wp2_with fail;clear hW0;go_loopw [8] (fun s8 wr=>∃k:Nat,k≤l.length∧s8= .int .i64 k∧Hid (∀j (hj:j<l.length),j<k→(decide (l[j].a=xa)&&decide (l[j].b=xb))=false)∧Below w.heap.size w wr∧Blk wr w.heap.size 106 #[.int .i64 xa,.int .i64 xb]) (fun s8 _=>l.length-(intOf s8).toNat);case atStart=>exact⟨0,Nat.zero_le _,by go_num,fun j hj h=>absurd h (by omega),hB,k0⟩
 case round=>
  clear k0 hB;obtain⟨k,hk,rfl,hall,hb,k0⟩:=hrel;have hk1:(0:Int)≤(k:Int):=Int.natCast_nonneg _;by_cases hlt:k<l.length
  ·have hi2:(k:Int)<(l.length:Int):=(by omega);obtain⟨b,off,rfl,_,d0,d1⟩:=(h.out.below hb).at_ hlt;have hh:=hide (fun g=>hhit.out k hlt g hall.out);have hst:Hid ((decide (l[k].a=xa)&&decide (l[k].b=xb))=false→∀j (hj:j<l.length),j<k+1→(decide (l[j].a=xa)&&decide (l[j].b=xb))=false):=fun g j hj hjk=>by
    by_cases e:j=k
    ·subst e;exact g
    ·exact hall.out j hj (by omega)
   have c0:=Blk.n0 k0;have c1:=Blk.n1 k0;clear hall;generalize l[k]=x at*;obtain⟨ya,yb⟩:=x;dsimp only at*;by_cases q1:xa=ya
   ·by_cases q2:xb=yb
    ·have q1b:(xa==ya)=true:=(by simpa using q1);have q2b:(xb==yb)=true:=(by simpa using q2);have hr:=hide (hh.out (by simp[q1,q2]));clear q1 q2 hh hst;go_wp2;go_quiet (fail);go_wp2;go_ret;exact⟨bV hr.out.symm,hb.trans ⟨rfl,rfl,rfl,Nat.le_refl _,fun _ _=>rfl⟩⟩
    ·have q1b:(xa==ya)=true:=(by simpa using q1);have q2b:(xb==yb)=false:=(by simpa using q2);have hr:=hide (hst.out (by simp;intro _ e;exact q2 e.symm));clear q1 q2 hh hst;go_wp2;go_quiet (fail);go_wp2;go_roundw;case rel=>exact⟨k+1,by omega,by go_num,hr,hb.trans ⟨rfl,rfl,rfl,Nat.le_refl _,fun _ _=>rfl⟩,k0⟩
     case measure=>simp[intOf];omega
   ·have q1b:(xa==ya)=false:=(by simpa using q1);have hr:=hide (hst.out (by simp;intro e;exact absurd e.symm q1));clear q1 hh hst;go_wp2;go_quiet (fail);go_wp2;go_roundw;case rel=>exact⟨k+1,by omega,by go_num,hr,hb.trans ⟨rfl,rfl,rfl,Nat.le_refl _,fun _ _=>rfl⟩,k0⟩
    case measure=>simp[intOf];omega
  ·have hr:=hide (hnone.out fun j hj=>hall.out j hj (by omega));go_wp2;go_ret;exact⟨bV hr.out.symm,hb⟩
theorem wG(A:Option Addr)(c:Nat)(l:List It)(xa xb:Int)(w:World)(h:ItS w (Old w) (.slice A l.length c) l)(hl:l.length≤1000000000):
 Calls Tryz.prog 169 #[.slice A l.length c,.agg #[.int .i64 xa,.int .i64 xb]] w fun e w'=>e= .returned (.bool (l.any fun x=>decide (x.a=xa)&&decide (x.b=xb)))∧Below w.heap.size w w':=by
 have hd:=hide (iF (fun x:It=>decide (x.a=xa)&&decide (x.b=xb)) l);obtain⟨W0,hW0⟩:∃W0,w.alloc (.cells #[.int .i64 xa,.int .i64 xb] 106)=W0:=⟨_,rfl⟩;have hB:=ah (Below.refl w.heap.size w) hW0 (Nat.le_refl _);have h0:=h.below hB;have hcall:=hide (CX A c l xa xb W0 h0 hl);have k0:=Blk.newEq hW0;clear h h0;have c0:=Blk.n0 k0;have c1:=Blk.n1 k0;go_enter Tryz.func169,Tryz.ntmps169;go_wp2_with fail;clear hW0;refine hcall.out.mono ?_;rintro e w1 ⟨rfl,hb⟩;have hb2:=hB.trans (hb.mono hB.size);clear hcall;go_wp2;go_ret;exact⟨by rw[←hd.out];rfl,hb2⟩
end Go.Proofs.YtfhnamomiaekdaaGreatDoor
namespace Go.Inq
open Go Go.RowKit
theorem aB.take{w:World}{K:Nat→Prop}{A:Option Addr}{n c:Nat}{l:List Int}(h:aB w K (.slice A n c) l){k:Nat}(hk:k≤l.length):aB w K (.slice A k c) (l.take k):=SlR.take h hk
def dP(w:World)(K:Nat→Prop)(cs:List Value)(l:List Int):Prop:=∃v,cs=[v]∧aB w K v l
theorem dP.bf:nV dP:=fun _ _ _ _ _ _ h ha hk=>by
 obtain⟨v,h1,h2⟩:=h;exact⟨v,h1,h2.keep ha hk⟩
theorem dP.one{w:World}{K:Nat→Prop}{cs:List Value}{l:List Int}(h:dP w K cs l):∀u∈cs,u.oneCell'=true:=by
 obtain⟨v,rfl,h2⟩:=h;obtain⟨A,c,rfl⟩:=h2.form;intro u hu;simp at hu;subst hu;rfl
def dw(w:World)(K:Nat→Prop)(v:Value)(l:List (List Int)):Prop:=SlR 1 dP w K v l
section
variable{w w':World}{K K':Nat→Prop}{v:Value}{l:List (List Int)}
theorem dw.keep(h:dw w K v l)(ha:Agree K w w')(hk:∀b,K b→K' b):dw w' K' v l:=SlR.keep dP.bf h ha hk
theorem dw.below(h:dw w (Old w) v l)(hb:Below w.heap.size w w'):dw w' (Old w') v l:=SlR.below dP.bf h hb
theorem dw.fit(h:dw w K v l)(hk:∀b,K b→K' b):dw w K' v l:=SlR.fit dP.bf h hk
theorem dw.form(h:dw w K v l):∃A c,v= .slice A l.length c:=by
 obtain⟨A,c,hv,_⟩:=SlR.len h;exact⟨A,c,hv⟩
theorem dw.at_{A:Option Addr}{n c:Nat}(h:dw w K (.slice A n c) l){i:Nat}(hi:i<l.length):
 ∃b off A' c',A=some ⟨b,off,none⟩∧K b∧w.cell? ⟨b,off+i,none⟩=some (.slice A' l[i].length c')∧aB w K (.slice A' l[i].length c') l[i]:=by
 obtain⟨b,off,cs,hA,hK,_,⟨v,hcs,hv⟩,hc⟩:=SlR.at_ h hi;obtain⟨A',c',rfl⟩:=hv.form;subst hcs;have:=hc 0 _ rfl;rw[Nat.mul_one,Nat.add_zero]at this;exact⟨b,off,A',c',hA,hK,this,hv⟩
theorem dw.nil(w:World)(K:Nat→Prop)(A:Option Addr)(c:Nat):dw w K (.slice A 0 c) []:=SlR.nil _ _ _ _ _ _
end
def WdS(w:World)(K:Nat→Prop)(v:Value)(s:Wd):Prop:=
 ∃vp vl,v= .agg #[.int .i64 s.width,.bool s.cut,vp,vl]∧aB w K vp s.path∧dw w K vl s.left
section
variable{w w':World}{K K':Nat→Prop}{v:Value}{s:Wd}
theorem WdS.keep(h:WdS w K v s)(ha:Agree K w w')(hk:∀b,K b→K' b):WdS w' K' v s:=by
 obtain⟨vp,vl,h1,h2,h3⟩:=h;exact⟨vp,vl,h1,h2.keep ha hk,h3.keep ha hk⟩
theorem WdS.below(h:WdS w (Old w) v s)(hb:Below w.heap.size w w'):WdS w' (Old w') v s:=
 h.keep (Agree.below hb fun _ h=>h) fun _ h=>Nat.lt_of_lt_of_le h hb.size
theorem WdS.form(h:WdS w K v s):∃Ap cp Al cl,v= .agg #[.int .i64 s.width,.bool s.cut,.slice Ap s.path.length cp,.slice Al s.left.length cl]∧aB w K (.slice Ap s.path.length cp) s.path∧dw w K (.slice Al s.left.length cl) s.left:=by
 obtain⟨vp,vl,h1,h2,h3⟩:=h;obtain⟨Ap,cp,rfl⟩:=h2.form;obtain⟨Al,cl,rfl⟩:=h3.form;exact⟨Ap,cp,Al,cl,h1,h2,h3⟩
end
end Go.Inq
namespace Go.Proofs.YtfhnamomiaekdaaGreatDoor
open Go.RowKit Go.Inq
set_option maxHeartbeats 2000000
attribute [local go_sem↓] Go.wp_at_zero Go.wp_at_succ
theorem NC(w:World)(A:Option Addr)(n c:Nat):(Go.binOp .eql 33 (.slice A n c) (.slice none 0 0)).run Tryz.prog w= .ok (.bool A.isNone) w:=Lib.run_eql_slice_nil w 33 3 A n c 0 0 Tryz.underlying33
attribute [local go_sem] NC
theorem CY (f:Nat) (hf:∀args w,(callFunc f args).run Tryz.prog w= .ok (.enter f args) w) (lb:Array Value) (p:Int→Bool) (A:Option Addr) (c:Nat) (l:List Int) (K:Nat→Prop) (w:World) (h:aB w K (.slice A l.length c) l) (hl:l.length≤1000000000)
 (hp:∀x∈l,Calls Tryz.prog f (#[.int .i64 x]++lb) w fun e W'=>e= .returned (.bool (p x))∧w=W'):
 Calls Tryz.prog 228 #[.slice A l.length c,.func (.func f) #[] lb] w fun e w'=>e= .returned (.int .i64 (pW p l))∧w=w':=by
 have hhit:=hide (fun k=>iE (p:=p) (l:=l) (k:=k));have hnone:=hide (gq (p:=p) (l:=l));replace h:=hide h;replace hp:=hide hp;go_enter Tryz.func228,Tryz.ntmps228;go_wp2_with fail
 go_loop [5,8] (fun s5 s8=>∃k:Nat,k≤l.length∧s8= .int .i64 k∧Hid (∀j (hj:j<l.length),j<k→p l[j]=false)) (fun _ s8=>l.length-(intOf s8).toNat)
 case atStart=>exact⟨0,Nat.zero_le _,by go_num,fun j hj h=>absurd h (by omega)⟩
 case round=>
  obtain⟨k,hk,rfl,hall⟩:=hrel;have hk1:(0:Int)≤(k:Int):=Int.natCast_nonneg _;by_cases hlt:k<l.length
  ·have hi2:(k:Int)<(l.length:Int):=(by omega);obtain⟨b,off,rfl,_,d0⟩:=h.out.at_ hlt;have hcall:=hide (hp.out _ (List.getElem_mem hlt));have hh:=hide (fun g=>hhit.out k hlt g hall.out);have hst:Hid (p l[k]=false→∀j (hj:j<l.length),j<k+1→p l[j]=false):=fun g j hj hjk=>by
    by_cases e:j=k
    ·subst e;exact g
    ·exact hall.out j hj (by omega)
   clear hall;generalize l[k]=x at*;go_wp2_with fail;refine hcall.out.mono ?_;rintro e W2 ⟨rfl,rfl⟩;cases hpx:p x with
   |true=>
    have hr:=hide (hh.out hpx);clear hpx hh hst hcall;go_wp2;go_ret;exact⟨bV hr.out.symm,rfl⟩
   |false=>
    have hr:=hide (hst.out hpx);clear hpx hh hst hcall;go_wp2
    go_round
    case rel=>exact⟨k+1,by omega,by go_num,hr⟩
    case measure=>simp[intOf];omega
  ·have hr:=hide (hnone.out fun j hj=>hall.out j hj (by omega));go_wp2;go_ret;exact⟨bV hr.out.symm,rfl⟩
theorem wH (f:Nat) (hf:∀args w,(callFunc f args).run Tryz.prog w= .ok (.enter f args) w) (lb:Array Value) (p:Int→Bool) (A:Option Addr) (c:Nat) (l:List Int) (K:Nat→Prop) (w:World) (h:aB w K (.slice A l.length c) l) (hl:l.length≤1000000000)
 (hp:∀x∈l,Calls Tryz.prog f (#[.int .i64 x]++lb) w fun e W'=>e= .returned (.bool (p x))∧w=W'):
 Calls Tryz.prog 176 #[.slice A l.length c,.func (.func f) #[] lb] w fun e w'=>e= .returned (.bool (l.any p))∧w=w':=by
 have hd:=hide (iF p l);have hcall:=hide (CY f hf lb p A c l K w h hl hp);clear hp hf h;go_enter Tryz.func176,Tryz.ntmps176;go_wp2_with fail;refine hcall.out.mono ?_;rintro e w1 ⟨rfl,rfl⟩;clear hcall;go_wp2;go_ret;exact⟨by rw[←hd.out];rfl,rfl⟩
def wI(n:Nat)(path:List Int)(t:Int):Bool:=decide (t<0)||decide ((n:Int)≤t)||path.contains t
theorem FZ(n:Nat)(l path:List Int):aW n l path= !(l.any (wI n path)):=by
 rw[Bool.eq_iff_iff];unfold aW wI;simp only[List.all_eq_true,Bool.not_eq_true',List.any_eq_false,Bool.or_eq_true,Bool.and_eq_true,decide_eq_true_eq,not_or];refine forall_congr' fun t=>imp_congr_right fun _=> ?_;constructor
 ·rintro⟨⟨h1,h2⟩,h3⟩;exact⟨⟨by omega,by omega⟩,by rw[h3];simp⟩
 ·rintro⟨⟨h1,h2⟩,h3⟩;exact⟨⟨by omega,by omega⟩,by simpa using h3⟩
theorem F3(n:Nat)(Ap:Option Addr)(cp:Nat)(path:List Int)(t:Int)(Bn Bp:Nat)(K:Nat→Prop)(w:World)(h:aB w K (.slice Ap path.length cp) path)(hl:path.length≤1000000000)(hBn:w.cell? ⟨Bn,0,none⟩=some (.int .i64 n))(hBp:w.cell? ⟨Bp,0,none⟩=some (.slice Ap path.length cp)):
 Calls Tryz.prog 177 #[.int .i64 t,.pointer (some ⟨Bn,0,none⟩),.pointer (some ⟨Bp,0,none⟩)] w fun e w'=>e= .returned (.bool (wI n path t))∧w=w':=by
 by_cases h0:t<0
 ·have hr:wI n path t=true:=(by unfold wI;simp[h0]);have h0b:decide (t<0)=true:=(by simpa using h0);rw[hr];clear h0 hr h;go_enter Tryz.func177,Tryz.ntmps177;go_wp2;go_ret;exact⟨rfl,rfl⟩
 ·have h0b:decide (t<0)=false:=(by simpa using h0);by_cases h1:(n:Int)≤t
  ·have hr:wI n path t=true:=(by unfold wI;simp[h1]);have h1b:decide (t≥(n:Int))=true:=(by simpa using h1);rw[hr];clear h0 h1 hr h;go_enter Tryz.func177,Tryz.ntmps177;go_wp2;go_ret;exact⟨rfl,rfl⟩
  ·have hr:wI n path t=path.contains t:=(by unfold wI;simp[h0,h1]);have h1b:decide (t≥(n:Int))=false:=(by simpa using h1);rw[hr];clear h0 h1 hr;replace h:=hide h;go_enter Tryz.func177,Tryz.ntmps177;go_wp2_with fail;refine(bZ Ap cp path t K _ h.out (by unfold maxLen;omega)).mono ?_;rintro e w1 ⟨rfl,rfl⟩;go_wp2;go_ret;exact⟨by simp,rfl⟩
set_option maxRecDepth 100000 in
theorem rU(n:Nat)(A:Option Addr)(c:Nat)(l:List Int)(Ap:Option Addr)(cp:Nat)(path:List Int)(K:Nat→Prop)(w:World)(hK:∀b,K b→b<w.heap.size)(h:aB w K (.slice A l.length c) l)(hl:l.length≤1000000000)(hP:aB w K (.slice Ap path.length cp) path)(hlp:path.length≤1000000000):
 Calls Tryz.prog 109 #[.int .i64 n,.slice A l.length c,.slice Ap path.length cp] w fun e w'=>e= .returned (.bool (aW n l path))∧Below w.heap.size w w':=by
 have hq:=hide (FZ n l path);obtain⟨W0,hW0⟩:∃W0,(w.alloc (.cells #[.int .i64 n] 3)).alloc (.cells #[.slice Ap path.length cp] 33)=W0:=⟨_,rfl⟩;have hB:=aN hW0;have k0:=Blk.jg hW0;have k1:=Blk.iB hW0;have hL:=h.keep (Agree.below hB hK) (fun _ h=>h);have hP2:=hP.keep (Agree.below hB hK) (fun _ h=>h);have hcall:=hide (wH 177 (enters_of Tryz.func177 (by kernel_rfl) rfl) #[.pointer (some ⟨w.heap.size,0,none⟩),.pointer (some ⟨w.heap.size+1,0,none⟩)] (wI n path) A c l K W0 hL hl (fun x _=>
  F3 n Ap cp path x w.heap.size (w.heap.size+1) K W0 hP2 hlp (by have:=k0.cell 0;simpa using this) (by have:=k1.cell 0;simpa using this)))
 clear h hP hL hP2 k0 k1;go_enter Tryz.func109,Tryz.ntmps109;go_wp2_with fail;clear hW0;refine hcall.out.mono ?_;rintro e w3 ⟨rfl,rfl⟩;clear hcall;go_wp2;go_ret;exact⟨by rw[hq.out];rfl,hB⟩
theorem F4(w:World):Calls Tryz.prog 104 #[] w fun e w'=>e= .returned (.agg #[.int .i64 1,.bool false,.slice none 0 0,.slice none 0 0])∧Below w.heap.size w w':=by
 obtain⟨W0,hW0⟩:∃W0,w.alloc (.cells #[.int .i64 0,.bool false,.slice none 0 0,.slice none 0 0] 84)=W0:=⟨_,rfl⟩;have hB:=ah (Below.refl w.heap.size w) hW0 (Nat.le_refl _);have k0:=Blk.newEq hW0;have f0:=k0.frozen 0;have f1:=k0.frozen 1;have f2:=k0.frozen 2;have f3:=k0.frozen 3;have kF:=(((k0.aK 0 (.int .i64 1)).aK 1 (.bool false)).aK 2 (.slice none 0 0)).aK 3 (.slice none 0 0);have hF:=(((hB.setCell (p:=⟨w.heap.size,0,none⟩) (by simp) (.int .i64 1)).setCell (p:=⟨w.heap.size,1,none⟩) (by simp) (.bool false)).setCell (p:=⟨w.heap.size,2,none⟩) (by simp) (.slice none 0 0)).setCell (p:=⟨w.heap.size,3,none⟩) (by simp) (.slice none 0 0);simp only[sA,sZ,sS]at kF;have d0:=Blk.n0 kF;have d1:=Blk.n1 kF;have d2:=Blk.n2 kF;have d3:=Blk.n3 kF;have c0:=Blk.n0 k0;have c1:=Blk.n1 k0;have c2:=Blk.n2 k0;have c3:=Blk.n3 k0;go_enter Tryz.func104,Tryz.ntmps104;go_wp2;exact bodyPost_ret (v:= .agg #[.int .i64 1,.bool false,.slice none 0 0,.slice none 0 0]) (by simp[results,Tryz.results104,go_sem,d0,d1,d2,d3]) rfl ⟨rfl,hF⟩
set_option maxRecDepth 100000 in
theorem zY(A:Option Addr)(c:Nat)(l:List Int)(K:Nat→Prop)(w:World)(hK:∀b,K b→b<w.heap.size)(h:aB w K (.slice A l.length c) l)(hl:l.length≤1000000000):
 Calls Tryz.prog 107 #[.slice A l.length c] w (uj w l):=by
 obtain⟨ii,hii,hi1,hi2,hi3⟩:=info_parts dO;replace h:=hide h;cases A with
 |none=>
  have hz:l=[]:=by
   rcases Nat.lt_or_ge 0 l.length with g|g
   ·obtain⟨b,off,hA,_⟩:=h.out.at_ g;cases hA
   ·exact List.eq_nil_of_length_eq_zero (by omega)
  subst hz;go_enter Tryz.func107,Tryz.ntmps107;go_wp2;exact bodyPost_ret (v:= .slice none 0 0) (by simp[results,Tryz.results107,go_sem]) rfl ⟨_,rfl,bE.nil _ _,Below.refl _ _⟩
 |some ad=>
  obtain⟨W0,hW0⟩:∃W0,w.alloc (.cells #[] 3)=W0:=⟨_,rfl⟩;have hB:=ah (Below.refl w.heap.size w) hW0 (Nat.le_refl _);have k0:=Blk.newEq hW0;have hS:=hide (h.out.keep (Agree.below hB hK) (fun _ h=>h));have hown:bE W0 w.heap.size (.slice (some ⟨w.heap.size,0,none⟩) 0 0) []:=⟨rfl,.inr ⟨w.heap.size,0,#[],rfl,Nat.le_refl _,k0,Nat.le_refl _,Nat.zero_le _,rfl,rfl⟩⟩;clear k0;go_enter Tryz.func107,Tryz.ntmps107;go_wp2_with (at_builtin;go_loud (refine cB (enc:=Go.Inq.encI) rfl (.tmp 5) (.tmp 6) 33 rfl w.heap.size 3 ii _ 1 8 Tryz.underlying33 hii hi1 hi2 hi3 rfl (by decide) (.slice (some ⟨w.heap.size,0,none⟩) 0 0) K [] rfl hown (fun _=>rfl) (.slice (some ad) l.length c) l rfl hS.out Go.Inq.eG (by rw[List.length_nil];unfold maxLen;omega) (by rw[List.length_nil];omega) hB.size ?_);intro v1 w1 hown1 hg1 hv1);go_ret;exact⟨_,rfl,hown1,below_grown hB hg1 hB.size (fun k hk=>by simp[Value.ownBlock]at hk;omega)⟩
end Go.Proofs.YtfhnamomiaekdaaGreatDoor
namespace Go.Inq
theorem qX:∀l:List Int,eO l=true↔∀k,0<k→(h:k<l.length)→l[k-1]<l[k]
 |[]=>by simp[eO]
 |[a]=>by
  simp only[eO,true_iff];intro k h1 h2;simp at h2;omega
 |a::b::r=>by
  rw[eO,Bool.and_eq_true,decide_eq_true_eq,qX (b::r)];constructor
  ·rintro⟨h1,h2⟩ k hk hl
   match k,hk,hl with
   |1,_,_=>simpa using h1
   |k+2,_,hl=>
    have:=h2 (k+1) (by omega) (by simp at hl⊢;omega);simpa using this
  ·intro h;refine⟨h 1 (by omega) (by simp),fun k hk hl=> ?_⟩;obtain⟨k,rfl⟩:∃j,k=j+1:=⟨k-1,by omega⟩;have:=h (k+2) (by omega) (by simp at hl⊢;omega);simpa using this
def og(H:List Txn)(s:Wd):Bool:=ay H&&decide (1≤s.width)&&decide (s.width≤32)&&decide (s.path.length≤H.length-1)
def pX(H:List Txn)(s:Wd):Bool:=(List.range s.path.length).all fun i=>aW H.length [s.path.getD i 0] (s.path.take i)
def uE(H:List Txn)(s:Wd):Bool:=(List.range s.left.length).all fun i=>eO (s.left.getD i [])&&aW H.length (s.left.getD i []) (s.path.take i)
theorem gu(H:List Txn)(s:Wd):cZ H s=(og H s&&pX H s&&(if s.left=[]then decide (s.path=[])else decide (s.left.length=s.path.length+1)&&uE H s)):=rfl
theorem zZ{H:List Txn}{s:Wd}(h:og H s=false):cZ H s=false:=by rw[gu,h];rfl
theorem Aa{H:List Txn}{s:Wd}{k:Nat}(hk:k<s.path.length)(h:aW H.length [s.path[k]] (s.path.take k)=false):cZ H s=false:=by
 have:pX H s=false:=by
  unfold pX;rw[List.all_eq_false];exact⟨k,List.mem_range.2 hk,by simp only[List.getD_eq_getElem?_getD,List.getElem?_eq_getElem hk,Option.getD_some];rw[h];simp⟩
 rw[gu,this];simp
theorem Ab{H:List Txn}{s:Wd}(h:∀k (hk:k<s.path.length),aW H.length [s.path[k]] (s.path.take k)=true):pX H s=true:=by
 unfold pX;rw[List.all_eq_true];intro k hk;have hk:=List.mem_range.1 hk;simp only[List.getD_eq_getElem?_getD,List.getElem?_eq_getElem hk,Option.getD_some];exact h k hk
theorem lg{H:List Txn}{s:Wd}(h:s.left≠[])(hl:s.left.length≠s.path.length+1):cZ H s=false:=by
 rw[gu,if_neg h,decide_eq_false hl];simp
theorem CZ{H:List Txn}{s:Wd}{k:Nat}(hk:k<s.left.length)(h:eO s.left[k]=false∨aW H.length s.left[k] (s.path.take k)=false):cZ H s=false:=by
 have h0:s.left≠[]:=(by intro e;rw[e]at hk;simp at hk);have:uE H s=false:=by
  unfold uE;rw[List.all_eq_false];refine⟨k,List.mem_range.2 hk,?_⟩;simp only[List.getD_eq_getElem?_getD,List.getElem?_eq_getElem hk,Option.getD_some];rcases h with h|h<;>rw[h]<;>simp
 rw[gu,if_neg h0,this];simp
theorem Ac{H:List Txn}{s:Wd}(h:∀k (hk:k<s.left.length),eO s.left[k]=true∧aW H.length s.left[k] (s.path.take k)=true):uE H s=true:=by
 unfold uE;rw[List.all_eq_true];intro k hk;have hk:=List.mem_range.1 hk;simp only[List.getD_eq_getElem?_getD,List.getElem?_eq_getElem hk,Option.getD_some];rw[(h k hk).1,(h k hk).2];rfl
theorem C8{H:List Txn}{s:Wd}(hb:og H s=true)(hp:pX H s=true)(h0:s.left≠[])(hl:s.left.length=s.path.length+1)(h:uE H s=true):cZ H s=true:=by
 rw[gu,hb,hp,if_neg h0,decide_eq_true hl,h];rfl
theorem C9{H:List Txn}{s:Wd}(hb:og H s=true)(hp:pX H s=true)(h0:s.left=[]):cZ H s=decide (s.path=[]):=by
 rw[gu,hb,hp,if_pos h0];rfl
theorem Da{n:Nat}{l path:List Int}(h:aW n l path=true){x:Int}(hx:x∈l):0≤x∧x<n∧path.contains x=false:=by
 unfold aW at h;have:=List.all_eq_true.1 h x hx;simp only[Bool.and_eq_true,decide_eq_true_eq,Bool.not_eq_true']at this;exact⟨this.1.1,this.1.2,this.2⟩
def lq(s:Wd):Prop:=s.path.length≤1000000000∧s.left.length≤1000000000∧∀l∈s.left,l.length≤1000000000
end Go.Inq
