/-
  Two variables of four cells, set; no program in sight.
-/
import Derived.Laws.EntriesVeiled
import Derived.Test.YtfhnamomiaekdaaGreatDoorP11
import Derived.Test.YtfhnamomiaekdaaGreatDoorP07
import Derived.Test.YtfhnamomiaekdaaGreatDoorP15
set_option linter.unusedVariables false
set_option linter.unusedSimpArgs false
namespace Go.Inq
open Go Go.RowKit
def bY(X:World)(p:Nat)(a b c d:Value):World:=(((X.setCell ⟨p,0,none⟩ a).setCell ⟨p,1,none⟩ b).setCell ⟨p,2,none⟩ c).setCell ⟨p,3,none⟩ d
section
variable{X:World}{p q:Nat}{t t':TypeId}{a b c d x y z u:Value}{cs:Array Value}
theorem aZ(h:Blk X p t #[x,y,z,u]):Blk (bY X p a b c d) p t #[a,b,c,d]:=by
 have:=(((h.aK 0 a).aK 1 b).aK 2 c).aK 3 d;unfold bY;simpa using this
theorem bn(h:Blk X q t' cs)(hn:q≠p):Blk (bY X p a b c d) q t' cs:=(((h.far (p:=⟨p,0,none⟩) hn a).far (p:=⟨p,1,none⟩) hn b).far (p:=⟨p,2,none⟩) hn c).far (p:=⟨p,3,none⟩) hn d
theorem aX:(bY X p a b c d).heap.size=X.heap.size:=by unfold bY;simp
theorem aS{K:Nat→Prop}(hK:¬K p):Agree K X (bY X p a b c d):=(((Agree.setCell ⟨p,0,none⟩ hK a).trans (Agree.setCell ⟨p,1,none⟩ hK b)).trans (Agree.setCell ⟨p,2,none⟩ hK c)).trans (Agree.setCell ⟨p,3,none⟩ hK d)
theorem aQ{B:Nat}{w:World}(h:Below B w X)(hp:B≤p):Below B w (bY X p a b c d):=(((h.setCell (p:=⟨p,0,none⟩) hp a).setCell (p:=⟨p,1,none⟩) hp b).setCell (p:=⟨p,2,none⟩) hp c).setCell (p:=⟨p,3,none⟩) hp d
end
end Go.Inq
namespace Go.Proofs.YtfhnamomiaekdaaGreatDoor
open Go.RowKit Go.Inq
set_option maxHeartbeats 4000000
attribute [local go_sem↓] Go.wp_at_zero Go.wp_at_succ
theorem qj(A:Option Addr)(c:Nat)(H:List Txn)(hn:aG H)(t key:Int)(Bh:Nat)(w:World)(h:aA w (Old w) (.slice A H.length c) H)(hBh:w.cell? ⟨Bh,0,none⟩=some (.slice A H.length c)):
 Calls Tryz.prog 144 #[.int .i64 t,.int .i64 key,.pointer (some ⟨Bh,0,none⟩)] w fun e w'=>e= .returned (.bool (wrB H t key))∧w=w':=by
 have hlen:=hn.1;by_cases h0:0≤t
 ·have h0b:decide (t≥0)=true:=(by simpa using h0);by_cases h1:t<(H.length:Int)
  ·obtain⟨m,rfl⟩:∃m:Nat,t=m:=⟨t.toNat,by omega⟩;have hm:m<H.length:=(by omega);have hr:=hide (EU (key:=key) hm);rw[aH hm]at hr;obtain⟨b,off,Aw,cw,Ar,cr,rfl,_,d0,d1,d2,hws,_⟩:=aA.at_ h hm;have hwl:=(hn.2 _ (List.getElem_mem hm)).1;generalize H[m]=x at*;obtain⟨ts,ws,rs⟩:=x;dsimp only at*;have hm1:decide (m<H.length)=true:=(by simpa using hm);have hm2:(0:Int)≤(m:Int):=Int.natCast_nonneg _;replace hn:=hide hn;clear h h0;go_enter Tryz.func144,Tryz.ntmps144;go_wp2_with fail;refine(bZ Aw cw ws key _ _ hws (by unfold maxLen;omega)).mono ?_;rintro e w3 ⟨rfl,rfl⟩;generalize ws.contains key=cb at*;go_wp2;go_ret;exact⟨by rw[hr.out];rfl,rfl⟩
  ·have hr:wrB H t key=false:=(by unfold wrB;simp;intro _ e;exact absurd e h1);have h1b:decide (t<(H.length:Int))=false:=(by simpa using h1);rw[hr];replace hn:=hide hn;clear h h0 h1 hr;go_enter Tryz.func144,Tryz.ntmps144;go_wp2;go_ret;exact⟨rfl,rfl⟩
 ·have hr:wrB H t key=false:=(by unfold wrB;simp;intro e;exact absurd e h0);have h0b:decide (t≥0)=false:=(by simpa using h0);rw[hr];replace hn:=hide hn;clear h h0 hr;go_enter Tryz.func144,Tryz.ntmps144;go_wp2;go_ret;exact⟨rfl,rfl⟩
theorem Gv(A:Option Addr)(c:Nat)(H:List Txn)(hn:aG H)(x:Cho)(Bh Bf:Nat)(w:World)(h:aA w (Old w) (.slice A H.length c) H)(hBh:w.cell? ⟨Bh,0,none⟩=some (.slice A H.length c))(hBf:w.cell? ⟨Bf,0,none⟩=some (.func (.func 144) #[] #[.pointer (some ⟨Bh,0,none⟩)])):
 Calls Tryz.prog 147 #[.agg #[.int .i64 x.key,.int .i64 x.a,.int .i64 x.b],.pointer (some ⟨Bf,0,none⟩)] w fun e w'=>e= .returned (.bool (!jC H x))∧Below w.heap.size w w':=by
 obtain⟨key,a,b⟩:=x;dsimp only;obtain⟨W0,hW0⟩:∃W0,w.alloc (.cells #[.int .i64 key,.int .i64 a,.int .i64 b] 102)=W0:=⟨_,rfl⟩;have hB:=ah (Below.refl w.heap.size w) hW0 (Nat.le_refl _);have k0:=Blk.newEq hW0;have NV:=(hB.cell (p:=⟨Bh,0,none⟩) (block_lt_of_cell hBh)).trans hBh;have QW:=(hB.cell (p:=⟨Bf,0,none⟩) (block_lt_of_cell hBf)).trans hBf;have h2:=hide (h.below hB);have c0:=Blk.n0 k0;have c1:=Blk.n1 k0;have c2:=Blk.n2 k0;replace hn:=hide hn;clear h hBh hBf;by_cases h0:a=b
 ·have hr:jC H ⟨key,a,b⟩=false:=(by unfold jC;simp[h0]);have h0b:(a==b)=true:=(by simpa using h0);rw[hr];clear h0 hr;go_enter Tryz.func147,Tryz.ntmps147;go_wp2;go_ret;exact⟨rfl,hB⟩
 ·have hr:jC H ⟨key,a,b⟩=(wrB H a key&&wrB H b key):=(by unfold jC;simp[h0]);have h0b:(a==b)=false:=(by simpa using h0);rw[hr];clear h0 hr;go_enter Tryz.func147,Tryz.ntmps147;go_wp2_with fail;clear hW0;refine(qj A c H hn.out a key Bh _ h2.out NV).mono ?_;rintro e w1 ⟨rfl,rfl⟩;cases hw:wrB H a key with
  |false=>
   replace hw:=hide hw;go_wp2;go_ret;exact⟨by rw[hw.out];rfl,hB⟩
  |true=>
   replace hw:=hide hw;go_wp2_with fail;refine(qj A c H hn.out b key Bh _ h2.out NV).mono ?_;rintro e w1 ⟨rfl,rfl⟩;go_wp2;go_ret;exact⟨by rw[hw.out];rfl,hB⟩
set_option maxRecDepth 100000 in
theorem mU(A:Option Addr)(c:Nat)(H:List Txn)(Al:Option Addr)(cl:Nat)(l:List Cho)(w:World)(h:aA w (Old w) (.slice A H.length c) H)(hn:aG H)(hl:bR w (Old w) (.slice Al l.length cl) l)(hln:l.length≤1000000000):
 Calls Tryz.prog 80 #[.agg #[.slice A H.length c],.slice Al l.length cl] w fun e w'=>e= .returned (.bool (gW H l))∧Below w.heap.size w w':=by
 obtain⟨W0,hW0⟩:∃W0,w.alloc (.cells #[.slice A H.length c] 24)=W0:=⟨_,rfl⟩;have hB:=ah (Below.refl w.heap.size w) hW0 (Nat.le_refl _);have k0:=Blk.newEq hW0;have h2:=hide (h.below hB);have hl2:=hide (hl.below hB);have c0:=Blk.n0 k0;replace hn:=hide hn;have hs0:=aD hW0;replace hs0:=hide hs0;have hrc:Hid (gW H l=(ay H&&decide (l.length≤20000)&&l.all (jC H))):=hide rfl;have hal:Hid (l.all (jC H)= !(l.any fun x=> !jC H x)):=hide (by rw[Bool.eq_iff_iff];simp);clear h hl;go_enter Tryz.func80,Tryz.ntmps80;go_wp2_with fail;clear hW0 c0;refine(dn A c H _ h2.out hn.out).mono ?_;rintro e w1 ⟨rfl,hb1⟩;replace k0:=k0.below hb1 k0.lt;have hT1:=hide (h2.out.below hb1);have hC1:=hide (hl2.out.below hb1);have hb:=hB.trans (hb1.mono hB.size);clear hb1 hB h2 hl2;cases hr:ay H with
 |false=>
  rw[hr]at hrc;clear hr;go_wp2;go_ret;exact⟨by rw[hrc.out];rfl,hb⟩
 |true=>
  rw[hr]at hrc;clear hr;by_cases hm:l.length≤20000
  ·have hm1:decide ((l.length:Int)>20000)=false:=(by simp;omega);have hm2:decide (l.length≤20000)=true:=(by simpa using hm);rw[hm2]at hrc;obtain⟨W2,hW2⟩:∃W2,w1.alloc (.cells #[.func (.func 144) #[] #[.pointer (some ⟨w.heap.size,0,none⟩)]] 224)=W2:=⟨_,rfl⟩;have hB2:=ah (Below.refl w1.heap.size w1) hW2 (Nat.le_refl _);have kF:=Blk.newEq hW2;have hT2:=hT1.out.below hB2;have hC2:=hC1.out.below hB2;have k02:=k0.av hW2;have hb2:=hb.trans (hB2.mono hb.size);have hcall:=hide (wE 147 (enters_of Tryz.func147 (by kernel_rfl) rfl) #[.pointer (some ⟨w1.heap.size,0,none⟩)] (fun x=> !jC H x) Al cl l W2 hC2 (by omega) (fun W hbW x _=>
    Gv A c H hn.out x w.heap.size w1.heap.size W (hT2.below hbW) (by have:=(k02.below hbW k02.lt).cell 0;simpa using this) (by have:=(kF.below hbW kF.lt).cell 0;simpa using this)))
   clear hm hm2 hB2 kF hT1 hC1 hT2 hC2 k0 k02;go_wp2_with fail;clear hW2;refine hcall.out.mono ?_;rintro e w3 ⟨rfl,hb3⟩;have hb4:=hb2.trans (hb3.mono hb2.size);clear hcall;go_wp2;go_ret;exact⟨by rw[hrc.out,hal.out];simp,hb4⟩
  ·have hm1:decide ((l.length:Int)>20000)=true:=(by simp;omega);have hm2:decide (l.length≤20000)=false:=(by simpa using hm);rw[hm2]at hrc;clear hm hm2;go_wp2;go_ret;exact⟨by rw[hrc.out];rfl,hb⟩
set_option maxRecDepth 100000 in
theorem rz(n:Nat)(A A':Option Addr)(c c':Nat)(E F:au)(gs:Nat)(w:World)(h:GrS w (Old w) n A c E)(h':GrS w (Old w) n A' c' F)(hgs:Blk w gs 77 #[.int .i64 n,.slice A' n c']):
 Calls Tryz.prog 96 #[.agg #[.int .i64 n,.slice A n c],.slice (some ⟨gs,0,none⟩) 1 1] w (lW w n (orE E F)):=by
 obtain⟨W0,hW0⟩:∃W0,(w.alloc (.cells #[.int .i64 n,.slice A n c] 77)).alloc (.cells #[.int .i64 0,.slice none 0 0] 77)=W0:=⟨_,rfl⟩;have hB:=aN hW0;have k0:=Blk.jg hW0;have k1:=Blk.iB hW0;have hs0:=size_two hW0;have hn:=h.n64;have hgl:=hgs.lt;replace h:=hide (h.below hB);replace h':=hide (h'.below hB);have m0:=hgs.below hB hgs.lt;clear hgs;replace hs0:=hide hs0;go_enter Tryz.func96,Tryz.ntmps96;go_wp2_with fail;clear hW0;go_loopw [9] (fun s9 wr=>∃k:Nat,s9= .int .i64 k∧((k=0∧Blk wr w.heap.size 77 #[.int .i64 n,.slice A n c]∧GrS wr (Old wr) n A c E∧GrS wr (Old wr) n A' c' F∧Blk wr gs 77 #[.int .i64 n,.slice A' n c']∧w.heap.size+2≤wr.heap.size)∨(k=1∧∃g,w.heap.size+2≤g∧Blk wr w.heap.size 77 #[.int .i64 n,.slice (some ⟨g,0,none⟩) n n]∧Blk wr g 172 (bF n (orE E F))))∧Blk wr (w.heap.size+1) 77 #[.int .i64 0,.slice none 0 0]∧Below w.heap.size w wr) (fun s9 _=>1-(intOf s9).toNat);case atStart=>exact⟨0,by go_num,.inl ⟨rfl,k0,h.out,h'.out,m0,by have:=hs0.out;omega⟩,k1,hB⟩
 case round=>
  clear k0 k1 h h' m0 hB hs0;obtain⟨k,rfl,hcase,k1,hb⟩:=hrel;rcases hcase with⟨rfl,k0,h,h',m0,hsz⟩|⟨rfl,g,hg,k0,kR⟩
  ·have d0:=m0.cell 0;have d1:=m0.cell 1;simp only[gA,gZ,gS]at d0 d1;obtain⟨W1,hW1⟩:∃W1,wr.alloc (.cells #[.int .i64 n,.slice A' n c'] 77)=W1:=⟨_,rfl⟩;have hB1:=ah (Below.refl wr.heap.size wr) hW1 (Nat.le_refl _);have kM:=Blk.newEq hW1;have ha:=hide (h.below hB1);have hb':=hide (h'.below hB1);have k01:=k0.below hB1 k0.lt;have k11:=k1.below hB1 k1.lt;have hb2:=hb.trans (hB1.mono hb.size);have hsz1:=aD hW1;have a0:=Blk.n0 k01;have a1:=Blk.n1 k01;have e0:=Blk.n0 kM;have e1:=Blk.n1 kM;clear h h' k0 k1 hb m0 hB1;replace hsz1:=hide hsz1;go_wp2_with fail;clear d0 d1 e0 e1 a0 a1 hW1;refine(rW n A A' c c' E F (Old W1) _ ha.out hb'.out (fun b hb=>hb)).mono ?_;rintro e W2 ⟨g,hg,rfl,kR,hb3⟩;have k02:=k01.below hb3 k01.lt;have k12:=k11.below hb3 k11.lt;have hb4:=hb2.trans (hb3.mono hb2.size);have c0:=Blk.n0 k02;have c1:=Blk.n1 k02;have f0:=k02.frozen 0;have f1:=k02.frozen 1;have hg2:w.heap.size+2≤g:=(by have:=hsz1.out;omega);have n1:g≠w.heap.size:=(by omega);have n2:w.heap.size+1≠w.heap.size:=(by omega);go_wp2;go_roundw;case rel=>
    refine⟨1,by go_num,.inr ⟨rfl,g,hg2,?_,(kR.far (p:=⟨w.heap.size,0,none⟩) n1 _).far (p:=⟨w.heap.size,1,none⟩) n1 _⟩,(k12.far (p:=⟨w.heap.size,0,none⟩) n2 _).far (p:=⟨w.heap.size,1,none⟩) n2 _,(hb4.setCell (p:=⟨w.heap.size,0,none⟩) (by simp) _).setCell (p:=⟨w.heap.size,1,none⟩) (by simp) _⟩;have:=(k02.aK 0 (.int .i64 n)).aK 1 (.slice (some ⟨g,0,none⟩) n n);simpa using this
   case measure=>simp[intOf]
  ·have c0:=k0.cell 0;have c1:=k0.cell 1;have j0:=k1.cell 0;have j1:=k1.cell 1;have jf:=k1.frozen 0;have jf1:=k1.frozen 1;simp only[gA,gZ,gS]at c0 c1 j0 j1;have n1:g≠w.heap.size+1:=(by omega);go_wp2;exact bodyPost_ret (v:= .agg #[.int .i64 n,.slice (some ⟨g,0,none⟩) n n]) (by simp[results,Tryz.results96,go_sem,j0,j1]) rfl ⟨g,by omega,rfl,(kR.far (p:=⟨w.heap.size+1,0,none⟩) n1 _).far (p:=⟨w.heap.size+1,1,none⟩) n1 _,(hb.setCell (p:=⟨w.heap.size+1,0,none⟩) (by simp) _).setCell (p:=⟨w.heap.size+1,1,none⟩) (by simp) _⟩
theorem JE{l:List Cho}{k:Nat}(hk:k<l.length){a b:Nat}(ha:l[k].a=a)(hb:l[k].b=b):orE (wwE (l.take k)) (iQ a b)=wwE (l.take (k+1)):=by
 funext x y;unfold orE wwE iQ;rw[take_snoc' hk,List.any_append];simp only[List.any_cons,List.any_nil,Bool.or_false,ha,hb];congr 1;rw[Bool.eq_iff_iff];simp;omega
theorem Lc:wwE []=noE:=by funext x y;simp[wwE,noE]
theorem dG.open{W:World}{Bg base n:Nat}{E:au}(h:dG W Bg base n E)(hn:n≤64):∃g,base≤g∧g≠Bg∧g<W.heap.size∧Blk W Bg 77 #[.int .i64 n,.slice (some ⟨g,0,none⟩) n n]∧Blk W g 172 (bF n E)∧GrS W (fun b=>b=g) n (some ⟨g,0,none⟩) n E:=by
 obtain⟨g,h1,h2,h3⟩:=h;refine⟨g,h1,?_,h3.lt,h2,h3,GrS.bW h3 rfl hn⟩;rintro rfl;have:=h2.symm.trans h3;simp at this
theorem uT{H:List Txn}{l:List Cho}(h:gW H l=true){x:Cho}(hx:x∈l):∃a b:Nat,x.a=a∧x.b=b∧a<H.length∧b<H.length:=by
 unfold gW at h;rw[Bool.and_eq_true,List.all_eq_true]at h;obtain⟨a,b,h1,h2,_,h3,h4,_⟩:=pV.1 (h.2 x hx);exact⟨a,b,h1,h2,h3,h4⟩
theorem mV{H:List Txn}{l:List Cho}(h:gW H l=true):ay H=true:=by
 unfold gW at h;rw[Bool.and_eq_true,Bool.and_eq_true]at h;exact h.1.1
theorem oQ{H:List Txn}{l:List Cho}(h:gW H l=true):l.length≤20000:=by
 unfold gW at h;rw[Bool.and_eq_true,Bool.and_eq_true]at h;exact of_decide_eq_true h.1.2
set_option maxRecDepth 100000 in
theorem JF(A:Option Addr)(c:Nat)(H:List Txn)(Al:Option Addr)(cl:Nat)(l:List Cho)(w:World)(h:aA w (Old w) (.slice A H.length c) H)(hn:aG H)(hl:bR w (Old w) (.slice Al l.length cl) l)(hr:gW H l=true):
 Calls Tryz.prog 98 #[.agg #[.slice A H.length c],.slice Al l.length cl] w (lW w H.length (wwE l)):=by
 obtain⟨W0,hW0⟩:∃W0,(w.alloc (.cells #[.slice A H.length c] 24)).alloc (.cells #[.int .i64 0,.slice none 0 0] 77)=W0:=⟨_,rfl⟩;have hB:=aN hW0;have k0:=Blk.jg hW0;have k1:=Blk.iB hW0;have hs0:=size_two hW0;have h32:H.length≤32:=((aC H).1 (mV hr)).1;have hll:=oQ hr;have hcn:=hide (fun x hx=>uT hr (x:=x) hx);have h0:=hide (h.below hB);have hl0:=hide (hl.below hB);replace hr:=hide hr;replace hn:=hide hn;replace hl:=hide hl;clear h;have c0:=Blk.n0 k0;replace hs0:=hide hs0;go_enter Tryz.func98,Tryz.ntmps98;go_wp2_with fail;clear hW0 c0;refine(mU A c H Al cl l _ h0.out hn.out hl0.out (by omega)).mono ?_;rintro e w1 ⟨rfl,hb1⟩;rw[hr.out];have hs1:w.heap.size+2≤w1.heap.size:=(by have:=hb1.size;have:=hs0.out;omega);replace k0:=k0.below hb1 k0.lt;replace k1:=k1.below hb1 k1.lt;have hb2:=hB.trans (hb1.mono hB.size);clear hb1 hB h0 hl0 hs0;have c0:=Blk.n0 k0;go_wp2_with fail;refine(iZ H.length (by omega) _).mono ?_;rintro e w2 ⟨g,hgs,rfl,kR,hb3⟩;replace k1:=k1.below hb3 k1.lt;replace hb2:=hb2.trans (hb3.mono hb2.size);have hs2:w1.heap.size≤w2.heap.size:=hb3.size;obtain⟨W3,hW3⟩:∃W3,w2.alloc (.cells #[.int .i64 H.length,.slice (some ⟨g,0,none⟩) H.length H.length] 77)=W3:=⟨_,rfl⟩;have k3:=Blk.newEq hW3;have hs3:=aD hW3;replace k1:=k1.av hW3;replace kR:=kR.av hW3;have hb5:=ah hb2 hW3 (by omega);have aV:dG W3 w2.heap.size (w.heap.size+2) H.length (wwE (l.take 0)):=⟨g,by omega,k3,by rw[List.take_zero,Lc];exact kR⟩;have hl3:=hide (fun W' (hg:W3.grownBy W' (some w2.heap.size))=>hl.out.keep (K':=Old w) ((Agree.below hb5 (fun b h=>h)).trans (Agree.grown hg fun b hb=>by have:b<w.heap.size:=hb;exact⟨by omega,by simp;omega⟩)) (fun b h=>h));replace hs3:=hide hs3;clear hb3 c0 k0 k3 kR hb2;go_wp2_with fail;clear hW3;go_loopw [23] (fun s23 wr=>∃k:Nat,k≤l.length∧s23= .int .i64 k∧dG wr w2.heap.size (w.heap.size+2) H.length (wwE (l.take k))∧W3.grownBy wr (some w2.heap.size)) (fun s23 _=>l.length-(intOf s23).toNat);case atStart=>exact⟨0,Nat.zero_le _,by go_num,aV,World.grownBy.refl _ _⟩
 case round=>
  clear aV;obtain⟨k,hk,rfl,aV,hgw⟩:=hrel;have hi1:(0:Int)≤(k:Int):=Int.natCast_nonneg _;by_cases hlt:k<l.length
  ·have hi2:(k:Int)<(l.length:Int):=(by omega);obtain⟨b,off,rfl,_,d0,d1,d2⟩:=(hl3.out wr hgw).at_ hlt;obtain⟨xa,xb,ha,hb,ha2,hb2⟩:=hcn.out _ (List.getElem_mem hlt);have hst:=hide (JE hlt ha hb);rw[ha]at d1;rw[hb]at d2;generalize l[k]=x at*;obtain⟨key,ya,yb⟩:=x;dsimp only at*;clear ha hb;obtain⟨W4,hW4⟩:∃W4,wr.alloc (.cells #[.int .i64 key,.int .i64 xa,.int .i64 xb] 102)=W4:=⟨_,rfl⟩;have kC:=Blk.newEq hW4;have hg4:W3.grownBy W4 (some w2.heap.size):=(by rw[←hW4];exact aj hgw (World.grownBy_alloc _ _ _));have E5:dG W4 w2.heap.size (w.heap.size+2) H.length (wwE (l.take k)):=(by rw[←hW4];exact aV.grown (r:=none) (World.grownBy_alloc _ _ _) (fun k e=>by cases e));obtain⟨g',hg',nX,hgl,kB,kR,hG⟩:=E5.open (by omega);have b0:=Blk.n0 kB;have b1:=Blk.n1 kB;have e1:=Blk.n1 kC;have e2:=Blk.n2 kC;go_wp2_with fail;clear d0 d1 d2 b0 b1 e1 e2 hW4;refine(qZ H.length (some ⟨g',0,none⟩) H.length _ xa xb ha2 hb2 (fun b=>b=g') _ hG (fun b hb=>by subst hb;exact hgl)).mono ?_;rintro e w5 ⟨g5,Pz,rfl,kR5,JG⟩;have kB5:=kB.below JG kB.lt;have c0:=Blk.n0 kB5;have c1:=Blk.n1 kB5;have f0:=kB5.frozen 0;have f1:=kB5.frozen 1;have hBl:=kB.lt;have PD:=hg4.size;go_wp2;go_roundw;case rel=>
    refine⟨k+1,by omega,by go_num,⟨g5,by omega,?_,?_⟩,aj hg4 (aj (aj (bC JG (Nat.le_refl _)) (bI w2.heap.size 0 _)) (bI w2.heap.size 1 _))⟩
    ·have:=(kB5.aK 0 (.int .i64 H.length)).aK 1 (.slice (some ⟨g5,0,none⟩) H.length H.length);simpa using this
    ·rw[←hst.out];exact(kR5.far (p:=⟨w2.heap.size,0,none⟩) (by simp;omega) _).far (p:=⟨w2.heap.size,1,none⟩) (by simp;omega) _
   case measure=>simp[intOf];omega
  ·obtain rfl:k=l.length:=(by omega);rw[List.take_length]at aV;obtain⟨g',hg',nX,hgl,kB,kR,hG⟩:=aV.open (by omega);have k14:=k1.grown hgw (by simp;omega);have hb4:=below_grown hb5 hgw hb5.size (by intro k hk;injection hk with hk;omega);have c0:=Blk.n0 kB;have c1:=Blk.n1 kB;have j0:=Blk.n0 k14;have j1:=Blk.n1 k14;have jf:=k14.frozen 0;have jf1:=k14.frozen 1;have n1:g'≠w.heap.size+1:=(by omega);go_wp2;have kF0:=((kR.far (p:=⟨w.heap.size+1,0,none⟩) n1 (.int .i64 H.length)).far (p:=⟨w.heap.size+1,1,none⟩) n1 (.slice (some ⟨g',0,none⟩) H.length H.length));have hF:=((hb4.setCell (p:=⟨w.heap.size+1,0,none⟩) (by simp) (.int .i64 H.length)).setCell (p:=⟨w.heap.size+1,1,none⟩) (by simp) (.slice (some ⟨g',0,none⟩) H.length H.length));exact bodyPost_ret (v:= .agg #[.int .i64 H.length,.slice (some ⟨g',0,none⟩) H.length H.length]) (by simp[results,Tryz.results98,go_sem,j0,j1]) rfl ⟨g',by omega,rfl,kF0,hF⟩
end Go.Proofs.YtfhnamomiaekdaaGreatDoor
