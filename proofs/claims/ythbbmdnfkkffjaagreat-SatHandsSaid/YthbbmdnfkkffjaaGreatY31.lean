/-
  Parts of the proof, joined by program: Add, Pi35.
-/
import Derived.Test.YthbbmdnfkkffjaaGreatY29
import Derived.Test.YthbbmdnfkkffjaaGreatY30
import Derived.Test.YthbbmdnfkkffjaaGreatY01
import Derived.Lib.Hide
set_option maxHeartbeats 8000000
set_option maxRecDepth 100000
namespace Go.Proofs.YthbbmdnfkkffjaaGreat
open Go.RowKit Go.Proofs.aC Go.Proofs.au Go.Proofs.aA
def Cz:SM→List Int→Prop
 | _,[]=>True
 | S,x :: r=>qw (aJ x/2+1-S.value.length) S∧aJ x/2<(S.grow (aJ x/2)).occurs.length∧(S.grow (aJ x/2)).occurs.length≤100000∧Cz { S.grow (aJ x/2) with occurs:=(S.grow (aJ x/2)).occurs.set (aJ x/2) true } r
structure Rw (S:SM) (l:List Int):Prop where
 len:l.length≤900000
 lits:∀ x∈l,x.natAbs≤65536
 words:S.words≤1000000000
 given:S.given.length≤900000
 ok:¬ S.most<S.words+l.length+2→Cz { S with words:=S.words+(l.length+2),given:=S.given++[l] } l
theorem mY (S:SM) (x:Int) (r:List Int):SM.gP S (x :: r)=SM.gP { S.grow (aJ x/2) with occurs:=(S.grow (aJ x/2)).occurs.set (aJ x/2) true } r:=rfl
section
variable {B:Nat} {w0 w:World} {p:Nat} {M:MM} {F:HP}
theorem Vq (h:At B w0 w p M F) (hl:M.core.xs.length≤1000000) :
  Calls Tryz.prog 46 #[.pointer (some ⟨p,0,none⟩)] w fun e w'=>∃ a c',e=.returned (iB a M.sv.core.length c')∧St w.heap.size w w' (bO 3 a c' M.sv.core):=by
 obtain⟨n,hn⟩:∃ n,M.core.xs.length=n:=⟨_,rfl⟩;have hrd:Rd w (M.core.a.map fun b=>⟨b,0,none⟩) M.core.xs.length M.core.xs:=St.rd (t:=3) (c:=M.core.c) h.Wx (by omega);have hc:=qZ _ _ M.core.c _ w hrd hl;have c1:=h.uw;rw[hn] at c1 hc;have HC:=zH hc;have HN:=zH hn;clear h hrd hc hn
 go_enter Tryz.func46,Tryz.ntmps46
 go_wp2_with fail
 refine HC.out.mono ?_
 rintro e w' ⟨a,c',rfl,h2⟩
 have H2:=zH h2;clear h2
 go_wp2
 go_ret
 exact⟨a,c',by rw[show M.sv.core.length=n from HN.out];rfl,H2.out⟩
theorem Y6 (A:Option Addr) (n ca:Nat) (xs:List Int) (h:At B w0 w p M F) (hst:fM B w0 F A n xs) (hok:Rw M.sv xs) :
  Calls Tryz.prog 43 #[.pointer (some ⟨p,0,none⟩),.slice A n ca] w fun e w'=>e=.returned (.bool (M.sv.add xs).2)∧∃ M',At B w0 w' p M' F∧M'.sv=(M.sv.add xs).1:=by
 have hn:xs.length=n:=(At.YD hst h).len;have hnb:n≤900000:=by rw[←hn];exact hok.len
 have HRM:=zH (Js n h (by omega) hok.words);have H:=zH h;have HST:=zH hst;have HN:=zH hn;have fA:=zH hok;clear h hst hn hok
 go_enter Tryz.func43,Tryz.ntmps43
 go_wp2_with fail
 refine HRM.out.mono ?_
 rintro e w1 ⟨rfl,hd⟩
 have H1:=zH (H.out.drawn hd);clear hd HRM
 by_cases hroom:M.words+n+2≤M.most
 ·have hb:decide (M.words+n+2≤M.most)=true:=by simpa using hroom
  have hb2:¬ M.sv.most<M.sv.words+xs.length+2:=by show ¬ M.most<M.words+xs.length+2;rw[HN.out];omega
  obtain⟨wd,hwd⟩:∃ x,M.words=x:=⟨_,rfl⟩;have hwb:wd≤1000000000:=by rw[←hwd];exact fA.out.words
  have c2:=H1.out.Dq;rw[hwd] at c2;have f2:=H1.out.fz 2;have hok2:=fA.out.ok hb2
  have hadd:M.sv.add xs=(SM.gP { M.sv with words:=wd+(n+2),given:=M.sv.given++[xs] } xs,true):=by
   unfold SM.add;rw[if_neg hb2,show M.sv.words=wd from hwd,HN.out]
  rw[show M.sv.words=wd from hwd,HN.out] at hok2;have h2:=H1.out.Bg (wd+(n+2));rw[show ((wd+(n+2):Nat):Int)=(wd:Int)+((n:Int)+2) by omega] at h2;have H2:=zH h2;clear h2;have Y7:=zH hadd;have ama:=zH hok2;clear hwd hb2 hok2 hadd hroom
  go_upto_region 4 with fail
  clear c2 f2;revert H2;generalize w1.setCell ⟨p,2,none⟩ (.int .i64 ((wd:Int)+((n:Int)+2)))=w2;intro H2;obtain⟨M2,hM2⟩:∃ M2,M.Dn (wd+(n+2))=M2:=⟨_,rfl⟩;rw[hM2] at H2;obtain⟨ng,hng⟩:∃ n,M2.given.xs.length=n:=⟨_,rfl⟩
  have hngb:ng≤900000:=by
   have h9:=fA.out.given;rw[show M.sv.given.length=M.given.xs.length by show (M.given.xs.map _).length=_;rw[List.length_map]] at h9;rw[←hng,←hM2];exact h9
  have hs2:∀ g:Fl (Fl Int),(g.xs.map (·.xs))=M.sv.given++[xs]→MM.sv (M2.Ko g)={ M.sv with words:=wd+(n+2),given:=M.sv.given++[xs] }:=by
   intro g hg;rw[←hM2,←hg];rfl
  have hgm:M2.given.xs.map (·.xs)=M.sv.given:=by rw[←hM2];rfl
  have c3:=H2.out.rM;rw[hng] at c3;have jW:=zH (qZ A n ca xs w2.drew (At.YD HST.out (H2.out.drewN 1)) (by omega));have HNG:=zH hng;have HS2:=zH hs2;have HGM:=zH hgm;clear hng hs2 hgm hM2 H1;refine dn 11 (fun V:World=>V.cell? ⟨p,3,none⟩=some (.slice (M2.given.a.map fun b=>⟨b,0,none⟩) ng M2.given.c)) (by kernel_rfl) ?_;have bB:(fun V:World=>V.cell? ⟨p,3,none⟩=some (.slice (M2.given.a.map fun b=>⟨b,0,none⟩) ng M2.given.c)) w2.drew:=c3;refine ay (i:=0) (v:=?v1) rfl (by kernel_rfl) (by kernel_rfl) (by kernel_rfl) (by kernel_rfl) (fun _ _ _ h=>h) rfl ?hy1 bB ?_
  case hy1 =>
   intro V aF
   try dsimp only at aF
   first | (obtain⟨aS,aT,cK⟩:=aF) | (obtain⟨aS,aT⟩:=aF) | skip
   go_simp
   try with_reducible rfl
  try simp only[Act.put,List.setIfInBounds_toArray,List.set_cons_zero,List.set_cons_succ]
  refine ay (i:=1) (v:=?v2) rfl (by kernel_rfl) (by kernel_rfl) (by kernel_rfl) (by kernel_rfl) (fun _ _ _ h=>h) rfl ?hy2 bB ?_
  case hy2 =>
   intro V aF
   try dsimp only at aF
   first | (obtain⟨aS,aT,cK⟩:=aF) | (obtain⟨aS,aT⟩:=aF) | skip
   go_simp
   try with_reducible rfl
  try simp only[Act.put,List.setIfInBounds_toArray,List.set_cons_zero,List.set_cons_succ]
  refine ay (i:=2) (v:=?v3) rfl (by kernel_rfl) (by kernel_rfl) (by kernel_rfl) (by kernel_rfl) (fun _ _ _ h=>h) rfl ?hy3 bB ?_
  case hy3 =>
   intro V aF
   try dsimp only at aF
   first | (obtain⟨aS,aT,cK⟩:=aF) | (obtain⟨aS,aT⟩:=aF) | skip
   go_simp
   try with_reducible rfl
  try simp only[Act.put,List.setIfInBounds_toArray,List.set_cons_zero,List.set_cons_succ]
  refine ay (i:=3) (v:=?v4) rfl (by kernel_rfl) (by kernel_rfl) (by kernel_rfl) (by kernel_rfl) (fun _ _ _ h=>h) rfl ?hy4 bB ?_
  case hy4 =>
   intro V aF
   try dsimp only at aF
   first | (obtain⟨aS,aT,cK⟩:=aF) | (obtain⟨aS,aT⟩:=aF) | skip
   go_simp
   try with_reducible rfl
  try simp only[Act.put,List.setIfInBounds_toArray,List.set_cons_zero,List.set_cons_succ]
  refine ay (i:=4) (v:=?v5) rfl (by kernel_rfl) (by kernel_rfl) (by kernel_rfl) (by kernel_rfl) (fun _ _ _ h=>h) rfl ?Qx bB ?_
  case Qx =>
   intro V aF
   try dsimp only at aF
   first | (obtain⟨aS,aT,cK⟩:=aF) | (obtain⟨aS,aT⟩:=aF) | skip
   go_simp
   try with_reducible rfl
  try simp only[Act.put,List.setIfInBounds_toArray,List.set_cons_zero,List.set_cons_succ]
  refine ay (i:=5) (v:=?v6) rfl (by kernel_rfl) (by kernel_rfl) (by kernel_rfl) (by kernel_rfl) (fun _ _ _ h=>h) rfl ?Ih bB ?_
  case Ih =>
   intro V aF
   try dsimp only at aF
   first | (obtain⟨aS,aT,cK⟩:=aF) | (obtain⟨aS,aT⟩:=aF) | skip
   go_simp
   try with_reducible rfl
  try simp only[Act.put,List.setIfInBounds_toArray,List.set_cons_zero,List.set_cons_succ]
  refine bf (i:=6) (by kernel_rfl) rfl (fun K hK=>?_)
  go_simp
  refine jW.out.mono ?_
  rintro e w3 ⟨a,c',rfl,h4⟩
  rw[HN.out];have h5:At B w0 w3 p M2 (star ((⟨a,c',xs⟩:Fl Int).hp 3 vI) F):=(H2.out.drewN 1).nest h4;have H5:=zH h5;have t3:=h5.Ta;rw[HNG.out] at t3;have HT3:=zH t3;have HL3:=zH h5.bA
  have yw:(fun V:World=>V.cell? ⟨p,3,none⟩=some (.slice (M2.given.a.map fun b=>⟨b,0,none⟩) ng M2.given.c)) w3:=by
   have h9:=h5.rM;rw[HNG.out] at h9;exact h9
  have Ie:=zH (show (⟨a,c',xs⟩:Fl Int).v=.slice (a.map fun b=>⟨b,0,none⟩) n c' by unfold Fl.v;rw[HN.out]);clear h4 h5 t3 jW;unfold iB;refine hK _ _ yw ?_;clear hK K
  try simp only[Act.put,List.setIfInBounds_toArray,List.set_cons_zero,List.set_cons_succ]
  refine bf (i:=7) (by kernel_rfl) rfl (fun K hK=>?_)
  go_simp
  refine hK _ _ ((World.cell?_alloc_some w3 ⟨p,3,none⟩ (Obj.cells #[Value.slice (a.map fun b=>⟨b,0,none⟩) n c'] 27) (by rw[yw];rfl)).trans yw) ?_;clear hK K
  try simp only[Act.put,List.setIfInBounds_toArray,List.set_cons_zero,List.set_cons_succ]
  refine bf (i:=8) (by kernel_rfl) rfl (fun K hK=>?_);refine bN (by rfl) _ _ 37 27 (.slice none 0 0) 24 (by rfl) Tryz.underlying37 Tryz.jB rfl (HT3.out.alloc _) (by rfl) w3.heap.size (.slice (a.map fun b=>⟨b,0,none⟩) n c') (by rfl) (fJ w3 _ _) rfl (by omega) (by simp only[maxLen];omega) ?_;intro b' c'' w5 hs _;obtain⟨⟨k5,k6⟩,k7⟩:=At.Ia (M:=M2) (r:=⟨a,c',xs⟩) HL3.out HNG.out (Ie.out▸hs);have A9:(fun V:World=>V.cell? ⟨p,3,none⟩=some (.slice (M2.given.a.map fun b=>⟨b,0,none⟩) ng M2.given.c)) w5:=k5;have H7:=zH k7;clear hs k7;refine hK _ _ A9 ?_;clear hK K
  try simp only[Act.put,List.setIfInBounds_toArray,List.set_cons_zero,List.set_cons_succ]
  refine bf (i:=9) (by kernel_rfl) rfl (fun K hK=>?_)
  go_simp
  refine hK _ _ (A9) ?_;clear hK K
  try simp only[Act.put,List.setIfInBounds_toArray,List.set_cons_zero,List.set_cons_succ]
  refine bf (i:=10) (by kernel_rfl) rfl (fun K hK=>?_)
  go_simp
  refine hK _ _ (A9) ?_;clear hK K
  try simp only[Act.put,List.setIfInBounds_toArray,List.set_cons_zero,List.set_cons_succ]
  refine iy (by kernel_rfl) rfl (by kernel_rfl) (fun K hK=>?_)
  go_simp
  refine hK _ _ ?_;clear hK K;clear bB yw A9 c3 k5 k6 H5 HT3 HL3 H2;revert H7;generalize w5.setCell ⟨p,3,none⟩ (.slice (some ⟨b',0,none⟩) (ng+1) c'')=w7;intro H7;obtain⟨M3,zJ⟩:∃ M3,M2.Ko ⟨some b',c'',M2.given.xs++[⟨a,c',xs⟩]⟩=M3:=⟨_,rfl⟩
  have hs3:MM.sv M3={ M.sv with words:=wd+(n+2),given:=M.sv.given++[xs] }:=by
   rw[←zJ];exact HS2.out _ (by rw[List.map_append,HGM.out];rfl)
  rw[zJ] at H7;have Hy:=zH hs3;clear hs3 zJ HS2 HGM HNG Ie
  go_wp2
  go_loopg [36] n (fun g s36 wr=>∃ (k:Nat) (N:MM),s36=.int .i64 k∧k≤n∧Hid (g=n-k)∧Hid (At B w0 wr p N F)∧Hid (SM.gP N.sv (xs.drop k)=(M.sv.add xs).1∧Cz N.sv (xs.drop k)))
  case atStart=>exact⟨0,M3,rfl,Nat.zero_le _,rfl,H7.out,zH ⟨by rw[Hy.out,Y7.out];rfl,by rw[Hy.out];exact ama.out⟩⟩
  case round =>
   clear H7 Hy;obtain⟨k,N,rfl,hkn,hg,H8,HG⟩:=hrel
   by_cases hkl:k<n
   ·have e1:decide ((k:Int)<(n:Int))=true:=by simp;omega
    obtain⟨b,o,rfl,hc⟩:=(At.YD HST.out H8.out).cells (by omega);obtain⟨x,hx⟩:∃ x,gi xs k=x:=⟨_,rfl⟩;have k3:=hc k hkl;rw[hx] at k3;have hkx:k<xs.length:=by rw[HN.out];exact hkl
    have hxm:x∈xs:=by rw[←hx,dh _ _ hkx];exact List.getElem_mem hkx
    have hxl:=fA.out.lits x hxm;have hdr:xs.drop k=x :: xs.drop (k+1):=by rw[←hx,dh _ _ hkx];exact List.drop_eq_getElem_cons hkx
    have hg1:=HG.out;rw[hdr,mY] at hg1;obtain⟨g1,g2,g3,g4,g5⟩:=hg1;have hpb:aJ x≤131073:=by unfold aJ;split <;> omega
    have Rl:=zH (fun V=>uK x V (by omega) (by omega));have qQ:=zH (fun V=>pQ (aJ x) V (by omega));have KD:=zH (Fh (aJ x/2) H8.out g2 (by omega));obtain⟨q,hq⟩:∃ q,aJ x/2=q:=⟨_,rfl⟩;obtain⟨l,hl⟩:∃ l,aJ x=l:=⟨_,rfl⟩;rw[hq] at qQ KD g1 g3 g4 g5;rw[hl] at Rl qQ;have Jb:=zH g1;have HG3:=zH g3;have HG4:=zH g4;have HG5:=zH g5;have p0:(0:Int)≤(k:Int):=by omega
    have p1:(k:Int)<(n:Int):=by omega
    clear g1 g2 g3 g4 g5 hx hkx hxm hxl hdr hc hpb hq hl HG
    go_wp2_with fail
    refine (Rl.out _).mono ?_
    rintro e w2 ⟨rfl,rfl⟩
    go_wp2_with fail
    refine (qQ.out _).mono ?_
    rintro e w2 ⟨rfl,rfl⟩
    go_wp2_with fail
    refine KD.out.mono ?_
    rintro e w3 ⟨rfl,N3,h3,h4⟩
    obtain⟨no,hno⟩:∃ n,N3.occurs.xs.length=n:=⟨_,rfl⟩;have ho3:N3.occurs.xs=(N.sv.grow q).occurs:=congrArg SM.occurs h4;have hq3:q<no:=by rw[←hno,ho3];exact HG3.out
    have MI:no≤100000:=by rw[←hno,ho3];exact HG4.out
    obtain⟨bo,hbo⟩:=h3.Ma (by omega);obtain⟨k4,f4⟩:=h3.Mc hbo (i:=q) (x:=gB N3.occurs.xs q) (jy _ _ (by omega));simp only[vB] at k4;have c11:=h3.D5;rw[hbo,hno] at c11;simp only[Option.map_some] at c11;have H9:=zH (show At B w0 (w3.setCell ⟨bo,q,none⟩ (.bool true)) p (N3.dZ ⟨N3.occurs.a,N3.occurs.c,N3.occurs.xs.set q true⟩) F from h3.Ql hbo (by omega) true)
    have hs9:MM.sv (N3.dZ ⟨N3.occurs.a,N3.occurs.c,N3.occurs.xs.set q true⟩)={ N.sv.grow q with occurs:=(N.sv.grow q).occurs.set q true }:=by
     rw[←ho3,←h4];rfl
    have A9:=zH hs9;have q0:(0:Int)≤(q:Int):=by omega
    have q1:(q:Int)<(no:Int):=by omega
    clear h3 h4 hno ho3 hbo hs9 KD k3
    go_wp2
    go_roundg (n-(k+1))
    case measure=>have:=hg.out;omega
    case rel=>exact⟨k+1,_,by go_num,by omega,rfl,H9.out,zH ⟨by rw[A9.out];exact Jb.out,by rw[A9.out];exact HG5.out⟩⟩
   ·obtain rfl:k=n:=by omega
    have e1:decide ((k:Int)<(k:Int))=false:=by simp
    have hR:(M.sv.add xs).1=N.sv:=by have h9:=HG.out.1;rw[List.drop_of_length_le (by rw[HN.out];exact Nat.le_refl _)] at h9;exact h9.symm
    have HR:=zH hR;have HR2:=zH (show (M.sv.add xs).2=true by rw[Y7.out]);clear hR HG hg
    go_wp2
    go_ret
    exact⟨by rw[HR2.out];rfl,N,H8.out,HR.out.symm⟩
 ·have hb:decide (M.words+n+2≤M.most)=false:=by simpa using hroom
  have Y7:=zH (show M.sv.add xs=(M.sv,false) by unfold SM.add;rw[if_pos (show M.sv.most<M.sv.words+xs.length+2 by show M.most<M.words+xs.length+2;rw[HN.out];omega)]);clear hroom
  go_wp2
  go_ret
  exact⟨by rw[Y7.out];rfl,M,H1.out,by rw[Y7.out]⟩
end
end Go.Proofs.YthbbmdnfkkffjaaGreat
namespace Go.Proofs.YthbbmdnfkkffjaaGreat
open Go.Proofs.au Go.Proofs.aA
def blank (most conf:Nat):SM:={ most:=most,conf:=conf,words:=0,given:=[],fresh:=0,cls:=[],aj:=[],value:=[],level:=[],reason:=[],phase:=[],occurs:=[],trail:=[],ends:=[],next:=0,hl:=[],place:=[],met:=[],learned:=[],steps:=[],units:=[],model:=[],core:=[],last:=[],told:=0 }
theorem Vr (words conf:Int):SM.new words conf=(blank (min (max words 1) 262144).toNat (min (max conf 1) 2000).toNat).grow 0:=rfl
theorem Y8 {most conf:Nat} (hm:most≤262144) (h1:1≤conf) (hc:conf≤2000):Zs 0 (blank most conf):=by
 have hno:∀ {r:Nat},¬ r<(blank most conf).cls.length:=fun {r} k=>by simp[blank] at k
 refine⟨⟨rfl,⟨fun r hr=>absurd hr hno,by simp[blank],by simp[blank],hm,Nat.le_refl _,by simp[blank],by omega⟩,fun c hcc=>by simp[blank] at hcc,by simp[blank],fun i hi=>by simp[blank] at hi,fun a _ r hr=>absurd hr hno,hc,h1,fun c hcc=>(by simp[blank] at hcc),fun V _ r hr=>absurd hr hno⟩,?_,.inl fun r hr=>absurd hr hno,by simp[blank]⟩
 refine⟨⟨⟨rfl,rfl,rfl,rfl,rfl,rfl⟩,fun x hx=>by simp[blank,nx] at hx,fun i hi=>by simp[blank,nx] at hi,fun i hi=>by simp[blank,nx] at hi,fun i hi=>by simp[blank,nx] at hi,fun i hi=>by simp[blank,nx] at hi,fun i j hi=>by simp[blank,nx] at hi,fun v hv=>by simp[blank,nx] at hv,fun e he=>by simp[blank,nx] at he,List.Pairwise.nil,fun i hi=>by simp[blank,nx] at hi⟩,⟨fun r hr=>absurd hr hno,fun r hr=>absurd hr hno⟩,⟨fun l=>?_,fun l r=>?_⟩,⟨⟨⟨by simp[blank,nx],fun x hx=>by simp[blank,nx] at hx,rfl,rfl,Nat.le_refl _⟩,fun i hi=>by simp[blank,nx] at hi,fun v hv=>by simp[blank,nx] at hv⟩,by simp[blank,nx],fun v h0 hv=>by simp[blank,nx] at hv⟩,fun r hr=>absurd hr hno,Nat.zero_le _,fun e he=>by simp[blank,nx] at he⟩
 ·have:gN (nx (blank most conf) 0).aj l=[]:=Yv (Nat.zero_le _);rw[this];exact List.nodup_nil
 ·have:gN (nx (blank most conf) 0).aj l=[]:=Yv (Nat.zero_le _);rw[this]
  constructor
  ·intro k;cases k
  ·intro k;exact absurd k.1 hno
theorem BL (words conf:Int):Zs 0 (SM.new words conf)∧0<(SM.new words conf).value.length:=by
 rw[Vr];obtain⟨_,b,_,d⟩:=(Y8 (most:=(min (max words 1) 262144).toNat) (conf:=(min (max conf 1) 2000).toNat) (by omega) (by omega) (by omega)).grow (v:=0) (by omega);exact⟨b,d⟩
def wg (S:SM) (w:Nat) (g:List (List Int)):SM:={ S with words:=w,given:=g }
theorem TN (w:Nat) (g:List (List Int)):∀ (f:Nat) (S:SM) (v i:Nat),SM.ji f (wg S w g) v i=wg (SM.ji f S v i) w g
 | 0,_,_,_=>rfl
 | f+1,S,v,i=>by
  rw[SM.ji,SM.ji];have e1:(decide (0<i)&&(wg S w g).ahead v (gn (wg S w g).hl ((i-1)/2)))=(decide (0<i)&&S.ahead v (gn S.hl ((i-1)/2))):=rfl;rw[e1]
  split
  ·exact TN w g f (S.lay i (gn S.hl ((i-1)/2))) v _
  ·rfl
theorem aeS (S:SM) (w:Nat) (g:List (List Int)) (v:Nat):(wg S w g).put v=wg (S.put v) w g:=by
 unfold SM.put;show (if gn S.place v=0 then _ else _)=_
 split
 ·exact TN w g _ { S with hl:=S.hl++[v] } _ _
 ·rfl
theorem TP (S:SM) (w:Nat) (g:List (List Int)):(wg S w g).more=wg S.more w g:=by
 rw[Dy,Dy];show (if S.value.length=0 then wg (fQ S) w g else (wg (fQ S) w g).put S.value.length)=_
 split
 ·rfl
 ·exact aeS _ w g _
theorem BM (w:Nat) (g:List (List Int)):∀ (f:Nat) (S:SM),SM.jZ f (wg S w g)=wg (SM.jZ f S) w g∧(qw f S→qw f (wg S w g))
 | 0,_=>⟨rfl,fun h=>h⟩
 | f+1,S=>by
  rw[SM.jZ,SM.jZ,TP];obtain⟨a,b⟩:=BM w g f S.more;refine⟨a,fun ⟨h1,h2⟩=>⟨⟨h1.value,h1.level,h1.reason,h1.phase,h1.occurs,h1.aj,h1.units,h1.place,h1.met,fun k=>?_⟩,?_⟩⟩
  ·obtain⟨p,q⟩:=h1.hb k;exact⟨⟨p.small,p.vars,p.place,p.met,p.hl⟩,q⟩
  ·rw[TP];exact b h2
theorem TQ (S:SM) (w:Nat) (g:List (List Int)) (v:Nat):(wg S w g).grow v=wg (S.grow v) w g:=(BM w g (v+1-S.value.length) S).1
def occ (S:SM) (v:Nat):SM:={ S with occurs:=S.occurs.set v true }
theorem Gb (w:Nat) (g:List (List Int)):∀ (l:List Int) (S:SM),SM.gP (wg S w g) l=wg (SM.gP S l) w g∧(Cz S l→Cz (wg S w g) l)
 | [],_=>⟨rfl,fun h=>h⟩
 | x :: r,S=>by
  rw[mY,mY,TQ];obtain⟨a,b⟩:=Gb w g r (occ (S.grow (aJ x/2)) (aJ x/2));refine⟨a,fun ⟨h1,h2,h3,h4⟩=>?_⟩;unfold Cz;rw[TQ];exact⟨(BM w g (aJ x/2+1-S.value.length) S).2 h1,h2,h3,b h4⟩
theorem Zs.occ {K:Nat} {S:SM} (h:Zs K S) (v:Nat):Zs K (YthbbmdnfkkffjaaGreat.occ S v):=by
 have hz:=h.fo.tr.sz;have hsz:Sz (nx (YthbbmdnfkkffjaaGreat.occ S v) 0):=⟨hz.level,hz.reason,hz.phase,by show (S.occurs.set v true).length=_;rw[List.length_set];exact hz.occurs,hz.units,hz.aj⟩;refine⟨⟨h.ze.e0,⟨h.ze.ex.ids,h.ze.ex.uI,h.ze.ex.wm,h.ze.ex.mo,h.ze.ex.fr,h.ze.ex.cn,h.ze.ex.kk⟩,h.ze.gs,h.ze.gw,h.ze.gv,h.ze.en,h.ze.cf,h.ze.c1,fun c hc x hx=>?_,h.ze.vc⟩,?_,h.un,h.vs⟩
 ·have:=h.ze.oc c hc x hx;show gB (S.occurs.set v true) _=true
  by_cases hv:v<S.occurs.length
  ·rw[qB hv];split
   ·rfl
   ·exact this
  ·rw[List.set_eq_of_length_le (by omega)];exact this
 ·exact⟨h.fo.tr.congr hsz rfl rfl rfl rfl rfl (Nat.le_refl _) (fun _ _ _=>Iff.rfl),⟨h.fo.cl.nd,h.fo.cl.two⟩,⟨h.fo.wa.nd,h.fo.wa.iff⟩,⟨⟨⟨h.fo.hp.hi.hb.small,h.fo.hp.hi.hb.vars,h.fo.hp.hi.hb.place,h.fo.hp.hi.hb.met,h.fo.hp.hi.hb.hl⟩,h.fo.hp.hi.pl,h.fo.hp.hi.bk⟩,h.fo.hp.nz,h.fo.hp.all⟩,h.fo.pi,h.fo.ne,h.fo.en⟩
structure Ad (S T:SM):Prop where
 same:T.given=S.given∧T.fresh=S.fresh∧T.most=S.most∧T.conf=S.conf∧T.words=S.words
 rest:T.learned=S.learned∧T.model=S.model∧T.told=S.told∧T.core=S.core
 le:S.value.length≤T.value.length
 oc:∀ v,gB S.occurs v=true→gB T.occurs v=true
 cls:T.cls=S.cls
theorem Gr.ad {S T:SM} (h:Gr S T):Ad S T:=⟨h.same,h.rest,h.le,fun v k=>by rw[h.oc];exact k,h.cls⟩
theorem Ad.trans {S T U:SM} (h:Ad S T) (k:Ad T U):Ad S U:=by
 obtain⟨a1,a2,a3,a4,a5⟩:=h.same;obtain⟨b1,b2,b3,b4,b5⟩:=k.same;obtain⟨c1,c2,c3,c4⟩:=h.rest;obtain⟨d1,d2,d3,d4⟩:=k.rest;exact⟨⟨b1.trans a1,b2.trans a2,b3.trans a3,b4.trans a4,b5.trans a5⟩,⟨d1.trans c1,d2.trans c2,d3.trans c3,d4.trans c4⟩,Nat.le_trans h.le k.le,fun v x=>k.oc v (h.oc v x),k.cls.trans h.cls⟩
theorem Zs.gP {K:Nat}:∀ (l:List Int) (S:SM),Zs K S→(∀ x∈l,0<x.natAbs∧x.natAbs≤65536)→Cz S l∧Zs K (SM.gP S l)∧Ad S (SM.gP S l)∧∀ x∈l,x.natAbs<(SM.gP S l).value.length∧gB (SM.gP S l).occurs x.natAbs=true
 | [],S,h,_=>⟨trivial,h,(Gr.refl S).ad,fun x hx=>by cases hx⟩
 | x :: r,S,h,hl=>by
  obtain⟨x1,x2⟩:=hl x (by simp);rw[mY];unfold Cz;rw[dU];obtain⟨a,b,c,d⟩:=h.grow x2;obtain⟨T,hT⟩:∃ T,S.grow x.natAbs=T:=⟨_,rfl⟩;rw[hT] at b c d ⊢;have hol:T.occurs.length=T.value.length:=b.fo.tr.sz.occurs;have hb:=b.occ x.natAbs;obtain⟨p,q,s,t⟩:=Zs.gP r (YthbbmdnfkkffjaaGreat.occ T x.natAbs) hb fun y hy=>hl y (by simp[hy])
  have hoc:Ad T (YthbbmdnfkkffjaaGreat.occ T x.natAbs):=⟨⟨rfl,rfl,rfl,rfl,rfl⟩,⟨rfl,rfl,rfl,rfl⟩,Nat.le_refl _,fun v k=>by
   show gB (T.occurs.set _ true) v=true;rw[qB (by omega)];split
   ·rfl
   ·exact k,rfl⟩
  refine⟨⟨a,by omega,by have:=b.vs;omega,p⟩,q,c.ad.trans (hoc.trans s),fun y hy=>?_⟩;rcases List.mem_cons.1 hy with rfl | hy
  ·refine⟨?_,s.oc _ ?_⟩
   ·have h1:T.value.length≤_:=s.le;exact Nat.lt_of_lt_of_le d h1
   ·show gB (T.occurs.set _ true) _=true;rw[qB (by omega),if_pos rfl]
  ·exact t y hy
def Gc (l:List Int):Prop:=(l.map Int.natAbs).Nodup∧∀ x∈l,0<x.natAbs∧x.natAbs≤65536
theorem Gc.len {l:List Int} (h:Gc l):l.length≤65537:=by
 have:=jd (n:=65537) h.1 fun v hv=>by
  obtain⟨x,hx,rfl⟩:=List.mem_map.1 hv;have:=(h.2 x hx).2;omega
 rwa [List.length_map] at this
theorem Y9 {l:List (List Int)} {c:List Int} {i:Nat} (h:i<l.length):gl (l++[c]) i=gl l i:=by
 unfold gl;rw[List.getD_eq_getElem?_getD,List.getD_eq_getElem?_getD,List.getElem?_append_left h]
structure Added (K:Nat) (S:SM) (l:List Int) (R:SM×Bool):Prop where
 zs:Zs K R.1
 le:S.value.length≤R.1.value.length
 same:R.1.most=S.most∧R.1.conf=S.conf
 rest:R.1.learned=S.learned∧R.1.model=S.model∧R.1.told=S.told∧R.1.core=S.core
 num:R.2=true↔S.words+l.length+2≤S.most
 yes:R.2=true→R.1.given=S.given++[l]∧R.1.words=S.words+(l.length+2)
 no:R.2=false→R.1=S
 cls:R.1.cls=S.cls
theorem Zs.add {K:Nat} {S:SM} (h:Zs K S) {l:List Int} (hl:Gc l):Rw S l∧Added K S l (S.add l):=by
 have hw:=h.ze.ex.words;have hg:=h.ze.gw;have hll:=hl.len;obtain⟨a,b,c,d⟩:=Zs.gP l S h hl.2;obtain⟨e1,e2⟩:=Gb (S.words+(l.length+2)) (S.given++[l]) l S;refine⟨⟨by omega,fun x hx=>(hl.2 x hx).2,by omega,by omega,fun _=>e2 a⟩,?_⟩;unfold SM.add
 split
 ·rename_i hr;exact⟨h,Nat.le_refl _,⟨rfl,rfl⟩,⟨rfl,rfl,rfl,rfl⟩,⟨fun k=>(by cases k),fun k=>by omega⟩,fun k=>(by cases k),fun _=>rfl,rfl⟩
 ·rename_i hr;have e3:SM.gP { S with words:=S.words+(l.length+2),given:=S.given++[l] } l=wg (SM.gP S l) (S.words+(l.length+2)) (S.given++[l]):=e1;rw[e3];obtain⟨T,hT⟩:∃ T,SM.gP S l=T:=⟨_,rfl⟩;rw[hT] at b c d ⊢;obtain⟨s1,s2,s3,s4,s5⟩:=c.same;have hx:=b.ze.ex;have hfr:=hx.fr;have hgl:T.given.length=S.given.length:=by rw[s1]
  have hgg:(S.given++[l]).length=S.given.length+1:=by simp
  refine⟨⟨⟨b.ze.e0,⟨hx.ids,?_,?_,hx.mo,?_,?_,hx.kk⟩,fun x hx2=>?_,?_,fun i hi=>?_,fun q hq=>b.ze.en q ?_,b.ze.cf,b.ze.c1,fun x hx2=>?_,fun V hV=>b.ze.vc V fun c hc x hx2=>hV c (List.mem_append_left _ (by rw[←s1];exact hc)) x hx2⟩,?_,?_,b.vs⟩,c.le,⟨s3,s4⟩,c.rest,⟨fun _=>by omega,fun _=>rfl⟩,fun _=>⟨rfl,rfl⟩,fun k=>(by cases k),c.cls⟩
  ·have:=hx.uI;show T.steps.length+T.units.count (-1)≤S.words+(l.length+2)+T.value.length;omega
  ·show S.words+(l.length+2)≤T.most;omega
  ·show T.fresh≤(S.given++[l]).length;omega
  ·have:=hx.cn;show 2*(T.cls.length+((S.given++[l]).length-T.fresh))≤S.words+(l.length+2)+2*K;omega
  ·have hx3:x∈S.given++[l]:=hx2;rcases List.mem_append.1 hx3 with k | k
   ·exact b.ze.gs x (by rw[s1];exact k)
   ·rw[List.mem_singleton] at k;subst k;exact⟨hl.1,fun y hy=>⟨(hl.2 y hy).1,(hl.2 y hy).2,(d y hy).1⟩⟩
  ·show 2*(S.given++[l]).length≤S.words+(l.length+2);omega
  ·have hi2:i<T.fresh:=hi;obtain⟨r,hr2,hp⟩:=b.ze.gv i hi2;refine⟨r,hr2,?_⟩;show (T.cl r).Perm ((gl (S.given++[l]) i).map aJ);rw[Y9 (by omega),←s1];exact hp
  ·intro y hy;rw[s1] at hy;exact hq y (List.mem_append_left _ hy)
  ·have hx3:x∈S.given++[l]:=hx2;rcases List.mem_append.1 hx3 with k | k
   ·exact b.ze.oc x (by rw[s1];exact k)
   ·rw[List.mem_singleton] at k;subst k;exact fun y hy=>(d y hy).2
  ·have hz:=b.fo.tr.sz;exact⟨b.fo.tr.congr ⟨hz.level,hz.reason,hz.phase,hz.occurs,hz.units,hz.aj⟩ rfl rfl rfl rfl rfl (Nat.le_refl _) (fun _ _ _=>Iff.rfl),⟨b.fo.cl.nd,b.fo.cl.two⟩,⟨b.fo.wa.nd,b.fo.wa.iff⟩,⟨⟨⟨b.fo.hp.hi.hb.small,b.fo.hp.hi.hb.vars,b.fo.hp.hi.hb.place,b.fo.hp.hi.hb.met,b.fo.hp.hi.hb.hl⟩,b.fo.hp.hi.pl,b.fo.hp.hi.bk⟩,b.fo.hp.nz,b.fo.hp.all⟩,b.fo.pi,b.fo.ne,b.fo.en⟩
  ·rcases b.un with k | ⟨k1,k2⟩
   ·exact .inl k
   ·right;refine⟨by show T.fresh<(S.given++[l]).length;omega,?_⟩;show ∀ x∈gl (S.given++[l]) T.fresh,T.bF (aJ x)=-1;rw[Y9 (by omega),←s1];exact k2
theorem Zs.gq {K:Nat}:∀ (l:List Int) (S:SM),Zs K S→(∀ x∈l,x.natAbs≤65536)→qY S l∧Zs K (YthbbmdnfkkffjaaGreat.gq S l)∧Gr S (YthbbmdnfkkffjaaGreat.gq S l)∧∀ x∈l,x.natAbs<(YthbbmdnfkkffjaaGreat.gq S l).value.length
 | [],S,h,_=>⟨trivial,h,Gr.refl S,fun x hx=>by cases hx⟩
 | x :: r,S,h,hl=>by
  obtain⟨a,b,c,d⟩:=h.grow (hl x (by simp));have e1:YthbbmdnfkkffjaaGreat.gq S (x :: r)=YthbbmdnfkkffjaaGreat.gq (S.grow x.natAbs) r:=by unfold YthbbmdnfkkffjaaGreat.gq;rw[List.foldl_cons,dU]
  rw[e1];unfold qY;rw[dU];obtain⟨T,hT⟩:∃ T,S.grow x.natAbs=T:=⟨_,rfl⟩;rw[hT] at b c d ⊢;obtain⟨p,q,s,t⟩:=Zs.gq r T b fun y hy=>hl y (by simp[hy]);refine⟨⟨a,p⟩,q,c.trans s,fun y hy=>?_⟩;rcases List.mem_cons.1 hy with rfl | hy
  ·exact Nat.lt_of_lt_of_le d s.le
  ·exact t y hy
end Go.Proofs.YthbbmdnfkkffjaaGreat
