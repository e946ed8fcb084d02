/-
  Parts of the proof, joined by program: Fol, Res, Read2, Read3.
-/
import Derived.Test.YthbbmdnfkkffjaaGreatY15
import Derived.Test.YthbbmdnfkkffjaaGreatY02
import Derived.Test.YthbbmdnfkkffjaaGreatY01
import Derived.Deep.OwnRows
import Derived.Lib.Hide
set_option maxHeartbeats 8000000
set_option maxRecDepth 100000
namespace Go.Proofs.YthbbmdnfkkffjaaGreat
open Go.RowKit Go.Proofs.aC Go.Proofs.au Go.Proofs.aA
theorem akP (l:Nat):l ^^^ 1=negL l:=by
 have h1:(l ^^^ 1)/2=l/2 ^^^ 1/2:=Nat.xor_div_two;have h2:(l ^^^ 1) % 2=1↔¬ (l % 2=1↔1 % 2=1):=Nat.xor_mod_two_eq_one;rw[show (1:Nat)/2=0 by rfl,Nat.xor_zero] at h1
 have h3:(l ^^^ 1) % 2=if l % 2=1 then 0 else 1:=by
  rcases Nat.mod_two_eq_zero_or_one (l ^^^ 1) with k | k <;> rcases Nat.mod_two_eq_zero_or_one l with h | h <;> simp[h,k] at h2 ⊢
 unfold negL
 split <;> rename_i h
 ·rw[if_pos h] at h3;omega
 ·rw[if_neg h] at h3;omega
theorem Jg (l:Nat) (h:l<4294967296):bits .xor .u32 (l:Int) 1=((negL l:Nat):Int):=by
 have:=u32_xor_nat l 1 h (by omega);rw[akP] at this;exact this
theorem addr_add (b o j:Nat):(⟨b,o,none⟩:Addr).add j=⟨b,o+j,none⟩:=by unfold Addr.add;split <;> simp_all
theorem MS (S:SM) (ref:Nat) (c:List Nat):((mJ S ref c).2.1=true→(mJ S ref c).2.2=false)∧(mJ S ref c).1.aj.length=S.aj.length∧(mJ S ref c).1.next=S.next:=by
 unfold mJ
 split
 ·exact⟨fun _=>rfl,rfl,rfl⟩
 ·split
  ·exact⟨fun _=>rfl,by simp[SM.watch,SM.dB],rfl⟩
  ·split
   ·exact⟨fun h=>by simp at h,rfl,rfl⟩
   ·exact⟨fun _=>rfl,rfl,rfl⟩
theorem QV (S:SM) (ref l:Nat):((S.look ref l).2.1=true→(S.look ref l).2.2=false)∧(S.look ref l).1.aj.length=S.aj.length∧(S.look ref l).1.next=S.next:=by
 rw[yA];exact MS _ _ _
section
variable {B:Nat} {w0 w:World} {p:Nat} {M:MM} {F:HP}
theorem MU (f:Nat) {R:SM×Int} (h:At B w0 w p M F) (hf:SM.jr f M.sv=some R) (hok:jR f M.sv) :
  Calls Tryz.prog 70 #[.pointer (some ⟨p,0,none⟩)] w fun e w'=>e=.returned (.int .i64 R.2)∧∃ M',At B w0 w' p M' F∧M'.sv=R.1:=by
 have H:=zH h;have HF:=zH hf;have fA:=zH hok;clear h hf hok
 go_enter Tryz.func70,Tryz.ntmps70
 go_wp2
 go_loopg [] f (fun g wr=>∃ N:MM,Hid (At B w0 wr p N F)∧Hid (SM.jr g N.sv=some R)∧Hid (jR g N.sv))
 case atStart=>exact⟨M,H,HF,fA⟩
 case round =>
  obtain⟨N,H1,HF1,agU⟩:=hrel
  obtain⟨g,rfl⟩:∃ g,gk=g+1:=by
   cases gk with
   | zero=>exact absurd HF1.out (by simp[SM.jr])
   | succ g=>exact⟨g,rfl⟩
  ·obtain⟨ok1,ok2,ok3⟩:=agU.out;have OK3:=zH ok3;have c1:=H1.out.Bf;have c2:=H1.out.jV;obtain⟨nx,hnx⟩:∃ n,N.next=n:=⟨_,rfl⟩;obtain⟨nt,hnt⟩:∃ n,N.trail.xs.length=n:=⟨_,rfl⟩;rw[show N.sv.trail.length=nt from hnt] at ok1;rw[show N.sv.next=nx from hnx] at ok2;rw[hnt] at c2;rw[hnx] at c1;have hfg:=HF1.out;rw[SM.jr,show N.sv.next=nx from hnx,show N.sv.trail.length=nt from hnt] at hfg;have HFG:=zH hfg;have HNX:=zH hnx;have wJ:=zH hnt;clear ok3 hnx hnt hfg HF1 agU
   by_cases hlt:nx<nt
   ·have e1:decide ((nx:Int)<(nt:Int))=true:=by simp;omega
    obtain⟨bt,hbt⟩:=H1.out.Kr (by rw[wJ.out];omega);obtain⟨x,hx⟩:∃ x,gn N.trail.xs nx=x:=⟨_,rfl⟩;obtain⟨d1,_⟩:=H1.out.Dt hbt (i:=nx) (x:=x) (by rw[aM _ _ (by rw[wJ.out];exact hlt),hx]);rw[hbt] at c2;simp only[Option.map_some,vL] at c2 d1;obtain⟨l,hl⟩:∃ l,negL x=l:=⟨_,rfl⟩
    have OK4:=zH (show l<1000000∧l<N.aj.xs.length∧(gN N.sv.aj l).length≤1000000∧lN (gN N.sv.aj l).length N.sv l 0 0∧((N.sv.inner l).2=-1→jR g { (N.sv.inner l).1 with next:=nx+1 }) by
     have:=OK3.out (by rw[show N.sv.next=nx from HNX.out,show N.sv.trail.length=nt from wJ.out];exact hlt);rw[show N.sv.next=nx from HNX.out,show gn N.sv.trail nx=x from hx,hl] at this;obtain⟨a1,a2,a3⟩:=this
     exact⟨a1,by have a4:l<(N.aj.xs.map (·.xs)).length:=a2;rwa [List.length_map] at a4,a3⟩)
    have agW:=zH (show (if (N.sv.inner l).2=-1 then SM.jr g { (N.sv.inner l).1 with next:=nx+1 } else some (N.sv.inner l))=some R by
     have:=HFG.out;rw[if_pos hlt,show gn N.sv.trail nx=x from hx,hl] at this
     exact this)
    have hll:=OK4.out.1;have qz:=OK4.out.2.1;have hx32:x<4294967296:=by rw[←hl] at hll;unfold negL at hll;split at hll <;> omega
    have akR:=Jg x hx32;rw[hl] at akR;have n0:(0:Int)≤(nx:Int):=by omega
    have n1:(nx:Int)<(nt:Int):=by omega
    have hwx:IntKind.u32.wrap (l:Int)=(l:Int):=by rw[IntKind.wrap_u32'];omega
    clear HFG OK3 hx hl;obtain⟨r,hr⟩:∃ r,N.aj.xs[l]?=some r:=⟨N.aj.xs[l],by simp[qz]⟩;obtain⟨bw,hbw⟩:=H1.out.qL (by omega);obtain⟨o1,o2⟩:=H1.out.kX hbw hr;have c6:=H1.out.iD;obtain⟨nw,hnw⟩:∃ n,N.aj.xs.length=n:=⟨_,rfl⟩;obtain⟨n,hn⟩:∃ n,r.xs.length=n:=⟨_,rfl⟩;rw[hbw,hnw] at c6;rw[hn] at o1;rw[hnw] at qz;simp only[Option.map_some] at c6;have hgn:gN N.sv.aj l=r.xs:=by show gN (N.aj.xs.map (·.xs)) l=_;simp[gN,List.getD_eq_getElem?_getD,hr]
    have OK5:=zH (show n≤1000000∧lN n N.sv l 0 0∧N.sv.inner l=SM.kD n N.sv l 0 0 by
     obtain⟨_,_,a3,a4,_⟩:=OK4.out;rw[hgn,hn] at a3 a4
     exact⟨a3,a4,by unfold SM.inner;rw[hgn,hn]⟩)
    have hnb:=OK5.out.1;have l0:(0:Int)≤(l:Int):=by omega
    have l1:(l:Int)<(nw:Int):=by omega
    have HR:=zH hr;have HBW:=zH hbw;have AZ:=zH hnw;have HN:=zH hn;obtain⟨ra,hra⟩:∃ ra,(r.a.map fun b=>(⟨b,0,none⟩:Addr))=ra:=⟨_,rfl⟩;rw[hra] at o1;have KJ:=zH hra;clear hr hbw hnw hn hgn hra hbt
    go_wp2
    go_quiet (fail)
    go_wp2
    go_quiet (fail)
    go_wp2
    have HK0:=zH (OK5.out.2.1);have HI0:=zH (OK5.out.2.2);have HN0:=zH (H1.out.drewN 0);clear c1 c2 d1 o1 o2 c6 e1 OK5
    go_loopg [5,49] n (fun g2 s5 s49 wr=>∃ (Q:MM) (i m:Nat) (xs:List Nat),s5=.slice ra m r.c∧s49=.int .i64 i∧m≤i∧i≤n∧Hid (g2=n-i)∧Hid (At B w0 wr p Q F) ∧
     Hid (Q.aj.xs[l]?=some ⟨r.a,r.c,xs⟩∧xs.length=n∧Q.aj.a=some bw∧Q.aj.xs.length=nw∧Q.next=nx)∧Hid (SM.kD (n-i) Q.sv l i m=N.sv.inner l)∧Hid (lN (n-i) Q.sv l i m))
    case atStart=>exact⟨N,0,0,r.xs,rfl,rfl,Nat.le_refl _,Nat.zero_le _,rfl,H1.out.drewN _,⟨HR.out,HN.out,HBW.out,AZ.out,HNX.out⟩,HI0.out.symm,HK0.out⟩
    case round =>
     obtain⟨Q,i,m,xs,rfl,rfl,hmi,hin,hg2,H2,HQ,HG,HO⟩:=hrel
     by_cases hil:i<n
     ·have e2:decide ((i:Int)<(n:Int))=true:=by simp;omega
      obtain⟨hq1,hq2,hq3,hq4,hq5⟩:=HQ.out;obtain⟨b,hb⟩:=(H2.out.wX hq1).1 (by show 0<xs.length;omega);have hb2:r.a=some b:=hb;obtain rfl:ra=some ⟨b,0,none⟩:=by rw[←KJ.out,hb2];rfl
      have hrc:n≤r.c:=by have:=(H2.out.wX hq1).2.1;have h2:xs.length≤r.c:=this;omega
      obtain⟨ref,href⟩:∃ x,gn xs i=x:=⟨_,rfl⟩;have hgn2:gN Q.sv.aj l=xs:=by show gN (Q.aj.xs.map (·.xs)) l=_;simp[gN,List.getD_eq_getElem?_getD,hq1]
      obtain⟨⟨S2,mo,bd⟩,hrr⟩:∃ rr,Q.sv.look ref l=rr:=⟨_,rfl⟩;have hLF:=QV Q.sv ref l;rw[hrr] at hLF;have hho:=HO.out;have Yk:=HG.out;rw[show n-i=(n-(i+1))+1 by omega] at hho Yk;obtain⟨rd,hneg,hnext⟩:=hho;rw[KN] at Yk;have hbad:uM Q.sv l i=bd:=by unfold uM;rw[hgn2,href,hrr]
      have hM:yB Q.sv l i m=if mo then m else m+1:=by unfold yB;rw[hgn2,href,hrr]
      have hU:qy Q.sv l i m=if mo then S2 else { S2 with aj:=S2.aj.set l ((gN S2.aj l).set m ref) }:=by unfold qy;rw[hgn2,href,hrr]
      rw[hbad,hM,hU] at Yk hnext;rw[hgn2,href] at rd Yk;have HLK:=zH (UH ref l H2.out rd.ok (by have:=rd.lt;show ref<Q.cls.xs.length;have h2:ref<(Q.cls.xs.map fun x=>(x.1.xs,x.2)).length:=this;rwa [List.length_map] at h2) (by have:=rd.n;have h2:(Q.cls.xs.map fun x=>(x.1.xs,x.2)).length≤1000000:=this;rwa [List.length_map] at h2) rd.two rd.len rd.vars hll);rw[hrr] at HLK;obtain⟨e3,_⟩:=H2.out.Bp hq1 hb2 (j:=i) (x:=ref) (by show xs[i]?=_;rw[aM xs i (by omega),href]);simp only[vN] at e3;have i0:(0:Int)≤(i:Int):=by omega
      have i1:(i:Int)<(n:Int):=by omega
      have HHG:=zH Yk;have agY:=zH hnext;have akU:=zH hneg;have HLF:=zH hLF;have HB2:=zH hb2;have HQ1:=zH hq1;have Wj:=zH hq2;have HQ3:=zH hq3;have HQ4:=zH hq4;have HQ5:=zH hq5;clear hq1 hq2 hq3 hq4 hq5 hb hb2 href hgn2 hLF rd hneg hnext Yk hbad hM hU HO HG HQ hrr
      go_wp2_with fail
      refine HLK.out.mono ?_
      rintro e w3 ⟨he,T,hT,hsv,Tp,htc,hrow⟩
      simp only at he hsv;subst he;subst hsv;have HT:=zH hT;have HT1:=zH ((hrow l akU.out).trans HQ1.out);have HT3:=zH (Tp.trans HQ3.out)
      have HT4:=zH (show T.aj.xs.length=nw by
       have h1:(T.aj.xs.map (·.xs)).length=(Q.aj.xs.map (·.xs)).length:=HLF.out.2.1;rw[List.length_map,List.length_map] at h1
       exact h1.trans HQ4.out)
      have HT5:=zH (show T.next=nx from (show T.next=Q.next from HLF.out.2.2).trans HQ5.out);have HGT:=zH (show gN T.sv.aj l=xs by show gN (T.aj.xs.map (·.xs)) l=_;simp[gN,List.getD_eq_getElem?_getD,HT1.out]);clear hT Tp htc hrow HLK e3
      cases mo with
      | true =>
       obtain rfl:bd=false:=HLF.out.1 rfl;have ad8:=zH (show SM.kD (n-(i+1)) T.sv l (i+1) m=N.sv.inner l by have:=HHG.out;simpa using this);have ad9:=zH (show lN (n-(i+1)) T.sv l (i+1) m by have:=agY.out rfl;simpa using this)
       go_wp2
       go_roundg (n-(i+1))
       case measure=>have:=hg2.out;omega
       case rel=>exact⟨T,i+1,m,xs,rfl,by go_num,by omega,by omega,rfl,HT.out,⟨HT1.out,Wj.out,HT3.out,HT4.out,HT5.out⟩,ad8.out,ad9.out⟩
      | false =>
       obtain⟨k1,k2⟩:=HT.out.Bp HT1.out HB2.out (j:=m) (x:=gn xs m) (by show xs[m]?=_;exact aM xs m (by rw[Wj.out];omega));have HC1:=zH (show (w3.cell? ⟨b,m,none⟩).isSome=true by rw[k1];rfl);have HF1:=zH k2;have HBS:=zH ((HT.out.wX HT1.out).2.2 b HB2.out).1;clear k1 k2;have HU:=zH ((HT.out.alloc (.cells #[.int .i64 ref] 3)).zC (i:=l) (j:=m) HT1.out HB2.out (by show m<xs.length;rw[Wj.out];omega) ref);obtain⟨U,hUd⟩:∃ U,T.aY ⟨T.aj.a,T.aj.c,T.aj.xs.set l ⟨r.a,r.c,xs.set m ref⟩⟩=U:=⟨_,rfl⟩;have hU1:U.aj.xs[l]?=some ⟨r.a,r.c,xs.set m ref⟩:=by rw[←hUd];show (T.aj.xs.set l _)[l]?=_;rw[List.getElem?_set_self (by rw[HT4.out];exact qz)]
       have ag0:U.sv={ T.sv with aj:=T.sv.aj.set l ((gN T.sv.aj l).set m ref) }:=by
        rw[HGT.out,←hUd];show ({ T.sv with aj:=(T.aj.xs.set l ⟨r.a,r.c,xs.set m ref⟩).map (·.xs) }:SM)={ T.sv with aj:=(T.aj.xs.map (·.xs)).set l (xs.set m ref) };rw[List.map_set]
       have HU1:=zH hU1;have HU3:=zH (show U.aj.a=some bw by rw[←hUd];exact HT3.out);have HU4:=zH (show U.aj.xs.length=nw by rw[←hUd];show (T.aj.xs.set l _).length=nw;rw[List.length_set];exact HT4.out);have HU5:=zH (show U.next=nx by rw[←hUd];exact HT5.out);have HU2:=zH (show At B w0 ((w3.alloc (.cells #[.int .i64 ref] 3)).setCell ⟨b,m,none⟩ (.int .i64 ref)) p U F by have:=HU.out;rw[show T.aY _=U from hUd] at this;exact this);have HUS:=zH ag0;have tO:=zH (show (xs.set m ref).length=n by rw[List.length_set];exact Wj.out);clear hUd hU1 ag0 HU
       cases bd with
       | false =>
        have ad8:=zH (show SM.kD (n-(i+1)) U.sv l (i+1) (m+1)=N.sv.inner l by have:=HHG.out;rw[HUS.out];simpa using this);have ad9:=zH (show lN (n-(i+1)) U.sv l (i+1) (m+1) by have:=agY.out rfl;rw[HUS.out];simpa using this)
        go_wp2_with (at_builtin;refine qW rfl _ _ 27 3 (.int .i64 0) 8 rfl Tryz.underlying27 Tryz.bW b m r.c rfl (.int .i64 ref) rfl rfl (by omega) HC1.out HF1.out HBS.out ?_)
        go_roundg (n-(i+1))
        case measure=>have:=hg2.out;omega
        case rel=>exact⟨U,i+1,m+1,xs.set m ref,rfl,by go_num,by omega,by omega,rfl,HU2.out,⟨HU1.out,tO.out,HU3.out,HU4.out,HU5.out⟩,ad8.out,ad9.out⟩
       | true =>
        go_wp2_with (at_builtin;refine qW rfl _ _ 27 3 (.int .i64 0) 8 rfl Tryz.underlying27 Tryz.bW b m r.c rfl (.int .i64 ref) rfl rfl (by omega) HC1.out HF1.out HBS.out ?_)
        have hU2:=HU2.out;clear HU2 HC1 HF1 HBS;revert hU2;generalize (w3.alloc (.cells #[.int .i64 ref] 3)).setCell ⟨b,m,none⟩ (.int .i64 ref)=w5;intro hU2;have c6:=hU2.iD;rw[HU3.out,HU4.out] at c6;simp only[Option.map_some] at c6;have HU2:=zH hU2;clear hU2;have j0:(i:Int)+1≤(n:Int):=by omega
        have j1:(n:Int)≤(r.c:Int):=by omega
        have j2:(0:Int)≤(i:Int)+1:=by omega
        have hwi:IntKind.i64.wrap ((i:Int)+1)=(i:Int)+1:=by rw[IntKind.wrap_i64];omega
        obtain⟨ys,hys⟩:∃ ys,xs.set m ref=ys:=⟨_,rfl⟩;rw[hys] at HU1 tO;have hU3:=HU2.out.drewN 1
        have hself:U.aY ⟨U.aj.a,U.aj.c,U.aj.xs.set l ⟨r.a,r.c,ys⟩⟩=U:=by
         have:U.aj.xs.set l ⟨r.a,r.c,ys⟩=U.aj.xs:=by
          apply List.ext_getElem?;intro q
          by_cases e:q=l
          ·subst e;rw[HU1.out,List.getElem?_set_self (by rw[HU4.out];exact qz)]
          ·rw[List.getElem?_set_ne (fun h=>e h.symm)]
         rw[this]
        have hcell:∀ j,j<n→w5.drew.cell? ⟨b,j,none⟩=some (vN (gn ys j))∧w5.drew.frozen? ⟨b,j,none⟩=false:=fun j hj=>hU3.Bp HU1.out HB2.out (j:=j) (x:=gn ys j) (aM ys j (by rw[tO.out];exact hj));have HN1:=zH (show ((ys.drop (i+1)).map vN).length=n-(i+1) by rw[List.length_map,List.length_drop,tO.out])
        have ag4:=zH (show ∀ (j:Nat) (u:Value),((ys.drop (i+1)).map vN)[j]?=some u→w5.drew.cell? ⟨b,i+1+j,none⟩=some u from fun j u hj=>by
         have hjl:=(List.getElem?_eq_some_iff.1 hj).1;rw[HN1.out] at hjl;rw[(hcell (i+1+j) (by omega)).1];rw[List.getElem?_map,List.getElem?_drop,aM ys (i+1+j) (by rw[tO.out];omega)] at hj
         exact hj)
        have HN3:=zH (show ∀ u∈(ys.drop (i+1)).map vN,u.oneCell'=true by intro u hu;obtain⟨q,_,rfl⟩:=List.mem_map.1 hu;rfl);have HN4:=zH (show m+1+(n-(i+1))≤r.c by omega);have HN5:=zH (show ∀ j,j<n-(i+1)→(w5.drew.cell? ⟨b,m+1+j,none⟩).isSome=true from fun j hj=>by rw[(hcell (m+1+j) (by omega)).1];rfl);have HN6:=zH (show ∀ j,j<n-(i+1)→w5.drew.frozen? ⟨b,m+1+j,none⟩=false from fun j hj=>(hcell (m+1+j) (by omega)).2);have HN8:=zH (At.zS (M:=U) (i:=l) (b:=b) (r:=r) HB2.out (ys.drop (i+1)) ys (m+1) w5.drew (by rw[HU4.out];exact qz) (by rw[hself];exact hU3) (by rw[List.length_drop,tO.out];omega))
        have HN7:=zH (show (w5.drew.setCells b (m+1) ((ys.drop (i+1)).map vN)).cell? ⟨p,6,none⟩=some (.slice (some ⟨bw,0,none⟩) nw U.aj.c) by
         have:=HN8.out.iD;rw[show (U.aY ⟨U.aj.a,U.aj.c,U.aj.xs.set l ⟨r.a,r.c,over ys (m+1) (ys.drop (i+1))⟩⟩).aj.a=some bw from HU3.out,show (U.aY ⟨U.aj.a,U.aj.c,U.aj.xs.set l ⟨r.a,r.c,over ys (m+1) (ys.drop (i+1))⟩⟩).aj.xs.length=nw by show (U.aj.xs.set l _).length=nw;rw[List.length_set];exact HU4.out] at this
         exact this)
        have hV1:(U.aY ⟨U.aj.a,U.aj.c,U.aj.xs.set l ⟨r.a,r.c,over ys (m+1) (ys.drop (i+1))⟩⟩).aj.xs[l]?=some ⟨r.a,r.c,over ys (m+1) (ys.drop (i+1))⟩:=by show (U.aj.xs.set l _)[l]?=_;rw[List.getElem?_set_self (by rw[HU4.out];exact qz)]
        have HN9:=zH (HN8.out.kX (b:=bw) (i:=l) HU3.out hV1);have hot:=Jf (ys.drop (i+1)) ys (m+1) (by rw[List.length_drop,tO.out];omega);rw[List.length_drop,tO.out] at hot;have hfa:=HN8.out.zT (k:=m+1+(n-(i+1))) hV1 HU3.out (by show _≤(over ys (m+1) (ys.drop (i+1))).length;rw[MR,tO.out];omega);rw[show ((⟨r.a,r.c,over ys (m+1) (ys.drop (i+1))⟩:Fl Nat).a.map fun b=>(⟨b,0,none⟩:Addr))=some ⟨b,0,none⟩ from KJ.out,zQ] at hfa;have HFA:=zH hfa;have hus:gN U.sv.aj l=ys:=by show gN (U.aj.xs.map (·.xs)) l=_;simp[gN,List.getD_eq_getElem?_getD,HU1.out]
        have HRR:=zH (show R=({ U.sv with aj:=U.sv.aj.set l (ys.take (m+1)++ys.drop (i+1)) },(ref:Int)) by
         have h1:(({ U.sv with aj:=U.sv.aj.set l ((gN U.sv.aj l).take (m+1)++(gN U.sv.aj l).drop (i+1)) },(ref:Int)):SM×Int)=N.sv.inner l:=by rw[HUS.out];exact HHG.out
         simp only[hus] at h1;have h4:=agW.out;rw[←h1,if_neg (by show ¬ (ref:Int)=-1;omega)] at h4
         exact (Option.some.inj h4).symm)
        have Wm:=zH (show MM.sv (U.aY ⟨U.aj.a,U.aj.c,U.aj.xs.set l ⟨r.a,r.c,(over ys (m+1) (ys.drop (i+1))).take (m+1+(n-(i+1)))⟩⟩)={ U.sv with aj:=U.sv.aj.set l (ys.take (m+1)++ys.drop (i+1)) } by
         rw[hot];show ({ U.sv with aj:=(U.aj.xs.set l ⟨r.a,r.c,ys.take (m+1)++ys.drop (i+1)⟩).map (·.xs) }:SM)={ U.sv with aj:=(U.aj.xs.map (·.xs)).set l (ys.take (m+1)++ys.drop (i+1)) }
         rw[List.map_set])
        obtain⟨news,hnews⟩:∃ news,(ys.drop (i+1)).map vN=news:=⟨_,rfl⟩;rw[hnews] at HN1 ag4 HN3 HN7 HN8 HN9 HFA;clear hnews;clear hU3 hself hcell hV1 hot hfa hus
        by_cases hci:r.c=i+1
        ·rcases r with ⟨rA,rc,rxs⟩;simp only at hci;subst hci;have hz:n-(i+1)=0:=by have:n≤i+1:=hrc;omega
         rw[hz] at HN1 HN4 HN5 HN6 HFA Wm;have Qq:=zH (show ∀ (j:Nat) (u:Value),news[j]?=some u→w5.drew.cell? ((⟨b,0,none⟩:Addr).add j)=some u from fun j u hj=>by have:=List.getElem?_eq_some_iff.1 hj;obtain⟨h1,_⟩:=this;rw[HN1.out] at h1;omega);refine dn 12 (fun V:World=>V.cell? ⟨p,6,none⟩=some (.slice (some ⟨bw,0,none⟩) nw U.aj.c)) (by kernel_rfl) ?_;have bB:(fun V:World=>V.cell? ⟨p,6,none⟩=some (.slice (some ⟨bw,0,none⟩) nw U.aj.c)) w5.drew:=c6;refine ay (i:=0) (v:=?v1) rfl (by kernel_rfl) (by kernel_rfl) (by kernel_rfl) (by kernel_rfl) (fun _ _ _ h=>h) rfl ?hy1 bB ?_
         case hy1 =>
          intro V aF
          try dsimp only at aF
          go_simp
          try with_reducible rfl
         try simp only[Act.put,List.setIfInBounds_toArray,List.set_cons_zero,List.set_cons_succ]
         refine ay (i:=1) (v:=?v2) rfl (by kernel_rfl) (by kernel_rfl) (by kernel_rfl) (by kernel_rfl) (fun _ _ _ h=>h) rfl ?hy2 bB ?_
         case hy2 =>
          intro V aF
          try dsimp only at aF
          go_simp
          try with_reducible rfl
         try simp only[Act.put,List.setIfInBounds_toArray,List.set_cons_zero,List.set_cons_succ]
         refine ay (i:=2) (v:=?v3) rfl (by kernel_rfl) (by kernel_rfl) (by kernel_rfl) (by kernel_rfl) (fun _ _ _ h=>h) rfl ?hy3 bB ?_
         case hy3 =>
          intro V aF
          try dsimp only at aF
          go_simp
          try with_reducible rfl
         try simp only[Act.put,List.setIfInBounds_toArray,List.set_cons_zero,List.set_cons_succ]
         refine ay (i:=3) (v:=?v4) rfl (by kernel_rfl) (by kernel_rfl) (by kernel_rfl) (by kernel_rfl) (fun _ _ _ h=>h) rfl ?hy4 bB ?_
         case hy4 =>
          intro V aF
          try dsimp only at aF
          go_simp
          try with_reducible rfl
         try simp only[Act.put,List.setIfInBounds_toArray,List.set_cons_zero,List.set_cons_succ]
         refine ay (i:=4) (v:=?v5) rfl (by kernel_rfl) (by kernel_rfl) (by kernel_rfl) (by kernel_rfl) (fun _ _ _ h=>h) rfl ?Qx bB ?_
         case Qx =>
          intro V aF
          try dsimp only at aF
          go_simp
          try with_reducible rfl
         try simp only[Act.put,List.setIfInBounds_toArray,List.set_cons_zero,List.set_cons_succ]
         refine ay (i:=5) (v:=?v6) rfl (by kernel_rfl) (by kernel_rfl) (by kernel_rfl) (by kernel_rfl) (fun _ _ _ h=>h) rfl ?Ih bB ?_
         case Ih =>
          intro V aF
          try dsimp only at aF
          go_simp
          try with_reducible rfl
         try simp only[Act.put,List.setIfInBounds_toArray,List.set_cons_zero,List.set_cons_succ]
         refine ay (i:=6) (v:=?v7) rfl (by kernel_rfl) (by kernel_rfl) (by kernel_rfl) (by kernel_rfl) (fun _ _ _ h=>h) rfl ?UL bB ?_
         case UL =>
          intro V aF
          try dsimp only at aF
          go_simp
          try with_reducible rfl
         try simp only[Act.put,List.setIfInBounds_toArray,List.set_cons_zero,List.set_cons_succ]
         refine ay (i:=7) (v:=?v8) rfl (by kernel_rfl) (by kernel_rfl) (by kernel_rfl) (by kernel_rfl) (fun _ _ _ h=>h) rfl ?WT bB ?_
         case WT =>
          intro V aF
          try dsimp only at aF
          go_simp
          try with_reducible rfl
         try simp only[Act.put,List.setIfInBounds_toArray,List.set_cons_zero,List.set_cons_succ]
         refine ay (i:=8) (v:=?v9) rfl (by kernel_rfl) (by kernel_rfl) (by kernel_rfl) (by kernel_rfl) (fun _ _ _ h=>h) rfl ?hy9 bB ?_
         case hy9 =>
          intro V aF
          try dsimp only at aF
          go_simp
          try with_reducible rfl
         try simp only[Act.put,List.setIfInBounds_toArray,List.set_cons_zero,List.set_cons_succ]
         refine ay (i:=9) (v:=?v10) rfl (by kernel_rfl) (by kernel_rfl) (by kernel_rfl) (by kernel_rfl) (fun _ _ _ h=>h) rfl ?KG bB ?_
         case KG =>
          intro V aF
          try dsimp only at aF
          go_simp
          try with_reducible rfl
         try simp only[Act.put,List.setIfInBounds_toArray,List.set_cons_zero,List.set_cons_succ]
         refine bf (i:=10) (by kernel_rfl) rfl (fun K hK=>?_);refine uL (by rfl) _ _ 27 3 (.int .i64 0) 8 (by rfl) Tryz.underlying27 Tryz.bW b (m+1) (i+1) (by rfl) ⟨b,0,none⟩ (0) _ news (by rfl) HN1.out Qq.out HN3.out HN4.out HN5.out HN6.out ?_;have HS2:(fun V:World=>V.cell? ⟨p,6,none⟩=some (.slice (some ⟨bw,0,none⟩) nw U.aj.c)) _:=HN7.out;refine hK _ _ HS2 ?_;clear hK K
         try simp only[Act.put,List.setIfInBounds_toArray,List.set_cons_zero,List.set_cons_succ]
         refine ay (i:=11) (v:=?v11) rfl (by kernel_rfl) (by kernel_rfl) (by kernel_rfl) (by kernel_rfl) (fun _ _ _ h=>h) rfl ?KH HS2 ?_
         case KH =>
          intro V aF
          try dsimp only at aF
          go_simp
          try with_reducible rfl
         try simp only[Act.put,List.setIfInBounds_toArray,List.set_cons_zero,List.set_cons_succ]
         obtain⟨k5,k6⟩:=HN9.out;refine iy (by kernel_rfl) rfl (by kernel_rfl) (fun K hK=>?_)
         go_simp
         refine hK _ _ ?_;clear hK K;clear k5 k6 bB HS2
         go_wp2
         go_ret
         exact⟨by rw[HRR.out];rfl,_,HFA.out,by rw[HRR.out];exact Wm.out⟩
        ·skip
         have Qq:=zH (show ∀ (j:Nat) (u:Value),news[j]?=some u→w5.drew.cell? ((⟨b,i+1,none⟩:Addr).add j)=some u from fun j u hj=>by rw[addr_add];exact ag4.out j u hj);refine dn 12 (fun V:World=>V.cell? ⟨p,6,none⟩=some (.slice (some ⟨bw,0,none⟩) nw U.aj.c)) (by kernel_rfl) ?_;have bB:(fun V:World=>V.cell? ⟨p,6,none⟩=some (.slice (some ⟨bw,0,none⟩) nw U.aj.c)) w5.drew:=c6;refine ay (i:=0) (v:=?v12) rfl (by kernel_rfl) (by kernel_rfl) (by kernel_rfl) (by kernel_rfl) (fun _ _ _ h=>h) rfl ?Qy bB ?_
         case Qy =>
          intro V aF
          try dsimp only at aF
          go_simp
          try with_reducible rfl
         try simp only[Act.put,List.setIfInBounds_toArray,List.set_cons_zero,List.set_cons_succ]
         refine ay (i:=1) (v:=?v13) rfl (by kernel_rfl) (by kernel_rfl) (by kernel_rfl) (by kernel_rfl) (fun _ _ _ h=>h) rfl ?Qz bB ?_
         case Qz =>
          intro V aF
          try dsimp only at aF
          go_simp
          try with_reducible rfl
         try simp only[Act.put,List.setIfInBounds_toArray,List.set_cons_zero,List.set_cons_succ]
         refine ay (i:=2) (v:=?v14) rfl (by kernel_rfl) (by kernel_rfl) (by kernel_rfl) (by kernel_rfl) (fun _ _ _ h=>h) rfl ?QA bB ?_
         case QA =>
          intro V aF
          try dsimp only at aF
          go_simp
          try with_reducible rfl
         try simp only[Act.put,List.setIfInBounds_toArray,List.set_cons_zero,List.set_cons_succ]
         refine ay (i:=3) (v:=?v15) rfl (by kernel_rfl) (by kernel_rfl) (by kernel_rfl) (by kernel_rfl) (fun _ _ _ h=>h) rfl ?QB bB ?_
         case QB =>
          intro V aF
          try dsimp only at aF
          go_simp
          try with_reducible rfl
         try simp only[Act.put,List.setIfInBounds_toArray,List.set_cons_zero,List.set_cons_succ]
         refine ay (i:=4) (v:=?v16) rfl (by kernel_rfl) (by kernel_rfl) (by kernel_rfl) (by kernel_rfl) (fun _ _ _ h=>h) rfl ?QC bB ?_
         case QC =>
          intro V aF
          try dsimp only at aF
          go_simp
          try with_reducible rfl
         try simp only[Act.put,List.setIfInBounds_toArray,List.set_cons_zero,List.set_cons_succ]
         refine ay (i:=5) (v:=?v17) rfl (by kernel_rfl) (by kernel_rfl) (by kernel_rfl) (by kernel_rfl) (fun _ _ _ h=>h) rfl ?QD bB ?_
         case QD =>
          intro V aF
          try dsimp only at aF
          go_simp
          try with_reducible rfl
         try simp only[Act.put,List.setIfInBounds_toArray,List.set_cons_zero,List.set_cons_succ]
         refine ay (i:=6) (v:=?v18) rfl (by kernel_rfl) (by kernel_rfl) (by kernel_rfl) (by kernel_rfl) (fun _ _ _ h=>h) rfl ?QE bB ?_
         case QE =>
          intro V aF
          try dsimp only at aF
          go_simp
          try with_reducible rfl
         try simp only[Act.put,List.setIfInBounds_toArray,List.set_cons_zero,List.set_cons_succ]
         refine ay (i:=7) (v:=?v19) rfl (by kernel_rfl) (by kernel_rfl) (by kernel_rfl) (by kernel_rfl) (fun _ _ _ h=>h) rfl ?QF bB ?_
         case QF =>
          intro V aF
          try dsimp only at aF
          go_simp
          try with_reducible rfl
         try simp only[Act.put,List.setIfInBounds_toArray,List.set_cons_zero,List.set_cons_succ]
         refine ay (i:=8) (v:=?v20) rfl (by kernel_rfl) (by kernel_rfl) (by kernel_rfl) (by kernel_rfl) (fun _ _ _ h=>h) rfl ?QG bB ?_
         case QG =>
          intro V aF
          try dsimp only at aF
          go_simp
          try with_reducible rfl
         try simp only[Act.put,List.setIfInBounds_toArray,List.set_cons_zero,List.set_cons_succ]
         refine ay (i:=9) (v:=?v21) rfl (by kernel_rfl) (by kernel_rfl) (by kernel_rfl) (by kernel_rfl) (fun _ _ _ h=>h) rfl ?QH bB ?_
         case QH =>
          intro V aF
          try dsimp only at aF
          go_simp
          try with_reducible rfl
         try simp only[Act.put,List.setIfInBounds_toArray,List.set_cons_zero,List.set_cons_succ]
         refine bf (i:=10) (by kernel_rfl) rfl (fun K hK=>?_);refine uL (by rfl) _ _ 27 3 (.int .i64 0) 8 (by rfl) Tryz.underlying27 Tryz.bW b (m+1) (r.c) (by rfl) ⟨b,i+1,none⟩ (n-(i+1)) _ news (by rfl) HN1.out Qq.out HN3.out HN4.out HN5.out HN6.out ?_;have HS2:(fun V:World=>V.cell? ⟨p,6,none⟩=some (.slice (some ⟨bw,0,none⟩) nw U.aj.c)) _:=HN7.out;refine hK _ _ HS2 ?_;clear hK K
         try simp only[Act.put,List.setIfInBounds_toArray,List.set_cons_zero,List.set_cons_succ]
         refine ay (i:=11) (v:=?v22) rfl (by kernel_rfl) (by kernel_rfl) (by kernel_rfl) (by kernel_rfl) (fun _ _ _ h=>h) rfl ?QI HS2 ?_
         case QI =>
          intro V aF
          try dsimp only at aF
          go_simp
          try with_reducible rfl
         try simp only[Act.put,List.setIfInBounds_toArray,List.set_cons_zero,List.set_cons_succ]
         obtain⟨k5,k6⟩:=HN9.out;refine iy (by kernel_rfl) rfl (by kernel_rfl) (fun K hK=>?_)
         go_simp
         refine hK _ _ ?_;clear hK K;clear k5 k6 bB HS2
         go_wp2
         go_ret
         exact⟨by rw[HRR.out];rfl,_,HFA.out,by rw[HRR.out];exact Wm.out⟩
     ·obtain rfl:i=n:=by omega
      have e2:decide ((i:Int)<(i:Int))=false:=by simp
      obtain⟨hq1,hq2,hq3,hq4,hq5⟩:=HQ.out;obtain⟨k1,k2⟩:=H2.out.kX hq3 hq1;have c6:=H2.out.iD;rw[hq3,hq4] at c6;simp only[Option.map_some] at c6;have c14:=H2.out.Bf;have f14:=H2.out.fz 14;rw[hq5] at c14;have nbp:¬ bw=p:=H2.out.Uv hq3;have hgn2:gN Q.sv.aj l=xs:=by show gN (Q.aj.xs.map (·.xs)) l=_;simp[gN,List.getD_eq_getElem?_getD,hq1]
      have Yk:=HG.out;rw[Nat.sub_self,SM.kD,hgn2] at Yk
      have qA:=zH (show SM.jr g { Q.sv with aj:=Q.sv.aj.set l (xs.take m),next:=nx+1 }=some R by
       have:=agW.out;rw[←Yk,if_pos rfl] at this
       exact this)
      have ak0:=zH (show jR g { Q.sv with aj:=Q.sv.aj.set l (xs.take m),next:=nx+1 } by
       have:=OK4.out.2.2.2.2;rw[←Yk] at this
       exact this rfl)
      have h3:=H2.out.zT (k:=m) hq1 hq3 (by show m≤xs.length;omega);have h4:=h3.uD (nx+1);rw[show (r.a.map fun b=>(⟨b,0,none⟩:Addr))=ra from KJ.out] at h4;have H4:=zH h4
      have ag5:=zH (show MM.sv ((Q.aY ⟨Q.aj.a,Q.aj.c,Q.aj.xs.set l ⟨r.a,r.c,xs.take m⟩⟩).Km (nx+1))={ Q.sv with aj:=Q.sv.aj.set l (xs.take m),next:=nx+1 } by
       show ({ Q.sv with aj:=(Q.aj.xs.set l ⟨r.a,r.c,xs.take m⟩).map (·.xs),next:=nx+1 }:SM)={ Q.sv with aj:=(Q.aj.xs.map (·.xs)).set l (xs.take m),next:=nx+1 }
       rw[List.map_set])
      have hnx1:nx+1≤900001:=by omega
      clear hq1 hq2 hq3 hq4 hq5 hgn2 Yk h3 h4
      go_wp2
      go_roundg g
      case measure=>omega
      case rel=>exact⟨_,H4.out,by rw[ag5.out];exact qA.out,by rw[ag5.out];exact ak0.out⟩
   ·have e1:decide ((nx:Int)<(nt:Int))=false:=by simp;omega
    go_wp2
    go_quiet (fail)
    go_wp2
    go_ret
    have hfg:=HFG.out;rw[if_neg hlt] at hfg;obtain rfl:=Option.some.inj hfg;exact⟨rfl,N,H1.out.drewN _,rfl⟩
end
theorem Ii {P:Program} {fn:Func} {a:Tmp} {t:TypeId} (h:fn.results=#[.cell a t]) (tmps:Array Value) (r:Addr) (hr:tmps.getD a undef=.pointer (some r)) (v:Value) (w:World) (hl:(loadVar t r).run P w=.ok v w):(results fn tmps).run P w=.ok v w:=by
 have e0:tmps[a]?.getD undef=.pointer (some r):=by simpa using hr
 have e1:asAddr (tmps[a]?.getD undef)=pure r:=by rw[e0];rfl
 simp[results,h,e1,hl]
theorem Ij (r:Nat) (w:World) (x y:Option Addr) (n m c d:Nat) (k:Int) (h0:w.cell? ⟨r,0,none⟩=some (.slice x n c)) (h1:w.cell? ⟨r,1,none⟩=some (.slice y m d)) (h2:w.cell? ⟨r,2,none⟩=some (.int .i64 k)) :
  (loadVar 129 ⟨r,0,none⟩).run Tryz.prog w=.ok (.agg #[.slice x n c,.slice y m d,.int .i64 k]) w:=by
 go_simp
end Go.Proofs.YthbbmdnfkkffjaaGreat
namespace Go.Proofs.aC
open Go Go.RowKit Go.Proofs.au
section
variable {P:Program}
variable {ops:Array Oper} {rest:List Oper} {o:Oper} {a:Act} {Q:Exit→Act→World→Prop}
end
def zeros (n:Nat):List Int:=List.replicate n 0
theorem St.wU {B:Nat} {w0 w:World} {a:Option Nat} {n c:Nat} {e:TypeId} {sz:Nat} {xs:List Value} {F:HP} (h:St B w0 w (star (sl a n c e sz xs) F)) (m d:Nat) (hm:m≤d) (hmn:m≤n) (hd:d≤c) :
  St B w0 w (star (sl a m d e sz (xs.take (m*sz))) F):=⟨h.below,h.base,h.sat.wU m d hm hmn hd⟩
theorem mM (z:Value) (n:Nat):(madeCells #[z] n).toList=List.replicate n z:=by
 refine List.ext_getElem (by simp[madeCells]) fun i h1 h2=>?_;simp[madeCells,Nat.mod_one]
theorem St.made {B:Nat} {w0 w:World} {F:HP} (h:St B w0 w F) (z:Value) (n:Nat) (e:TypeId) (hn:n≤maxLen) :
  St B w0 (w.alloc (.cells (madeCells #[z] n) e)) (star (sl (some w.heap.size) n n e 1 (List.replicate n z)) F):=by
 have h1:=h.iC (madeCells #[z] n) e;rw[mM] at h1;exact⟨h1.below,h1.base,h1.sat.pO (by simp) (Nat.le_refl _) hn (by simp) (by simp)⟩
section
variable {P:Program} {ops:Array Oper} {rest:List Oper} {o:Oper} {a:Act} {Q:Exit→Act→World→Prop}
theorem lX {w:World} (hgd:o.guard=none) (l c:Operand) (t e:TypeId) (z:Value) (bytes:Nat) (ho:o.op=.makeSlice t l c)
  (ht:P.underlying t=some (.slice e)) (hinfo:(P.info? e).map (fun i=>(i.zero,i.size,i.bytes))=some (some z,1,bytes)) (hz1:z.cells=#[z]) (n:Nat) (M:Int) (hM:M=(n:Int))
  (hl:a.eval l=.int .i64 M) (hc:a.eval c=.int .i64 M) (hb:bytes*n≤281474976710656) (hn:n≤maxLen) (h63:n≤9223372036854775807)
  {B:Nat} {w0:World} {F:HP} (hst:St B w0 w F)
  (h:∀ b w',St B w0 w' (star (sl (some b) n n e 1 (List.replicate n z)) F)→wpList P ops Q rest (a.put o.dst (.slice (some ⟨b,0,none⟩) n n)) w') :
  wpList P ops Q (o :: rest) a w:=by
 subst hM;refine wpList_plain hgd fun K hK=>?_;have hr:=run_make_row' (P:=P) t e z bytes ht hinfo hz1 .i64 .i64 n hb h63 w;unfold Oper.wp execOp;simp only[ho,hl,hc,Sem.run_bind,Sem.run_pure,hr,Result.andThen_ok];exact hK _ _ (h _ _ (hst.made z n e hn))
end
end Go.Proofs.aC
