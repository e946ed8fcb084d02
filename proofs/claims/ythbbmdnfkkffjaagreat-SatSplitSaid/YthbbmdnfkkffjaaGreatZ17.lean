/-
  Parts of the proof, joined by program: Fol, Res, Read2.
-/
import Derived.Test.YthbbmdnfkkffjaaGreatZ16
import Derived.Test.YthbbmdnfkkffjaaGreatZ02
namespace Go.Proofs.YthbbmdnfkkffjaaGreat
open Go.RowKit Go.Proofs.PlaitSep Go.Proofs.PlaitPure Go.Proofs.PlaitSat
theorem xor1 (l:Nat):l ^^^ 1=negL l:=by
 have h1:(l ^^^ 1)/2=l/2 ^^^ 1/2:=Nat.xor_div_two
 have h2:(l ^^^ 1) % 2=1↔¬ (l % 2=1↔1 % 2=1):=Nat.xor_mod_two_eq_one
 rw[show (1:Nat)/2=0 by rfl,Nat.xor_zero] at h1
 have h3:(l ^^^ 1) % 2=if l % 2=1 then 0 else 1:=by
  rcases Nat.mod_two_eq_zero_or_one (l ^^^ 1) with k | k <;> rcases Nat.mod_two_eq_zero_or_one l with h | h <;> simp[h,k] at h2 ⊢
 unfold negL
 split <;> rename_i h
 ·rw[if_pos h] at h3;omega
 ·rw[if_neg h] at h3;omega
theorem bits_xor1 (l:Nat) (h:l<4294967296):bits .xor .u32 (l:Int) 1=((negL l:Nat):Int):=by
 have:=u32_xor_nat l 1 h (by omega)
 rw[xor1] at this
 exact this
theorem addr_add (b o j:Nat):(⟨b,o,none⟩:Addr).add j=⟨b,o+j,none⟩:=by unfold Addr.add;split <;> simp_all
theorem lookC_facts (S:SM) (ref:Nat) (c:List Nat):((lookC S ref c).2.1=true→(lookC S ref c).2.2=false)∧(lookC S ref c).1.watches.length=S.watches.length∧(lookC S ref c).1.next=S.next:=by
 unfold lookC
 split
 ·exact⟨fun _=>rfl,rfl,rfl⟩
 ·split
  ·exact⟨fun _=>rfl,by simp[SM.watch,SM.setCl],rfl⟩
  ·split
   ·exact⟨fun h=>by simp at h,rfl,rfl⟩
   ·exact⟨fun _=>rfl,rfl,rfl⟩
theorem look_facts (S:SM) (ref l:Nat):((S.look ref l).2.1=true→(S.look ref l).2.2=false)∧(S.look ref l).1.watches.length=S.watches.length∧(S.look ref l).1.next=S.next:=by
 rw[look_lookC]
 exact lookC_facts _ _ _
section
variable {B:Nat} {w0 w:World} {p:Nat} {M:MM} {F:HP}
set_option maxRecDepth 100000 in
set_option maxHeartbeats 4000000 in
theorem sfollow_any (f:Nat) {R:SM×Int} (h:At B w0 w p M F) (hf:SM.followGo f M.sv=some R) (hok:followOk f M.sv) :
  Calls Tryz.prog 70 #[.pointer (some ⟨p,0,none⟩)] w fun e w'=>e=.returned (.int .i64 R.2)∧∃ M',At B w0 w' p M' F∧M'.sv=R.1:=by
 have H:=Lib.hid h
 have HF:=Lib.hid hf
 have HOK:=Lib.hid hok
 clear h hf hok
 go_enter Tryz.func70,Tryz.ntmps70
 go_wp2
 go_loopg [] f (fun g wr=>∃ N:MM,Hid (At B w0 wr p N F)∧Hid (SM.followGo g N.sv=some R)∧Hid (followOk g N.sv))
 case atStart=>exact⟨M,H,HF,HOK⟩
 case round =>
  obtain⟨N,H1,HF1,HOK1⟩:=hrel
  obtain⟨g,rfl⟩:∃ g,gk=g+1:=by
   cases gk with
   | zero=>exact absurd HF1.out (by simp[SM.followGo])
   | succ g=>exact⟨g,rfl⟩
  ·obtain⟨ok1,ok2,ok3⟩:=HOK1.out
   have OK3:=Lib.hid ok3
   have c1:=H1.out.c_next
   have c2:=H1.out.c_trail
   obtain⟨nx,hnx⟩:∃ n,N.next=n:=⟨_,rfl⟩
   obtain⟨nt,hnt⟩:∃ n,N.trail.xs.length=n:=⟨_,rfl⟩
   rw[show N.sv.trail.length=nt from hnt] at ok1
   rw[show N.sv.next=nx from hnx] at ok2
   rw[hnt] at c2
   rw[hnx] at c1
   have hfg:=HF1.out
   rw[SM.followGo,show N.sv.next=nx from hnx,show N.sv.trail.length=nt from hnt] at hfg
   have HFG:=Lib.hid hfg
   have HNX:=Lib.hid hnx
   have HNT:=Lib.hid hnt
   clear ok3 hnx hnt hfg HF1 HOK1
   by_cases hlt:nx<nt
   ·have e1:decide ((nx:Int)<(nt:Int))=true:=by simp;omega
    obtain⟨bt,hbt⟩:=H1.out.b_trail (by rw[HNT.out];omega)
    obtain⟨x,hx⟩:∃ x,gn N.trail.xs nx=x:=⟨_,rfl⟩
    obtain⟨d1,_⟩:=H1.out.r_trail hbt (i:=nx) (x:=x) (by rw[gn_some _ _ (by rw[HNT.out];exact hlt),hx])
    rw[hbt] at c2
    simp only[Option.map_some,vL] at c2 d1
    obtain⟨l,hl⟩:∃ l,negL x=l:=⟨_,rfl⟩
    have OK4:=Lib.hid (show l<1000000∧l<N.watches.xs.length∧(gN N.sv.watches l).length≤1000000∧innerOk (gN N.sv.watches l).length N.sv l 0 0∧((N.sv.inner l).2=-1→followOk g { (N.sv.inner l).1 with next:=nx+1 }) by
     have:=OK3.out (by rw[show N.sv.next=nx from HNX.out,show N.sv.trail.length=nt from HNT.out];exact hlt)
     rw[show N.sv.next=nx from HNX.out,show gn N.sv.trail nx=x from hx,hl] at this
     obtain⟨a1,a2,a3⟩:=this
     exact⟨a1,by have a4:l<(N.watches.xs.map (·.xs)).length:=a2;rwa [List.length_map] at a4,a3⟩)
    have HFG2:=Lib.hid (show (if (N.sv.inner l).2=-1 then SM.followGo g { (N.sv.inner l).1 with next:=nx+1 } else some (N.sv.inner l))=some R by
     have:=HFG.out
     rw[if_pos hlt,show gn N.sv.trail nx=x from hx,hl] at this
     exact this)
    have hll:=OK4.out.1
    have hlw:=OK4.out.2.1
    have hx32:x<4294967296:=by rw[←hl] at hll;unfold negL at hll;split at hll <;> omega
    have hxor:=bits_xor1 x hx32
    rw[hl] at hxor
    have n0:(0:Int)≤(nx:Int):=by omega
    have n1:(nx:Int)<(nt:Int):=by omega
    have hwx:IntKind.u32.wrap (l:Int)=(l:Int):=by rw[IntKind.wrap_u32'];omega
    clear HFG OK3 hx hl
    obtain⟨r,hr⟩:∃ r,N.watches.xs[l]?=some r:=⟨N.watches.xs[l],by simp[hlw]⟩
    obtain⟨bw,hbw⟩:=H1.out.b_watches (by omega)
    obtain⟨o1,o2⟩:=H1.out.o_watches hbw hr
    have c6:=H1.out.c_watches
    obtain⟨nw,hnw⟩:∃ n,N.watches.xs.length=n:=⟨_,rfl⟩
    obtain⟨n,hn⟩:∃ n,r.xs.length=n:=⟨_,rfl⟩
    rw[hbw,hnw] at c6
    rw[hn] at o1
    rw[hnw] at hlw
    simp only[Option.map_some] at c6
    have hgn:gN N.sv.watches l=r.xs:=by show gN (N.watches.xs.map (·.xs)) l=_;simp[gN,List.getD_eq_getElem?_getD,hr]
    have OK5:=Lib.hid (show n≤1000000∧innerOk n N.sv l 0 0∧N.sv.inner l=SM.innerGo n N.sv l 0 0 by
     obtain⟨_,_,a3,a4,_⟩:=OK4.out
     rw[hgn,hn] at a3 a4
     exact⟨a3,a4,by unfold SM.inner;rw[hgn,hn]⟩)
    have hnb:=OK5.out.1
    have l0:(0:Int)≤(l:Int):=by omega
    have l1:(l:Int)<(nw:Int):=by omega
    have HR:=Lib.hid hr
    have HBW:=Lib.hid hbw
    have HNW:=Lib.hid hnw
    have HN:=Lib.hid hn
    obtain⟨ra,hra⟩:∃ ra,(r.a.map fun b=>(⟨b,0,none⟩:Addr))=ra:=⟨_,rfl⟩
    rw[hra] at o1
    have HRA:=Lib.hid hra
    clear hr hbw hnw hn hgn hra hbt
    go_wp2
    go_quiet (fail)
    go_wp2
    go_quiet (fail)
    go_wp2
    have HK0:=Lib.hid (OK5.out.2.1)
    have HI0:=Lib.hid (OK5.out.2.2)
    have HN0:=Lib.hid (H1.out.drewN 0)
    clear c1 c2 d1 o1 o2 c6 e1 OK5
    go_loopg [5,49] n (fun g2 s5 s49 wr=>∃ (Q:MM) (i m:Nat) (xs:List Nat),s5=.slice ra m r.c∧s49=.int .i64 i∧m≤i∧i≤n∧Hid (g2=n-i)∧Hid (At B w0 wr p Q F) ∧
     Hid (Q.watches.xs[l]?=some ⟨r.a,r.c,xs⟩∧xs.length=n∧Q.watches.a=some bw∧Q.watches.xs.length=nw∧Q.next=nx)∧Hid (SM.innerGo (n-i) Q.sv l i m=N.sv.inner l)∧Hid (innerOk (n-i) Q.sv l i m))
    case atStart=>exact⟨N,0,0,r.xs,rfl,rfl,Nat.le_refl _,Nat.zero_le _,rfl,H1.out.drewN _,⟨HR.out,HN.out,HBW.out,HNW.out,HNX.out⟩,HI0.out.symm,HK0.out⟩
    case round =>
     obtain⟨Q,i,m,xs,rfl,rfl,hmi,hin,hg2,H2,HQ,HG,HO⟩:=hrel
     by_cases hil:i<n
     ·have e2:decide ((i:Int)<(n:Int))=true:=by simp;omega
      obtain⟨hq1,hq2,hq3,hq4,hq5⟩:=HQ.out
      obtain⟨b,hb⟩:=(H2.out.rb_watches hq1).1 (by show 0<xs.length;omega)
      have hb2:r.a=some b:=hb
      obtain rfl:ra=some ⟨b,0,none⟩:=by rw[←HRA.out,hb2];rfl
      have hrc:n≤r.c:=by have:=(H2.out.rb_watches hq1).2.1;have h2:xs.length≤r.c:=this;omega
      obtain⟨ref,href⟩:∃ x,gn xs i=x:=⟨_,rfl⟩
      have hgn2:gN Q.sv.watches l=xs:=by show gN (Q.watches.xs.map (·.xs)) l=_;simp[gN,List.getD_eq_getElem?_getD,hq1]
      obtain⟨⟨S2,mo,bd⟩,hrr⟩:∃ rr,Q.sv.look ref l=rr:=⟨_,rfl⟩
      have hLF:=look_facts Q.sv ref l
      rw[hrr] at hLF
      have hho:=HO.out
      have hhg:=HG.out
      rw[show n-i=(n-(i+1))+1 by omega] at hho hhg
      obtain⟨rd,hneg,hnext⟩:=hho
      rw[innerGo_succ] at hhg
      have hbad:innerBad Q.sv l i=bd:=by unfold innerBad;rw[hgn2,href,hrr]
      have hM:innerM Q.sv l i m=if mo then m else m+1:=by unfold innerM;rw[hgn2,href,hrr]
      have hU:innerU Q.sv l i m=if mo then S2 else { S2 with watches:=S2.watches.set l ((gN S2.watches l).set m ref) }:=by unfold innerU;rw[hgn2,href,hrr]
      rw[hbad,hM,hU] at hhg hnext
      rw[hgn2,href] at rd hhg
      have HLK:=Lib.hid (slook_any ref l H2.out rd.ok (by have:=rd.lt;show ref<Q.cls.xs.length;have h2:ref<(Q.cls.xs.map fun x=>(x.1.xs,x.2)).length:=this;rwa [List.length_map] at h2) (by have:=rd.n;have h2:(Q.cls.xs.map fun x=>(x.1.xs,x.2)).length≤1000000:=this;rwa [List.length_map] at h2) rd.two rd.len rd.vars hll)
      rw[hrr] at HLK
      obtain⟨e3,_⟩:=H2.out.e_watches hq1 hb2 (j:=i) (x:=ref) (by show xs[i]?=_;rw[gn_some xs i (by omega),href])
      simp only[vN] at e3
      have i0:(0:Int)≤(i:Int):=by omega
      have i1:(i:Int)<(n:Int):=by omega
      have HHG:=Lib.hid hhg
      have HNX2:=Lib.hid hnext
      have HNEG:=Lib.hid hneg
      have HLF:=Lib.hid hLF
      have HB2:=Lib.hid hb2
      have HQ1:=Lib.hid hq1
      have HQ2:=Lib.hid hq2
      have HQ3:=Lib.hid hq3
      have HQ4:=Lib.hid hq4
      have HQ5:=Lib.hid hq5
      clear hq1 hq2 hq3 hq4 hq5 hb hb2 href hgn2 hLF rd hneg hnext hhg hbad hM hU HO HG HQ hrr
      go_wp2_with fail
      refine HLK.out.mono ?_
      rintro e w3 ⟨he,T,hT,hsv,hta,htc,hrow⟩
      simp only at he hsv
      subst he
      subst hsv
      have HT:=Lib.hid hT
      have HT1:=Lib.hid ((hrow l HNEG.out).trans HQ1.out)
      have HT3:=Lib.hid (hta.trans HQ3.out)
      have HT4:=Lib.hid (show T.watches.xs.length=nw by
       have h1:(T.watches.xs.map (·.xs)).length=(Q.watches.xs.map (·.xs)).length:=HLF.out.2.1
       rw[List.length_map,List.length_map] at h1
       exact h1.trans HQ4.out)
      have HT5:=Lib.hid (show T.next=nx from (show T.next=Q.next from HLF.out.2.2).trans HQ5.out)
      have HGT:=Lib.hid (show gN T.sv.watches l=xs by show gN (T.watches.xs.map (·.xs)) l=_;simp[gN,List.getD_eq_getElem?_getD,HT1.out])
      clear hT hta htc hrow HLK e3
      cases mo with
      | true =>
       obtain rfl:bd=false:=HLF.out.1 rfl
       have HHG3:=Lib.hid (show SM.innerGo (n-(i+1)) T.sv l (i+1) m=N.sv.inner l by have:=HHG.out;simpa using this)
       have HNX3:=Lib.hid (show innerOk (n-(i+1)) T.sv l (i+1) m by have:=HNX2.out rfl;simpa using this)
       go_wp2
       go_roundg (n-(i+1))
       case measure=>have:=hg2.out;omega
       case rel=>exact⟨T,i+1,m,xs,rfl,by go_num,by omega,by omega,rfl,HT.out,⟨HT1.out,HQ2.out,HT3.out,HT4.out,HT5.out⟩,HHG3.out,HNX3.out⟩
      | false =>
       obtain⟨k1,k2⟩:=HT.out.e_watches HT1.out HB2.out (j:=m) (x:=gn xs m) (by show xs[m]?=_;exact gn_some xs m (by rw[HQ2.out];omega))
       have HC1:=Lib.hid (show (w3.cell? ⟨b,m,none⟩).isSome=true by rw[k1];rfl)
       have HF1:=Lib.hid k2
       have HBS:=Lib.hid ((HT.out.rb_watches HT1.out).2.2 b HB2.out).1
       clear k1 k2
       have HU:=Lib.hid ((HT.out.alloc (.cells #[.int .i64 ref] 3)).eset_watches (i:=l) (j:=m) HT1.out HB2.out (by show m<xs.length;rw[HQ2.out];omega) ref)
       obtain⟨U,hUd⟩:∃ U,T.u_watches ⟨T.watches.a,T.watches.c,T.watches.xs.set l ⟨r.a,r.c,xs.set m ref⟩⟩=U:=⟨_,rfl⟩
       have hU1:U.watches.xs[l]?=some ⟨r.a,r.c,xs.set m ref⟩:=by rw[←hUd];show (T.watches.xs.set l _)[l]?=_;rw[List.getElem?_set_self (by rw[HT4.out];exact hlw)]
       have hUsv:U.sv={ T.sv with watches:=T.sv.watches.set l ((gN T.sv.watches l).set m ref) }:=by
        rw[HGT.out,←hUd]
        show ({ T.sv with watches:=(T.watches.xs.set l ⟨r.a,r.c,xs.set m ref⟩).map (·.xs) }:SM)={ T.sv with watches:=(T.watches.xs.map (·.xs)).set l (xs.set m ref) }
        rw[List.map_set]
       have HU1:=Lib.hid hU1
       have HU3:=Lib.hid (show U.watches.a=some bw by rw[←hUd];exact HT3.out)
       have HU4:=Lib.hid (show U.watches.xs.length=nw by rw[←hUd];show (T.watches.xs.set l _).length=nw;rw[List.length_set];exact HT4.out)
       have HU5:=Lib.hid (show U.next=nx by rw[←hUd];exact HT5.out)
       have HU2:=Lib.hid (show At B w0 ((w3.alloc (.cells #[.int .i64 ref] 3)).setCell ⟨b,m,none⟩ (.int .i64 ref)) p U F by have:=HU.out;rw[show T.u_watches _=U from hUd] at this;exact this)
       have HUS:=Lib.hid hUsv
       have HXL:=Lib.hid (show (xs.set m ref).length=n by rw[List.length_set];exact HQ2.out)
       clear hUd hU1 hUsv HU
       cases bd with
       | false =>
        have HHG3:=Lib.hid (show SM.innerGo (n-(i+1)) U.sv l (i+1) (m+1)=N.sv.inner l by have:=HHG.out;rw[HUS.out];simpa using this)
        have HNX3:=Lib.hid (show innerOk (n-(i+1)) U.sv l (i+1) (m+1) by have:=HNX2.out rfl;rw[HUS.out];simpa using this)
        go_wp2_with (at_builtin;refine wpList_append_at rfl _ _ 27 3 (.int .i64 0) 8 rfl Tryz.underlying27 Tryz.infoIntS b m r.c rfl (.int .i64 ref) rfl rfl (by omega) HC1.out HF1.out HBS.out ?_)
        go_roundg (n-(i+1))
        case measure=>have:=hg2.out;omega
        case rel=>exact⟨U,i+1,m+1,xs.set m ref,rfl,by go_num,by omega,by omega,rfl,HU2.out,⟨HU1.out,HXL.out,HU3.out,HU4.out,HU5.out⟩,HHG3.out,HNX3.out⟩
       | true =>
        go_wp2_with (at_builtin;refine wpList_append_at rfl _ _ 27 3 (.int .i64 0) 8 rfl Tryz.underlying27 Tryz.infoIntS b m r.c rfl (.int .i64 ref) rfl rfl (by omega) HC1.out HF1.out HBS.out ?_)
        have hU2:=HU2.out
        clear HU2 HC1 HF1 HBS
        revert hU2
        generalize (w3.alloc (.cells #[.int .i64 ref] 3)).setCell ⟨b,m,none⟩ (.int .i64 ref)=w5
        intro hU2
        have c6:=hU2.c_watches
        rw[HU3.out,HU4.out] at c6
        simp only[Option.map_some] at c6
        have HU2:=Lib.hid hU2
        clear hU2
        have j0:(i:Int)+1≤(n:Int):=by omega
        have j1:(n:Int)≤(r.c:Int):=by omega
        have j2:(0:Int)≤(i:Int)+1:=by omega
        have hwi:IntKind.i64.wrap ((i:Int)+1)=(i:Int)+1:=by rw[IntKind.wrap_i64];omega
        obtain⟨ys,hys⟩:∃ ys,xs.set m ref=ys:=⟨_,rfl⟩
        rw[hys] at HU1 HXL
        have hU3:=HU2.out.drewN 1
        have hself:U.u_watches ⟨U.watches.a,U.watches.c,U.watches.xs.set l ⟨r.a,r.c,ys⟩⟩=U:=by
         have:U.watches.xs.set l ⟨r.a,r.c,ys⟩=U.watches.xs:=by
          apply List.ext_getElem?
          intro q
          by_cases e:q=l
          ·subst e;rw[HU1.out,List.getElem?_set_self (by rw[HU4.out];exact hlw)]
          ·rw[List.getElem?_set_ne (fun h=>e h.symm)]
         rw[this]
        have hcell:∀ j,j<n→w5.drew.cell? ⟨b,j,none⟩=some (vN (gn ys j))∧w5.drew.frozen? ⟨b,j,none⟩=false:=fun j hj=>hU3.e_watches HU1.out HB2.out (j:=j) (x:=gn ys j) (gn_some ys j (by rw[HXL.out];exact hj))
        have HN1:=Lib.hid (show ((ys.drop (i+1)).map vN).length=n-(i+1) by rw[List.length_map,List.length_drop,HXL.out])
        have HN2A:=Lib.hid (show ∀ (j:Nat) (u:Value),((ys.drop (i+1)).map vN)[j]?=some u→w5.drew.cell? ⟨b,i+1+j,none⟩=some u from fun j u hj=>by
         have hjl:=(List.getElem?_eq_some_iff.1 hj).1
         rw[HN1.out] at hjl
         rw[(hcell (i+1+j) (by omega)).1]
         rw[List.getElem?_map,List.getElem?_drop,gn_some ys (i+1+j) (by rw[HXL.out];omega)] at hj
         exact hj)
        have HN3:=Lib.hid (show ∀ u∈(ys.drop (i+1)).map vN,u.oneCell'=true by intro u hu;obtain⟨q,_,rfl⟩:=List.mem_map.1 hu;rfl)
        have HN4:=Lib.hid (show m+1+(n-(i+1))≤r.c by omega)
        have HN5:=Lib.hid (show ∀ j,j<n-(i+1)→(w5.drew.cell? ⟨b,m+1+j,none⟩).isSome=true from fun j hj=>by rw[(hcell (m+1+j) (by omega)).1];rfl)
        have HN6:=Lib.hid (show ∀ j,j<n-(i+1)→w5.drew.frozen? ⟨b,m+1+j,none⟩=false from fun j hj=>(hcell (m+1+j) (by omega)).2)
        have HN8:=Lib.hid (At.sets_watches (M:=U) (i:=l) (b:=b) (r:=r) HB2.out (ys.drop (i+1)) ys (m+1) w5.drew (by rw[HU4.out];exact hlw) (by rw[hself];exact hU3) (by rw[List.length_drop,HXL.out];omega))
        have HN7:=Lib.hid (show (w5.drew.setCells b (m+1) ((ys.drop (i+1)).map vN)).cell? ⟨p,6,none⟩=some (.slice (some ⟨bw,0,none⟩) nw U.watches.c) by
         have:=HN8.out.c_watches
         rw[show (U.u_watches ⟨U.watches.a,U.watches.c,U.watches.xs.set l ⟨r.a,r.c,over ys (m+1) (ys.drop (i+1))⟩⟩).watches.a=some bw from HU3.out,show (U.u_watches ⟨U.watches.a,U.watches.c,U.watches.xs.set l ⟨r.a,r.c,over ys (m+1) (ys.drop (i+1))⟩⟩).watches.xs.length=nw by show (U.watches.xs.set l _).length=nw;rw[List.length_set];exact HU4.out] at this
         exact this)
        have hV1:(U.u_watches ⟨U.watches.a,U.watches.c,U.watches.xs.set l ⟨r.a,r.c,over ys (m+1) (ys.drop (i+1))⟩⟩).watches.xs[l]?=some ⟨r.a,r.c,over ys (m+1) (ys.drop (i+1))⟩:=by show (U.watches.xs.set l _)[l]?=_;rw[List.getElem?_set_self (by rw[HU4.out];exact hlw)]
        have HN9:=Lib.hid (HN8.out.o_watches (b:=bw) (i:=l) HU3.out hV1)
        have hot:=over_take (ys.drop (i+1)) ys (m+1) (by rw[List.length_drop,HXL.out];omega)
        rw[List.length_drop,HXL.out] at hot
        have hfa:=HN8.out.rcut_watches (k:=m+1+(n-(i+1))) hV1 HU3.out (by show _≤(over ys (m+1) (ys.drop (i+1))).length;rw[over_len,HXL.out];omega)
        rw[show ((⟨r.a,r.c,over ys (m+1) (ys.drop (i+1))⟩:Fl Nat).a.map fun b=>(⟨b,0,none⟩:Addr))=some ⟨b,0,none⟩ from HRA.out,watches_set2] at hfa
        have HFA:=Lib.hid hfa
        have hus:gN U.sv.watches l=ys:=by show gN (U.watches.xs.map (·.xs)) l=_;simp[gN,List.getD_eq_getElem?_getD,HU1.out]
        have HRR:=Lib.hid (show R=({ U.sv with watches:=U.sv.watches.set l (ys.take (m+1)++ys.drop (i+1)) },(ref:Int)) by
         have h1:(({ U.sv with watches:=U.sv.watches.set l ((gN U.sv.watches l).take (m+1)++(gN U.sv.watches l).drop (i+1)) },(ref:Int)):SM×Int)=N.sv.inner l:=by rw[HUS.out];exact HHG.out
         simp only[hus] at h1
         have h4:=HFG2.out
         rw[←h1,if_neg (by show ¬ (ref:Int)=-1;omega)] at h4
         exact (Option.some.inj h4).symm)
        have HFS:=Lib.hid (show MM.sv (U.u_watches ⟨U.watches.a,U.watches.c,U.watches.xs.set l ⟨r.a,r.c,(over ys (m+1) (ys.drop (i+1))).take (m+1+(n-(i+1)))⟩⟩)={ U.sv with watches:=U.sv.watches.set l (ys.take (m+1)++ys.drop (i+1)) } by
         rw[hot]
         show ({ U.sv with watches:=(U.watches.xs.set l ⟨r.a,r.c,ys.take (m+1)++ys.drop (i+1)⟩).map (·.xs) }:SM)={ U.sv with watches:=(U.watches.xs.map (·.xs)).set l (ys.take (m+1)++ys.drop (i+1)) }
         rw[List.map_set])
        obtain⟨news,hnews⟩:∃ news,(ys.drop (i+1)).map vN=news:=⟨_,rfl⟩
        rw[hnews] at HN1 HN2A HN3 HN7 HN8 HN9 HFA
        clear hnews
        clear hU3 hself hcell hV1 hot hfa hus
        by_cases hci:r.c=i+1
        ·rcases r with ⟨rA,rc,rxs⟩
         simp only at hci
         subst hci
         have hz:n-(i+1)=0:=by have:n≤i+1:=hrc;omega
         rw[hz] at HN1 HN4 HN5 HN6 HFA HFS
         have HN2:=Lib.hid (show ∀ (j:Nat) (u:Value),news[j]?=some u→w5.drew.cell? ((⟨b,0,none⟩:Addr).add j)=some u from fun j u hj=>by have:=List.getElem?_eq_some_iff.1 hj;obtain⟨h1,_⟩:=this;rw[HN1.out] at h1;omega)
         refine wp_region_E 12 (fun V:World=>V.cell? ⟨p,6,none⟩=some (.slice (some ⟨bw,0,none⟩) nw U.watches.c)) (by kernel_rfl) ?_
         have HS0:(fun V:World=>V.cell? ⟨p,6,none⟩=some (.slice (some ⟨bw,0,none⟩) nw U.watches.c)) w5.drew:=c6
         refine E_takeL (i:=0) (v:=?v1) rfl (by kernel_rfl) (by kernel_rfl) (by kernel_rfl) (by kernel_rfl) (fun _ _ _ h=>h) rfl ?hy1 HS0 ?_
         case hy1 =>
          intro V hSV
          try dsimp only at hSV
          go_simp
          try with_reducible rfl
         try simp only[Act.put,List.setIfInBounds_toArray,List.set_cons_zero,List.set_cons_succ]
         refine E_takeL (i:=1) (v:=?v2) rfl (by kernel_rfl) (by kernel_rfl) (by kernel_rfl) (by kernel_rfl) (fun _ _ _ h=>h) rfl ?hy2 HS0 ?_
         case hy2 =>
          intro V hSV
          try dsimp only at hSV
          go_simp
          try with_reducible rfl
         try simp only[Act.put,List.setIfInBounds_toArray,List.set_cons_zero,List.set_cons_succ]
         refine E_takeL (i:=2) (v:=?v3) rfl (by kernel_rfl) (by kernel_rfl) (by kernel_rfl) (by kernel_rfl) (fun _ _ _ h=>h) rfl ?hy3 HS0 ?_
         case hy3 =>
          intro V hSV
          try dsimp only at hSV
          go_simp
          try with_reducible rfl
         try simp only[Act.put,List.setIfInBounds_toArray,List.set_cons_zero,List.set_cons_succ]
         refine E_takeL (i:=3) (v:=?v4) rfl (by kernel_rfl) (by kernel_rfl) (by kernel_rfl) (by kernel_rfl) (fun _ _ _ h=>h) rfl ?hy4 HS0 ?_
         case hy4 =>
          intro V hSV
          try dsimp only at hSV
          go_simp
          try with_reducible rfl
         try simp only[Act.put,List.setIfInBounds_toArray,List.set_cons_zero,List.set_cons_succ]
         refine E_takeL (i:=4) (v:=?v5) rfl (by kernel_rfl) (by kernel_rfl) (by kernel_rfl) (by kernel_rfl) (fun _ _ _ h=>h) rfl ?hy5 HS0 ?_
         case hy5 =>
          intro V hSV
          try dsimp only at hSV
          go_simp
          try with_reducible rfl
         try simp only[Act.put,List.setIfInBounds_toArray,List.set_cons_zero,List.set_cons_succ]
         refine E_takeL (i:=5) (v:=?v6) rfl (by kernel_rfl) (by kernel_rfl) (by kernel_rfl) (by kernel_rfl) (fun _ _ _ h=>h) rfl ?hy6 HS0 ?_
         case hy6 =>
          intro V hSV
          try dsimp only at hSV
          go_simp
          try with_reducible rfl
         try simp only[Act.put,List.setIfInBounds_toArray,List.set_cons_zero,List.set_cons_succ]
         refine E_takeL (i:=6) (v:=?v7) rfl (by kernel_rfl) (by kernel_rfl) (by kernel_rfl) (by kernel_rfl) (fun _ _ _ h=>h) rfl ?hy7 HS0 ?_
         case hy7 =>
          intro V hSV
          try dsimp only at hSV
          go_simp
          try with_reducible rfl
         try simp only[Act.put,List.setIfInBounds_toArray,List.set_cons_zero,List.set_cons_succ]
         refine E_takeL (i:=7) (v:=?v8) rfl (by kernel_rfl) (by kernel_rfl) (by kernel_rfl) (by kernel_rfl) (fun _ _ _ h=>h) rfl ?hy8 HS0 ?_
         case hy8 =>
          intro V hSV
          try dsimp only at hSV
          go_simp
          try with_reducible rfl
         try simp only[Act.put,List.setIfInBounds_toArray,List.set_cons_zero,List.set_cons_succ]
         refine E_takeL (i:=8) (v:=?v9) rfl (by kernel_rfl) (by kernel_rfl) (by kernel_rfl) (by kernel_rfl) (fun _ _ _ h=>h) rfl ?hy9 HS0 ?_
         case hy9 =>
          intro V hSV
          try dsimp only at hSV
          go_simp
          try with_reducible rfl
         try simp only[Act.put,List.setIfInBounds_toArray,List.set_cons_zero,List.set_cons_succ]
         refine E_takeL (i:=9) (v:=?v10) rfl (by kernel_rfl) (by kernel_rfl) (by kernel_rfl) (by kernel_rfl) (fun _ _ _ h=>h) rfl ?hy10 HS0 ?_
         case hy10 =>
          intro V hSV
          try dsimp only at hSV
          go_simp
          try with_reducible rfl
         try simp only[Act.put,List.setIfInBounds_toArray,List.set_cons_zero,List.set_cons_succ]
         refine E_onlyL (i:=10) (by kernel_rfl) rfl (fun K hK=>?_)
         refine step_append_at (by rfl) _ _ 27 3 (.int .i64 0) 8 (by rfl) Tryz.underlying27 Tryz.infoIntS b (m+1) (i+1) (by rfl) ⟨b,0,none⟩ (0) _ news (by rfl) HN1.out HN2.out HN3.out HN4.out HN5.out HN6.out ?_
         have HS2:(fun V:World=>V.cell? ⟨p,6,none⟩=some (.slice (some ⟨bw,0,none⟩) nw U.watches.c)) _:=HN7.out
         refine hK _ _ HS2 ?_
         clear hK K
         try simp only[Act.put,List.setIfInBounds_toArray,List.set_cons_zero,List.set_cons_succ]
         refine E_takeL (i:=11) (v:=?v11) rfl (by kernel_rfl) (by kernel_rfl) (by kernel_rfl) (by kernel_rfl) (fun _ _ _ h=>h) rfl ?hy11 HS2 ?_
         case hy11 =>
          intro V hSV
          try dsimp only at hSV
          go_simp
          try with_reducible rfl
         try simp only[Act.put,List.setIfInBounds_toArray,List.set_cons_zero,List.set_cons_succ]
         obtain⟨k5,k6⟩:=HN9.out
         refine E_lastL (by kernel_rfl) rfl (by kernel_rfl) (fun K hK=>?_)
         go_simp
         refine hK _ _ ?_
         clear hK K
         clear k5 k6 HS0 HS2
         go_wp2
         go_ret
         exact⟨by rw[HRR.out];rfl,_,HFA.out,by rw[HRR.out];exact HFS.out⟩
        ·skip
         have HN2:=Lib.hid (show ∀ (j:Nat) (u:Value),news[j]?=some u→w5.drew.cell? ((⟨b,i+1,none⟩:Addr).add j)=some u from fun j u hj=>by rw[addr_add];exact HN2A.out j u hj)
         refine wp_region_E 12 (fun V:World=>V.cell? ⟨p,6,none⟩=some (.slice (some ⟨bw,0,none⟩) nw U.watches.c)) (by kernel_rfl) ?_
         have HS0:(fun V:World=>V.cell? ⟨p,6,none⟩=some (.slice (some ⟨bw,0,none⟩) nw U.watches.c)) w5.drew:=c6
         refine E_takeL (i:=0) (v:=?v12) rfl (by kernel_rfl) (by kernel_rfl) (by kernel_rfl) (by kernel_rfl) (fun _ _ _ h=>h) rfl ?hy12 HS0 ?_
         case hy12 =>
          intro V hSV
          try dsimp only at hSV
          go_simp
          try with_reducible rfl
         try simp only[Act.put,List.setIfInBounds_toArray,List.set_cons_zero,List.set_cons_succ]
         refine E_takeL (i:=1) (v:=?v13) rfl (by kernel_rfl) (by kernel_rfl) (by kernel_rfl) (by kernel_rfl) (fun _ _ _ h=>h) rfl ?hy13 HS0 ?_
         case hy13 =>
          intro V hSV
          try dsimp only at hSV
          go_simp
          try with_reducible rfl
         try simp only[Act.put,List.setIfInBounds_toArray,List.set_cons_zero,List.set_cons_succ]
         refine E_takeL (i:=2) (v:=?v14) rfl (by kernel_rfl) (by kernel_rfl) (by kernel_rfl) (by kernel_rfl) (fun _ _ _ h=>h) rfl ?hy14 HS0 ?_
         case hy14 =>
          intro V hSV
          try dsimp only at hSV
          go_simp
          try with_reducible rfl
         try simp only[Act.put,List.setIfInBounds_toArray,List.set_cons_zero,List.set_cons_succ]
         refine E_takeL (i:=3) (v:=?v15) rfl (by kernel_rfl) (by kernel_rfl) (by kernel_rfl) (by kernel_rfl) (fun _ _ _ h=>h) rfl ?hy15 HS0 ?_
         case hy15 =>
          intro V hSV
          try dsimp only at hSV
          go_simp
          try with_reducible rfl
         try simp only[Act.put,List.setIfInBounds_toArray,List.set_cons_zero,List.set_cons_succ]
         refine E_takeL (i:=4) (v:=?v16) rfl (by kernel_rfl) (by kernel_rfl) (by kernel_rfl) (by kernel_rfl) (fun _ _ _ h=>h) rfl ?hy16 HS0 ?_
         case hy16 =>
          intro V hSV
          try dsimp only at hSV
          go_simp
          try with_reducible rfl
         try simp only[Act.put,List.setIfInBounds_toArray,List.set_cons_zero,List.set_cons_succ]
         refine E_takeL (i:=5) (v:=?v17) rfl (by kernel_rfl) (by kernel_rfl) (by kernel_rfl) (by kernel_rfl) (fun _ _ _ h=>h) rfl ?hy17 HS0 ?_
         case hy17 =>
          intro V hSV
          try dsimp only at hSV
          go_simp
          try with_reducible rfl
         try simp only[Act.put,List.setIfInBounds_toArray,List.set_cons_zero,List.set_cons_succ]
         refine E_takeL (i:=6) (v:=?v18) rfl (by kernel_rfl) (by kernel_rfl) (by kernel_rfl) (by kernel_rfl) (fun _ _ _ h=>h) rfl ?hy18 HS0 ?_
         case hy18 =>
          intro V hSV
          try dsimp only at hSV
          go_simp
          try with_reducible rfl
         try simp only[Act.put,List.setIfInBounds_toArray,List.set_cons_zero,List.set_cons_succ]
         refine E_takeL (i:=7) (v:=?v19) rfl (by kernel_rfl) (by kernel_rfl) (by kernel_rfl) (by kernel_rfl) (fun _ _ _ h=>h) rfl ?hy19 HS0 ?_
         case hy19 =>
          intro V hSV
          try dsimp only at hSV
          go_simp
          try with_reducible rfl
         try simp only[Act.put,List.setIfInBounds_toArray,List.set_cons_zero,List.set_cons_succ]
         refine E_takeL (i:=8) (v:=?v20) rfl (by kernel_rfl) (by kernel_rfl) (by kernel_rfl) (by kernel_rfl) (fun _ _ _ h=>h) rfl ?hy20 HS0 ?_
         case hy20 =>
          intro V hSV
          try dsimp only at hSV
          go_simp
          try with_reducible rfl
         try simp only[Act.put,List.setIfInBounds_toArray,List.set_cons_zero,List.set_cons_succ]
         refine E_takeL (i:=9) (v:=?v21) rfl (by kernel_rfl) (by kernel_rfl) (by kernel_rfl) (by kernel_rfl) (fun _ _ _ h=>h) rfl ?hy21 HS0 ?_
         case hy21 =>
          intro V hSV
          try dsimp only at hSV
          go_simp
          try with_reducible rfl
         try simp only[Act.put,List.setIfInBounds_toArray,List.set_cons_zero,List.set_cons_succ]
         refine E_onlyL (i:=10) (by kernel_rfl) rfl (fun K hK=>?_)
         refine step_append_at (by rfl) _ _ 27 3 (.int .i64 0) 8 (by rfl) Tryz.underlying27 Tryz.infoIntS b (m+1) (r.c) (by rfl) ⟨b,i+1,none⟩ (n-(i+1)) _ news (by rfl) HN1.out HN2.out HN3.out HN4.out HN5.out HN6.out ?_
         have HS2:(fun V:World=>V.cell? ⟨p,6,none⟩=some (.slice (some ⟨bw,0,none⟩) nw U.watches.c)) _:=HN7.out
         refine hK _ _ HS2 ?_
         clear hK K
         try simp only[Act.put,List.setIfInBounds_toArray,List.set_cons_zero,List.set_cons_succ]
         refine E_takeL (i:=11) (v:=?v22) rfl (by kernel_rfl) (by kernel_rfl) (by kernel_rfl) (by kernel_rfl) (fun _ _ _ h=>h) rfl ?hy22 HS2 ?_
         case hy22 =>
          intro V hSV
          try dsimp only at hSV
          go_simp
          try with_reducible rfl
         try simp only[Act.put,List.setIfInBounds_toArray,List.set_cons_zero,List.set_cons_succ]
         obtain⟨k5,k6⟩:=HN9.out
         refine E_lastL (by kernel_rfl) rfl (by kernel_rfl) (fun K hK=>?_)
         go_simp
         refine hK _ _ ?_
         clear hK K
         clear k5 k6 HS0 HS2
         go_wp2
         go_ret
         exact⟨by rw[HRR.out];rfl,_,HFA.out,by rw[HRR.out];exact HFS.out⟩
     ·obtain rfl:i=n:=by omega
      have e2:decide ((i:Int)<(i:Int))=false:=by simp
      obtain⟨hq1,hq2,hq3,hq4,hq5⟩:=HQ.out
      obtain⟨k1,k2⟩:=H2.out.o_watches hq3 hq1
      have c6:=H2.out.c_watches
      rw[hq3,hq4] at c6
      simp only[Option.map_some] at c6
      have c14:=H2.out.c_next
      have f14:=H2.out.fz 14
      rw[hq5] at c14
      have nbp:¬ bw=p:=H2.out.n_watches hq3
      have hgn2:gN Q.sv.watches l=xs:=by show gN (Q.watches.xs.map (·.xs)) l=_;simp[gN,List.getD_eq_getElem?_getD,hq1]
      have hhg:=HG.out
      rw[Nat.sub_self,SM.innerGo,hgn2] at hhg
      have HFIN:=Lib.hid (show SM.followGo g { Q.sv with watches:=Q.sv.watches.set l (xs.take m),next:=nx+1 }=some R by
       have:=HFG2.out
       rw[←hhg,if_pos rfl] at this
       exact this)
      have HFOK:=Lib.hid (show followOk g { Q.sv with watches:=Q.sv.watches.set l (xs.take m),next:=nx+1 } by
       have:=OK4.out.2.2.2.2
       rw[←hhg] at this
       exact this rfl)
      have h3:=H2.out.rcut_watches (k:=m) hq1 hq3 (by show m≤xs.length;omega)
      have h4:=h3.put_next (nx+1)
      rw[show (r.a.map fun b=>(⟨b,0,none⟩:Addr))=ra from HRA.out] at h4
      have H4:=Lib.hid h4
      have HSVF:=Lib.hid (show MM.sv ((Q.u_watches ⟨Q.watches.a,Q.watches.c,Q.watches.xs.set l ⟨r.a,r.c,xs.take m⟩⟩).u_next (nx+1))={ Q.sv with watches:=Q.sv.watches.set l (xs.take m),next:=nx+1 } by
       show ({ Q.sv with watches:=(Q.watches.xs.set l ⟨r.a,r.c,xs.take m⟩).map (·.xs),next:=nx+1 }:SM)={ Q.sv with watches:=(Q.watches.xs.map (·.xs)).set l (xs.take m),next:=nx+1 }
       rw[List.map_set])
      have hnx1:nx+1≤900001:=by omega
      clear hq1 hq2 hq3 hq4 hq5 hgn2 hhg h3 h4
      go_wp2
      go_roundg g
      case measure=>omega
      case rel=>exact⟨_,H4.out,by rw[HSVF.out];exact HFIN.out,by rw[HSVF.out];exact HFOK.out⟩
   ·have e1:decide ((nx:Int)<(nt:Int))=false:=by simp;omega
    go_wp2
    go_quiet (fail)
    go_wp2
    go_ret
    have hfg:=HFG.out
    rw[if_neg hlt] at hfg
    obtain rfl:=Option.some.inj hfg
    exact⟨rfl,N,H1.out.drewN _,rfl⟩
end
end Go.Proofs.YthbbmdnfkkffjaaGreat
namespace Go.Proofs.YthbbmdnfkkffjaaGreat
open Go.RowKit Go.Proofs.PlaitSep Go.Proofs.PlaitPure Go.Proofs.PlaitSat
theorem results_cell1 {P:Program} {fn:Func} {a:Tmp} {t:TypeId} (h:fn.results=#[.cell a t]) (tmps:Array Value) (r:Addr) (hr:tmps.getD a undef=.pointer (some r)) (v:Value) (w:World) (hl:(loadVar t r).run P w=.ok v w):(results fn tmps).run P w=.ok v w:=by
 have e0:tmps[a]?.getD undef=.pointer (some r):=by simpa using hr
 have e1:asAddr (tmps[a]?.getD undef)=pure r:=by rw[e0];rfl
 simp[results,h,e1,hl]
theorem load_conflict (r:Nat) (w:World) (x y:Option Addr) (n m c d:Nat) (k:Int) (h0:w.cell? ⟨r,0,none⟩=some (.slice x n c)) (h1:w.cell? ⟨r,1,none⟩=some (.slice y m d)) (h2:w.cell? ⟨r,2,none⟩=some (.int .i64 k)) :
  (loadVar 129 ⟨r,0,none⟩).run Tryz.prog w=.ok (.agg #[.slice x n c,.slice y m d,.int .i64 k]) w:=by
 go_simp
end Go.Proofs.YthbbmdnfkkffjaaGreat
namespace Go.Proofs.PlaitSep
open Go Go.RowKit Go.Proofs.PlaitPure
section
variable {P:Program}
variable {ops:Array Oper} {rest:List Oper} {o:Oper} {a:Act} {Q:Exit→Act→World→Prop}
end
end Go.Proofs.PlaitSep
