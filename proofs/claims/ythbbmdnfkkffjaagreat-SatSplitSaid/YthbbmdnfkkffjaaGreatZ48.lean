/-
  Parts of the proof, joined by program: Byte4, Chk.
-/
import Derived.Test.YthbbmdnfkkffjaaGreatZ47
import Derived.Test.YthbbmdnfkkffjaaGreatZ46
namespace Go.Proofs.YthbbmdnfkkffjaaGreat
open Go.RowKit Go.Proofs.PlaitSep Go.Proofs.PlaitPure
def DecPost (w:World) (b:List Int) (e:Ending) (w':World):Prop :=
 Below w.heap.size w w'∧((decF b).2=0→∃ A c,e=.returned (.tuple #[.slice A (decF b).1.length c,.int .i64 0])∧Rd2 w' A (decF b).1.length (decF b).1∧Caps w' A (decF b).1.length) ∧
  ((decF b).2≠0→e=.returned (.tuple #[.slice none 0 0,.int .i64 120]))
theorem decPost_bad {w w':World} {b:List Int} (hB:Below w.heap.size w w') (h:decF b=([],120)):DecPost w b (.returned (.tuple #[.slice none 0 0,.int .i64 120])) w' :=
 ⟨hB,fun h'=>(by rw[h] at h';cases h'),fun _=>rfl⟩
def addR {α:Type} (pre:List α) (o:Option (List α×List Int)):Option (List α×List Int):=o.map fun p=>(pre++p.1,p.2)
theorem addR_rows {pre:List (List Int)} {m:Nat} {b x r:List Int} (h:rowN b=some (x,r)):addR pre (rowsN (m+1) b)=addR (pre++[x]) (rowsN m r):=by
 conv=>lhs;unfold rowsN
 rw[h]
 simp only
 cases rowsN m r with
 | none=>rfl
 | some p=>simp[addR]
theorem addR_rows_none {pre:List (List Int)} {m:Nat} {b:List Int} (h:rowN b=none):addR pre (rowsN (m+1) b)=none:=by
 unfold rowsN
 rw[h]
 rfl
theorem addR_read {pre:List Int} {m:Nat} {b r:List Int} {x:Int} (h:takeF b=some (x,r)):addR pre (readN (m+1) b)=addR (pre++[x]) (readN m r):=by
 conv=>lhs;unfold readN
 rw[h]
 simp only
 cases readN m r with
 | none=>rfl
 | some p=>simp[addR]
theorem addR_read_none {pre:List Int} {m:Nat} {b:List Int} (h:takeF b=none):addR pre (readN (m+1) b)=none:=by
 unfold readN
 rw[h]
 rfl
theorem addR_nil {α:Type} (o:Option (List α×List Int)):addR [] o=o:=by
 cases o with
 | none=>rfl
 | some p=>simp[addR]
theorem rowN_eq {b r:List Int} {n:Int} (h:takeF b=some (n,r)):rowN b=readN n.toNat r:=by unfold rowN;rw[h]
theorem rowN_none {b:List Int} (h:takeF b=none):rowN b=none:=by unfold rowN;rw[h]
theorem readN_short {k:Nat} {b:List Int} (h:b.length<4*k):readN k b=none:=by
 cases e:readN k b with
 | none=>rfl
 | some p =>
  obtain⟨l,r⟩:=p
  have:=(readN_length _ _ _ _ e).1
  omega
theorem rowsN_short {k:Nat} {b:List Int} (h:b.length<4*k):rowsN k b=none:=by
 cases e:rowsN k b with
 | none=>rfl
 | some p =>
  obtain⟨l,r⟩:=p
  have:=(rowsN_length _ _ _ _ e).1
  omega
section
variable {b r r2:List Int} {h m:Int}
theorem decF_none1 (h1:takeF b=none):decF b=([],120):=by unfold decF;rw[h1]
theorem decF_none2 (h1:takeF b=some (h,r)) (h2:takeF r=none):decF b=([],120):=by unfold decF;rw[h1];simp only;rw[h2]
theorem decF_magic (h1:takeF b=some (h,r)) (h2:takeF r=some (m,r2)) (h3:h≠1347179569):decF b=([],120):=by
 unfold decF;rw[h1];simp only;rw[h2];simp only;rw[if_pos h3]
theorem decF_rows (h1:takeF b=some (1347179569,r)) (h2:takeF r=some (m,r2)) (h3:rowsN m.toNat r2=none):decF b=([],120):=by
 unfold decF;rw[h1];simp only;rw[h2];simp only;rw[if_neg (by simp),h3]
theorem decF_left {l:List (List Int)} {x:Int} {t:List Int} (h1:takeF b=some (1347179569,r)) (h2:takeF r=some (m,r2)) (h3:rowsN m.toNat r2=some (l,x :: t)):decF b=([],120):=by
 unfold decF;rw[h1];simp only;rw[h2];simp only;rw[if_neg (by simp),h3]
theorem decF_ok {l:List (List Int)} (h1:takeF b=some (1347179569,r)) (h2:takeF r=some (m,r2)) (h3:rowsN m.toNat r2=some (l,[])):decF b=(l,0):=by
 unfold decF;rw[h1];simp only;rw[h2];simp only;rw[if_neg (by simp),h3]
end
theorem takeF_range {b r:List Int} {n:Int} (hb:IsBytes b) (h:takeF b=some (n,r)):0≤n∧n≤2147483647:=okN_iff.1 (takeF_form hb h).2.1
set_option maxRecDepth 100000 in
set_option maxHeartbeats 4000000 in
theorem decode_any (A:Option Addr) (n c:Nat) (b:List Int) (w:World) (hr:RdB w A n b) (hb:IsBytes b) (hn:n≤1000000) (hc:n≤c) (hcm:c≤9223372036854775807) :
  Calls Tryz.prog 79 #[.slice A n c] w (DecPost w b):=by
 have HR:=Lib.hid hr
 have HB:=Lib.hid hb
 have hd0:decide (4194304<(n:Int))=false:=by simp;omega
 cases h1:takeF b with
 | none =>
  have hbad:=decF_none1 h1
  have HBAD:=Lib.hid hbad
  have H1:=Lib.hid h1
  clear hr hb h1 hbad
  go_enter Tryz.func79,Tryz.ntmps79
  go_wp2_with fail
  refine (ttake_any A n c b w HR.out HB.out hc hcm).mono ?_
  rintro e w2 ⟨hbad,_⟩
  obtain⟨rfl,hD⟩:=hbad H1.out
  have HD:=Lib.hid hD
  clear hD hbad
  go_wp2_with fail
  refine (ttake_any A n c b w2 (RdB.drawn HR.out HD.out) HB.out hc hcm).mono ?_
  rintro e w3 ⟨hbad,_⟩
  obtain⟨rfl,hD3⟩:=hbad H1.out
  have HD3:=Lib.hid (HD.out.trans hD3)
  clear hD3 hbad
  go_wp2
  go_ret2
  exact decPost_bad (HD3.out.below _) HBAD.out
 | some p1 =>
  obtain⟨hd,r⟩:=p1
  have hrl:=takeF_length h1
  have hbr:=(takeF_form hb h1).2.2
  have H1:=Lib.hid h1
  have HBR:=Lib.hid hbr
  have HRL:=Lib.hid hrl
  cases h2:takeF r with
  | none =>
   have hbad:=decF_none2 h1 h2
   have HBAD:=Lib.hid hbad
   have H2:=Lib.hid h2
   clear hr hb h1 hbad h2 hrl hbr
   go_enter Tryz.func79,Tryz.ntmps79
   go_wp2_with fail
   refine (ttake_any A n c b w HR.out HB.out hc hcm).mono ?_
   rintro e w2 ⟨_,hgood⟩
   obtain⟨A2,c2,rfl,hD,hU,hc2,hc2'⟩:=hgood _ _ H1.out
   have HD:=Lib.hid hD
   have HU:=Lib.hid (hU _ (RdB.drawn HR.out hD))
   clear hD hgood hU
   go_wp2_with fail
   refine (ttake_any A2 (n-4) c2 r w2 HU.out HBR.out hc2 (by omega)).mono ?_
   rintro e w3 ⟨hbad,_⟩
   obtain⟨rfl,hD3⟩:=hbad H2.out
   have HD3:=Lib.hid (HD.out.trans hD3)
   clear hD3 hbad
   go_wp2
   go_ret2
   exact decPost_bad (HD3.out.below _) HBAD.out
  | some p2 =>
   obtain⟨m,r2⟩:=p2
   have hrl2:=takeF_length h2
   have hbr2:=(takeF_form hbr h2).2.2
   obtain⟨m0,m1⟩:=takeF_range hbr h2
   have H2:=Lib.hid h2
   have HBR2:=Lib.hid hbr2
   have HRL2:=Lib.hid hrl2
   obtain⟨n2,hn2⟩:∃ n2,r2.length=n2:=⟨_,rfl⟩
   have hnn:n-4-4=n2:=by have:=hr.len;omega
   have HN2:=Lib.hid hn2
   clear hr hb h1 h2 hrl hbr hrl2 hbr2 hn2
   have start:∀ (K:Prop),True→True:=fun _ _=>trivial
   clear start
   go_enter Tryz.func79,Tryz.ntmps79
   go_wp2_with fail
   refine (ttake_any A n c b w HR.out HB.out hc hcm).mono ?_
   rintro e w2 ⟨_,hgood⟩
   obtain⟨A2,c2,rfl,hD,hU,hc2,hc2'⟩:=hgood _ _ H1.out
   have HD:=Lib.hid hD
   have HU:=Lib.hid (hU _ (RdB.drawn HR.out hD))
   have HU0:=Lib.hid (hU _ HR.out)
   clear hD hgood hU
   go_wp2_with fail
   refine (ttake_any A2 (n-4) c2 r w2 HU.out HBR.out hc2 (by omega)).mono ?_
   rintro e w3 ⟨_,hgood⟩
   obtain⟨A3,c3,rfl,hD3,hU3,hc3,hc3'⟩:=hgood _ _ H2.out
   have HB3:=Lib.hid ((HD.out.trans hD3).below w.heap.size)
   have hU30:=hU3 _ HU0.out
   rw[hnn] at hc3 hU30 ⊢
   have HU3:=Lib.hid hU30
   clear hD3 hgood hU3 hU30
   by_cases hmag:hd=1347179569
   ·subst hmag
    by_cases hmany:(n2:Int)/4<m
    ·have e1:decide ((n2:Int)/4<m)=true:=by simpa using hmany
     have hbad:=decF_rows H1.out H2.out (rowsN_short (by rw[HN2.out];omega))
     have HBAD:=Lib.hid hbad
     clear hbad
     go_wp2
     go_ret2
     exact decPost_bad HB3.out HBAD.out
    ·have e1:decide ((n2:Int)/4<m)=false:=by simpa using hmany
     obtain⟨M,rfl⟩:∃ M:Nat,m=M:=⟨m.toNat,by omega⟩
     have hMb:M≤250000:=by omega
     have hfuel:rowsN M r2=none→decF b=([],120):=fun h=>decF_rows H1.out H2.out h
     have HFUEL:=Lib.hid hfuel
     clear hfuel
     go_wp2
     go_loopw [0,8,45] (fun v0 v8 v45 wr=>∃ (k:Nat) (A':Option Addr) (n' c':Nat) (b':List Int) (a:Option Nat) (ac:Nat) (W:Rws),k≤M∧n'≤n2∧n'≤c'∧c'≤c3∧v45=.int .i64 k∧v0=.slice A' n' c'∧v8=.slice (a.map fun b=>⟨b,0,none⟩) k ac∧Hid (RdB w A' n' b')∧Hid (IsBytes b') ∧
      Hid (St w.heap.size w wr (star (rwsHP 106 a ac W) emp))∧Hid (W.length=k)∧Hid (addR (W.map fun x=>x.2.2) (rowsN (M-k) b')=rowsN M r2)∧Hid (∀ x∈W,x.2.2.length≤n2)) (fun _ _ v45 _=>M-(intOf v45).toNat)
     case atStart=>exact⟨0,A3,n2,c3,r2,none,0,[],Nat.zero_le _,Nat.le_refl _,hc3,Nat.le_refl _,rfl,rfl,rfl,HU3.out,HBR2.out,(by rw[rwsHP_nil,star_emp];exact⟨HB3.out,HB3.out.size,Sat.emp _ _⟩:St w.heap.size w w3 (star (rwsHP 106 none 0 []) emp)),(rfl:([]:Rws).length=0),(addR_nil _:addR [] (rowsN (M-0) r2)=rowsN M r2),(fun x hx=>absurd hx (by simp):∀ x∈([]:Rws),x.2.2.length≤n2)⟩
     case round =>
      obtain⟨k,A',n',c',b',a,ac,W,hk,hn',hc',hcc',rfl,rfl,rfl,HRB,HBY,HST,HWL,HCO,HWS⟩:=hrel
      by_cases hkM:k<M
      ·have hkM2:(k:Int)<(M:Int):=by omega
       have hMk:M-k=(M-(k+1))+1:=by omega
       have HMK:=Lib.hid hMk
       clear hMk
       cases ht:takeF b' with
       | none =>
        have hbad:=HFUEL.out (by rw[←HCO.out,HMK.out];exact addR_rows_none (rowN_none ht))
        have HBAD:=Lib.hid hbad
        have HT:=Lib.hid ht
        clear hbad ht
        go_wp2_with fail
        refine (ttake_any A' n' c' b' wr (HRB.out.grow HST.out.below) HBY.out hc' (by omega)).mono ?_
        rintro e w4 ⟨hbad,_⟩
        obtain⟨rfl,hD⟩:=hbad HT.out
        have HB4:=Lib.hid (HST.out.below.trans (hD.below _))
        clear hD hbad
        go_wp2
        go_ret2
        exact decPost_bad HB4.out HBAD.out
       | some p =>
        obtain⟨x,b2⟩:=p
        have hrow:=rowN_eq ht
        have hlen:=takeF_length ht
        have hby2:=(takeF_form HBY.out ht).2.2
        obtain⟨x0,x1⟩:=takeF_range HBY.out ht
        obtain⟨n4,hn4⟩:∃ n4,b2.length=n4:=⟨_,rfl⟩
        have hn44:n'-4=n4:=by have:=HRB.out.len;omega
        have hn4':n4≤n2:=by omega
        have HT:=Lib.hid ht
        have HROW:=Lib.hid hrow
        have HBY2:=Lib.hid hby2
        have HN4:=Lib.hid hn4
        clear ht hrow hlen hby2 hn4
        go_wp2_with fail
        refine (ttake_any A' n' c' b' wr (HRB.out.grow HST.out.below) HBY.out hc' (by omega)).mono ?_
        rintro e w4 ⟨_,hgood⟩
        obtain⟨A4,c4,rfl,hD,hU,hc4,hc4'⟩:=hgood _ _ HT.out
        have HST4:=Lib.hid (HST.out.drawn hD)
        have hU0:=hU _ HRB.out
        rw[hn44] at hc4 hU0 ⊢
        have HU4:=Lib.hid hU0
        clear hD hgood hU hU0
        by_cases hxn:(n4:Int)/4<x
        ·have e2:decide ((n4:Int)/4<x)=true:=by simpa using hxn
         have hbad:=HFUEL.out (by rw[←HCO.out,HMK.out];exact addR_rows_none (by rw[HROW.out];exact readN_short (by rw[HN4.out];omega)))
         have HBAD:=Lib.hid hbad
         clear hbad
         go_wp2
         go_ret2
         exact decPost_bad HST4.out.below HBAD.out
        ·have e2:decide ((n4:Int)/4<x)=false:=by simpa using hxn
         obtain⟨X,rfl⟩:∃ X:Nat,x=X:=⟨x.toNat,by omega⟩
         have hXb:X≤n2:=by omega
         go_wp2
         have H5:=Lib.hid (show St w.heap.size w w4 (star (sli 3 none 0 []) (rwsHP 106 a ac W)) from⟨HST4.out.below,HST4.out.base,(HST4.out.conseq (star_emp _)).sat.sl_nil _ _⟩)
         go_loopw [0,10,63] (fun v0 v10 v63 wr=>∃ (t:Nat) (A':Option Addr) (n' c':Nat) (b':List Int) (xa:Option Nat) (xc:Nat) (xs:List Int),t≤X∧n'≤n2∧n'≤c'∧c'≤c3∧v63=.int .i64 t∧v0=.slice A' n' c'∧v10=.slice (xa.map fun b=>⟨b,0,none⟩) t xc∧Hid (RdB w A' n' b')∧Hid (IsBytes b') ∧
          Hid (St w.heap.size w wr (star (sli 3 xa xc xs) (rwsHP 106 a ac W)))∧Hid (xs.length=t)∧Hid (addR xs (readN (X-t) b')=readN X b2)) (fun _ _ v63 _=>X-(intOf v63).toNat)
         case atStart=>exact⟨0,A4,n4,c4,b2,none,0,[],Nat.zero_le _,hn4',hc4,by omega,rfl,rfl,rfl,HU4.out,HBY2.out,H5.out,(rfl:([]:List Int).length=0),(addR_nil _:addR [] (readN (X-0) b2)=readN X b2)⟩
         case round =>
          obtain⟨t,A5,n5,c5,b5,xa,xc,xs,htX,hn5,hc5,hcc5,rfl,rfl,rfl,HRB5,HBY5,HST5,HXL,HCO5⟩:=hrel
          by_cases htX2:t<X
          ·have htX3:(t:Int)<(X:Int):=by omega
           have hXt:X-t=(X-(t+1))+1:=by omega
           have HXT:=Lib.hid hXt
           clear hXt
           cases ht5:takeF b5 with
           | none =>
            have hbad:=HFUEL.out (by rw[←HCO.out,HMK.out];exact addR_rows_none (by rw[HROW.out,Int.toNat_natCast,←HCO5.out,HXT.out];exact addR_read_none ht5))
            have HBAD:=Lib.hid hbad
            have HT5:=Lib.hid ht5
            clear hbad ht5
            go_wp2_with fail
            refine (ttake_any A5 n5 c5 b5 wr (HRB5.out.grow HST5.out.below) HBY5.out hc5 (by omega)).mono ?_
            rintro e w6 ⟨hbad,_⟩
            obtain⟨rfl,hD⟩:=hbad HT5.out
            have HB6:=Lib.hid (HST5.out.below.trans (hD.below _))
            clear hD hbad
            go_wp2
            go_ret2
            exact decPost_bad HB6.out HBAD.out
           | some p =>
            obtain⟨y,b6⟩:=p
            have hlen:=takeF_length ht5
            have hby6:=(takeF_form HBY5.out ht5).2.2
            obtain⟨y0,y1⟩:=takeF_range HBY5.out ht5
            have hco6:=HCO5.out
            rw[HXT.out,addR_read ht5] at hco6
            obtain⟨n6,hn6⟩:∃ n6,b6.length=n6:=⟨_,rfl⟩
            have hn66:n5-4=n6:=by have:=HRB5.out.len;omega
            have hn6':n6≤n2:=by omega
            have HT5:=Lib.hid ht5
            have HBY6:=Lib.hid hby6
            have HCO6:=Lib.hid hco6
            clear ht5 hlen hby6 hco6 hn6
            go_wp2_with fail
            refine (ttake_any A5 n5 c5 b5 wr (HRB5.out.grow HST5.out.below) HBY5.out hc5 (by omega)).mono ?_
            rintro e w6 ⟨_,hgood⟩
            obtain⟨A6,c6,rfl,hD,hU,hc6,hc6'⟩:=hgood _ _ HT5.out
            have HST6:=Lib.hid (HST5.out.drawn hD)
            have hU0:=hU _ HRB5.out
            rw[hn66] at hc6 hU0 ⊢
            have HU6:=Lib.hid hU0
            clear hD hgood hU hU0
            go_wp2_with (at_builtin;refine wpList_append_int rfl _ _ 27 3 rfl Tryz.underlying27 Tryz.infoInt HST6.out t HXL.out rfl y rfl (by omega) ?_;intro b' cc7 w7 h7;have H7:=Lib.hid h7;clear h7)
            go_roundw
            case rel=>exact⟨t+1,A6,n6,c6,b6,some b',cc7,xs++[y],by omega,by omega,by omega,by omega,by go_num,rfl,rfl,HU6.out,HBY6.out,H7.out,(by rw[List.length_append,HXL.out];rfl:(xs++[y]).length=t+1),HCO6.out⟩
            case measure=>simp[intOf];omega
          ·obtain rfl:t=X:=by omega
           have hread:=HCO5.out
           rw[Nat.sub_self] at hread
           have hread2:readN t b2=some (xs,b5):=by rw[←hread];simp[readN,addR]
           have hcon:=HCO.out
           rw[HMK.out,addR_rows (by rw[HROW.out,Int.toNat_natCast];exact hread2)] at hcon
           have HCON:=Lib.hid hcon
           have h6:=rws_focus ((HST5.out).conseq (show _=star (rwsHP 106 a ac W) (sli 3 xa xc xs) by ac_rfl)) HWL.out
           have H6:=Lib.hid h6
           clear hread hread2 hcon h6
           go_wp2_with (at_builtin;refine wpList_append1 rfl _ _ 73 106 (.agg #[.slice none 0 0]) 24 rfl Tryz.underlying73 Tryz.infoStep rfl H6.out rfl (.slice (xa.map fun b=>⟨b,0,none⟩) t xc) rfl rfl (by omega) (by simp only[maxLen];omega) ?_;intro b' cc7 w7 h7;have H7:=Lib.hid h7;clear h7)
           have h8:=rws_push (F:=emp) (ka:=xa) (kc:=xc) (l:=xs) HWL.out (by rw[HXL.out];exact H7.out.conseq (by rw[star_emp];ac_rfl))
           have H8:=Lib.hid h8
           clear h8
           go_wp2
           go_roundw
           case rel =>
            refine⟨k+1,A5,n5,c5,b5,some b',cc7,W++[(xa,xc,xs)],by omega,by omega,by omega,by omega,by go_num,rfl,rfl,HRB5.out,HBY5.out,H8.out,(by rw[List.length_append,HWL.out];rfl:(W++[(xa,xc,xs)]).length=k+1),(?_:addR ((W++[(xa,xc,xs)]).map fun x=>x.2.2) (rowsN (M-(k+1)) b5)=rowsN M r2),(?_:∀ x∈W++[(xa,xc,xs)],x.2.2.length≤n2)⟩
            ·rw[List.map_append];exact HCON.out
            ·intro x hx
             rcases List.mem_append.1 hx with hx | hx
             ·exact HWS.out x hx
             ·rw[List.mem_singleton.1 hx,HXL.out];exact hXb
           case measure=>simp[intOf];omega
      ·obtain rfl:k=M:=by omega
       have hfin:=HCO.out
       rw[Nat.sub_self] at hfin
       have hfin2:rowsN k r2=some (W.map (fun x=>x.2.2),b'):=by rw[←hfin];simp[rowsN,addR]
       have HFI:=Lib.hid hfin2
       clear hfin hfin2
       by_cases hn0:n'=0
       ·subst hn0
        have hb0:b'=[]:=List.eq_nil_of_length_eq_zero HRB.out.len
        have hok:=decF_ok H1.out H2.out (by rw[Int.toNat_natCast,HFI.out,hb0])
        have hrd:=rws_rd HST.out (fun x hx=>by have:=HWS.out x hx;omega) (by rw[HWL.out];omega)
        rw[HWL.out] at hrd
        have HOK:=Lib.hid hok
        have HRD:=Lib.hid hrd
        clear hb0 hok hrd
        go_wp2
        go_ret2
        refine⟨HST.out.below,fun _=>?_,fun h=>absurd (by rw[HOK.out]) h⟩
        rw[HOK.out]
        simp only[List.length_map,HWL.out]
        exact⟨_,ac,rfl,HRD.out,rws_caps HST.out HWL.out⟩
       ·have e3:decide ((0:Int)<(n':Int))=true:=by simp;omega
        have hbad:decF b=([],120):=by
         match b',HRB.out.len,HFI.out with
         | [],hl,_=>simp at hl;omega
         | x :: t,_,hf=>exact decF_left H1.out H2.out (by rw[Int.toNat_natCast,hf])
        have HBAD:=Lib.hid hbad
        clear hbad
        go_wp2
        go_ret2
        exact decPost_bad HST.out.below HBAD.out
   ·have e1:(hd != 1347179569)=true:=by simpa using hmag
    have hbad:=decF_magic H1.out H2.out hmag
    have HBAD:=Lib.hid hbad
    clear hbad hmag
    go_wp2
    go_ret2
    exact decPost_bad HB3.out HBAD.out
end Go.Proofs.YthbbmdnfkkffjaaGreat
namespace Go.Proofs.PlaitPure
def chkF (G:List (List Int)) (b:List Int):List (List Int)×Int :=
 if (decF b).2≠0 then ([],(decF b).2) else match derGo G [] (decF b).1 with
  | none=>([],121)
  | some D=>if D.length=0∨0<(gl D (D.length-1)).length then ([],122) else ((decF b).1,0)
theorem mem_sum {l:List (List Int)} {x:List Int} (h:x∈l):x.length≤(l.map List.length).sum:=by
 induction l with
 | nil=>cases h
 | cons y r ih =>
  rw[List.map_cons,List.sum_cons]
  rcases List.mem_cons.1 h with rfl | h3
  ·omega
  ·have:=ih h3;omega
theorem len_sum {l:List (List Int)} {j:Nat} (h:j<l.length):(gl l j).length≤(l.map List.length).sum:=by
 rw[gl_eq l j h]
 exact mem_sum (List.getElem_mem h)
end Go.Proofs.PlaitPure
namespace Go.Proofs.YthbbmdnfkkffjaaGreat
open Go.RowKit Go.Proofs.PlaitSep Go.Proofs.PlaitPure
def ChkPost (w:World) (r:List (List Int)×Int) (e:Ending) (w':World):Prop :=
 Below w.heap.size w w'∧(r.2=0→∃ A c,e=.returned (.tuple #[.slice A r.1.length c,.int .i64 0])∧Rd2 w' A r.1.length r.1∧Caps w' A r.1.length) ∧
  (r.2≠0→e=.returned (.tuple #[.slice none 0 0,.int .i64 r.2]))
theorem chkPost_bad {w w':World} {r:List (List Int)×Int} {k:Int} (hb:Below w.heap.size w w') (h:r=([],k)) (hk:k≠0):ChkPost w r (.returned (.tuple #[.slice none 0 0,.int .i64 k])) w':=by
 subst h
 exact⟨hb,fun h=>absurd h hk,fun _=>rfl⟩
set_option maxRecDepth 100000 in
set_option maxHeartbeats 4000000 in
theorem checked_any (AG:Option Addr) (nG cG:Nat) (G:List (List Int)) (AB:Option Addr) (nB cB:Nat) (b:List Int) (w:World) (hG:Rd2 w AG nG G) (hB:RdB w AB nB b) (hby:IsBytes b) (hnG:nG≤1000000) (hnB:nB≤400000) (hcB:nB≤cB) (hcm:cB≤9223372036854775807)
  (hsum:G.flatten.length≤1000000) :
  Calls Tryz.prog 60 #[.slice AG nG cG,.slice AB nB cB] w (ChkPost w (chkF G b)):=by
 have HG:=Lib.hid hG
 have HB:=Lib.hid hB
 have HBY:=Lib.hid hby
 have HSUM:=Lib.hid hsum
 clear hG hB hby hsum
 go_enter Tryz.func60,Tryz.ntmps60
 go_wp2_with fail
 refine (decode_any AB nB cB b w HB.out HBY.out (by omega) hcB hcm).mono ?_
 rintro e w1 ⟨hb1,hgood,hbad⟩
 rcases decF_err b with h0 | ⟨h0,_⟩
 ·obtain⟨AL,cL,rfl,hrd,hcap⟩:=hgood h0
  have hsz:=decF_size h0
  rw[HB.out.len] at hsz
  obtain⟨l,hl⟩:∃ l,(decF b).1=l:=⟨_,rfl⟩
  have hchk:chkF G b=match derGo G [] l with
   | none=>([],121)
   | some D=>if D.length=0∨0<(gl D (D.length-1)).length then ([],122) else (l,0):=by
   unfold chkF
   rw[if_neg (by simpa using h0),hl]
  rw[hl] at hrd hcap hsz ⊢
  have hls:∀ j,j<l.length→(gl l j).length≤100000:=fun j hj=>by have:=len_sum hj;omega
  obtain⟨nL,hnL⟩:∃ nL,l.length=nL:=⟨_,rfl⟩
  rw[hnL] at hrd hcap hls hsz ⊢
  have hnl:nL≤100000:=by omega
  have HD:=Lib.hid (derive_any AG nG cG G AL nL cL l w1 (HG.out.grow hb1) hrd hcap hnG (by omega) HSUM.out hls)
  have HRD:=Lib.hid hrd
  have HCAP:=Lib.hid hcap
  have HCHK:=Lib.hid hchk
  have HB1:=Lib.hid hb1
  have HNL:=Lib.hid hnL
  clear hb1 hgood hbad h0 hrd hcap hsz hl hchk hls hnL
  go_wp2_with fail
  refine HD.out.mono ?_
  rintro e w2 ⟨hb2,hgood,hbad⟩
  have HB2:=Lib.hid (HB1.out.trans (hb2.mono HB1.out.size))
  have HRD2:=Lib.hid (HRD.out.grow hb2)
  have HCAP2:=Lib.hid (HCAP.out.grow HRD.out hb2)
  have HGOOD:=Lib.hid hgood
  have HBAD:=Lib.hid hbad
  clear hb2 hgood hbad HD
  cases hd:derGo G [] l with
  | none =>
   have he:=HBAD.out hd
   subst he
   have HN:=Lib.hid (show chkF G b=([],121) by rw[HCHK.out,hd])
   clear hd
   go_wp2
   go_ret2
   exact chkPost_bad HB2.out HN.out (by decide)
  | some D =>
   obtain⟨a,c,V,rfl,hst,hrv,_⟩:=HGOOD.out D hd
   have HC2:=Lib.hid (show chkF G b=if D.length=0∨0<(gl D (D.length-1)).length then ([],122) else (l,0) by rw[HCHK.out,hd])
   have hlen:=derGo_len hd
   obtain⟨n,hn⟩:∃ n,D.length=n:=⟨_,rfl⟩
   have hnn:n≤1000000:=by have:=HNL.out;simp at hlen;omega
   have hrd:=hrv.rd2 hst (by have:=HRD.out.small;omega)
   have HR:=Lib.hid hrd
   rw[hn]
   obtain⟨AA,hAA⟩:∃ AA:Option Addr,(a.map fun b=>⟨b,0,none⟩)=AA:=⟨_,rfl⟩
   rw[hAA]
   have HR2:=Lib.hid (show Rd2 w2 AA n D by rw[←hn,←hAA];exact HR.out)
   have HN:=Lib.hid hn
   clear hd hst hrv hlen hrd hn hAA HR HGOOD HBAD HCHK
   by_cases hn0:n=0
   ·subst hn0
    have hk:chkF G b=([],122):=by rw[HC2.out,if_pos (.inl HN.out)]
    have HK:=Lib.hid hk
    clear hk
    go_wp2
    go_ret2
    exact chkPost_bad HB2.out HK.out (by decide)
   ·have e0:((n:Int)==0)=false:=by simp;omega
    obtain⟨t,ht⟩:∃ t:Nat,n=t+1:=⟨n-1,by omega⟩
    have hwr:IntKind.i64.wrap ((n:Int)-1)=(t:Int):=by rw[show (n:Int)-1=(t:Int) by omega];exact IntWalk.i64_in _ (by omega)
    have htI:(n:Int)-1=(t:Int):=by omega
    obtain⟨ab,ao,hA,hcell⟩:=HR2.out.cells (by omega)
    subst hA
    obtain⟨Aj,cj,d1,_⟩:=hcell t (by omega)
    obtain⟨ln,hln⟩:∃ ln,(gl D t).length=ln:=⟨_,rfl⟩
    rw[hln] at d1
    have hk:chkF G b=if 0<ln then ([],122) else (l,0):=by
     rw[HC2.out,HN.out,show n-1=t by omega,hln]
     simp[hn0]
    have HK:=Lib.hid hk
    have t0:(0:Int)≤(t:Int):=by omega
    have t1:(t:Int)<(n:Int):=by omega
    clear hcell hln hk
    by_cases hl0:0<ln
    ·have e1:decide ((0:Int)<(ln:Int))=true:=by simp;omega
     have HK2:=Lib.hid (show chkF G b=([],122) by rw[HK.out,if_pos hl0])
     go_wp2
     go_ret2
     exact chkPost_bad HB2.out HK2.out (by decide)
    ·have e1:decide ((0:Int)<(ln:Int))=false:=by simp;omega
     have HK2:=Lib.hid (show chkF G b=(l,0) by rw[HK.out,if_neg hl0])
     go_wp2
     go_ret2
     refine⟨HB2.out,fun _=>?_,fun h=>absurd (by rw[HK2.out]) h⟩
     rw[HK2.out]
     exact⟨AL,cL,by rw[HNL.out];rfl,by rw[HNL.out];exact HRD2.out,by rw[HNL.out];exact HCAP2.out⟩
 ·have he:=hbad (by rw[h0];decide)
  subst he
  have HN:=Lib.hid (show chkF G b=([],120) by unfold chkF;rw[if_pos (by rw[h0];decide),h0])
  have HB1:=Lib.hid hb1
  clear hgood hbad h0 hb1
  go_wp2
  go_ret2
  exact chkPost_bad HB1.out HN.out (by decide)
set_option maxRecDepth 100000 in
set_option maxHeartbeats 2000000 in
theorem check_any (AG:Option Addr) (nG cG:Nat) (G:List (List Int)) (AB:Option Addr) (nB cB:Nat) (b:List Int) (w:World) (hG:Rd2 w AG nG G) (hB:RdB w AB nB b) (hby:IsBytes b) (hnG:nG≤1000000) (hnB:nB≤400000) (hcB:nB≤cB) (hcm:cB≤9223372036854775807)
  (hsum:G.flatten.length≤1000000) :
  Calls Tryz.prog 39 #[.slice AG nG cG,.slice AB nB cB] w fun e w'=>e=.returned (.int .i64 (chkF G b).2)∧Below w.heap.size w w':=by
 have HD:=Lib.hid (checked_any AG nG cG G AB nB cB b w hG hB hby hnG hnB hcB hcm hsum)
 clear hG hB hby hsum
 go_enter Tryz.func39,Tryz.ntmps39
 go_wp2_with fail
 refine HD.out.mono ?_
 rintro e w1 ⟨hb,hgood,hbad⟩
 have HB:=Lib.hid hb
 obtain⟨A,n,c,k,rfl,hk⟩:∃ A n c k,e=.returned (.tuple #[.slice A n c,.int .i64 k])∧(chkF G b).2=k:=by
  by_cases h:(chkF G b).2=0
  ·obtain⟨A,c,he,_⟩:=hgood h
   exact⟨A,_,c,0,he,h⟩
  ·exact⟨none,0,0,_,hbad h,rfl⟩
 have HK:=Lib.hid hk
 clear hb hgood hbad hk HD
 go_wp2
 go_ret
 exact⟨by rw[HK.out];rfl,HB.out⟩
end Go.Proofs.YthbbmdnfkkffjaaGreat
