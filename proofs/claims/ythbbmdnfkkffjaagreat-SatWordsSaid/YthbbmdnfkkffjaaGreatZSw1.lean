/-
  Parts of the proof, joined by program: Sw1.
-/
import Derived.Test.YthbbmdnfkkffjaaGreatZ51
namespace Go.Proofs.YthbbmdnfkkffjaaGreat
open Go.RowKit Go.Proofs.PlaitSep Go.Proofs.PlaitSat
open Go.Proofs.PlaitPure hiding SM
def sumW (l:List (List Int)) (j:Nat):Nat:=((l.take j).map fun c=>c.length+2).sum
theorem sumW_succ (l:List (List Int)) {j:Nat} (h:j<l.length):sumW l (j+1)=sumW l j+((gl l j).length+2):=by
 unfold sumW
 rw[take_gl l j h,List.map_append,List.sum_append]
 simp
theorem sumW_le (l:List (List Int)) (j:Nat):sumW l j≤(l.map fun c=>c.length+2).sum:=by
 unfold sumW
 conv=>rhs;rw[←List.take_append_drop j l]
 rw[List.map_append,List.sum_append]
 omega
theorem sumW_all (S:PlaitSat.SM):sumW S.learned S.learned.length=lw S:=by unfold sumW lw;rw[List.take_length]
set_option maxRecDepth 100000 in
set_option maxHeartbeats 4000000 in
theorem satWords_any_law (A:Option Addr) (n cap:Nat) (l:List Stp) (w:World) (hr:RdS w A n l) :
  Calls Tryz.prog 13 #[.slice A n cap] w fun e w'=>e=.returned (.bool true)∧Below w.heap.size w w':=by
 have HR:=Lib.hid hr
 clear hr
 go_enter Tryz.func13,Tryz.ntmps13
 go_wp2_with fail
 refine (known_any w).mono ?_
 rintro e w1 ⟨rfl,hb1⟩
 have HB1:=Lib.hid hb1
 have HL:=Lib.hid (light_any A n cap l 30 w1 (HR.out.grow hb1) (by omega) (by omega))
 clear hb1
 go_wp2_with fail
 refine HL.out.mono ?_
 rintro e w2 ⟨b,rfl,hb2,hli⟩
 have HB2:=Lib.hid (HB1.out.trans (hb2.mono HB1.out.size))
 clear hb2 HL HB1
 cases b with
 | false =>
  go_wp2
  go_ret
  exact⟨rfl,HB2.out⟩
 | true =>
  have hli2:=hli rfl
  have hn:n≤120:=by have:=hli2.n;rw[HR.out.len] at this;exact this
  have HLI:=Lib.hid hli2
  have HR2:=Lib.hid (HR.out.grow HB2.out)
  clear hli hli2
  go_wp2_with fail
  refine (satNew_any 262144 2000 w2).mono ?_
  rintro e w3 ⟨q,rfl,h3⟩
  have H3:=Lib.hid h3
  clear h3
  go_wp2
  go_loopw [4,5] (fun v4 v5 wr=>∃ (i wd:Nat) (S:PlaitSat.SM),i≤n∧v5=.int .i64 i∧v4=.int .i64 wd∧wd≤10000000∧Hid (wd=S.words)∧Hid (Zs i S)∧Hid (SatI w2.heap.size w2 wr q S emp)) (fun _ v5 _=>n-(intOf v5).toNat)
  case atStart=>exact⟨0,0,PlaitSat.SM.new 262144 2000,Nat.zero_le _,rfl,rfl,by omega,Lib.hid (by decide +kernel),(new_zs 262144 2000).1,H3.out⟩
  case round =>
   clear H3
   obtain⟨i,wd,S,hi,rfl,rfl,hwd,HWD,HZ,HS⟩:=hrel
   by_cases hin:i<n
   ·have e1:decide ((i:Int)<(n:Int))=true:=by simp;omega
    obtain⟨ab,ao,rfl,hc⟩:=HR2.out.cells (by omega)
    obtain⟨dd0,Aj,cj,dd1,hrj0⟩:=hc i hin
    have d0:=(HS.out.below.cell (World.block_lt_of_cell? w2 _ dd0)).trans dd0
    have d1:=(HS.out.below.cell (World.block_lt_of_cell? w2 _ dd1)).trans dd1
    have hrj:=hrj0.grow HS.out.below
    obtain⟨s,hs⟩:∃ s,gs l i=s:=⟨_,rfl⟩
    have hsl:s∈l:=by rw[←hs,gs_eq _ _ (by rw[HR.out.len];exact hin)];exact List.getElem_mem _
    have hiv:=HLI.out.vars s hsl
    have hls:s.2.length≤500:=by
     have h1:=sumS_succ l (j:=i) (by rw[HR.out.len];exact hin)
     have h2:=sumS_mono l (show i+1≤l.length by rw[HR.out.len];omega)
     have h3:=HLI.out.sum
     rw[hs] at h1
     omega
    rw[hs] at d0 d1 hrj dd1 hrj0
    obtain⟨ln,hln⟩:∃ ln,s.2.length=ln:=⟨_,rfl⟩
    rw[hln] at d1 hrj hls dd1 hrj0
    have HRJ:=Lib.hid hrj
    have HRJ0:=Lib.hid hrj0
    have HD1:=Lib.hid dd1
    have HIV:=Lib.hid hiv
    have HLN:=Lib.hid hln
    have p0:(0:Int)≤(i:Int):=by omega
    have p1:(i:Int)<(n:Int):=by omega
    clear hc hs hsl hiv hrj hln dd0 dd1 hrj0
    by_cases hx:s.1<2
    ·have e2:decide (s.1<2)=true:=by simpa using hx
     obtain⟨a1,a2⟩:=satAdd_ok HZ.out s.2
     have HAD:=Lib.hid (satAdd_any Aj ln cj s.2 HS.out HRJ.out (by omega) a1)
     obtain⟨R,hR⟩:∃ R,satAdd S s.2=R:=⟨_,rfl⟩
     rw[hR] at a2 HAD
     have HA2:=Lib.hid a2
     clear a1 a2 hR
     go_wp2_with fail
     refine HAD.out.mono ?_
     rintro e w5 ⟨rfl,h5⟩
     have H5:=Lib.hid h5
     clear h5
     by_cases h0:R.2=0
     ·have e3:decide (R.2=0)=true:=by simpa using h0
      have e4:(R.2==0)=true:=by simpa using h0
      obtain⟨y1,y2,y3⟩:=HA2.out.yes h0
      have d3:=(H5.out.below.cell (World.block_lt_of_cell? w2 _ HD1.out)).trans HD1.out
      have HK:=Lib.hid (kept_any Aj ln cj s.2 w5 (HRJ0.out.grow H5.out.below) (by omega))
      have Y1:=Lib.hid y1
      have hwn:R.1.words=wd+(onceL s.2).length+2:=by rw[y3,HWD.out];omega
      have hwb:R.1.words≤1000000:=HA2.out.zs.ze.ex.words
      have HZN:=Lib.hid (HA2.out.zs.up (by omega))
      clear y1 y2 y3 h0 HAD
      go_wp2_with fail
      refine HK.out.mono ?_
      rintro e w6 ⟨hk,_⟩
      obtain⟨oa,oc,rfl,hst⟩:=hk Y1.out
      have h6:=(H5.out.nest hst).drop
      have H6:=Lib.hid h6
      have HW6:=Lib.hid (satWords_any h6)
      obtain⟨x,hx⟩:∃ x,R.1.words=x:=⟨_,rfl⟩
      obtain⟨ol,hol⟩:∃ x,(onceL s.2).length=x:=⟨_,rfl⟩
      rw[hx] at hwn hwb HW6
      rw[hol] at hwn ⊢
      subst hwn
      have HX:=Lib.hid hx
      unfold slv
      clear hk hst h6 hx hol HK d0 d1 d3
      go_wp2_with fail
      refine HW6.out.mono ?_
      rintro e w7 ⟨rfl,rfl⟩
      have e5:(((wd+ol+2:Nat):Int) != (wd:Int)+(ol:Int)+2)=false:=by simp
      have e6:decide (((wd+ol+2:Nat):Int)=(wd:Int)+(ol:Int)+2)=true:=by simp
      go_wp2
      go_roundw
      case rel=>exact⟨i+1,wd+ol+2,R.1,by omega,by go_num,by go_num,by omega,HX.out.symm,HZN.out,H6.out⟩
      case measure=>simp[intOf];omega
     ·have e3:decide (R.2=0)=false:=by simpa using h0
      have e4:(R.2==0)=false:=by simpa using h0
      obtain⟨y1,_⟩:=HA2.out.no h0
      have hwn:R.1.words=wd:=by rw[y1,HWD.out]
      have HZN:=Lib.hid (HA2.out.zs.up (by omega))
      have HW6:=Lib.hid (satWords_any H5.out)
      rw[hwn] at HW6
      have HX:=Lib.hid hwn
      clear y1 h0 hwn d0 d1
      go_wp2_with fail
      refine HW6.out.mono ?_
      rintro e w7 ⟨rfl,rfl⟩
      go_wp2
      go_roundw
      case rel=>exact⟨i+1,wd,R.1,by omega,by go_num,rfl,by omega,HX.out.symm,HZN.out,H5.out⟩
      case measure=>simp[intOf];omega
    ·have e2:decide (s.1<2)=false:=by simpa using hx
     have HHA:=Lib.hid (has_any Aj ln cj s.2 0 wr HRJ.out)
     obtain⟨hb,hhb⟩:∃ b,hasB s.2 0=b:=⟨_,rfl⟩
     rw[hhb] at HHA
     have HHB:=Lib.hid hhb
     clear hhb
     go_wp2_with fail
     refine HHA.out.mono ?_
     rintro e w5 ⟨rfl,rfl⟩
     cases hb with
     | true =>
      have HW6:=Lib.hid (satWords_any HS.out)
      rw[←HWD.out] at HW6
      have HZN:=Lib.hid (HZ.out.up (by omega))
      clear d0 d1
      go_wp2_with fail
      refine HW6.out.mono ?_
      rintro e w7 ⟨rfl,rfl⟩
      go_wp2
      go_roundw
      case rel=>exact⟨i+1,wd,S,by omega,by go_num,rfl,by omega,HWD,HZN.out,HS.out⟩
      case measure=>simp[intOf];omega
     | false =>
      obtain⟨a1,a2,a3⟩:=satSolve_ok HZ.out (by omega) (xs:=s.2) (by rw[HLN.out];omega) (light_litB (by omega) HIV.out HHB.out)
      have HSO:=Lib.hid (satSolve_any Aj ln cj s.2 HS.out (fun w' P k=>(HRJ0.out).grow k.below) (fun _=>a1))
      obtain⟨R,hR⟩:∃ R,satSolve S s.2=R:=⟨_,rfl⟩
      rw[hR] at a2 a3 HSO
      have hwn:R.1.words=wd+lw R.1:=by rw[a3.words,HWD.out]
      have hsh:=a3.short a2
      have HZN:=Lib.hid a2
      have hwb:R.1.words≤1000000:=a2.ze.ex.words
      clear a1 a2 a3 hR
      go_wp2_with fail
      refine HSO.out.mono ?_
      rintro e w6 ⟨rfl,h6⟩
      have H6:=Lib.hid h6
      have HLE:=Lib.hid (satLearned_any h6 (fun c hc=>by have:=hsh.2 c hc;omega) (by omega))
      clear h6 HSO
      go_wp2_with fail
      refine HLE.out.mono ?_
      rintro e w7 ⟨a,c,W,rfl,hst,hWm⟩
      obtain⟨m,hm⟩:∃ m,W.length=m:=⟨_,rfl⟩
      have hml:R.1.learned.length=m:=by rw[←hWm,List.length_map,hm]
      have hrd:=rws_rd hst (fun x hx=>by
       have:=hsh.2 x.2.2 (by rw[←hWm];exact List.mem_map.2 ⟨x,hx,rfl⟩)
       omega) (by omega)
      rw[hm,hWm] at hrd
      have h7:=(H6.out.nest hst).drop
      have H7:=Lib.hid h7
      have HRD:=Lib.hid hrd
      have HML:=Lib.hid hml
      have hmb:m≤2000:=by omega
      have HSW:=Lib.hid (fun j=>sumW_le R.1.learned j)
      have HWN:=Lib.hid hwn
      have hlwb:lw R.1≤1000000:=by omega
      obtain⟨A8,hA8⟩:∃ A,(a.map fun b=>(⟨b,0,none⟩:Addr))=A:=⟨_,rfl⟩
      rw[hA8] at HRD
      rw[hm,hA8]
      clear hst hWm hm hml hrd h7 HLE hwn hA8 hsh H6 d0 d1
      go_wp2
      go_loopw [4,9] (fun v4 v9 wq=>∃ (k wd2:Nat),k≤m∧v9=.int .i64 k∧v4=.int .i64 wd2∧wd2≤20000000∧Hid (wd2=wd+sumW R.1.learned k)∧Hid (Drawn w7 wq)) (fun _ v9 _=>m-(intOf v9).toNat)
      case atStart=>exact⟨0,wd,Nat.zero_le _,rfl,rfl,by omega,(rfl:wd=wd+sumW R.1.learned 0),Drawn.refl w7⟩
      case round =>
       obtain⟨k,wd2,hk,rfl,rfl,hwd2,HW2,HD7⟩:=hrel
       by_cases hkm:k<m
       ·have e5:decide ((k:Int)<(m:Int))=true:=by simp;omega
        obtain⟨bb,bo,rfl,hcc⟩:=(HRD.out.grow (HD7.out.below _)).cells (by omega)
        obtain⟨Ak,ck,d4,hrk⟩:=hcc k hkm
        have hss:=sumW_succ R.1.learned (j:=k) (by rw[HML.out];exact hkm)
        have hle:=HSW.out (k+1)
        have hlw:lw R.1=(R.1.learned.map fun c=>c.length+2).sum:=rfl
        obtain⟨lk,hlk⟩:∃ x,(gl R.1.learned k).length=x:=⟨_,rfl⟩
        rw[hlk] at d4 hss
        have hb9:wd2+lk+2≤20000000:=by have:=HW2.out;omega
        have HSS:=Lib.hid hss
        have k0:(0:Int)≤(k:Int):=by omega
        have k1:(k:Int)<(m:Int):=by omega
        clear hcc hrk hss hle hlw hlk
        go_wp2
        go_roundw
        case rel=>exact⟨k+1,wd2+lk+2,by omega,by go_num,by go_num,by omega,Lib.hid (by have:=HW2.out;have:=HSS.out;omega),HD7.out⟩
        case measure=>simp[intOf];omega
       ·obtain rfl:k=m:=by omega
        have e5:decide ((k:Int)<(k:Int))=false:=by simp
        have hfin:R.1.words=wd2:=by
         have h1:=HW2.out
         rw[←HML.out,sumW_all] at h1
         rw[HWN.out,h1]
        have H8:=Lib.hid (H7.out.drawn HD7.out)
        have HW6:=Lib.hid (satWords_any H8.out)
        rw[hfin] at HW6
        have HFIN:=Lib.hid hfin
        have hb10:wd2≤10000000:=by rw[←hfin];omega
        clear hfin
        go_wp2_with fail
        refine HW6.out.mono ?_
        rintro e w9 ⟨rfl,rfl⟩
        go_wp2
        go_roundw
        case rel=>exact⟨i+1,wd2,R.1,by omega,by go_num,rfl,hb10,HFIN.out.symm,HZN.out,H8.out⟩
        case measure=>simp[intOf];omega
   ·obtain rfl:i=n:=by omega
    have e1:decide ((i:Int)<(i:Int))=false:=by simp
    have HB:=Lib.hid (HB2.out.trans (HS.out.below.mono HB2.out.size))
    go_wp2
    go_ret
    exact⟨rfl,HB.out⟩
end Go.Proofs.YthbbmdnfkkffjaaGreat
