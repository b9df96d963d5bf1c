/- Package tableau's Fracs. -/
import Derived.Test.YtaiffmebphhdaaaGreatFqO
import Derived.Test.YtaiffmebphhdaaaGreatFkAA
namespace Go.Proofs.YtaiffmebphhdaaaGreat
set_option maxRecDepth 100000
set_option maxHeartbeats 8000000
set_option linter.unusedSimpArgs false
set_option linter.unusedVariables false
open Go.ChangeShapes Go.WideShapes Go.RowKit
def allFit (qs:List Rat)(k:Nat):Bool:=(qs.take k).all fun q=>decide (Fits q)
theorem allFit_succ {qs:List Rat}{k:Nat}(h:k<qs.length):allFit qs (k+1)=(allFit qs k&&decide (Fits qs[k])):=by
 unfold allFit;rw [List.take_succ_eq_append_getElem h,List.all_append];simp
theorem take_fq {qs:List Rat}{k:Nat}(h:k<qs.length):(qs.take (k+1)).map fqOf=(qs.take k).map fqOf++ [fqOf qs[k]]:=by
 rw [List.take_succ_eq_append_getElem h,List.map_append];rfl
theorem OwnG.ofFq {w:World}{base:Nat}{u:Value}{qs:List Rat}(h:OwnF w base u (qs.map fqOf)):IsFracs w u (qs.map fqOf):=h.fracs (fun g hg=>by obtain⟨q,_,rfl⟩:=List.mem_map.1 hg;exact fqOf_i64 q)
theorem tabFracs_any (w:World)(v:Value)(qs:List Rat)(h:IsNums w v qs)(hn:∀q∈qs,NB 1000 q)(hl:qs.length≤1000):
  Calls Tryz.prog 31 #[v] w fun e w'=>∃u,e= .returned (.tuple #[u,.bool (allFit qs qs.length)])∧OwnF w' w.heap.size u (qs.map fqOf)∧Keep NoS w w':=by
 have HQ:=zh h;have HN:=zh hn;obtain⟨oa,ca,rfl,_,hma⟩:=h.len;unfold maxLen at hma;clear h hn;go_enter Tryz.func31,Tryz.ntmps31;go_wp2;go_loopw [4,5,12] (fun s4 s5 s12 wr=>∃k:Nat,k≤qs.length∧s12= .int .i64 k∧s5= .bool (allFit qs k)∧Keep NoS w wr∧OwnF wr w.heap.size s4 ((qs.take k).map fqOf)) (fun _ _ s _=>(qs.length-intOf s).toNat)
 case atStart=>exact⟨0,by omega,rfl,rfl,Keep.refl _ _,OwnG.nil _ _⟩
 case round=>
  obtain⟨k,hk,rfl,rfl,hkr,hou⟩:=hrel;have HKR:=zh hkr;have HOU:=zh hou;obtain⟨ou,cu,hu,_⟩:=hou.len;rw [List.length_map,List.length_take_of_le hk]at hu;subst hu;clear hkr hou
  by_cases hkl:k<qs.length
  case neg=>
   have hlt:¬(k:Int)<(qs.length:Int):=by omega
   obtain rfl:k=qs.length:=by omega
   go_wp2;refine bodyPost_ret (by simp [results,Tryz.results31,go_sem];rfl) rfl ?_
   refine⟨_,rfl,?_,HKR.out⟩;have:=HOU.out
   rwa [List.take_length]at this
  case pos=>
   have hlt:(k:Int)<(qs.length:Int):=by omega
   obtain⟨b,o,rfl,hb,xb,xS,xc,xU,p0,p1,p2,p3,hx⟩:=(HQ.out.keep HKR.out).at hkl;have HX:=zh hx;have CF:=fun w=>zh (exFrac_any w _ _ hx (HN.out _ (List.getElem_mem hkl)))
   rw [fracOf_fq]at CF;have HAS:=zh (allFit_succ hkl);have HTF:=zh (take_fq hkl);have hone:((qs.take k).map fqOf).length=k:=by rw [List.length_map,List.length_take_of_le hk]
   have HONE:=zh hone;clear hone;obtain⟨p,hp⟩:∃p,qs[k]=p:=⟨_,rfl⟩;rw [hp]at CF HAS HTF;clear hp;go_wp2_with fail;refine(CF _).out.mono ?_;rintro e w4 ⟨rfl,hk4⟩;have K4:Hid (Keep NoS w w4):=zh (HKR.out.both (Keep.trans kp hk4 fun _ _ _ h=>h))
   have HO4:=zh (HOU.out.keep (Keep.trans kp hk4 fun _ _ _ h=>h:Keep NoS wr w4))
   have HS4:Hid (w.heap.size≤w4.heap.size):=zh K4.out.size;clear hk4 CF p0 p1 p2 p3 HKR HOU hb;have k6:Keep NoS w4 ((w4.alloc (.cells #[.int .i64 (fqOf p).N,.int .i64 (fqOf p).D] 47)).alloc (.cells #[.int .i64 (fqOf p).N,.int .i64 (fqOf p).D] 47)):=((Keep.refl _ _).alloc _).alloc _;obtain⟨v7,w7,hr7,ho7,hg7,_⟩:=app_frac (g:=fqOf p) (b:=w4.heap.size+1) (HO4.out.keep k6) kc (by rw [HONE.out];omega) (Nat.le_trans HS4.out k6.size)
   have hblk:=fun kk hh=>HO4.out.block kk hh
   have K7:=zh ((K4.out.both k6).grown hg7 fun kk hh=>hblk kk hh)
   rw [← HTF.out]at ho7;have HO7:=zh ho7;obtain⟨o7,c7,hs7,_⟩:=ho7.len;rw [List.length_map,List.length_take_of_le (by omega)]at hs7
   subst hs7;generalize (fqOf p).N=fn at *;generalize (fqOf p).D=fd at *;clear k6 ho7 hg7 hblk K4 HO4;generalize hak:allFit qs k=ak at *;generalize hfp:decide (Fits p)=fp at *;clear hak hfp
   cases ak
   ·go_wp2_with (at_builtin;refine wpList_app_run _ _ 25 _ _ rfl rfl rfl rfl hr7 ?_)
    go_roundw
    case rel=>exact⟨k+1,by omega,by go_num,by rw [HAS.out];rfl,K7.out,HO7.out⟩
    case measure=>simp [intOf];omega
   ·go_wp2_with (at_builtin;refine wpList_app_run _ _ 25 _ _ rfl rfl rfl rfl hr7 ?_)
    go_roundw
    case rel=>exact⟨k+1,by omega,by go_num,by rw [HAS.out];rfl,K7.out,HO7.out⟩
    case measure=>simp [intOf];omega
end Go.Proofs.YtaiffmebphhdaaaGreat
