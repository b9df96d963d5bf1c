/- Package simplex's Do. -/
import Derived.Test.YtaiffmebphhdaaaGreatTbX
import Derived.Test.YtaiffmebphhdaaaGreatTbOO
import Derived.Test.YtaiffmebphhdaaaGreatTbL
namespace Go.Proofs.YtaiffmebphhdaaaGreat
set_option maxRecDepth 100000
set_option maxHeartbeats 32000000
set_option linter.unusedSimpArgs false
set_option linter.unusedVariables false
open Go.ChangeShapes Go.WideShapes Go.RowKit Go.Maps
theorem list_rows {l:List Rw}{n:Int}(h:(listF l n).1=0):listF l n=(0,0)∧0≤n∧n≤12∧l.length≤40∧∀r∈l,RowOK r n:=by
 unfold listF at h ⊢
 by_cases h1:n<0∨12<n
 ·rw [if_pos h1]at h;simp at h
 ·rw [if_neg h1]at h ⊢
  by_cases h2:40<l.length
  ·rw [if_pos h2]at h;simp at h
  ·rw [if_neg h2]at h ⊢
   exact⟨(firstRow_all h).1,by omega,by omega,by omega,(firstRow_all h).2⟩
theorem nums_none (w:World):IsNums w (.slice none 0 0) []:=⟨none,0,[],rfl,by simp,by simp,AreN.nil,fun h=>absurd rfl h⟩
theorem ptK_nb {n:Nat}{rows:List Rw}{T:TS}(h:Inv n rows T):∀q∈T.ptK T.n,NB 1000 q:=by
 intro q hq;unfold TS.ptK at hq;obtain⟨v,hv,rfl⟩:=List.mem_map.1 hq;have hv:=List.mem_range.1 hv;have hvl:v<T.vals.length:=by rw [h.wf.vl];omega
 have hs:=smK_nb h.wf h.nb T.vals.length (Nat.le_refl _);have ho:(T.val v).ok 100:=by rw [val_at hvl];exact h.nb.v _ (List.getElem_mem hvl)
 unfold TS.ptQ;exact(ho.1.add (ho.2.mul hs)).mono (by omega)
theorem refK_nb {n:Nat}{rows:List Rw}{T:TS}{i:Nat}{way:Int}(h:Inv n rows T)(hi:i<rows.length)(hw:way=1∨way= -1):∀k,k≤n+rows.length→∀q∈T.refK i way k,NB 1000 q
 | 0,_,q,hq=>by
  unfold TS.refK at hq
  rcases List.mem_or_eq_of_mem_set hq with hq | rfl
  ·rw [(List.mem_replicate.1 hq).2];exact nb_zero.mono (by omega)
  ·exact (nb_int (x:= -way) (by omega)).mono (by omega)
 | k+1,hk,q,hq=>by
  unfold TS.refK at hq
  split at hq
  ·exact refK_nb h hi hw k (by omega) q hq
  ·rcases List.mem_or_eq_of_mem_set hq with hq | rfl
   ·exact refK_nb h hi hw k (by omega) q hq
   ·have hic:i<T.cells.length:=by rw [h.wf.cl,h.hr];exact hi
    have hkc:k<T.cells[i].length:=by rw [h.wf.cr _ (List.getElem_mem hic),h.hn,h.hr];omega
    have hc:NB 100 (T.cell i k):=by rw [cell_at hic hkc];exact h.nb.c _ (List.getElem_mem hic) _ (List.getElem_mem hkc)
    exact((hc.mul (nb_int (x:= -way) (by omega))).neg).mono (by omega)
theorem OwnG.other2 {α:Type}{T:TypeId}{K:Nat}{c:α→List Value}{w:World}{base b:Nat}{v:Value}{l:List α}(h:OwnG T K c w base v l)(hb:b<base)(x y:Value):OwnG T K c ((w.setCell ⟨b,0,none⟩ x).setCell ⟨b,1,none⟩ y) base v l:=
 ownsRow_same h fun k hk=>by have:=h.block k hk;have hne:k≠b:=(by omega);rw [heap_setCell_other _ _ _ _ hne,heap_setCell_other _ _ _ _ hne]
structure DoR where
 st:Int
 pt:List Fq
 tm:List Fq
 f:Int × Int
def doR (rows:List Rw)(n fuel:Int):DoR:=
 if(listF rows n).1=0 then
  if fuel<0∨2000<fuel then⟨0,[],[],(3,-1)⟩
  else match TS.feas fuel.toNat (TS.start n.toNat rows)with
   | .hungry=>⟨3,[],[],(0,0)⟩
   | .yes T=>if allFit (T.ptK T.n) (T.ptK T.n).length=true then⟨1,(T.ptK T.n).map fqOf,[],(0,0)⟩else⟨0,[],[],(10,0)⟩
   | .no l=>if allFit l l.length=true then⟨2,[],l.map fqOf,(0,0)⟩else⟨0,[],[],(10,0)⟩
 else⟨0,[],[],listF rows n⟩
theorem spDo_any (w:World)(v:Value)(rows:List Rw)(n fuel:Int)(h:IsRows w v rows)(hn:I64 n)(hf:I64 fuel):
  Calls Tryz.prog 18 #[v,.int .i64 n,.int .i64 fuel] w fun e w'=>∃u t,e= .returned (.tuple #[.int .i64 (doR rows n fuel).st,u,t,fV (doR rows n fuel).f])∧IsFracs w' u (doR rows n fuel).pt∧IsFracs w' t (doR rows n fuel).tm∧Keep NoS w w':=by
 have CH:=fun w' (k:Keep NoS w w')=>zh (rowList_any w' v rows n (h.keep k) hn)
 have HR:=zh h;clear h
 by_cases hl:(listF rows n).1=0
 case neg=>
  have HRES:Hid (doR rows n fuel=⟨0,[],[],listF rows n⟩):=zh (by unfold doR;rw [if_neg hl])
  obtain⟨R,hR⟩:∃R,doR rows n fuel=R:=⟨_,rfl⟩;rw [hR]at HRES ⊢;clear hR;generalize listF rows n=cf at *;obtain⟨c1,c2⟩:=cf;simp only at hl;unfold fV at CH ⊢;simp only at CH;have e1:(c1 != 0)=true:=by rw [bne_iff_ne];exact hl
  clear hl HR;go_enter Tryz.func18,Tryz.ntmps18;go_wp2_with fail;refine(CH _ kp).out.mono ?_;rintro e w1 ⟨rfl,hk1⟩;have HB9:Hid (Blk w1 w.heap.size #[.int .i64 0,.int .i64 0]):=zh (Blk.keep kb hk1);have K1:Hid (Keep NoS w w1):=zh (Keep.both kp hk1);clear hk1 CH;generalize hb9:w.heap.size=b9 at HB9 ⊢;have HS9:Hid (w.heap.size≤b9):=zh (by omega)
  clear hb9;go_upto_region 3 with fail
  have HK0:Hid (Keep NoS w (w1.alloc (.cells #[.int .i64 c1,.int .i64 c2] 28))):=zh (K1.out.alloc _);have HB6:Hid (Blk (w1.alloc (.cells #[.int .i64 c1,.int .i64 c2] 28)) w1.heap.size #[.int .i64 c1,.int .i64 c2]):=zh (blk_at _ _ rfl);have HB9:=zh (HB9.out.old (.cells #[.int .i64 c1,.int .i64 c2] 28));generalize w1.alloc (.cells #[.int .i64 c1,.int .i64 c2] 28)=w3 at *;generalize w1.heap.size=b6 at *;obtain⟨s0,s1,t0,t1,sl⟩:=HB9.out.two;refine wp_region_by (fun w'=>Keep NoS w3 w') [4] [([0,1,2,3],4)] [] (by kernel_rfl) (by kernel_rfl) kp ?_
  intro X W hne hF hcl;have hx0:=fun x=>(HB6.out.keep (hF x)).two
  clear hF hcl;simp only [wpPlan,pickOps,zl0,zl1,zl2,clsOf,Bool.false_eq_true,if_false]
  (repeat(go_big_quiet_step (fail)));refine wpQuiet_nil ?_
  refine wpAt rfl rfl fun K hK=> ?_
  go_simp;refine hK _ _ ⟨fun h=>(by simp at h),?_⟩
  have HB9':Hid (Blk ((w3.setCell ⟨b9,0,none⟩ (.int .i64 c1)).setCell ⟨b9,1,none⟩ (.int .i64 c2)).drew b9 #[.int .i64 c1,.int .i64 c2]):=zh ((HB9.out.set2 (.int .i64 c1) (.int .i64 c2)).keep (Keep.refl NoS _).drew);have K14:Hid (Keep NoS w ((w3.setCell ⟨b9,0,none⟩ (.int .i64 c1)).setCell ⟨b9,1,none⟩ (.int .i64 c2)).drew):=zh (keep_set2 HK0.out HS9.out (.int .i64 c1) (.int .i64 c2)).drew;clear hK K s0 s1 t0 t1 sl;generalize ((w3.setCell ⟨b9,0,none⟩ (.int .i64 c1)).setCell ⟨b9,1,none⟩ (.int .i64 c2)).drew=w5 at*
  (repeat(go_big_quiet_step (fail)));refine wpQuiet_nil ?_
  refine NoPanic.normal ?_;obtain⟨s0,s1,t0,t1,sl⟩:=HB9'.out.two;go_wp2;refine bodyPost_ret (by simp [results,Tryz.results18,go_sem,s0,s1,sl];rfl) rfl ?_
  rw [HRES.out];exact⟨_,_,rfl,nil_fracs _,nil_fracs _,K14.out⟩
 case pos=>
  obtain⟨hl0,hn0,hn12,h40,hok⟩:=list_rows hl;have HRES:Hid (doR rows n fuel=if fuel<0∨2000<fuel then⟨0,[],[],(3,-1)⟩else match TS.feas fuel.toNat (TS.start n.toNat rows)with
   | .hungry=>⟨3,[],[],(0,0)⟩
   | .yes T=>if allFit (T.ptK T.n) (T.ptK T.n).length=true then⟨1,(T.ptK T.n).map fqOf,[],(0,0)⟩else⟨0,[],[],(10,0)⟩
   | .no l=>if allFit l l.length=true then⟨2,[],l.map fqOf,(0,0)⟩else⟨0,[],[],(10,0)⟩):=zh (by unfold doR;rw [if_pos hl])
  obtain⟨R,hR⟩:∃R,doR rows n fuel=R:=⟨_,rfl⟩;rw [hR]at HRES ⊢;rw [hl0]at CH;have HOK:=zh hok;clear hR hl hl0 hok;unfold fV at CH ⊢;simp only at CH;obtain⟨N,rfl⟩:∃N:Nat,n=(N:Int):=⟨n.toNat,by omega⟩
  have hN12:N≤12:=by omega
  unfold I64 at hf;go_enter Tryz.func18,Tryz.ntmps18;go_wp2_with fail;refine(CH _ kp).out.mono ?_;rintro e w1 ⟨rfl,hk1⟩;have HB9:Hid (Blk w1 w.heap.size #[.int .i64 0,.int .i64 0]):=zh (Blk.keep kb hk1);have K1:Hid (Keep NoS w w1):=zh (Keep.both kp hk1);clear hk1 CH;generalize hb9:w.heap.size=b9 at HB9 ⊢;have HS9:Hid (w.heap.size≤b9):=zh (by omega)
  clear hb9;have HB9:=zh (HB9.out.old (.cells #[.int .i64 0,.int .i64 0] 28));have K2:=zh (K1.out.alloc (.cells #[.int .i64 0,.int .i64 0] 28));go_upto_region 4 with fail
  clear K1;generalize w1.alloc (.cells #[.int .i64 0,.int .i64 0] 28)=w2 at*
  by_cases hfu:fuel<0∨2000<fuel
  case pos=>
   have HRES:=zh (HRES.out.trans (if_pos hfu));obtain⟨s0,s1,t0,t1,sl⟩:=HB9.out.two
   by_cases f0:fuel<0
   case pos=>
    go_wp2;refine bodyPost_ret (by simp [results,Tryz.results18,go_sem,s0,s1,sl];rfl) rfl ?_
    rw [HRES.out];exact⟨_,_,rfl,nil_fracs _,nil_fracs _,keep_set2 K2.out HS9.out _ _⟩
   case neg=>
    have f1:2000<fuel:=by omega
    go_wp2;refine bodyPost_ret (by simp [results,Tryz.results18,go_sem,s0,s1,sl];rfl) rfl ?_
    rw [HRES.out];exact⟨_,_,rfl,nil_fracs _,nil_fracs _,keep_set2 K2.out HS9.out _ _⟩
  case neg=>
   have HRES:=zh (HRES.out.trans (if_neg hfu));obtain⟨f,rfl⟩:∃f:Nat,fuel=(f:Int):=⟨fuel.toNat,by omega⟩
   have f0:¬(f:Int)<0:=by omega
   have f1:¬(2000:Int)<(f:Int):=by omega
   have hf2:f≤2000:=by omega
   clear hfu;have CN:=fun w' (k:Keep NoS w w')=>zh (tabNew_any w' v rows N (HR.out.keep k) HOK.out hN12 (Nat.le_trans h40 (by decide)))
   go_wp2_with fail;refine(CN _ K2.out).out.mono ?_;rintro e w3 ⟨bT,rfl,hT⟩;have HT:=zh hT;have K23:Hid (Keep NoS w2 w3):=zh (by obtain⟨L,hL⟩:=hT;exact hL.k)
   have HB92:=HB9;have HB9:=zh (HB9.out.keep K23.out);have K3:=zh (K2.out.both K23.out);clear hT CN;have HINV:=zh (start_inv hN12 (Nat.le_trans h40 (by decide)) HOK.out)
   have CF:=fun w' (k:Keep NoS w3 w')=>zh (feas_any w2 w' bT rows.length N rows _ f (HT.out.keep k) HINV.out (Nat.le_trans hf2 (by decide)) (by omega))
   go_wp2_with fail;refine(CF _ kp).out.mono ?_;rintro e w4 hcase;have hres:=HRES.out;rw [show((f:Nat):Int).toNat=f by omega,show((N:Nat):Int).toNat=N by omega]at hres
   clear CF HRES
   rcases hcase with⟨T,nm',hfe,rfl,hT4⟩ | ⟨l,u,hfe,rfl,hu,hk4⟩ | ⟨hfe,rfl,hk4⟩
   case inl=>
    rw [hfe]at hres;simp only at hres;obtain⟨hIT,_⟩:=feas_yes f _ T HINV.out hfe;have HIT:=zh hIT;have HT4:=zh hT4;have K24:Hid (Keep NoS w2 w4):=zh (by obtain⟨L,hL⟩:=hT4;exact hL.k)
    have HB9:=zh (HB92.out.keep K24.out);have K4:=zh (K2.out.both K24.out);have CA:=fun w'=>zh (tabFracs_any w' _ [] (nums_none w') (by simp) (by simp))
    have CP:=fun w' (k:Keep NoS w4 w')=>zh (point_any w2 w' bT nm' T (HT4.out.keep k) HIT.out.wf HIT.out.nb)
    have HRES:=zh hres;clear hT4 hIT hres hfe HT;have hnil:=nil_nums w4;go_wp2_with fail;refine(CA _).out.mono ?_;rintro e w5 ⟨u1,rfl,_,hk5⟩;go_wp2_with fail;refine(CP _ kp).out.mono ?_;rintro e w6 ⟨u2,rfl,hu2,hk6⟩;have CB:=fun w' (k:Keep NoS w6 w')=>zh (tabFracs_any w' _ _ (hu2.keep k) (ptK_nb HIT.out) (by rw [ptK_len];have:=HIT.out.wf.n12;omega))
    go_wp2_with fail;refine(CB _ kp).out.mono ?_;rintro e w7 ⟨u3,rfl,hu3,hk7⟩;have HB9':=HB9;have K47:Hid (Keep NoS w4 w7):=zh ((hk5.both hk6).both hk7);have HB9:=zh (HB9.out.keep K47.out);have K7:=zh (K4.out.both K47.out);have hb96:b9<w6.heap.size:=by have:=HB9'.out.lt;have:=(hk5.both hk6).size;omega
    have HU3:Hid (∀x y,IsFracs ((w7.setCell ⟨b9,0,none⟩ x).setCell ⟨b9,1,none⟩ y) u3 ((T.ptK T.n).map fqOf)):=zh (fun x y=>(OwnG.other2 hu3 hb96 x y).ofFq)
    have HU3L:=zh hu3.len;clear CA CP CB hk5 hk6 hk7 hu2 hu3;obtain⟨s0,s1,t0,t1,sl⟩:=HB9.out.two;have hres:=HRES.out;obtain⟨o3,l3,c3,rfl⟩:∃o l c,u3= .slice o l c:=by obtain⟨o,c,h,_⟩:=HU3L.out;exact⟨o,_,c,h⟩
    generalize allFit (T.ptK T.n) (T.ptK T.n).length=af at*
    rcases af with _ | _
    case false=>
     rw [if_neg (by decide)]at hres
     subst hres;go_wp2;refine bodyPost_ret (by simp [results,Tryz.results18,go_sem,s0,s1,sl];rfl) rfl ?_
     exact⟨_,_,rfl,nil_fracs _,nil_fracs _,keep_set2 K7.out HS9.out _ _⟩
    case true=>
     rw [if_pos rfl]at hres;subst hres;go_wp2;refine bodyPost_ret (by simp [results,Tryz.results18,go_sem,s0,s1,sl];rfl) rfl ?_
     exact⟨_,_,rfl,HU3.out _ _,nil_fracs _,keep_set2 K7.out HS9.out _ _⟩
   case inr.inl=>
    rw [hfe]at hres;simp only at hres;obtain⟨T,b,way,hIT,hBK,hEN,hll⟩:=feas_no f _ l HINV.out hfe;have hnb:∀q∈l,NB 1000 q:=by
     rw [hll];have hi:=(line_spec hBK.mem).1;rw [hIT.wf.bl,hIT.hr]at hi;exact refK_nb hIT hi hBK.way _ (by rw [hIT.hn,hIT.hr];exact Nat.le_refl _)
    have hlen:l.length=rows.length:=by rw [hll,refK_len,hIT.hr]
    have hne:l≠ []:=by
     have hi:=(line_spec hBK.mem).1;rw [hIT.wf.bl,hIT.hr]at hi;intro h0;rw [h0]at hlen;simp at hlen;omega
    obtain⟨ou,cu,lu,hue,h1,h2,h3,h4⟩:=hu;obtain⟨gu,go,rfl,h5⟩:=h4 hne;have hu:IsNums w4 u l:=⟨_,cu,lu,hue,h1,h2,h3,fun _=>⟨gu,go,rfl,h5⟩⟩
    have HB9:=zh (HB92.out.keep hk4);have K4:=zh (K2.out.both hk4);have CB:=fun w' (k:Keep NoS w4 w')=>zh (tabFracs_any w' _ _ (hu.keep k) hnb (by omega))
    have HRES:=zh hres;obtain⟨nl,hnl⟩:∃nl,l.length=nl:=⟨_,rfl⟩;rw [hnl]at hue;subst hue;clear hres hfe HT hIT hBK hEN hll hnb hlen hne h1 h2 h3 h4 h5 hu hk4;have hnil:∀w,Sem.run Tryz.prog (binOp BinOp.neq 64 (Value.slice (some ⟨gu,go,none⟩) nl cu) (Value.slice none 0 0)) w= .ok (.bool true) w:=fun w=>rfl
    go_wp2_with fail;refine(CB _ kp).out.mono ?_;rintro e w7 ⟨u3,rfl,hu3,hk7⟩;have HB9':=HB9;have HB9:=zh (HB9.out.keep hk7);have K7:=zh (K4.out.both hk7);have hb96:b9<w4.heap.size:=HB9'.out.lt;have HU3:Hid (∀x y,IsFracs ((w7.setCell ⟨b9,0,none⟩ x).setCell ⟨b9,1,none⟩ y) u3 (l.map fqOf)):=zh (fun x y=>(OwnG.other2 hu3 hb96 x y).ofFq)
    have HU3L:=zh hu3.len;clear CB hk7 hu3;obtain⟨s0,s1,t0,t1,sl⟩:=HB9.out.two;have hres:=HRES.out;obtain⟨o3,l3,c3,rfl⟩:∃o l c,u3= .slice o l c:=by obtain⟨o,c,h,_⟩:=HU3L.out;exact⟨o,_,c,h⟩
    generalize allFit l l.length=af at*
    rcases af with _ | _
    case false=>
     rw [if_neg (by decide)]at hres
     subst hres;go_wp2;refine bodyPost_ret (by simp [results,Tryz.results18,go_sem,s0,s1,sl];rfl) rfl ?_
     exact⟨_,_,rfl,nil_fracs _,nil_fracs _,keep_set2 K7.out HS9.out _ _⟩
    case true=>
     rw [if_pos rfl]at hres;subst hres;go_wp2;refine bodyPost_ret (by simp [results,Tryz.results18,go_sem,s0,s1,sl];rfl) rfl ?_
     exact⟨_,_,rfl,nil_fracs _,HU3.out _ _,keep_set2 K7.out HS9.out _ _⟩
   case inr.inr=>
    rw [hfe]at hres;simp only at hres;subst hres;have HB9:=zh (HB92.out.keep hk4);obtain⟨s0,s1,t0,t1,sl⟩:=HB9.out.two;go_wp2;refine bodyPost_ret (by simp [results,Tryz.results18,go_sem,s0,s1,sl];rfl) rfl ?_
    exact⟨_,_,rfl,nil_fracs _,nil_fracs _,keep_set2 (K2.out.both hk4) HS9.out _ _⟩
end Go.Proofs.YtaiffmebphhdaaaGreat
