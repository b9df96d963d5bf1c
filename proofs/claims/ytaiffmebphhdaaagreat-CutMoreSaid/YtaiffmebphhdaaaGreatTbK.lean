/- Package tableau's Point. -/
import Derived.Test.YtaiffmebphhdaaaGreatTbJ
namespace Go.Proofs.YtaiffmebphhdaaaGreat
set_option maxRecDepth 100000
set_option maxHeartbeats 32000000
set_option linter.unusedSimpArgs false
set_option linter.unusedVariables false
open Go.ChangeShapes Go.WideShapes Go.RowKit Go.Maps
def TS.ptQ (S:TS)(v:Nat):Rat:=(S.val v).n+(S.val v).s*S.smK S.vals.length
def TS.ptK (S:TS)(n:Nat):List Rat:=(List.range n).map S.ptQ
theorem Dh {S:TS}{n:Nat}:(S.ptK n).length=n:=by simp [TS.ptK]
theorem VY {S:TS}{n:Nat}:S.ptK (n+1)=S.ptK n++ [S.ptQ n]:=by
 unfold TS.ptK;rw [List.range_succ,List.map_append];rfl
theorem NY {S:TS}(hw:S.wf)(hn:S.nb 100):∀k,k≤S.vals.length→NB 300 (S.smK k)
 | 0,_=>(jy (x:=1) (by decide)).mono (by omega)
 | k+1,h=>by
  unfold TS.smK
  split
  ·rename_i hc
   have hv:(S.val k).ok 100:=by rw [jY (by omega)];exact hn.v _ (List.getElem_mem _)
   have hu:=Gb hw k;have h0:S.kK k≠0:=fun h=>by
    have:=hc.2.1;rw [h]at this;have h0:(0:Rat).num.sign=0:=rfl;omega
   exact((((hu.1.sub hv.1).mono (k:=102) (by omega):NB 102 (S.dK k))).div ((hv.2.sub hu.2).mono (k:=102) (by omega):NB 102 (S.kK k)) h0).mono (by omega)
  ·exact NY hw hn k (by omega)
theorem Rs (w0 w:World)(bT nm:Nat)(T:TS)(h:Dz w0 w bT nm T)(hw:T.wf)(hn:T.nb 100):
  Calls Tryz.prog 30 #[.pointer (some ⟨bT,0,none⟩)] w fun e w'=>∃u,e= .returned u∧jN w' u (T.ptK T.n)∧Keep au w w':=by
 have CS:=fun w' (k:Keep au w w')=>zh (Rb w0 w' bT nm T (h.keep k) hw hn)
 obtain⟨L,h⟩:=h;have HW:=zh hw;have HN:=zh hn;have nJ:=zh h;have zb8:=zh (NY hw hn T.vals.length (Nat.le_refl _));obtain⟨t0,_,_,_,_,t5,_,eF⟩:=h.t.seven;have hgv:=h.v.lt;have HT0:=zh (And.intro t0 t5);have xs:=h.cv.1;have xs':=h.cv.2;have hvl:=hw.vl;have h40:=hw.r40;have h12:=hw.n12;unfold maxLen at xs';have hnl:T.n≤T.vals.length:=by omega
 have hnc:T.n≤L.cv:=by omega
 have hncI:(T.n:Int)≤(L.cv:Int):=by omega
 clear h hw hn hvl t0 t5;go_enter Tryz.func30,Tryz.ntmps30;go_wp2_with fail;refine(CS _ kp).out.mono ?_;rintro e w1 ⟨z,rfl,hz,hk1⟩;obtain⟨⟨sb,sS,sc,sU⟩,rfl⟩:=Fj hz;have K1:Hid (Keep au w w1):=zh (Keep.both kp hk1);have HZ:=zh hz;clear hk1 CS hz;have ka:Keep au w1 (w1.alloc (.cells #[.bool sb,.string sS,.bool sc,.string sU] 93)):=(Keep.refl _ _).alloc _;have HB3:Hid (aL (w1.alloc (.cells #[.bool sb,.string sS,.bool sc,.string sU] 93)) w1.heap.size #[.bool sb,.string sS,.bool sc,.string sU]):=zh (aR _ _ rfl);have K2:=zh (K1.out.both ka);unfold NV.v;simp only;go_upto_region 3 with fail
 clear ka K1;generalize w1.alloc (.cells #[.bool sb,.string sS,.bool sc,.string sU] 93)=w2 at *;generalize w1.heap.size=b3 at *;have lt2:=dY eF K2.out.size;refine aD (fun w'=>Keep au w2 w') [] [] [0,1,2,3,4,5,6,7,8,9,10] (by kernel_rfl) (by kernel_rfl) kp ?_
 intro X W hne hF hcls;have x0:=fun x=>((hF x).cell lt2).trans ((K2.out.cell eF).trans HT0.out.1)
 have x1:=fun x=>((hF x).cell lt2).trans ((K2.out.cell eF).trans HT0.out.2)
 clear hF hcls;simp only [aO,aJ,zl0,zl1,zl2,aV,Bool.false_eq_true,if_false]
 (repeat(go_big_quiet_step (fail)));refine wpQuiet_nil ?_
 refine NoPanic.normal ?_;have K2:=zh (K2.out.drew);have HB3:=zh (HB3.out.keep (Keep.refl au w2).drew);have HG2:Hid (w.heap.size≤w2.drew.heap.size):=zh K2.out.size;clear x0 x1 lt2;generalize w2.drew=w3 at *;have zc9:Hid (b3<w3.heap.size):=zh HB3.out.lt;go_wp2;go_loopw [4,19] (fun s4 s19 wr=>∃v:Nat,v≤T.n∧s19= .int .i64 v∧Keep au w wr∧aL wr b3 #[.bool sb,.string sS,.bool sc,.string sU]∧nH wr w3.heap.size s4 (T.ptK v)∧w3.heap.size≤wr.heap.size) (fun _ s _=>(T.n-intOf s).toNat)
 case atStart=>exact⟨0,by omega,rfl,K2.out,HB3.out,nH.nil _ _,Nat.le_refl _⟩
 case round=>
  obtain⟨v,hv,rfl,hkr,hb3,hou,hsz⟩:=hrel;have dP:=zh hkr;have Rf:=zh hb3;have sH:=zh hou;have FP:=zh hsz;obtain⟨ou,cu,hu⟩:=hou.len;rw [Dh]at hu;subst hu;clear hkr hb3 hou hsz K2
  by_cases RY:v<T.n
  case neg=>
   have hlt:¬(v:Int)<(T.n:Int):=by omega
   obtain rfl:v=T.n:=by omega
   go_wp2;go_ret;exact⟨_,rfl,sH.out.nums,dP.out⟩
  case pos=>
   have hlt:(v:Int)<(T.n:Int):=by omega
   have hvv:v<T.vals.length:=by omega
   obtain⟨⟨⟨pb,pS,pc,pU⟩,⟨qb,qS,qc,qU⟩⟩,hpx,e0,e1,e2,e3,e4,e5,e6,e7⟩:=qK nJ.out.v hvv;simp only at e0 e1 e2 e3 e4 e5 e6 e7;rw [← jY hvv]at hpx;have JN:=zh hpx;have zV:Hid ((T.val v).ok 100):=zh (by rw [jY hvv];exact HN.out.v _ (List.getElem_mem hvv))
   have m0:=(dP.out.cell hgv).trans e0;have m1:=(dP.out.cell hgv).trans e1;have m2:=(dP.out.cell hgv).trans e2;have m3:=(dP.out.cell hgv).trans e3;have m4:=(dP.out.cell hgv).trans e4;have m5:=(dP.out.cell hgv).trans e5;have m6:=(dP.out.cell hgv).trans e6;have m7:=(dP.out.cell hgv).trans e7;have lgr:=dY hgv dP.out.size;clear e0 e1 e2 e3 e4 e5 e6 e7 hpx;have ka:Keep au wr (wr.alloc (.cells #[.bool pb,.string pS,.bool pc,.string pU,.bool qb,.string qS,.bool qc,.string qU] 101)):=(Keep.refl _ _).alloc _;have Bo:Hid (aL (wr.alloc (.cells #[.bool pb,.string pS,.bool pc,.string pU,.bool qb,.string qS,.bool qc,.string qU] 101)) wr.heap.size #[.bool pb,.string pS,.bool pc,.string pU,.bool qb,.string qS,.bool qc,.string qU]):=zh (aR _ _ rfl);have HB3:=zh (Rf.out.keep ka);have KX:=zh (dP.out.both ka);have HOX:=zh (sH.out.keep ka);have HSX:=zh (Nat.le_trans FP.out ka.size);have CT:=fun w=>zh (mV w _ _ JN.out.2 (zV.out.2.mono (by omega)) _ _ HZ.out (zb8.out.mono (by omega)))
   obtain⟨⟨tb,tS,tc,tU⟩,ht,htn⟩:=fE ((T.val v).s*T.smK T.vals.length);rw [ht]at CT;have CP:=fun w=>zh (sD w _ _ JN.out.1 (zV.out.1.mono (by omega)) _ _ htn ((zV.out.2.mul zb8.out).mono (by omega)))
   obtain⟨⟨rb,rS,rc,rU⟩,hr,hrn⟩:=fE ((T.val v).n+(T.val v).s*T.smK T.vals.length);rw [hr]at CP;have SE:Hid (bM (NV.v ⟨rb,rS,rc,rU⟩) (T.ptQ v)):=zh hrn;unfold NV.v at CT CP;simp only at CT CP;clear ht htn hr hrn;go_upto_region 6 with fail
   clear ka m0 m1 m2 m3 m4 m5 m6 m7 lgr Rf dP sH FP;generalize wr.alloc (.cells #[.bool pb,.string pS,.bool pc,.string pU,.bool qb,.string qS,.bool qc,.string qU] 101)=wx at *;generalize wr.heap.size=bx at *;refine aD (fun w'=>Keep au wx w') [9,10] [([0,1,2,3,4,5],6),([],7),([],8),([],9)] [10] (by kernel_rfl) (by kernel_rfl) kp ?_
   intro X W hne hF hcls;have aQ:=zh hcls;have z0:=fun x=>(Bo.out.keep (hF x)).eight
   have z1:=fun x=>(HB3.out.keep (hF x)).four
   clear hF hcls;simp only [aO,aJ,zl0,zl1,zl2,aV,Bool.false_eq_true,if_false]
   (repeat(go_big_quiet_step (fail)));refine wpQuiet_nil ?_
   refine ay rfl rfl fun K hK=> ?_
   go_simp;refine(CT _).out.mono ?_;rintro e w5 ⟨rfl,hk5⟩;have k5:Keep au wx w5:=Keep.trans kp hk5 fun _ _ _ h=>h
   refine hK _ _ ⟨fun _=>aQ.out _ k5,?_⟩
   clear hK hk5 CT
   (repeat(go_big_quiet_step (fail)));refine wpQuiet_nil ?_
   refine ay rfl rfl fun K hK=> ?_
   go_simp;refine(CP _).out.mono ?_;rintro e w6 ⟨rfl,hk6⟩;have k6:Keep au wx w6:=k5.both hk6;refine hK _ _ ⟨fun _=>aQ.out _ k6,?_⟩
   clear hK hk6 CP k5
   (repeat(go_big_quiet_step (fail)));refine wpQuiet_nil ?_
   refine ay rfl rfl fun K hK=> ?_
   go_simp;have k7:Keep au wx (w6.alloc (.cells #[.bool rb,.string rS,.bool rc,.string rU] 93)):=k6.alloc _;refine hK _ _ ⟨fun _=>aQ.out _ k7,?_⟩
   clear hK;obtain⟨v7,w7,hr7,ho7,hg7⟩:=Yd (x:=⟨rb,rS,rc,rU⟩) (HOX.out.keep k7) (b:=w6.heap.size) (aR _ _ rfl) SE.out (by rw [Dh];omega) (Nat.le_trans HSX.out k7.size)
   rw [← VY]at ho7;have R9:=zh ho7;obtain⟨o7,c7,hs7⟩:=ho7.len;rw [Dh]at hs7;subst hs7;have hblk:=fun kk hh=>HOX.out.block kk hh
   have K7:=zh ((KX.out.both k7).grown hg7 fun kk hh=>Nat.le_trans HG2.out (hblk kk hh))
   have nE:=zh ((HB3.out.keep k7).grown hg7 fun kk hh=>by have:=hblk kk hh;have:=zc9.out;omega)
   have MJ:=zh (Nat.le_trans HSX.out (Nat.le_trans k7.size hg7.size));clear ho7 hg7 hblk k6 k7
   (repeat(go_big_quiet_step (fail)));refine wpQuiet_nil ?_
   refine ay rfl rfl fun K hK=> ?_
   refine bZ _ _ 64 _ _ rfl rfl rfl hr7 ?_;refine hK _ _ ⟨fun h=>(by simp at h),?_⟩
   clear hK z0 z1 hr7;simp only [Act.put,List.setIfInBounds_toArray,List.set_cons_zero,List.set_cons_succ]
   (repeat(go_big_quiet_step (fail)));refine wpQuiet_nil ?_
   refine NoPanic.normal ?_;go_wp2;go_roundw
   case rel=>exact⟨v+1,by omega,by go_num,K7.out,nE.out,R9.out,MJ.out⟩
   case measure=>simp [intOf];omega
end Go.Proofs.YtaiffmebphhdaaaGreat
