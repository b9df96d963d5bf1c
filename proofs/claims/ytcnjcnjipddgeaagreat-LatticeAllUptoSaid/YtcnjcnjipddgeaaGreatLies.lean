/- Numbers, fractions and rows that lie in blocks of the call's own. -/
import Derived.Test.YtcnjcnjipddgeaaGreatOwnG
namespace Go.Proofs.YtcnjcnjipddgeaaGreat
set_option linter.unusedSimpArgs false
set_option linter.unusedVariables false
open Go.ChangeShapes Go.WideShapes Go.RowKit
theorem lie_ints {w:World}{b:Nat}{xs:List Int}{cs:Array Value}{n:Nat}(h:Blk w b cs)(hc:cs=(iv xs).toArray)(hn:n=xs.length)(hx:∀x∈xs,I64 x)(hl:xs.length≤maxLen):IsInts w (.slice (some ⟨b,0,none⟩) n n) xs:=by
 subst hn hc;refine⟨_,_,rfl,hl,hx,fun hne=>⟨b,0,rfl,h.lt,fun i x hi=> ?_⟩⟩
 rw [h.cell,Nat.zero_add];simp [iv,hi]
theorem lie_rows {w:World}{b:Nat}{xs:List RwV}{cs:Array Value}{n:Nat}{l:List Rw}(h:Blk w b cs)(hc:cs=(xs.flatMap rwC).toArray)(hl:l=xs.map RwV.r)(hn:n=xs.length)(hx:∀x∈xs,IsInts w x.sv x.r.of∧I64 x.r.kind∧I64 x.r.to∧CapOK x.sv)(hm:xs.length≤maxLen):IsRows w (.slice (some ⟨b,0,none⟩) n n) l:=by
 subst hn hc hl;refine⟨_,_,by rw [List.length_map],by rw [List.length_map];exact Nat.le_refl _,hm,fun hne=>⟨b,0,rfl,h.lt,fun i r hi=> ?_⟩⟩
 rw [List.getElem?_map]at hi
 rcases hy:xs[i]? with _ | y
 ·rw [hy]at hi;cases hi
 ·rw [hy]at hi
  simp at hi;subst hi;have h0:=flat_get rwC_len xs i y hy 0 (by omega)
  have h1:=flat_get rwC_len xs i y hy 1 (by omega)
  have h2:=flat_get rwC_len xs i y hy 2 (by omega)
  obtain⟨h6,h7⟩:=hx y (List.mem_of_getElem? hy);refine⟨y.sv,?_,?_,?_,h6,h7⟩
  ·rw [h.cell,Nat.zero_add];rw [show(rwC y)[0]? =some _ from rfl]at h0;simpa using h0
  ·rw [h.cell,Nat.zero_add];rw [show(rwC y)[1]? =some _ from rfl]at h1;simpa using h1
  ·rw [h.cell,Nat.zero_add];rw [show(rwC y)[2]? =some _ from rfl]at h2;simpa using h2
theorem lie_row {w:World}{b:Nat}(xs:List Int)(k t:Int){cs:Array Value}(h:Blk w b cs)(hc:cs=(iv xs).toArray)(hx:∀x∈xs,fitI x)(hl:xs.length≤12)(hk:fitI k)(ht:fitI t)(n:Nat)(hn:n=xs.length):
  IsInts w (.slice (some ⟨b,0,none⟩) n n) xs∧I64 k∧I64 t∧CapOK (.slice (some ⟨b,0,none⟩) n n):=by
 have h64:∀x,fitI x→I64 x:=fun x h=>by unfold fitI at h;unfold I64;omega
 exact⟨lie_ints h hc hn (fun x h=>h64 x (hx x h)) (by unfold maxLen;omega),h64 _ hk,h64 _ ht,_,_,_,rfl,Nat.le_refl _⟩
end Go.Proofs.YtcnjcnjipddgeaaGreat
