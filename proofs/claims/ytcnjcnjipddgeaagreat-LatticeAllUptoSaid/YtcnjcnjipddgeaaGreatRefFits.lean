/- The reference's Fits. -/
import Derived.Test.YtcnjcnjipddgeaaGreatRowAA
namespace Go.Proofs.YtcnjcnjipddgeaaGreat
set_option linter.unusedSimpArgs false
set_option linter.unusedVariables false
open Go.ChangeShapes Go.WideShapes Go.RowKit
theorem refFit_any (w:World)(x:Int):Calls Tryz.prog 15 #[.int .i64 x] w fun e w'=>e= .returned (.bool (decide (fitI x)))∧Keep NoS w w':=by
 by_cases h1:x≤1000000
 ·have e1:decide (x≤1000000)=true:=dec_t h1
  by_cases h2: -1000000≤x
  ·have e2:decide (-1000000≤x)=true:=dec_t h2
   have HF:Hid (decide (fitI x)=true):=zh (dec_t ⟨h2,h1⟩);rw [HF.out];go_enter Tryz.func15,Tryz.ntmps15;go_wp2;go_ret;exact⟨rfl,kp⟩
  ·have e2:decide (-1000000≤x)=false:=dec_f h2
   have HF:Hid (decide (fitI x)=false):=zh (dec_f fun h=>h2 h.1)
   rw [HF.out];go_enter Tryz.func15,Tryz.ntmps15;go_wp2;go_ret;exact⟨rfl,kp⟩
 ·have e1:decide (x≤1000000)=false:=dec_f h1
  have HF:Hid (decide (fitI x)=false):=zh (dec_f fun h=>h1 h.2)
  rw [HF.out];go_enter Tryz.func15,Tryz.ntmps15;go_wp2;go_ret;exact⟨rfl,kp⟩
end Go.Proofs.YtcnjcnjipddgeaaGreat
