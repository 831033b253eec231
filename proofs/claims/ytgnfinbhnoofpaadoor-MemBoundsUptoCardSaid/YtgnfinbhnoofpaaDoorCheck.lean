/- Check (item): its depth, then the first item that isn't right; given what 'wrong' answers. -/
import Derived.Test.YtgnfinbhnoofpaaDoorDepth
import Derived.Test.YtgnfinbhnoofpaaDoorWalk
set_option linter.unusedVariables false
set_option linter.unusedSimpArgs false
set_option linter.unusedSectionVars false
open Go Go.V Go.Proofs
set_option maxRecDepth 100000
set_option maxHeartbeats 4000000
namespace Go.V.W
def answers24 (g : Nat) (S : St) : Val × St := if g = 21 then (Val.int .i64 0, S) else (Val.fn 79 [], S)
noncomputable def E3 : Env := { E0 with native := fun g => some (fun _ S => some (answers24 g S)) }
noncomputable def D24 : Cfg := goT E3 1 (ctxOf E0 24) 21 (entry E0 24 [.agg [.int .i64 0, .int .u64 0, .str [], .sli [] 0 .nil]] ⟨[], []⟩)
noncomputable def P24 : Pos := D24.pos
noncomputable def A24 : Code := (recAt (ctxOf E0 24) D24).assign
noncomputable def B24 : Code := (recAt (ctxOf E0 24) D24).body
noncomputable def K24 : List Item := match D24.pos with
  | .code (_ :: k) => k
  | _ => []
noncomputable def r0 (cs : List Val) : LoopRec := ⟨24, [(2, .lv [.int .i64 0]), (10, .fn 79 [.pin cs 0])], #[11, 12], A24, B24, false, false, false, none⟩
noncomputable def r1 (cs : List Val) (e : Int) : LoopRec := ⟨24, [(2, .lv [.int .i64 e]), (10, .fn 79 [.pin cs 0])], #[11, 12], A24, B24, false, false, true, some .ret⟩
theorem round0 (k n d : Int) (s : List UInt8) (q : Q) (l : List It) (cs : List Val) (H : List Block) (L0 : List LoopRec)
    (hw : ∀ S, Go.V.Call E0 81 [.agg (i4 k n s l q)] S (.int .i64 0) S) : Yld E0 L0.length [.int .i64 d, .agg (i4 k n s l q)] ⟨H, L0 ++ [r0 cs]⟩ (.bool true) ⟨H, L0 ++ [r0 cs]⟩ := by
  refine yld_last 100 (fn := Tryd.f24) (fr0 := [(12, .agg (i4 k n s l q)), (11, .int .i64 d), (2, .lv [.int .i64 0]), (10, .fn 79 [.pin cs 0])]) (fr1 := [(2, .lv [.int .i64 0]), (4, .lv (i4 k n s l q))]) (by kernel_rfl) Tryd.func24 (by kernel_rfl) (by kernel_rfl) (by kernel_rfl) ?_
  refine evc_g 4 ?_
  refine evc_c (hw ⟨H, L0 ++ [{ r0 cs with busy := true, begun := true }]⟩) ?_
  refine evc_g 10 ?_
  exact evc_nilQ (by kernel_rfl) ⟨[(2, .lv [.int .i64 0]), (10, .fn 79 [.pin cs 0])], by kernel_rfl, by kernel_rfl, by kernel_rfl, by kernel_rfl⟩
theorem round1 (k n d : Int) (s : List UInt8) (q : Q) (l : List It) (cs : List Val) (H : List Block) (L0 : List LoopRec) (e : Int) (he : e ≠ 0)
    (hw : ∀ S, Go.V.Call E0 81 [.agg (i4 k n s l q)] S (.int .i64 e) S) : Yld E0 L0.length [.int .i64 d, .agg (i4 k n s l q)] ⟨H, L0 ++ [r0 cs]⟩ (.bool false) ⟨H, L0 ++ [r1 cs e]⟩ := by
  refine yld_last 100 (fn := Tryd.f24) (fr0 := [(12, .agg (i4 k n s l q)), (11, .int .i64 d), (2, .lv [.int .i64 0]), (10, .fn 79 [.pin cs 0])]) (fr1 := [(2, .lv [.int .i64 0]), (4, .lv (i4 k n s l q))]) (by kernel_rfl) Tryd.func24 (by kernel_rfl) (by kernel_rfl) (by kernel_rfl) ?_
  refine evc_g 4 ?_
  refine evc_c (hw ⟨H, L0 ++ [{ r0 cs with busy := true, begun := true }]⟩) ?_
  refine evc_g 7 ?_
  refine evc_is 16 (e != 0) true (by kernel_rfl) (by simp [he]) ?_
  refine evc_g 6 ?_
  exact evc_retQ (k := [.inBlock 1]) (by kernel_rfl) ⟨[(2, .lv [.int .i64 e]), (10, .fn 79 [.pin cs 0])], by kernel_rfl, by kernel_rfl, by kernel_rfl, by kernel_rfl⟩
end Go.V.W
