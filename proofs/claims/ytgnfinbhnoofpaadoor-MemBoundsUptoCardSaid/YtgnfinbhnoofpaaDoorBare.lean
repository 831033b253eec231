/- bare, bounds (schema), form (ullageref16): kind by kind. Printed by a program (wip/tools/genbare.py). -/
import Derived.Test.YtgnfinbhnoofpaaDoorVH
import Derived.Test.YtgnfinbhnoofpaaDoorE0
import Derived.Test.YtgnfinbhnoofpaaDoorSch
set_option linter.unusedVariables false
set_option linter.unusedSimpArgs false
set_option linter.unusedSectionVars false
open Go Go.V
set_option maxRecDepth 100000
set_option maxHeartbeats 4000000
namespace Go.V.W
section
variable (lo hi vk vn : Int) (vs : List UInt8) (vl : List It) (vq : Q) (l : List Int) (ql : Q) (f : List Fd) (qf : Q) (S : St)
theorem b116_0 : Go.V.Call E0 116 [.agg (n9 0 lo hi vk vn vs vl vq l ql f qf)] S (.tup [.agg [.int .i64 0, .int .i64 0, .int .i64 0, .int .i64 0, .int .u64 0, .str [], .sli [] 0 .nil, .sli [] 0 .nil, .sli [] 0 .nil], .bool ((l.length : Int) == 0)]) S := by
  refine call_cfg (by kernel_rfl) ?_
  refine evc_g 115 ?_
  exact evc_t (Val.tup [Val.agg [Val.int IntKind.i64 0, Val.int IntKind.i64 0, Val.int IntKind.i64 0, Val.int IntKind.i64 0, Val.int IntKind.u64 0, Val.str [], Val.sli [] 0 Go.V.Q.nil, Val.sli [] 0 Go.V.Q.nil, Val.sli [] 0 Go.V.Q.nil], Val.bool ((↑l.length : Int) == 0)]) (hl := (by first | rfl | (simp [Val.low, Val.lows, low_encL, low_encI]; done) | (simp [Val.low, Val.lows, low_encL, low_encI, low_encZ, low_encFs, low_encNs, low_encN]; done)))
theorem b121_0 (sm : Bool) (h87 : Go.V.Call E0 87 [.agg [.int .i64 0, .int .i64 0, .int .i64 0, .int .i64 0, .int .u64 0, .str [], .sli [] 0 .nil, .sli [] 0 .nil, .sli [] 0 .nil], .agg (n9 0 lo hi vk vn vs vl vq l ql f qf)] S (.bool sm) S) : Go.V.Call E0 121 [.agg (n9 0 lo hi vk vn vs vl vq l ql f qf)] S (.bool (((l.length : Int) == 0) && sm)) S := by
  refine call_cfg (by kernel_rfl) ?_
  refine evc_g 99 ?_
  refine evc_s 112 ((↑l.length : Int) == 0) (fun h12 => ?_) (fun h12 => ?_)
  · refine evc_g 2 ?_
    refine evc_c (h87) ?_
    refine evc_g 3 ?_
    exact evc_t (Val.bool sm)
  · refine evc_g 6 ?_
    exact evc_t (Val.bool Bool.false)
theorem b117_0 : Go.V.Call E0 117 [.agg (n9 0 lo hi vk vn vs vl vq l ql f qf)] S (.bool (decide (lo ≤ hi) && decide (lo ≥ 0))) S := by
  refine call_cfg (by kernel_rfl) ?_
  refine evc_g 13 ?_
  refine evc_s 8 (decide (lo ≤ hi)) (fun h12 => ?_) (fun h12 => ?_)
  · refine evc_g 10 ?_
    refine evc_s 18 (decide (lo ≥ 0)) (fun h11 => ?_) (fun h11 => ?_)
    · refine evc_g 11 ?_
      exact evc_t (Val.bool Bool.true)
    · refine evc_g 11 ?_
      exact evc_t (Val.bool Bool.false)
  · refine evc_g 21 ?_
    exact evc_t (Val.bool Bool.false)
theorem b116_1 : Go.V.Call E0 116 [.agg (n9 1 lo hi vk vn vs vl vq l ql f qf)] S (.tup [.agg [.int .i64 1, .int .i64 lo, .int .i64 hi, .int .i64 0, .int .u64 0, .str [], .sli [] 0 .nil, .sli [] 0 .nil, .sli [] 0 .nil], .bool ((l.length : Int) == 0)]) S := by
  refine call_cfg (by kernel_rfl) ?_
  refine evc_g 117 ?_
  exact evc_t (Val.tup [Val.agg [Val.int IntKind.i64 1, Val.int IntKind.i64 lo, Val.int IntKind.i64 hi, Val.int IntKind.i64 0, Val.int IntKind.u64 0, Val.str [], Val.sli [] 0 Go.V.Q.nil, Val.sli [] 0 Go.V.Q.nil, Val.sli [] 0 Go.V.Q.nil], Val.bool ((↑l.length : Int) == 0)]) (hl := (by first | rfl | (simp [Val.low, Val.lows, low_encL, low_encI]; done) | (simp [Val.low, Val.lows, low_encL, low_encI, low_encZ, low_encFs, low_encNs, low_encN]; done)))
theorem b121_1 (sm : Bool) (h87 : Go.V.Call E0 87 [.agg [.int .i64 1, .int .i64 lo, .int .i64 hi, .int .i64 0, .int .u64 0, .str [], .sli [] 0 .nil, .sli [] 0 .nil, .sli [] 0 .nil], .agg (n9 1 lo hi vk vn vs vl vq l ql f qf)] S (.bool sm) S) : Go.V.Call E0 121 [.agg (n9 1 lo hi vk vn vs vl vq l ql f qf)] S (.bool (((l.length : Int) == 0) && sm)) S := by
  refine call_cfg (by kernel_rfl) ?_
  refine evc_g 108 ?_
  refine evc_s 112 ((↑l.length : Int) == 0) (fun h12 => ?_) (fun h12 => ?_)
  · refine evc_g 2 ?_
    refine evc_c (h87) ?_
    refine evc_g 3 ?_
    exact evc_t (Val.bool sm)
  · refine evc_g 6 ?_
    exact evc_t (Val.bool Bool.false)
theorem b117_1 : Go.V.Call E0 117 [.agg (n9 1 lo hi vk vn vs vl vq l ql f qf)] S (.bool (decide (lo ≤ hi))) S := by
  refine call_cfg (by kernel_rfl) ?_
  refine evc_g 13 ?_
  refine evc_s 8 (decide (lo ≤ hi)) (fun h12 => ?_) (fun h12 => ?_)
  · refine evc_g 21 ?_
    exact evc_t (Val.bool Bool.true)
  · refine evc_g 21 ?_
    exact evc_t (Val.bool Bool.false)
theorem b116_2 : Go.V.Call E0 116 [.agg (n9 2 lo hi vk vn vs vl vq l ql f qf)] S (.tup [.agg [.int .i64 2, .int .i64 lo, .int .i64 hi, .int .i64 0, .int .u64 0, .str [], .sli [] 0 .nil, .sli [] 0 .nil, .sli [] 0 .nil], .bool ((l.length : Int) == 0)]) S := by
  refine call_cfg (by kernel_rfl) ?_
  refine evc_g 123 ?_
  exact evc_t (Val.tup [Val.agg [Val.int IntKind.i64 2, Val.int IntKind.i64 lo, Val.int IntKind.i64 hi, Val.int IntKind.i64 0, Val.int IntKind.u64 0, Val.str [], Val.sli [] 0 Go.V.Q.nil, Val.sli [] 0 Go.V.Q.nil, Val.sli [] 0 Go.V.Q.nil], Val.bool ((↑l.length : Int) == 0)]) (hl := (by first | rfl | (simp [Val.low, Val.lows, low_encL, low_encI]; done) | (simp [Val.low, Val.lows, low_encL, low_encI, low_encZ, low_encFs, low_encNs, low_encN]; done)))
theorem b121_2 (sm : Bool) (h87 : Go.V.Call E0 87 [.agg [.int .i64 2, .int .i64 lo, .int .i64 hi, .int .i64 0, .int .u64 0, .str [], .sli [] 0 .nil, .sli [] 0 .nil, .sli [] 0 .nil], .agg (n9 2 lo hi vk vn vs vl vq l ql f qf)] S (.bool sm) S) : Go.V.Call E0 121 [.agg (n9 2 lo hi vk vn vs vl vq l ql f qf)] S (.bool (((l.length : Int) == 0) && sm)) S := by
  refine call_cfg (by kernel_rfl) ?_
  refine evc_g 108 ?_
  refine evc_s 112 ((↑l.length : Int) == 0) (fun h12 => ?_) (fun h12 => ?_)
  · refine evc_g 2 ?_
    refine evc_c (h87) ?_
    refine evc_g 3 ?_
    exact evc_t (Val.bool sm)
  · refine evc_g 6 ?_
    exact evc_t (Val.bool Bool.false)
theorem b117_2 : Go.V.Call E0 117 [.agg (n9 2 lo hi vk vn vs vl vq l ql f qf)] S (.bool (decide (lo ≤ hi) && decide (lo ≥ 0))) S := by
  refine call_cfg (by kernel_rfl) ?_
  refine evc_g 13 ?_
  refine evc_s 8 (decide (lo ≤ hi)) (fun h12 => ?_) (fun h12 => ?_)
  · refine evc_g 10 ?_
    refine evc_s 18 (decide (lo ≥ 0)) (fun h11 => ?_) (fun h11 => ?_)
    · refine evc_g 11 ?_
      exact evc_t (Val.bool Bool.true)
    · refine evc_g 11 ?_
      exact evc_t (Val.bool Bool.false)
  · refine evc_g 21 ?_
    exact evc_t (Val.bool Bool.false)
theorem b116_3 : Go.V.Call E0 116 [.agg (n9 3 lo hi vk vn vs vl vq l ql f qf)] S (.tup [.agg [.int .i64 3, .int .i64 lo, .int .i64 hi, .int .i64 0, .int .u64 0, .str [], .sli [] 0 .nil, .sli [] 0 .nil, .sli [] 0 .nil], .bool ((l.length : Int) == 0)]) S := by
  refine call_cfg (by kernel_rfl) ?_
  refine evc_g 126 ?_
  exact evc_t (Val.tup [Val.agg [Val.int IntKind.i64 3, Val.int IntKind.i64 lo, Val.int IntKind.i64 hi, Val.int IntKind.i64 0, Val.int IntKind.u64 0, Val.str [], Val.sli [] 0 Go.V.Q.nil, Val.sli [] 0 Go.V.Q.nil, Val.sli [] 0 Go.V.Q.nil], Val.bool ((↑l.length : Int) == 0)]) (hl := (by first | rfl | (simp [Val.low, Val.lows, low_encL, low_encI]; done) | (simp [Val.low, Val.lows, low_encL, low_encI, low_encZ, low_encFs, low_encNs, low_encN]; done)))
theorem b121_3 (sm : Bool) (h87 : Go.V.Call E0 87 [.agg [.int .i64 3, .int .i64 lo, .int .i64 hi, .int .i64 0, .int .u64 0, .str [], .sli [] 0 .nil, .sli [] 0 .nil, .sli [] 0 .nil], .agg (n9 3 lo hi vk vn vs vl vq l ql f qf)] S (.bool sm) S) : Go.V.Call E0 121 [.agg (n9 3 lo hi vk vn vs vl vq l ql f qf)] S (.bool (((l.length : Int) == 0) && sm)) S := by
  refine call_cfg (by kernel_rfl) ?_
  refine evc_g 108 ?_
  refine evc_s 112 ((↑l.length : Int) == 0) (fun h12 => ?_) (fun h12 => ?_)
  · refine evc_g 2 ?_
    refine evc_c (h87) ?_
    refine evc_g 3 ?_
    exact evc_t (Val.bool sm)
  · refine evc_g 6 ?_
    exact evc_t (Val.bool Bool.false)
theorem b117_3 : Go.V.Call E0 117 [.agg (n9 3 lo hi vk vn vs vl vq l ql f qf)] S (.bool (decide (lo ≤ hi) && decide (lo ≥ 0))) S := by
  refine call_cfg (by kernel_rfl) ?_
  refine evc_g 13 ?_
  refine evc_s 8 (decide (lo ≤ hi)) (fun h12 => ?_) (fun h12 => ?_)
  · refine evc_g 10 ?_
    refine evc_s 18 (decide (lo ≥ 0)) (fun h11 => ?_) (fun h11 => ?_)
    · refine evc_g 11 ?_
      exact evc_t (Val.bool Bool.true)
    · refine evc_g 11 ?_
      exact evc_t (Val.bool Bool.false)
  · refine evc_g 21 ?_
    exact evc_t (Val.bool Bool.false)
theorem b116_4 (ch : Int) (h24 : Go.V.Call E0 24 [.agg (i4 vk vn vs vl vq)] S (.int .i64 ch) S) : Go.V.Call E0 116 [.agg (n9 4 lo hi vk vn vs vl vq l ql f qf)] S (.tup [.agg [.int .i64 4, .int .i64 0, .int .i64 0, .int .i64 vk, .int .u64 vn, .str vs, .sli (encL vl) vl.length vq, .sli [] 0 .nil, .sli [] 0 .nil], .bool ((l.length : Int) == 0 && (vk != 4 && (vk != 5 && (vk != 6 && (vk != 8 && ch == 0)))))]) S := by
  refine call_cfg (by kernel_rfl) ?_
  refine evc_g 61 ?_
  refine evc_s 34 ((↑l.length : Int) == 0) (fun h12 => ?_) (fun h12 => ?_)
  · refine evc_g 6 ?_
    refine evc_s 40 (vk != 4) (fun h11 => ?_) (fun h11 => ?_)
    · refine evc_g 6 ?_
      refine evc_s 46 (vk != 5) (fun h10 => ?_) (fun h10 => ?_)
      · refine evc_g 6 ?_
        refine evc_s 52 (vk != 6) (fun h9 => ?_) (fun h9 => ?_)
        · refine evc_g 6 ?_
          refine evc_s 58 (vk != 8) (fun h8 => ?_) (fun h8 => ?_)
          · refine evc_g 2 ?_
            refine evc_c (h24) ?_
            refine evc_g 12 ?_
            exact evc_t (Val.tup [Val.agg [Val.int IntKind.i64 4, Val.int IntKind.i64 0, Val.int IntKind.i64 0, Val.int IntKind.i64 vk, Val.int IntKind.u64 vn, Val.str vs, Val.sli (encL vl) vl.length vq, Val.sli [] 0 Go.V.Q.nil, Val.sli [] 0 Go.V.Q.nil], Val.bool (ch == 0)]) (hl := (by first | rfl | (simp [Val.low, Val.lows, low_encL, low_encI]; done) | (simp [Val.low, Val.lows, low_encL, low_encI, low_encZ, low_encFs, low_encNs, low_encN]; done)))
          · refine evc_g 15 ?_
            exact evc_t (Val.tup [Val.agg [Val.int IntKind.i64 4, Val.int IntKind.i64 0, Val.int IntKind.i64 0, Val.int IntKind.i64 vk, Val.int IntKind.u64 vn, Val.str vs, Val.sli (encL vl) vl.length vq, Val.sli [] 0 Go.V.Q.nil, Val.sli [] 0 Go.V.Q.nil], Val.bool Bool.false]) (hl := (by first | rfl | (simp [Val.low, Val.lows, low_encL, low_encI]; done) | (simp [Val.low, Val.lows, low_encL, low_encI, low_encZ, low_encFs, low_encNs, low_encN]; done)))
        · refine evc_g 21 ?_
          exact evc_t (Val.tup [Val.agg [Val.int IntKind.i64 4, Val.int IntKind.i64 0, Val.int IntKind.i64 0, Val.int IntKind.i64 vk, Val.int IntKind.u64 vn, Val.str vs, Val.sli (encL vl) vl.length vq, Val.sli [] 0 Go.V.Q.nil, Val.sli [] 0 Go.V.Q.nil], Val.bool Bool.false]) (hl := (by first | rfl | (simp [Val.low, Val.lows, low_encL, low_encI]; done) | (simp [Val.low, Val.lows, low_encL, low_encI, low_encZ, low_encFs, low_encNs, low_encN]; done)))
      · refine evc_g 27 ?_
        exact evc_t (Val.tup [Val.agg [Val.int IntKind.i64 4, Val.int IntKind.i64 0, Val.int IntKind.i64 0, Val.int IntKind.i64 vk, Val.int IntKind.u64 vn, Val.str vs, Val.sli (encL vl) vl.length vq, Val.sli [] 0 Go.V.Q.nil, Val.sli [] 0 Go.V.Q.nil], Val.bool Bool.false]) (hl := (by first | rfl | (simp [Val.low, Val.lows, low_encL, low_encI]; done) | (simp [Val.low, Val.lows, low_encL, low_encI, low_encZ, low_encFs, low_encNs, low_encN]; done)))
    · refine evc_g 33 ?_
      exact evc_t (Val.tup [Val.agg [Val.int IntKind.i64 4, Val.int IntKind.i64 0, Val.int IntKind.i64 0, Val.int IntKind.i64 vk, Val.int IntKind.u64 vn, Val.str vs, Val.sli (encL vl) vl.length vq, Val.sli [] 0 Go.V.Q.nil, Val.sli [] 0 Go.V.Q.nil], Val.bool Bool.false]) (hl := (by first | rfl | (simp [Val.low, Val.lows, low_encL, low_encI]; done) | (simp [Val.low, Val.lows, low_encL, low_encI, low_encZ, low_encFs, low_encNs, low_encN]; done)))
  · refine evc_g 39 ?_
    exact evc_t (Val.tup [Val.agg [Val.int IntKind.i64 4, Val.int IntKind.i64 0, Val.int IntKind.i64 0, Val.int IntKind.i64 vk, Val.int IntKind.u64 vn, Val.str vs, Val.sli (encL vl) vl.length vq, Val.sli [] 0 Go.V.Q.nil, Val.sli [] 0 Go.V.Q.nil], Val.bool Bool.false]) (hl := (by first | rfl | (simp [Val.low, Val.lows, low_encL, low_encI]; done) | (simp [Val.low, Val.lows, low_encL, low_encI, low_encZ, low_encFs, low_encNs, low_encN]; done)))
theorem b121_4 (ch : Int) (h25 : Go.V.Call E0 25 [.agg (i4 vk vn vs vl vq)] S (.int .i64 ch) S) (sm : Bool) (h87 : Go.V.Call E0 87 [.agg [.int .i64 4, .int .i64 0, .int .i64 0, .int .i64 vk, .int .u64 vn, .str vs, .sli (encL vl) vl.length vq, .sli [] 0 .nil, .sli [] 0 .nil], .agg (n9 4 lo hi vk vn vs vl vq l ql f qf)] S (.bool sm) S) : Go.V.Call E0 121 [.agg (n9 4 lo hi vk vn vs vl vq l ql f qf)] S (.bool (((l.length : Int) == 0 && ((vk == 0 || (vk == 1 || (vk == 2 || (vk == 3 || vk == 7)))) && ch == 0)) && sm)) S := by
  refine call_cfg (by kernel_rfl) ?_
  refine evc_g 80 ?_
  refine evc_s 50 ((↑l.length : Int) == 0) (fun h12 => ?_) (fun h12 => ?_)
  · refine evc_g 3 ?_
    refine evc_s 53 (vk == 0) (fun h11 => ?_) (fun h11 => ?_)
    · refine evc_g 19 ?_
      refine evc_c (h25) ?_
      refine evc_g 9 ?_
      refine evc_s 112 (ch == 0) (fun h10 => ?_) (fun h10 => ?_)
      · refine evc_g 2 ?_
        refine evc_c (h87) ?_
        refine evc_g 3 ?_
        exact evc_t (Val.bool sm)
      · refine evc_g 6 ?_
        exact evc_t (Val.bool Bool.false)
    · refine evc_g 4 ?_
      refine evc_s 57 (vk == 1) (fun h10 => ?_) (fun h10 => ?_)
      · refine evc_g 15 ?_
        refine evc_c (h25) ?_
        refine evc_g 9 ?_
        refine evc_s 112 (ch == 0) (fun h9 => ?_) (fun h9 => ?_)
        · refine evc_g 2 ?_
          refine evc_c (h87) ?_
          refine evc_g 3 ?_
          exact evc_t (Val.bool sm)
        · refine evc_g 6 ?_
          exact evc_t (Val.bool Bool.false)
      · refine evc_g 4 ?_
        refine evc_s 61 (vk == 2) (fun h9 => ?_) (fun h9 => ?_)
        · refine evc_g 11 ?_
          refine evc_c (h25) ?_
          refine evc_g 9 ?_
          refine evc_s 112 (ch == 0) (fun h8 => ?_) (fun h8 => ?_)
          · refine evc_g 2 ?_
            refine evc_c (h87) ?_
            refine evc_g 3 ?_
            exact evc_t (Val.bool sm)
          · refine evc_g 6 ?_
            exact evc_t (Val.bool Bool.false)
        · refine evc_g 4 ?_
          refine evc_s 65 (vk == 3) (fun h8 => ?_) (fun h8 => ?_)
          · refine evc_g 7 ?_
            refine evc_c (h25) ?_
            refine evc_g 9 ?_
            refine evc_s 112 (ch == 0) (fun h7 => ?_) (fun h7 => ?_)
            · refine evc_g 2 ?_
              refine evc_c (h87) ?_
              refine evc_g 3 ?_
              exact evc_t (Val.bool sm)
            · refine evc_g 6 ?_
              exact evc_t (Val.bool Bool.false)
          · refine evc_g 5 ?_
            refine evc_s 70 (vk == 7) (fun h7 => ?_) (fun h7 => ?_)
            · refine evc_g 2 ?_
              refine evc_c (h25) ?_
              refine evc_g 9 ?_
              refine evc_s 112 (ch == 0) (fun h6 => ?_) (fun h6 => ?_)
              · refine evc_g 2 ?_
                refine evc_c (h87) ?_
                refine evc_g 3 ?_
                exact evc_t (Val.bool sm)
              · refine evc_g 6 ?_
                exact evc_t (Val.bool Bool.false)
            · refine evc_g 18 ?_
              exact evc_t (Val.bool Bool.false)
  · refine evc_g 38 ?_
    exact evc_t (Val.bool Bool.false)
theorem b117_4 : Go.V.Call E0 117 [.agg (n9 4 lo hi vk vn vs vl vq l ql f qf)] S (.bool (decide (lo ≤ hi) && decide (lo ≥ 0))) S := by
  refine call_cfg (by kernel_rfl) ?_
  refine evc_g 13 ?_
  refine evc_s 8 (decide (lo ≤ hi)) (fun h12 => ?_) (fun h12 => ?_)
  · refine evc_g 10 ?_
    refine evc_s 18 (decide (lo ≥ 0)) (fun h11 => ?_) (fun h11 => ?_)
    · refine evc_g 11 ?_
      exact evc_t (Val.bool Bool.true)
    · refine evc_g 11 ?_
      exact evc_t (Val.bool Bool.false)
  · refine evc_g 21 ?_
    exact evc_t (Val.bool Bool.false)
theorem b116_5 : Go.V.Call E0 116 [.agg (n9 5 lo hi vk vn vs vl vq l ql f qf)] S (.tup [.agg [.int .i64 5, .int .i64 0, .int .i64 0, .int .i64 0, .int .u64 0, .str [], .sli [] 0 .nil, .sli [] 0 .nil, .sli [] 0 .nil], .bool ((l.length : Int) == 0)]) S := by
  refine call_cfg (by kernel_rfl) ?_
  refine evc_g 115 ?_
  exact evc_t (Val.tup [Val.agg [Val.int IntKind.i64 5, Val.int IntKind.i64 0, Val.int IntKind.i64 0, Val.int IntKind.i64 0, Val.int IntKind.u64 0, Val.str [], Val.sli [] 0 Go.V.Q.nil, Val.sli [] 0 Go.V.Q.nil, Val.sli [] 0 Go.V.Q.nil], Val.bool ((↑l.length : Int) == 0)]) (hl := (by first | rfl | (simp [Val.low, Val.lows, low_encL, low_encI]; done) | (simp [Val.low, Val.lows, low_encL, low_encI, low_encZ, low_encFs, low_encNs, low_encN]; done)))
theorem b121_5 (sm : Bool) (h87 : Go.V.Call E0 87 [.agg [.int .i64 5, .int .i64 0, .int .i64 0, .int .i64 0, .int .u64 0, .str [], .sli [] 0 .nil, .sli [] 0 .nil, .sli [] 0 .nil], .agg (n9 5 lo hi vk vn vs vl vq l ql f qf)] S (.bool sm) S) : Go.V.Call E0 121 [.agg (n9 5 lo hi vk vn vs vl vq l ql f qf)] S (.bool (((l.length : Int) == 0) && sm)) S := by
  refine call_cfg (by kernel_rfl) ?_
  refine evc_g 99 ?_
  refine evc_s 112 ((↑l.length : Int) == 0) (fun h12 => ?_) (fun h12 => ?_)
  · refine evc_g 2 ?_
    refine evc_c (h87) ?_
    refine evc_g 3 ?_
    exact evc_t (Val.bool sm)
  · refine evc_g 6 ?_
    exact evc_t (Val.bool Bool.false)
theorem b117_5 : Go.V.Call E0 117 [.agg (n9 5 lo hi vk vn vs vl vq l ql f qf)] S (.bool (decide (lo ≤ hi) && decide (lo ≥ 0))) S := by
  refine call_cfg (by kernel_rfl) ?_
  refine evc_g 13 ?_
  refine evc_s 8 (decide (lo ≤ hi)) (fun h12 => ?_) (fun h12 => ?_)
  · refine evc_g 10 ?_
    refine evc_s 18 (decide (lo ≥ 0)) (fun h11 => ?_) (fun h11 => ?_)
    · refine evc_g 11 ?_
      exact evc_t (Val.bool Bool.true)
    · refine evc_g 11 ?_
      exact evc_t (Val.bool Bool.false)
  · refine evc_g 21 ?_
    exact evc_t (Val.bool Bool.false)
theorem b116_6 : Go.V.Call E0 116 [.agg (n9 6 lo hi vk vn vs vl vq l ql f qf)] S (.tup [.agg [.int .i64 6, .int .i64 lo, .int .i64 hi, .int .i64 0, .int .u64 0, .str [], .sli [] 0 .nil, .sli (encZ l) l.length ql, .sli [] 0 .nil], .bool ((l.length : Int) == 1)]) S := by
  refine call_cfg (by kernel_rfl) ?_
  refine evc_g 122 ?_
  exact evc_t (Val.tup [Val.agg [Val.int IntKind.i64 6, Val.int IntKind.i64 lo, Val.int IntKind.i64 hi, Val.int IntKind.i64 0, Val.int IntKind.u64 0, Val.str [], Val.sli [] 0 Go.V.Q.nil, Val.sli (encZ l) l.length ql, Val.sli [] 0 Go.V.Q.nil], Val.bool ((↑l.length : Int) == 1)]) (hl := (by first | rfl | (simp [Val.low, Val.lows, low_encL, low_encI]; done) | (simp [Val.low, Val.lows, low_encL, low_encI, low_encZ, low_encFs, low_encNs, low_encN]; done)))
theorem b121_6 (sm : Bool) (h87 : Go.V.Call E0 87 [.agg [.int .i64 6, .int .i64 lo, .int .i64 hi, .int .i64 0, .int .u64 0, .str [], .sli [] 0 .nil, .sli (encZ l) l.length ql, .sli [] 0 .nil], .agg (n9 6 lo hi vk vn vs vl vq l ql f qf)] S (.bool sm) S) : Go.V.Call E0 121 [.agg (n9 6 lo hi vk vn vs vl vq l ql f qf)] S (.bool (((l.length : Int) == 1) && sm)) S := by
  refine call_cfg (by kernel_rfl) ?_
  refine evc_g 109 ?_
  refine evc_s 112 ((↑l.length : Int) == 1) (fun h12 => ?_) (fun h12 => ?_)
  · refine evc_g 2 ?_
    refine evc_c (h87) ?_
    refine evc_g 3 ?_
    exact evc_t (Val.bool sm)
  · refine evc_g 6 ?_
    exact evc_t (Val.bool Bool.false)
theorem b117_6 : Go.V.Call E0 117 [.agg (n9 6 lo hi vk vn vs vl vq l ql f qf)] S (.bool (decide (lo ≤ hi) && decide (lo ≥ 0))) S := by
  refine call_cfg (by kernel_rfl) ?_
  refine evc_g 13 ?_
  refine evc_s 8 (decide (lo ≤ hi)) (fun h12 => ?_) (fun h12 => ?_)
  · refine evc_g 10 ?_
    refine evc_s 18 (decide (lo ≥ 0)) (fun h11 => ?_) (fun h11 => ?_)
    · refine evc_g 11 ?_
      exact evc_t (Val.bool Bool.true)
    · refine evc_g 11 ?_
      exact evc_t (Val.bool Bool.false)
  · refine evc_g 21 ?_
    exact evc_t (Val.bool Bool.false)
theorem b116_7 : Go.V.Call E0 116 [.agg (n9 7 lo hi vk vn vs vl vq l ql f qf)] S (.tup [.agg [.int .i64 7, .int .i64 0, .int .i64 0, .int .i64 0, .int .u64 0, .str [], .sli [] 0 .nil, .sli (encZ l) l.length ql, .sli [] 0 .nil], .bool true]) S := by
  refine call_cfg (by kernel_rfl) ?_
  refine evc_g 97 ?_
  exact evc_t (Val.tup [Val.agg [Val.int IntKind.i64 7, Val.int IntKind.i64 0, Val.int IntKind.i64 0, Val.int IntKind.i64 0, Val.int IntKind.u64 0, Val.str [], Val.sli [] 0 Go.V.Q.nil, Val.sli (encZ l) l.length ql, Val.sli [] 0 Go.V.Q.nil], Val.bool Bool.true]) (hl := (by first | rfl | (simp [Val.low, Val.lows, low_encL, low_encI]; done) | (simp [Val.low, Val.lows, low_encL, low_encI, low_encZ, low_encFs, low_encNs, low_encN]; done)))
theorem b121_7 (sm : Bool) (h87 : Go.V.Call E0 87 [.agg [.int .i64 7, .int .i64 0, .int .i64 0, .int .i64 0, .int .u64 0, .str [], .sli [] 0 .nil, .sli (encZ l) l.length ql, .sli [] 0 .nil], .agg (n9 7 lo hi vk vn vs vl vq l ql f qf)] S (.bool sm) S) : Go.V.Call E0 121 [.agg (n9 7 lo hi vk vn vs vl vq l ql f qf)] S (.bool (true && sm)) S := by
  refine call_cfg (by kernel_rfl) ?_
  refine evc_g 98 ?_
  refine evc_c (h87) ?_
  refine evc_g 3 ?_
  exact evc_t (Val.bool sm)
theorem b117_7 : Go.V.Call E0 117 [.agg (n9 7 lo hi vk vn vs vl vq l ql f qf)] S (.bool (decide (lo ≤ hi) && decide (lo ≥ 0))) S := by
  refine call_cfg (by kernel_rfl) ?_
  refine evc_g 13 ?_
  refine evc_s 8 (decide (lo ≤ hi)) (fun h12 => ?_) (fun h12 => ?_)
  · refine evc_g 10 ?_
    refine evc_s 18 (decide (lo ≥ 0)) (fun h11 => ?_) (fun h11 => ?_)
    · refine evc_g 11 ?_
      exact evc_t (Val.bool Bool.true)
    · refine evc_g 11 ?_
      exact evc_t (Val.bool Bool.false)
  · refine evc_g 21 ?_
    exact evc_t (Val.bool Bool.false)
theorem b116_8 : Go.V.Call E0 116 [.agg (n9 8 lo hi vk vn vs vl vq l ql f qf)] S (.tup [.agg [.int .i64 8, .int .i64 0, .int .i64 0, .int .i64 0, .int .u64 0, .str [], .sli [] 0 .nil, .sli [] 0 .nil, .sli (encFs f) f.length qf], .bool ((l.length : Int) == 0)]) S := by
  refine call_cfg (by kernel_rfl) ?_
  refine evc_g 73 ?_
  exact evc_t (Val.tup [Val.agg [Val.int IntKind.i64 8, Val.int IntKind.i64 0, Val.int IntKind.i64 0, Val.int IntKind.i64 0, Val.int IntKind.u64 0, Val.str [], Val.sli [] 0 Go.V.Q.nil, Val.sli [] 0 Go.V.Q.nil, Val.sli (encFs f) f.length qf], Val.bool ((↑l.length : Int) == 0)]) (hl := (by first | rfl | (simp [Val.low, Val.lows, low_encL, low_encI]; done) | (simp [Val.low, Val.lows, low_encL, low_encI, low_encZ, low_encFs, low_encNs, low_encN]; done)))
theorem b121_8 (sm : Bool) (h87 : Go.V.Call E0 87 [.agg [.int .i64 8, .int .i64 0, .int .i64 0, .int .i64 0, .int .u64 0, .str [], .sli [] 0 .nil, .sli [] 0 .nil, .sli (encFs f) f.length qf], .agg (n9 8 lo hi vk vn vs vl vq l ql f qf)] S (.bool sm) S) : Go.V.Call E0 121 [.agg (n9 8 lo hi vk vn vs vl vq l ql f qf)] S (.bool (((l.length : Int) == 0) && sm)) S := by
  refine call_cfg (by kernel_rfl) ?_
  refine evc_g 104 ?_
  refine evc_s 112 ((↑l.length : Int) == 0) (fun h12 => ?_) (fun h12 => ?_)
  · refine evc_g 2 ?_
    refine evc_c (h87) ?_
    refine evc_g 3 ?_
    exact evc_t (Val.bool sm)
  · refine evc_g 6 ?_
    exact evc_t (Val.bool Bool.false)
theorem b117_8 : Go.V.Call E0 117 [.agg (n9 8 lo hi vk vn vs vl vq l ql f qf)] S (.bool (decide (lo ≤ hi) && decide (lo ≥ 0))) S := by
  refine call_cfg (by kernel_rfl) ?_
  refine evc_g 13 ?_
  refine evc_s 8 (decide (lo ≤ hi)) (fun h12 => ?_) (fun h12 => ?_)
  · refine evc_g 10 ?_
    refine evc_s 18 (decide (lo ≥ 0)) (fun h11 => ?_) (fun h11 => ?_)
    · refine evc_g 11 ?_
      exact evc_t (Val.bool Bool.true)
    · refine evc_g 11 ?_
      exact evc_t (Val.bool Bool.false)
  · refine evc_g 21 ?_
    exact evc_t (Val.bool Bool.false)
theorem b116_9 : Go.V.Call E0 116 [.agg (n9 9 lo hi vk vn vs vl vq l ql f qf)] S (.tup [.agg [.int .i64 9, .int .i64 lo, .int .i64 0, .int .i64 0, .int .u64 0, .str [], .sli [] 0 .nil, .sli (encZ l) l.length ql, .sli [] 0 .nil], .bool ((l.length : Int) == 1)]) S := by
  refine call_cfg (by kernel_rfl) ?_
  refine evc_g 107 ?_
  exact evc_t (Val.tup [Val.agg [Val.int IntKind.i64 9, Val.int IntKind.i64 lo, Val.int IntKind.i64 0, Val.int IntKind.i64 0, Val.int IntKind.u64 0, Val.str [], Val.sli [] 0 Go.V.Q.nil, Val.sli (encZ l) l.length ql, Val.sli [] 0 Go.V.Q.nil], Val.bool ((↑l.length : Int) == 1)]) (hl := (by first | rfl | (simp [Val.low, Val.lows, low_encL, low_encI]; done) | (simp [Val.low, Val.lows, low_encL, low_encI, low_encZ, low_encFs, low_encNs, low_encN]; done)))
theorem b121_9 (sm : Bool) (h87 : Go.V.Call E0 87 [.agg [.int .i64 9, .int .i64 lo, .int .i64 0, .int .i64 0, .int .u64 0, .str [], .sli [] 0 .nil, .sli (encZ l) l.length ql, .sli [] 0 .nil], .agg (n9 9 lo hi vk vn vs vl vq l ql f qf)] S (.bool sm) S) : Go.V.Call E0 121 [.agg (n9 9 lo hi vk vn vs vl vq l ql f qf)] S (.bool (((l.length : Int) == 1) && sm)) S := by
  refine call_cfg (by kernel_rfl) ?_
  refine evc_g 108 ?_
  refine evc_s 112 ((↑l.length : Int) == 1) (fun h12 => ?_) (fun h12 => ?_)
  · refine evc_g 2 ?_
    refine evc_c (h87) ?_
    refine evc_g 3 ?_
    exact evc_t (Val.bool sm)
  · refine evc_g 6 ?_
    exact evc_t (Val.bool Bool.false)
theorem b117_9 : Go.V.Call E0 117 [.agg (n9 9 lo hi vk vn vs vl vq l ql f qf)] S (.bool (decide (lo ≤ hi) && decide (lo ≥ 0) || decide (lo ≥ 0))) S := by
  refine call_cfg (by kernel_rfl) ?_
  refine evc_g 13 ?_
  refine evc_s 8 (decide (lo ≤ hi)) (fun h12 => ?_) (fun h12 => ?_)
  · refine evc_g 10 ?_
    refine evc_s 18 (decide (lo ≥ 0)) (fun h11 => ?_) (fun h11 => ?_)
    · refine evc_g 11 ?_
      exact evc_t (Val.bool Bool.true)
    · refine evc_g 11 ?_
      exact evc_t (Val.bool (decide (lo ≥ 0)))
  · refine evc_g 21 ?_
    exact evc_t (Val.bool (decide (lo ≥ 0)))
theorem b116_10 : Go.V.Call E0 116 [.agg (n9 10 lo hi vk vn vs vl vq l ql f qf)] S (.tup [.agg [.int .i64 10, .int .i64 0, .int .i64 0, .int .i64 0, .int .u64 0, .str [], .sli [] 0 .nil, .sli (encZ l) l.length ql, .sli [] 0 .nil], .bool (decide ((l.length : Int) > 0))]) S := by
  refine call_cfg (by kernel_rfl) ?_
  refine evc_g 100 ?_
  exact evc_t (Val.tup [Val.agg [Val.int IntKind.i64 10, Val.int IntKind.i64 0, Val.int IntKind.i64 0, Val.int IntKind.i64 0, Val.int IntKind.u64 0, Val.str [], Val.sli [] 0 Go.V.Q.nil, Val.sli (encZ l) l.length ql, Val.sli [] 0 Go.V.Q.nil], Val.bool (decide ((↑l.length : Int) > 0))]) (hl := (by first | rfl | (simp [Val.low, Val.lows, low_encL, low_encI]; done) | (simp [Val.low, Val.lows, low_encL, low_encI, low_encZ, low_encFs, low_encNs, low_encN]; done)))
theorem b121_10 (sm : Bool) (h87 : Go.V.Call E0 87 [.agg [.int .i64 10, .int .i64 0, .int .i64 0, .int .i64 0, .int .u64 0, .str [], .sli [] 0 .nil, .sli (encZ l) l.length ql, .sli [] 0 .nil], .agg (n9 10 lo hi vk vn vs vl vq l ql f qf)] S (.bool sm) S) : Go.V.Call E0 121 [.agg (n9 10 lo hi vk vn vs vl vq l ql f qf)] S (.bool ((decide ((l.length : Int) ≥ 1)) && sm)) S := by
  refine call_cfg (by kernel_rfl) ?_
  refine evc_g 106 ?_
  refine evc_s 112 (decide ((↑l.length : Int) ≥ 1)) (fun h12 => ?_) (fun h12 => ?_)
  · refine evc_g 2 ?_
    refine evc_c (h87) ?_
    refine evc_g 3 ?_
    exact evc_t (Val.bool sm)
  · refine evc_g 6 ?_
    exact evc_t (Val.bool Bool.false)
theorem b117_10 : Go.V.Call E0 117 [.agg (n9 10 lo hi vk vn vs vl vq l ql f qf)] S (.bool (decide (lo ≤ hi) && decide (lo ≥ 0))) S := by
  refine call_cfg (by kernel_rfl) ?_
  refine evc_g 13 ?_
  refine evc_s 8 (decide (lo ≤ hi)) (fun h12 => ?_) (fun h12 => ?_)
  · refine evc_g 10 ?_
    refine evc_s 18 (decide (lo ≥ 0)) (fun h11 => ?_) (fun h11 => ?_)
    · refine evc_g 11 ?_
      exact evc_t (Val.bool Bool.true)
    · refine evc_g 11 ?_
      exact evc_t (Val.bool Bool.false)
  · refine evc_g 21 ?_
    exact evc_t (Val.bool Bool.false)
end
end Go.V.W
