/- The walk of layer 30's example. -/
import Derived.Test.YtanflcccjjbkgaaDoorMeF
namespace Go.Proofs.YtanflcccjjbkgaaDoor
open Go.RowKit

theorem ex_shape : shapeB (plainOb 3 ⟨#[114]⟩ 0 0 ⟨#[]⟩ 0 0 ⟨#[49, 48, 46, 48, 46, 48, 46, 48, 47, 49, 54]⟩ ⟨#[]⟩ 8 ⟨#[97, 112, 112, 32, 105, 110, 32, 40, 119, 101, 98, 41]⟩ ⟨#[]⟩ ⟨#[]⟩) [] [] [] [] [] = true := by decide +kernel
theorem ex_text : (⟨(Lib.join ((plainParts 3 ⟨#[114]⟩ 0 0 ⟨#[]⟩ 0 0 ⟨#[49, 48, 46, 48, 46, 48, 46, 48, 47, 49, 54]⟩ ⟨#[]⟩ 8 ⟨#[97, 112, 112, 32, 105, 110, 32, 40, 119, 101, 98, 41]⟩ ⟨#[]⟩ ⟨#[]⟩).map (·.data.toList)) [32]).toArray⟩ ++ ⟨#[10]⟩ : ByteArray) = ⟨#[114, 97, 110, 103, 101, 32, 114, 32, 118, 52, 61, 49, 48, 46, 48, 46, 48, 46, 48, 47, 49, 54, 32, 98, 105, 116, 115, 61, 56, 32, 115, 101, 108, 101, 99, 116, 111, 114, 61, 97, 112, 112, 92, 115, 105, 110, 92, 115, 40, 119, 101, 98, 41, 10]⟩ := by decide +kernel
theorem ex_len : (Lib.join ((plainParts 3 ⟨#[114]⟩ 0 0 ⟨#[]⟩ 0 0 ⟨#[49, 48, 46, 48, 46, 48, 46, 48, 47, 49, 54]⟩ ⟨#[]⟩ 8 ⟨#[97, 112, 112, 32, 105, 110, 32, 40, 119, 101, 98, 41]⟩ ⟨#[]⟩ ⟨#[]⟩).map (·.data.toList)) [32]).length ≤ 1000000 := by decide +kernel
theorem ex_print (w : World) (hW : Words w) :
    Calls Tryd.prog 22 #[.agg #[.int .i64 3, .string ⟨#[114]⟩, .int .i64 0, .int .i64 0, .bool false, .slice none 0 0, .slice none 0 0, .slice none 0 0, .string ⟨#[]⟩, .int .i64 0, .int .i64 0, .slice none 0 0, .slice none 0 0, .string ⟨#[49, 48, 46, 48, 46, 48, 46, 48, 47, 49, 54]⟩, .string ⟨#[]⟩, .int .i64 8, .string ⟨#[97, 112, 112, 32, 105, 110, 32, 40, 119, 101, 98, 41]⟩, .string ⟨#[]⟩, .string ⟨#[]⟩]] w fun e w' =>
      e = .returned (.tuple #[.string ⟨#[114, 97, 110, 103, 101, 32, 114, 32, 118, 52, 61, 49, 48, 46, 48, 46, 48, 46, 48, 47, 49, 54, 32, 98, 105, 116, 115, 61, 56, 32, 115, 101, 108, 101, 99, 116, 111, 114, 61, 97, 112, 112, 92, 115, 105, 110, 92, 115, 40, 119, 101, 98, 41, 10]⟩, .int .i64 0]) ∧ Below w.heap.size w w' := by
  have := print_plain 3 ⟨#[114]⟩ 0 0 ⟨#[]⟩ 0 0 ⟨#[49, 48, 46, 48, 46, 48, 46, 48, 47, 49, 54]⟩ ⟨#[]⟩ 8 ⟨#[97, 112, 112, 32, 105, 110, 32, 40, 119, 101, 98, 41]⟩ ⟨#[]⟩ ⟨#[]⟩ w hW (by decide) (by decide) (by decide) (by decide) (by decide) (by decide) (by decide) (by decide) (by decide) (by decide) (by decide) (by decide) (by decide) (by decide) ex_shape ex_len
  rw [ex_text] at this
  exact this
set_option maxRecDepth 100000 in
theorem awake30_c (w : World) (hW : Words w) :
    Calls Tryd.prog 6 #[] w fun e w' => e = .returned (.bool true) ∧ Below w.heap.size w w' := by
  have HP := Lib.hid ex_print
  go_enter Tryd.func6, Tryd.ntmps6
  go_wp2_with fail
  refine (HP.out _ hW).mono ?_
  rintro e w1 ⟨rfl, hb1⟩
  go_wp2_with fail
  go_ret
  exact ⟨rfl, hb1⟩
end Go.Proofs.YtanflcccjjbkgaaDoor
