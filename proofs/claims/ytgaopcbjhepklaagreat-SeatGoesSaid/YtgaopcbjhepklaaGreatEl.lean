/- Elements of rows; made by gentab2.py. -/
import Derived.Test.YtgaopcbjhepklaaGreatTab
import Derived.Test.YtgaopcbjhepklaaGreatYb
namespace Go.Proofs.YtgaopcbjhepklaaGreat
set_option maxRecDepth 100000
theorem el22 : ElOk Tryz.prog 22 63 3 ([.int .i64 0, .int .i64 0, .slice none 0 0] : List Value) := ⟨by kernel_rfl, by kernel_rfl, ⟨.agg #[.int .i64 0, .int .i64 0, .slice none 0 0], by kernel_rfl, rfl⟩, by kernel_rfl, rfl, by decide, rfl⟩
theorem el23 : ElOk Tryz.prog 23 3 1 ([.int .i64 0] : List Value) := ⟨by kernel_rfl, by kernel_rfl, ⟨.int .i64 0, by kernel_rfl, rfl⟩, by kernel_rfl, rfl, by decide, rfl⟩
theorem el30 : ElOk Tryz.prog 30 79 2 ([.int .i64 0, .bool false] : List Value) := ⟨by kernel_rfl, by kernel_rfl, ⟨.agg #[.int .i64 0, .bool false], by kernel_rfl, rfl⟩, by kernel_rfl, rfl, by decide, rfl⟩
theorem el31 : ElOk Tryz.prog 31 88 2 ([.int .i64 0, .int .i64 0] : List Value) := ⟨by kernel_rfl, by kernel_rfl, ⟨.agg #[.int .i64 0, .int .i64 0], by kernel_rfl, rfl⟩, by kernel_rfl, rfl, by decide, rfl⟩
theorem el34 : ElOk Tryz.prog 34 67 2 ([.int .i64 0, .int .i64 0] : List Value) := ⟨by kernel_rfl, by kernel_rfl, ⟨.agg #[.int .i64 0, .int .i64 0], by kernel_rfl, rfl⟩, by kernel_rfl, rfl, by decide, rfl⟩
theorem el39 : ElOk Tryz.prog 39 36 10 ([.int .i64 0, .slice none 0 0, .int .i64 0, .int .i64 0, .slice none 0 0, .slice none 0 0, .slice none 0 0, .int .i64 0, .int .i64 0, .bool false] : List Value) := ⟨by kernel_rfl, by kernel_rfl, ⟨.agg #[.int .i64 0, .slice none 0 0, .int .i64 0, .int .i64 0, .slice none 0 0, .slice none 0 0, .slice none 0 0, .int .i64 0, .int .i64 0, .bool false], by kernel_rfl, rfl⟩, by kernel_rfl, rfl, by decide, rfl⟩
theorem el60 : ElOk Tryz.prog 60 68 1 ([.int .u32 0] : List Value) := ⟨by kernel_rfl, by kernel_rfl, ⟨.int .u32 0, by kernel_rfl, rfl⟩, by kernel_rfl, rfl, by decide, rfl⟩
theorem el61 : ElOk Tryz.prog 61 65 4 ([.int .i64 0, .int .i64 0, .int .i64 0, .int .i64 0] : List Value) := ⟨by kernel_rfl, by kernel_rfl, ⟨.agg #[.int .i64 0, .int .i64 0, .int .i64 0, .int .i64 0], by kernel_rfl, rfl⟩, by kernel_rfl, rfl, by decide, rfl⟩
theorem el238 : ElOk Tryz.prog 238 226 2 ([.int .i64 0, .int .i64 0] : List Value) := ⟨by kernel_rfl, by kernel_rfl, ⟨.agg #[.int .i64 0, .int .i64 0], by kernel_rfl, rfl⟩, by kernel_rfl, rfl, by decide, rfl⟩
end Go.Proofs.YtgaopcbjhepklaaGreat
