/- Closed facts on the program's types, each reckoned by the kernel. Written by a program of the session's. -/
import Derived.Test.YteklhgmoniaieaaProg
import Derived.Test.YteklhgmoniaieaaAhEff
set_option linter.unusedVariables false
namespace Go.Proofs.Yteklhgmoniaieaa.Ty
open Go.Proofs.YteklhgmoniaieaaAh
@[simp] theorem tsz_2 : tsz Try.prog 2 = some 1 := by kernel_rfl
@[simp] theorem tby_2 : tby Try.prog 2 = some 8 := by kernel_rfl
@[simp] theorem tagg_2 : tagg Try.prog 2 = some false := by kernel_rfl
@[simp] theorem zc_2 : zc Try.prog 2 = some [.int .i64 0] := by kernel_rfl
@[simp] theorem isStr_2 : isStr Try.prog 2 = some false := by kernel_rfl
@[simp] theorem isBool_2 : isBool Try.prog 2 = some false := by kernel_rfl
@[simp] theorem isIface_2 : isIface Try.prog 2 = some false := by kernel_rfl
@[simp] theorem intk_2 : intk Try.prog 2 = some .i64 := by kernel_rfl
@[simp] theorem uls_2 : (Try.prog.underlying 2).isSome = true := by kernel_rfl
@[simp] theorem ul_2 : Try.prog.underlying 2 = some (.int .i64) := by kernel_rfl
@[simp] theorem tsz_3 : tsz Try.prog 3 = some 1 := by kernel_rfl
@[simp] theorem tby_3 : tby Try.prog 3 = some 8 := by kernel_rfl
@[simp] theorem tagg_3 : tagg Try.prog 3 = some false := by kernel_rfl
@[simp] theorem zc_3 : zc Try.prog 3 = some [.int .i64 0] := by kernel_rfl
@[simp] theorem isStr_3 : isStr Try.prog 3 = some false := by kernel_rfl
@[simp] theorem isBool_3 : isBool Try.prog 3 = some false := by kernel_rfl
@[simp] theorem isIface_3 : isIface Try.prog 3 = some false := by kernel_rfl
@[simp] theorem intk_3 : intk Try.prog 3 = some .i64 := by kernel_rfl
@[simp] theorem uls_3 : (Try.prog.underlying 3).isSome = true := by kernel_rfl
@[simp] theorem ul_3 : Try.prog.underlying 3 = some (.int .i64) := by kernel_rfl
@[simp] theorem tsz_4 : tsz Try.prog 4 = some 1 := by kernel_rfl
@[simp] theorem tby_4 : tby Try.prog 4 = some 1 := by kernel_rfl
@[simp] theorem tagg_4 : tagg Try.prog 4 = some false := by kernel_rfl
@[simp] theorem zc_4 : zc Try.prog 4 = some [.bool false] := by kernel_rfl
@[simp] theorem isStr_4 : isStr Try.prog 4 = some false := by kernel_rfl
@[simp] theorem isBool_4 : isBool Try.prog 4 = some true := by kernel_rfl
@[simp] theorem isIface_4 : isIface Try.prog 4 = some false := by kernel_rfl
@[simp] theorem uls_4 : (Try.prog.underlying 4).isSome = true := by kernel_rfl
@[simp] theorem ul_4 : Try.prog.underlying 4 = some .bool := by kernel_rfl
@[simp] theorem tsz_5 : tsz Try.prog 5 = some 1 := by kernel_rfl
@[simp] theorem tby_5 : tby Try.prog 5 = some 1 := by kernel_rfl
@[simp] theorem tagg_5 : tagg Try.prog 5 = some false := by kernel_rfl
@[simp] theorem zc_5 : zc Try.prog 5 = some [.int .u8 0] := by kernel_rfl
@[simp] theorem isStr_5 : isStr Try.prog 5 = some false := by kernel_rfl
@[simp] theorem isBool_5 : isBool Try.prog 5 = some false := by kernel_rfl
@[simp] theorem isIface_5 : isIface Try.prog 5 = some false := by kernel_rfl
@[simp] theorem intk_5 : intk Try.prog 5 = some .u8 := by kernel_rfl
@[simp] theorem uls_5 : (Try.prog.underlying 5).isSome = true := by kernel_rfl
@[simp] theorem ul_5 : Try.prog.underlying 5 = some (.int .u8) := by kernel_rfl
@[simp] theorem tsz_6 : tsz Try.prog 6 = some 1 := by kernel_rfl
@[simp] theorem tby_6 : tby Try.prog 6 = some 1 := by kernel_rfl
@[simp] theorem tagg_6 : tagg Try.prog 6 = some false := by kernel_rfl
@[simp] theorem zc_6 : zc Try.prog 6 = some [.int .u8 0] := by kernel_rfl
@[simp] theorem isStr_6 : isStr Try.prog 6 = some false := by kernel_rfl
@[simp] theorem isBool_6 : isBool Try.prog 6 = some false := by kernel_rfl
@[simp] theorem isIface_6 : isIface Try.prog 6 = some false := by kernel_rfl
@[simp] theorem intk_6 : intk Try.prog 6 = some .u8 := by kernel_rfl
@[simp] theorem uls_6 : (Try.prog.underlying 6).isSome = true := by kernel_rfl
@[simp] theorem ul_6 : Try.prog.underlying 6 = some (.int .u8) := by kernel_rfl
@[simp] theorem tsz_7 : tsz Try.prog 7 = some 4 := by kernel_rfl
@[simp] theorem tby_7 : tby Try.prog 7 = some 24 := by kernel_rfl
@[simp] theorem tagg_7 : tagg Try.prog 7 = some true := by kernel_rfl
@[simp] theorem zc_7 : zc Try.prog 7 = some [.int .i64 0, .int .i64 0, .bool false, .int .u8 0] := by kernel_rfl
@[simp] theorem isStr_7 : isStr Try.prog 7 = some false := by kernel_rfl
@[simp] theorem isBool_7 : isBool Try.prog 7 = some false := by kernel_rfl
@[simp] theorem isIface_7 : isIface Try.prog 7 = some false := by kernel_rfl
@[simp] theorem uls_7 : (Try.prog.underlying 7).isSome = true := by kernel_rfl
@[simp] theorem foff0_7 : foff Try.prog 7 0 = some 0 := by kernel_rfl
@[simp] theorem foff1_7 : foff Try.prog 7 1 = some 1 := by kernel_rfl
@[simp] theorem foff2_7 : foff Try.prog 7 2 = some 2 := by kernel_rfl
@[simp] theorem foff3_7 : foff Try.prog 7 3 = some 3 := by kernel_rfl
@[simp] theorem flds_7 : flds Try.prog 7 = some [(0, 1), (1, 1), (2, 1), (3, 1)] := by kernel_rfl
@[simp] theorem tsz_8 : tsz Try.prog 8 = some 4 := by kernel_rfl
@[simp] theorem tby_8 : tby Try.prog 8 = some 24 := by kernel_rfl
@[simp] theorem tagg_8 : tagg Try.prog 8 = some true := by kernel_rfl
@[simp] theorem zc_8 : zc Try.prog 8 = some [.int .i64 0, .int .i64 0, .bool false, .int .u8 0] := by kernel_rfl
@[simp] theorem isStr_8 : isStr Try.prog 8 = some false := by kernel_rfl
@[simp] theorem isBool_8 : isBool Try.prog 8 = some false := by kernel_rfl
@[simp] theorem isIface_8 : isIface Try.prog 8 = some false := by kernel_rfl
@[simp] theorem uls_8 : (Try.prog.underlying 8).isSome = true := by kernel_rfl
@[simp] theorem foff0_8 : foff Try.prog 8 0 = some 0 := by kernel_rfl
@[simp] theorem foff1_8 : foff Try.prog 8 1 = some 1 := by kernel_rfl
@[simp] theorem foff2_8 : foff Try.prog 8 2 = some 2 := by kernel_rfl
@[simp] theorem foff3_8 : foff Try.prog 8 3 = some 3 := by kernel_rfl
@[simp] theorem flds_8 : flds Try.prog 8 = some [(0, 1), (1, 1), (2, 1), (3, 1)] := by kernel_rfl
@[simp] theorem tsz_9 : tsz Try.prog 9 = some 1 := by kernel_rfl
@[simp] theorem tby_9 : tby Try.prog 9 = some 16 := by kernel_rfl
@[simp] theorem tagg_9 : tagg Try.prog 9 = some false := by kernel_rfl
@[simp] theorem zc_9 : zc Try.prog 9 = some [.string ⟨#[]⟩] := by kernel_rfl
@[simp] theorem isStr_9 : isStr Try.prog 9 = some true := by kernel_rfl
@[simp] theorem lenT_9 : lenT Try.prog 9 = some true := by kernel_rfl
@[simp] theorem isBool_9 : isBool Try.prog 9 = some false := by kernel_rfl
@[simp] theorem isIface_9 : isIface Try.prog 9 = some false := by kernel_rfl
@[simp] theorem uls_9 : (Try.prog.underlying 9).isSome = true := by kernel_rfl
@[simp] theorem ul_9 : Try.prog.underlying 9 = some .string := by kernel_rfl
@[simp] theorem tsz_10 : tsz Try.prog 10 = some 1 := by kernel_rfl
@[simp] theorem tby_10 : tby Try.prog 10 = some 16 := by kernel_rfl
@[simp] theorem tagg_10 : tagg Try.prog 10 = some false := by kernel_rfl
@[simp] theorem zc_10 : zc Try.prog 10 = some [.string ⟨#[]⟩] := by kernel_rfl
@[simp] theorem isStr_10 : isStr Try.prog 10 = some true := by kernel_rfl
@[simp] theorem lenT_10 : lenT Try.prog 10 = some true := by kernel_rfl
@[simp] theorem isBool_10 : isBool Try.prog 10 = some false := by kernel_rfl
@[simp] theorem isIface_10 : isIface Try.prog 10 = some false := by kernel_rfl
@[simp] theorem uls_10 : (Try.prog.underlying 10).isSome = true := by kernel_rfl
@[simp] theorem ul_10 : Try.prog.underlying 10 = some .string := by kernel_rfl
@[simp] theorem tsz_11 : tsz Try.prog 11 = some 1 := by kernel_rfl
@[simp] theorem tby_11 : tby Try.prog 11 = some 16 := by kernel_rfl
@[simp] theorem tagg_11 : tagg Try.prog 11 = some false := by kernel_rfl
@[simp] theorem zc_11 : zc Try.prog 11 = some [.string ⟨#[]⟩] := by kernel_rfl
@[simp] theorem isStr_11 : isStr Try.prog 11 = some true := by kernel_rfl
@[simp] theorem lenT_11 : lenT Try.prog 11 = some true := by kernel_rfl
@[simp] theorem isBool_11 : isBool Try.prog 11 = some false := by kernel_rfl
@[simp] theorem isIface_11 : isIface Try.prog 11 = some false := by kernel_rfl
@[simp] theorem uls_11 : (Try.prog.underlying 11).isSome = true := by kernel_rfl
@[simp] theorem ul_11 : Try.prog.underlying 11 = some .string := by kernel_rfl
@[simp] theorem tsz_12 : tsz Try.prog 12 = some 1 := by kernel_rfl
@[simp] theorem tby_12 : tby Try.prog 12 = some 8 := by kernel_rfl
@[simp] theorem tagg_12 : tagg Try.prog 12 = some false := by kernel_rfl
@[simp] theorem zc_12 : zc Try.prog 12 = some [.int .u64 0] := by kernel_rfl
@[simp] theorem isStr_12 : isStr Try.prog 12 = some false := by kernel_rfl
@[simp] theorem isBool_12 : isBool Try.prog 12 = some false := by kernel_rfl
@[simp] theorem isIface_12 : isIface Try.prog 12 = some false := by kernel_rfl
@[simp] theorem intk_12 : intk Try.prog 12 = some .u64 := by kernel_rfl
@[simp] theorem uls_12 : (Try.prog.underlying 12).isSome = true := by kernel_rfl
@[simp] theorem ul_12 : Try.prog.underlying 12 = some (.int .u64) := by kernel_rfl
@[simp] theorem tsz_13 : tsz Try.prog 13 = some 2 := by kernel_rfl
@[simp] theorem tby_13 : tby Try.prog 13 = some 24 := by kernel_rfl
@[simp] theorem tagg_13 : tagg Try.prog 13 = some true := by kernel_rfl
@[simp] theorem zc_13 : zc Try.prog 13 = some [.string ⟨#[]⟩, .int .u64 0] := by kernel_rfl
@[simp] theorem isStr_13 : isStr Try.prog 13 = some false := by kernel_rfl
@[simp] theorem isBool_13 : isBool Try.prog 13 = some false := by kernel_rfl
@[simp] theorem isIface_13 : isIface Try.prog 13 = some false := by kernel_rfl
@[simp] theorem uls_13 : (Try.prog.underlying 13).isSome = true := by kernel_rfl
@[simp] theorem foff0_13 : foff Try.prog 13 0 = some 0 := by kernel_rfl
@[simp] theorem foff1_13 : foff Try.prog 13 1 = some 1 := by kernel_rfl
@[simp] theorem flds_13 : flds Try.prog 13 = some [(0, 1), (1, 1)] := by kernel_rfl
@[simp] theorem tsz_14 : tsz Try.prog 14 = some 2 := by kernel_rfl
@[simp] theorem tby_14 : tby Try.prog 14 = some 24 := by kernel_rfl
@[simp] theorem tagg_14 : tagg Try.prog 14 = some true := by kernel_rfl
@[simp] theorem zc_14 : zc Try.prog 14 = some [.string ⟨#[]⟩, .int .u64 0] := by kernel_rfl
@[simp] theorem isStr_14 : isStr Try.prog 14 = some false := by kernel_rfl
@[simp] theorem isBool_14 : isBool Try.prog 14 = some false := by kernel_rfl
@[simp] theorem isIface_14 : isIface Try.prog 14 = some false := by kernel_rfl
@[simp] theorem uls_14 : (Try.prog.underlying 14).isSome = true := by kernel_rfl
@[simp] theorem foff0_14 : foff Try.prog 14 0 = some 0 := by kernel_rfl
@[simp] theorem foff1_14 : foff Try.prog 14 1 = some 1 := by kernel_rfl
@[simp] theorem flds_14 : flds Try.prog 14 = some [(0, 1), (1, 1)] := by kernel_rfl
@[simp] theorem tsz_15 : tsz Try.prog 15 = some 1 := by kernel_rfl
@[simp] theorem tby_15 : tby Try.prog 15 = some 8 := by kernel_rfl
@[simp] theorem tagg_15 : tagg Try.prog 15 = some false := by kernel_rfl
@[simp] theorem zc_15 : zc Try.prog 15 = some [.pointer none] := by kernel_rfl
@[simp] theorem isStr_15 : isStr Try.prog 15 = some false := by kernel_rfl
@[simp] theorem isBool_15 : isBool Try.prog 15 = some false := by kernel_rfl
@[simp] theorem isIface_15 : isIface Try.prog 15 = some false := by kernel_rfl
@[simp] theorem uls_15 : (Try.prog.underlying 15).isSome = true := by kernel_rfl
@[simp] theorem tsz_16 : tsz Try.prog 16 = some 1 := by kernel_rfl
@[simp] theorem tby_16 : tby Try.prog 16 = some 8 := by kernel_rfl
@[simp] theorem tagg_16 : tagg Try.prog 16 = some false := by kernel_rfl
@[simp] theorem zc_16 : zc Try.prog 16 = some [.pointer none] := by kernel_rfl
@[simp] theorem isStr_16 : isStr Try.prog 16 = some false := by kernel_rfl
@[simp] theorem isBool_16 : isBool Try.prog 16 = some false := by kernel_rfl
@[simp] theorem isIface_16 : isIface Try.prog 16 = some false := by kernel_rfl
@[simp] theorem uls_16 : (Try.prog.underlying 16).isSome = true := by kernel_rfl
@[simp] theorem tsz_17 : tsz Try.prog 17 = some 1 := by kernel_rfl
@[simp] theorem tby_17 : tby Try.prog 17 = some 8 := by kernel_rfl
@[simp] theorem tagg_17 : tagg Try.prog 17 = some false := by kernel_rfl
@[simp] theorem zc_17 : zc Try.prog 17 = some [.pointer none] := by kernel_rfl
@[simp] theorem isStr_17 : isStr Try.prog 17 = some false := by kernel_rfl
@[simp] theorem isBool_17 : isBool Try.prog 17 = some false := by kernel_rfl
@[simp] theorem isIface_17 : isIface Try.prog 17 = some false := by kernel_rfl
@[simp] theorem uls_17 : (Try.prog.underlying 17).isSome = true := by kernel_rfl
@[simp] theorem tsz_18 : tsz Try.prog 18 = some 1 := by kernel_rfl
@[simp] theorem tby_18 : tby Try.prog 18 = some 8 := by kernel_rfl
@[simp] theorem tagg_18 : tagg Try.prog 18 = some true := by kernel_rfl
@[simp] theorem zc_18 : zc Try.prog 18 = some [.pointer none] := by kernel_rfl
@[simp] theorem isStr_18 : isStr Try.prog 18 = some false := by kernel_rfl
@[simp] theorem isBool_18 : isBool Try.prog 18 = some false := by kernel_rfl
@[simp] theorem isIface_18 : isIface Try.prog 18 = some false := by kernel_rfl
@[simp] theorem uls_18 : (Try.prog.underlying 18).isSome = true := by kernel_rfl
@[simp] theorem foff0_18 : foff Try.prog 18 0 = some 0 := by kernel_rfl
@[simp] theorem flds_18 : flds Try.prog 18 = some [(0, 1)] := by kernel_rfl
@[simp] theorem tsz_19 : tsz Try.prog 19 = some 1 := by kernel_rfl
@[simp] theorem tby_19 : tby Try.prog 19 = some 8 := by kernel_rfl
@[simp] theorem tagg_19 : tagg Try.prog 19 = some true := by kernel_rfl
@[simp] theorem zc_19 : zc Try.prog 19 = some [.pointer none] := by kernel_rfl
@[simp] theorem isStr_19 : isStr Try.prog 19 = some false := by kernel_rfl
@[simp] theorem isBool_19 : isBool Try.prog 19 = some false := by kernel_rfl
@[simp] theorem isIface_19 : isIface Try.prog 19 = some false := by kernel_rfl
@[simp] theorem uls_19 : (Try.prog.underlying 19).isSome = true := by kernel_rfl
@[simp] theorem foff0_19 : foff Try.prog 19 0 = some 0 := by kernel_rfl
@[simp] theorem flds_19 : flds Try.prog 19 = some [(0, 1)] := by kernel_rfl
@[simp] theorem tsz_20 : tsz Try.prog 20 = some 1 := by kernel_rfl
@[simp] theorem tby_20 : tby Try.prog 20 = some 16 := by kernel_rfl
@[simp] theorem tagg_20 : tagg Try.prog 20 = some false := by kernel_rfl
@[simp] theorem zc_20 : zc Try.prog 20 = some [.nilIface] := by kernel_rfl
@[simp] theorem isStr_20 : isStr Try.prog 20 = some false := by kernel_rfl
@[simp] theorem isBool_20 : isBool Try.prog 20 = some false := by kernel_rfl
@[simp] theorem isIface_20 : isIface Try.prog 20 = some true := by kernel_rfl
@[simp] theorem uls_20 : (Try.prog.underlying 20).isSome = true := by kernel_rfl
@[simp] theorem tsz_21 : tsz Try.prog 21 = some 1 := by kernel_rfl
@[simp] theorem tby_21 : tby Try.prog 21 = some 4 := by kernel_rfl
@[simp] theorem tagg_21 : tagg Try.prog 21 = some false := by kernel_rfl
@[simp] theorem zc_21 : zc Try.prog 21 = some [.int .i32 0] := by kernel_rfl
@[simp] theorem isStr_21 : isStr Try.prog 21 = some false := by kernel_rfl
@[simp] theorem isBool_21 : isBool Try.prog 21 = some false := by kernel_rfl
@[simp] theorem isIface_21 : isIface Try.prog 21 = some false := by kernel_rfl
@[simp] theorem intk_21 : intk Try.prog 21 = some .i32 := by kernel_rfl
@[simp] theorem uls_21 : (Try.prog.underlying 21).isSome = true := by kernel_rfl
@[simp] theorem ul_21 : Try.prog.underlying 21 = some (.int .i32) := by kernel_rfl
@[simp] theorem tsz_22 : tsz Try.prog 22 = some 1 := by kernel_rfl
@[simp] theorem tby_22 : tby Try.prog 22 = some 24 := by kernel_rfl
@[simp] theorem tagg_22 : tagg Try.prog 22 = some false := by kernel_rfl
@[simp] theorem zc_22 : zc Try.prog 22 = some [.slice none 0 0] := by kernel_rfl
@[simp] theorem isStr_22 : isStr Try.prog 22 = some false := by kernel_rfl
@[simp] theorem lenT_22 : lenT Try.prog 22 = some false := by kernel_rfl
@[simp] theorem isBool_22 : isBool Try.prog 22 = some false := by kernel_rfl
@[simp] theorem isIface_22 : isIface Try.prog 22 = some false := by kernel_rfl
@[simp] theorem elm_22 : elm Try.prog 22 = some 41 := by kernel_rfl
@[simp] theorem uls_22 : (Try.prog.underlying 22).isSome = true := by kernel_rfl
@[simp] theorem ul_22 : Try.prog.underlying 22 = some (.slice 41) := by kernel_rfl
@[simp] theorem tsz_23 : tsz Try.prog 23 = some 3 := by kernel_rfl
@[simp] theorem tby_23 : tby Try.prog 23 = some 40 := by kernel_rfl
@[simp] theorem tagg_23 : tagg Try.prog 23 = some true := by kernel_rfl
@[simp] theorem zc_23 : zc Try.prog 23 = some [.int .i64 0, .int .i64 0, .slice none 0 0] := by kernel_rfl
@[simp] theorem isStr_23 : isStr Try.prog 23 = some false := by kernel_rfl
@[simp] theorem isBool_23 : isBool Try.prog 23 = some false := by kernel_rfl
@[simp] theorem isIface_23 : isIface Try.prog 23 = some false := by kernel_rfl
@[simp] theorem uls_23 : (Try.prog.underlying 23).isSome = true := by kernel_rfl
@[simp] theorem foff0_23 : foff Try.prog 23 0 = some 0 := by kernel_rfl
@[simp] theorem foff1_23 : foff Try.prog 23 1 = some 1 := by kernel_rfl
@[simp] theorem foff2_23 : foff Try.prog 23 2 = some 2 := by kernel_rfl
@[simp] theorem flds_23 : flds Try.prog 23 = some [(0, 1), (1, 1), (2, 1)] := by kernel_rfl
@[simp] theorem tsz_24 : tsz Try.prog 24 = some 3 := by kernel_rfl
@[simp] theorem tby_24 : tby Try.prog 24 = some 40 := by kernel_rfl
@[simp] theorem tagg_24 : tagg Try.prog 24 = some true := by kernel_rfl
@[simp] theorem zc_24 : zc Try.prog 24 = some [.int .i64 0, .int .i64 0, .slice none 0 0] := by kernel_rfl
@[simp] theorem isStr_24 : isStr Try.prog 24 = some false := by kernel_rfl
@[simp] theorem isBool_24 : isBool Try.prog 24 = some false := by kernel_rfl
@[simp] theorem isIface_24 : isIface Try.prog 24 = some false := by kernel_rfl
@[simp] theorem uls_24 : (Try.prog.underlying 24).isSome = true := by kernel_rfl
@[simp] theorem foff0_24 : foff Try.prog 24 0 = some 0 := by kernel_rfl
@[simp] theorem foff1_24 : foff Try.prog 24 1 = some 1 := by kernel_rfl
@[simp] theorem foff2_24 : foff Try.prog 24 2 = some 2 := by kernel_rfl
@[simp] theorem flds_24 : flds Try.prog 24 = some [(0, 1), (1, 1), (2, 1)] := by kernel_rfl
@[simp] theorem tsz_28 : tsz Try.prog 28 = some 1 := by kernel_rfl
@[simp] theorem tby_28 : tby Try.prog 28 = some 24 := by kernel_rfl
@[simp] theorem tagg_28 : tagg Try.prog 28 = some false := by kernel_rfl
@[simp] theorem zc_28 : zc Try.prog 28 = some [.slice none 0 0] := by kernel_rfl
@[simp] theorem isStr_28 : isStr Try.prog 28 = some false := by kernel_rfl
@[simp] theorem lenT_28 : lenT Try.prog 28 = some false := by kernel_rfl
@[simp] theorem isBool_28 : isBool Try.prog 28 = some false := by kernel_rfl
@[simp] theorem isIface_28 : isIface Try.prog 28 = some false := by kernel_rfl
@[simp] theorem elm_28 : elm Try.prog 28 = some 63 := by kernel_rfl
@[simp] theorem uls_28 : (Try.prog.underlying 28).isSome = true := by kernel_rfl
@[simp] theorem ul_28 : Try.prog.underlying 28 = some (.slice 63) := by kernel_rfl
@[simp] theorem tsz_29 : tsz Try.prog 29 = some 4 := by kernel_rfl
@[simp] theorem tby_29 : tby Try.prog 29 = some 48 := by kernel_rfl
@[simp] theorem tagg_29 : tagg Try.prog 29 = some true := by kernel_rfl
@[simp] theorem zc_29 : zc Try.prog 29 = some [.int .i64 0, .int .i64 0, .int .i64 0, .slice none 0 0] := by kernel_rfl
@[simp] theorem isStr_29 : isStr Try.prog 29 = some false := by kernel_rfl
@[simp] theorem isBool_29 : isBool Try.prog 29 = some false := by kernel_rfl
@[simp] theorem isIface_29 : isIface Try.prog 29 = some false := by kernel_rfl
@[simp] theorem uls_29 : (Try.prog.underlying 29).isSome = true := by kernel_rfl
@[simp] theorem foff0_29 : foff Try.prog 29 0 = some 0 := by kernel_rfl
@[simp] theorem foff1_29 : foff Try.prog 29 1 = some 1 := by kernel_rfl
@[simp] theorem foff2_29 : foff Try.prog 29 2 = some 2 := by kernel_rfl
@[simp] theorem foff3_29 : foff Try.prog 29 3 = some 3 := by kernel_rfl
@[simp] theorem flds_29 : flds Try.prog 29 = some [(0, 1), (1, 1), (2, 1), (3, 1)] := by kernel_rfl
@[simp] theorem tsz_30 : tsz Try.prog 30 = some 4 := by kernel_rfl
@[simp] theorem tby_30 : tby Try.prog 30 = some 48 := by kernel_rfl
@[simp] theorem tagg_30 : tagg Try.prog 30 = some true := by kernel_rfl
@[simp] theorem zc_30 : zc Try.prog 30 = some [.int .i64 0, .int .i64 0, .int .i64 0, .slice none 0 0] := by kernel_rfl
@[simp] theorem isStr_30 : isStr Try.prog 30 = some false := by kernel_rfl
@[simp] theorem isBool_30 : isBool Try.prog 30 = some false := by kernel_rfl
@[simp] theorem isIface_30 : isIface Try.prog 30 = some false := by kernel_rfl
@[simp] theorem uls_30 : (Try.prog.underlying 30).isSome = true := by kernel_rfl
@[simp] theorem foff0_30 : foff Try.prog 30 0 = some 0 := by kernel_rfl
@[simp] theorem foff1_30 : foff Try.prog 30 1 = some 1 := by kernel_rfl
@[simp] theorem foff2_30 : foff Try.prog 30 2 = some 2 := by kernel_rfl
@[simp] theorem foff3_30 : foff Try.prog 30 3 = some 3 := by kernel_rfl
@[simp] theorem flds_30 : flds Try.prog 30 = some [(0, 1), (1, 1), (2, 1), (3, 1)] := by kernel_rfl
@[simp] theorem tsz_31 : tsz Try.prog 31 = some 1 := by kernel_rfl
@[simp] theorem tby_31 : tby Try.prog 31 = some 24 := by kernel_rfl
@[simp] theorem tagg_31 : tagg Try.prog 31 = some false := by kernel_rfl
@[simp] theorem zc_31 : zc Try.prog 31 = some [.slice none 0 0] := by kernel_rfl
@[simp] theorem isStr_31 : isStr Try.prog 31 = some false := by kernel_rfl
@[simp] theorem lenT_31 : lenT Try.prog 31 = some false := by kernel_rfl
@[simp] theorem isBool_31 : isBool Try.prog 31 = some false := by kernel_rfl
@[simp] theorem isIface_31 : isIface Try.prog 31 = some false := by kernel_rfl
@[simp] theorem elm_31 : elm Try.prog 31 = some 44 := by kernel_rfl
@[simp] theorem uls_31 : (Try.prog.underlying 31).isSome = true := by kernel_rfl
@[simp] theorem ul_31 : Try.prog.underlying 31 = some (.slice 44) := by kernel_rfl
@[simp] theorem tsz_32 : tsz Try.prog 32 = some 8 := by kernel_rfl
@[simp] theorem tby_32 : tby Try.prog 32 = some 112 := by kernel_rfl
@[simp] theorem tagg_32 : tagg Try.prog 32 = some true := by kernel_rfl
@[simp] theorem zc_32 : zc Try.prog 32 = some [.int .i64 0, .int .i64 0, .slice none 0 0, .int .i64 0, .int .i64 0, .int .i64 0, .slice none 0 0, .slice none 0 0] := by kernel_rfl
@[simp] theorem isStr_32 : isStr Try.prog 32 = some false := by kernel_rfl
@[simp] theorem isBool_32 : isBool Try.prog 32 = some false := by kernel_rfl
@[simp] theorem isIface_32 : isIface Try.prog 32 = some false := by kernel_rfl
@[simp] theorem uls_32 : (Try.prog.underlying 32).isSome = true := by kernel_rfl
@[simp] theorem foff0_32 : foff Try.prog 32 0 = some 0 := by kernel_rfl
@[simp] theorem foff1_32 : foff Try.prog 32 1 = some 3 := by kernel_rfl
@[simp] theorem foff2_32 : foff Try.prog 32 2 = some 7 := by kernel_rfl
@[simp] theorem flds_32 : flds Try.prog 32 = some [(0, 3), (3, 4), (7, 1)] := by kernel_rfl
@[simp] theorem tsz_33 : tsz Try.prog 33 = some 8 := by kernel_rfl
@[simp] theorem tby_33 : tby Try.prog 33 = some 112 := by kernel_rfl
@[simp] theorem tagg_33 : tagg Try.prog 33 = some true := by kernel_rfl
@[simp] theorem zc_33 : zc Try.prog 33 = some [.int .i64 0, .int .i64 0, .slice none 0 0, .int .i64 0, .int .i64 0, .int .i64 0, .slice none 0 0, .slice none 0 0] := by kernel_rfl
@[simp] theorem isStr_33 : isStr Try.prog 33 = some false := by kernel_rfl
@[simp] theorem isBool_33 : isBool Try.prog 33 = some false := by kernel_rfl
@[simp] theorem isIface_33 : isIface Try.prog 33 = some false := by kernel_rfl
@[simp] theorem uls_33 : (Try.prog.underlying 33).isSome = true := by kernel_rfl
@[simp] theorem foff0_33 : foff Try.prog 33 0 = some 0 := by kernel_rfl
@[simp] theorem foff1_33 : foff Try.prog 33 1 = some 3 := by kernel_rfl
@[simp] theorem foff2_33 : foff Try.prog 33 2 = some 7 := by kernel_rfl
@[simp] theorem flds_33 : flds Try.prog 33 = some [(0, 3), (3, 4), (7, 1)] := by kernel_rfl
@[simp] theorem tsz_34 : tsz Try.prog 34 = some 1 := by kernel_rfl
@[simp] theorem tby_34 : tby Try.prog 34 = some 8 := by kernel_rfl
@[simp] theorem tagg_34 : tagg Try.prog 34 = some false := by kernel_rfl
@[simp] theorem zc_34 : zc Try.prog 34 = some [.int .i64 0] := by kernel_rfl
@[simp] theorem isStr_34 : isStr Try.prog 34 = some false := by kernel_rfl
@[simp] theorem isBool_34 : isBool Try.prog 34 = some false := by kernel_rfl
@[simp] theorem isIface_34 : isIface Try.prog 34 = some false := by kernel_rfl
@[simp] theorem intk_34 : intk Try.prog 34 = some .i64 := by kernel_rfl
@[simp] theorem uls_34 : (Try.prog.underlying 34).isSome = true := by kernel_rfl
@[simp] theorem ul_34 : Try.prog.underlying 34 = some (.int .i64) := by kernel_rfl
@[simp] theorem tsz_37 : tsz Try.prog 37 = some 1 := by kernel_rfl
@[simp] theorem tby_37 : tby Try.prog 37 = some 24 := by kernel_rfl
@[simp] theorem tagg_37 : tagg Try.prog 37 = some false := by kernel_rfl
@[simp] theorem zc_37 : zc Try.prog 37 = some [.slice none 0 0] := by kernel_rfl
@[simp] theorem isStr_37 : isStr Try.prog 37 = some false := by kernel_rfl
@[simp] theorem lenT_37 : lenT Try.prog 37 = some false := by kernel_rfl
@[simp] theorem isBool_37 : isBool Try.prog 37 = some false := by kernel_rfl
@[simp] theorem isIface_37 : isIface Try.prog 37 = some false := by kernel_rfl
@[simp] theorem elm_37 : elm Try.prog 37 = some 43 := by kernel_rfl
@[simp] theorem uls_37 : (Try.prog.underlying 37).isSome = true := by kernel_rfl
@[simp] theorem ul_37 : Try.prog.underlying 37 = some (.slice 43) := by kernel_rfl
@[simp] theorem tsz_38 : tsz Try.prog 38 = some 4 := by kernel_rfl
@[simp] theorem tby_38 : tby Try.prog 38 = some 32 := by kernel_rfl
@[simp] theorem tagg_38 : tagg Try.prog 38 = some true := by kernel_rfl
@[simp] theorem zc_38 : zc Try.prog 38 = some [.int .i64 0, .int .i64 0, .int .i64 0, .int .i64 0] := by kernel_rfl
@[simp] theorem isStr_38 : isStr Try.prog 38 = some false := by kernel_rfl
@[simp] theorem isBool_38 : isBool Try.prog 38 = some false := by kernel_rfl
@[simp] theorem isIface_38 : isIface Try.prog 38 = some false := by kernel_rfl
@[simp] theorem uls_38 : (Try.prog.underlying 38).isSome = true := by kernel_rfl
@[simp] theorem eqAt_38 : eqAt Try.prog 38 = some [0, 1, 2, 3] := by kernel_rfl
@[simp] theorem foff0_38 : foff Try.prog 38 0 = some 0 := by kernel_rfl
@[simp] theorem foff1_38 : foff Try.prog 38 1 = some 1 := by kernel_rfl
@[simp] theorem foff2_38 : foff Try.prog 38 2 = some 2 := by kernel_rfl
@[simp] theorem foff3_38 : foff Try.prog 38 3 = some 3 := by kernel_rfl
@[simp] theorem flds_38 : flds Try.prog 38 = some [(0, 1), (1, 1), (2, 1), (3, 1)] := by kernel_rfl
@[simp] theorem tsz_39 : tsz Try.prog 39 = some 4 := by kernel_rfl
@[simp] theorem tby_39 : tby Try.prog 39 = some 32 := by kernel_rfl
@[simp] theorem tagg_39 : tagg Try.prog 39 = some true := by kernel_rfl
@[simp] theorem zc_39 : zc Try.prog 39 = some [.int .i64 0, .int .i64 0, .int .i64 0, .int .i64 0] := by kernel_rfl
@[simp] theorem isStr_39 : isStr Try.prog 39 = some false := by kernel_rfl
@[simp] theorem isBool_39 : isBool Try.prog 39 = some false := by kernel_rfl
@[simp] theorem isIface_39 : isIface Try.prog 39 = some false := by kernel_rfl
@[simp] theorem uls_39 : (Try.prog.underlying 39).isSome = true := by kernel_rfl
@[simp] theorem eqAt_39 : eqAt Try.prog 39 = some [0, 1, 2, 3] := by kernel_rfl
@[simp] theorem foff0_39 : foff Try.prog 39 0 = some 0 := by kernel_rfl
@[simp] theorem foff1_39 : foff Try.prog 39 1 = some 1 := by kernel_rfl
@[simp] theorem foff2_39 : foff Try.prog 39 2 = some 2 := by kernel_rfl
@[simp] theorem foff3_39 : foff Try.prog 39 3 = some 3 := by kernel_rfl
@[simp] theorem flds_39 : flds Try.prog 39 = some [(0, 1), (1, 1), (2, 1), (3, 1)] := by kernel_rfl
@[simp] theorem tsz_40 : tsz Try.prog 40 = some 5 := by kernel_rfl
@[simp] theorem tby_40 : tby Try.prog 40 = some 56 := by kernel_rfl
@[simp] theorem tagg_40 : tagg Try.prog 40 = some true := by kernel_rfl
@[simp] theorem zc_40 : zc Try.prog 40 = some [.slice none 0 0, .int .i64 0, .int .i64 0, .int .i64 0, .int .i64 0] := by kernel_rfl
@[simp] theorem isStr_40 : isStr Try.prog 40 = some false := by kernel_rfl
@[simp] theorem isBool_40 : isBool Try.prog 40 = some false := by kernel_rfl
@[simp] theorem isIface_40 : isIface Try.prog 40 = some false := by kernel_rfl
@[simp] theorem uls_40 : (Try.prog.underlying 40).isSome = true := by kernel_rfl
@[simp] theorem foff0_40 : foff Try.prog 40 0 = some 0 := by kernel_rfl
@[simp] theorem foff1_40 : foff Try.prog 40 1 = some 1 := by kernel_rfl
@[simp] theorem flds_40 : flds Try.prog 40 = some [(0, 1), (1, 4)] := by kernel_rfl
@[simp] theorem tsz_41 : tsz Try.prog 41 = some 5 := by kernel_rfl
@[simp] theorem tby_41 : tby Try.prog 41 = some 56 := by kernel_rfl
@[simp] theorem tagg_41 : tagg Try.prog 41 = some true := by kernel_rfl
@[simp] theorem zc_41 : zc Try.prog 41 = some [.slice none 0 0, .int .i64 0, .int .i64 0, .int .i64 0, .int .i64 0] := by kernel_rfl
@[simp] theorem isStr_41 : isStr Try.prog 41 = some false := by kernel_rfl
@[simp] theorem isBool_41 : isBool Try.prog 41 = some false := by kernel_rfl
@[simp] theorem isIface_41 : isIface Try.prog 41 = some false := by kernel_rfl
@[simp] theorem uls_41 : (Try.prog.underlying 41).isSome = true := by kernel_rfl
@[simp] theorem foff0_41 : foff Try.prog 41 0 = some 0 := by kernel_rfl
@[simp] theorem foff1_41 : foff Try.prog 41 1 = some 1 := by kernel_rfl
@[simp] theorem flds_41 : flds Try.prog 41 = some [(0, 1), (1, 4)] := by kernel_rfl
@[simp] theorem tsz_42 : tsz Try.prog 42 = some 5 := by kernel_rfl
@[simp] theorem tby_42 : tby Try.prog 42 = some 40 := by kernel_rfl
@[simp] theorem tagg_42 : tagg Try.prog 42 = some true := by kernel_rfl
@[simp] theorem zc_42 : zc Try.prog 42 = some [.int .i64 0, .int .i64 0, .int .i64 0, .int .i64 0, .int .i64 0] := by kernel_rfl
@[simp] theorem isStr_42 : isStr Try.prog 42 = some false := by kernel_rfl
@[simp] theorem isBool_42 : isBool Try.prog 42 = some false := by kernel_rfl
@[simp] theorem isIface_42 : isIface Try.prog 42 = some false := by kernel_rfl
@[simp] theorem uls_42 : (Try.prog.underlying 42).isSome = true := by kernel_rfl
@[simp] theorem eqAt_42 : eqAt Try.prog 42 = some [0, 1, 2, 3, 4] := by kernel_rfl
@[simp] theorem foff0_42 : foff Try.prog 42 0 = some 0 := by kernel_rfl
@[simp] theorem foff1_42 : foff Try.prog 42 1 = some 1 := by kernel_rfl
@[simp] theorem foff2_42 : foff Try.prog 42 2 = some 2 := by kernel_rfl
@[simp] theorem foff3_42 : foff Try.prog 42 3 = some 3 := by kernel_rfl
@[simp] theorem foff4_42 : foff Try.prog 42 4 = some 4 := by kernel_rfl
@[simp] theorem flds_42 : flds Try.prog 42 = some [(0, 1), (1, 1), (2, 1), (3, 1), (4, 1)] := by kernel_rfl
@[simp] theorem tsz_43 : tsz Try.prog 43 = some 5 := by kernel_rfl
@[simp] theorem tby_43 : tby Try.prog 43 = some 40 := by kernel_rfl
@[simp] theorem tagg_43 : tagg Try.prog 43 = some true := by kernel_rfl
@[simp] theorem zc_43 : zc Try.prog 43 = some [.int .i64 0, .int .i64 0, .int .i64 0, .int .i64 0, .int .i64 0] := by kernel_rfl
@[simp] theorem isStr_43 : isStr Try.prog 43 = some false := by kernel_rfl
@[simp] theorem isBool_43 : isBool Try.prog 43 = some false := by kernel_rfl
@[simp] theorem isIface_43 : isIface Try.prog 43 = some false := by kernel_rfl
@[simp] theorem uls_43 : (Try.prog.underlying 43).isSome = true := by kernel_rfl
@[simp] theorem eqAt_43 : eqAt Try.prog 43 = some [0, 1, 2, 3, 4] := by kernel_rfl
@[simp] theorem foff0_43 : foff Try.prog 43 0 = some 0 := by kernel_rfl
@[simp] theorem foff1_43 : foff Try.prog 43 1 = some 1 := by kernel_rfl
@[simp] theorem foff2_43 : foff Try.prog 43 2 = some 2 := by kernel_rfl
@[simp] theorem foff3_43 : foff Try.prog 43 3 = some 3 := by kernel_rfl
@[simp] theorem foff4_43 : foff Try.prog 43 4 = some 4 := by kernel_rfl
@[simp] theorem flds_43 : flds Try.prog 43 = some [(0, 1), (1, 1), (2, 1), (3, 1), (4, 1)] := by kernel_rfl
@[simp] theorem tsz_44 : tsz Try.prog 44 = some 1 := by kernel_rfl
@[simp] theorem tby_44 : tby Try.prog 44 = some 24 := by kernel_rfl
@[simp] theorem tagg_44 : tagg Try.prog 44 = some false := by kernel_rfl
@[simp] theorem zc_44 : zc Try.prog 44 = some [.slice none 0 0] := by kernel_rfl
@[simp] theorem isStr_44 : isStr Try.prog 44 = some false := by kernel_rfl
@[simp] theorem lenT_44 : lenT Try.prog 44 = some false := by kernel_rfl
@[simp] theorem isBool_44 : isBool Try.prog 44 = some false := by kernel_rfl
@[simp] theorem isIface_44 : isIface Try.prog 44 = some false := by kernel_rfl
@[simp] theorem elm_44 : elm Try.prog 44 = some 47 := by kernel_rfl
@[simp] theorem uls_44 : (Try.prog.underlying 44).isSome = true := by kernel_rfl
@[simp] theorem ul_44 : Try.prog.underlying 44 = some (.slice 47) := by kernel_rfl
@[simp] theorem tsz_45 : tsz Try.prog 45 = some 1 := by kernel_rfl
@[simp] theorem tby_45 : tby Try.prog 45 = some 8 := by kernel_rfl
@[simp] theorem tagg_45 : tagg Try.prog 45 = some false := by kernel_rfl
@[simp] theorem zc_45 : zc Try.prog 45 = some [.int .i64 0] := by kernel_rfl
@[simp] theorem isStr_45 : isStr Try.prog 45 = some false := by kernel_rfl
@[simp] theorem isBool_45 : isBool Try.prog 45 = some false := by kernel_rfl
@[simp] theorem isIface_45 : isIface Try.prog 45 = some false := by kernel_rfl
@[simp] theorem intk_45 : intk Try.prog 45 = some .i64 := by kernel_rfl
@[simp] theorem uls_45 : (Try.prog.underlying 45).isSome = true := by kernel_rfl
@[simp] theorem ul_45 : Try.prog.underlying 45 = some (.int .i64) := by kernel_rfl
@[simp] theorem tsz_46 : tsz Try.prog 46 = some 2 := by kernel_rfl
@[simp] theorem tby_46 : tby Try.prog 46 = some 16 := by kernel_rfl
@[simp] theorem tagg_46 : tagg Try.prog 46 = some true := by kernel_rfl
@[simp] theorem zc_46 : zc Try.prog 46 = some [.int .i64 0, .int .i64 0] := by kernel_rfl
@[simp] theorem isStr_46 : isStr Try.prog 46 = some false := by kernel_rfl
@[simp] theorem isBool_46 : isBool Try.prog 46 = some false := by kernel_rfl
@[simp] theorem isIface_46 : isIface Try.prog 46 = some false := by kernel_rfl
@[simp] theorem uls_46 : (Try.prog.underlying 46).isSome = true := by kernel_rfl
@[simp] theorem eqAt_46 : eqAt Try.prog 46 = some [0, 1] := by kernel_rfl
@[simp] theorem foff0_46 : foff Try.prog 46 0 = some 0 := by kernel_rfl
@[simp] theorem foff1_46 : foff Try.prog 46 1 = some 1 := by kernel_rfl
@[simp] theorem flds_46 : flds Try.prog 46 = some [(0, 1), (1, 1)] := by kernel_rfl
@[simp] theorem tsz_47 : tsz Try.prog 47 = some 2 := by kernel_rfl
@[simp] theorem tby_47 : tby Try.prog 47 = some 16 := by kernel_rfl
@[simp] theorem tagg_47 : tagg Try.prog 47 = some true := by kernel_rfl
@[simp] theorem zc_47 : zc Try.prog 47 = some [.int .i64 0, .int .i64 0] := by kernel_rfl
@[simp] theorem isStr_47 : isStr Try.prog 47 = some false := by kernel_rfl
@[simp] theorem isBool_47 : isBool Try.prog 47 = some false := by kernel_rfl
@[simp] theorem isIface_47 : isIface Try.prog 47 = some false := by kernel_rfl
@[simp] theorem uls_47 : (Try.prog.underlying 47).isSome = true := by kernel_rfl
@[simp] theorem eqAt_47 : eqAt Try.prog 47 = some [0, 1] := by kernel_rfl
@[simp] theorem foff0_47 : foff Try.prog 47 0 = some 0 := by kernel_rfl
@[simp] theorem foff1_47 : foff Try.prog 47 1 = some 1 := by kernel_rfl
@[simp] theorem flds_47 : flds Try.prog 47 = some [(0, 1), (1, 1)] := by kernel_rfl
@[simp] theorem tsz_52 : tsz Try.prog 52 = some 1 := by kernel_rfl
@[simp] theorem tby_52 : tby Try.prog 52 = some 24 := by kernel_rfl
@[simp] theorem tagg_52 : tagg Try.prog 52 = some false := by kernel_rfl
@[simp] theorem zc_52 : zc Try.prog 52 = some [.slice none 0 0] := by kernel_rfl
@[simp] theorem isStr_52 : isStr Try.prog 52 = some false := by kernel_rfl
@[simp] theorem lenT_52 : lenT Try.prog 52 = some false := by kernel_rfl
@[simp] theorem isBool_52 : isBool Try.prog 52 = some false := by kernel_rfl
@[simp] theorem isIface_52 : isIface Try.prog 52 = some false := by kernel_rfl
@[simp] theorem elm_52 : elm Try.prog 52 = some 2 := by kernel_rfl
@[simp] theorem uls_52 : (Try.prog.underlying 52).isSome = true := by kernel_rfl
@[simp] theorem ul_52 : Try.prog.underlying 52 = some (.slice 2) := by kernel_rfl
@[simp] theorem tsz_54 : tsz Try.prog 54 = some 8 := by kernel_rfl
@[simp] theorem tby_54 : tby Try.prog 54 = some 112 := by kernel_rfl
@[simp] theorem tagg_54 : tagg Try.prog 54 = some true := by kernel_rfl
@[simp] theorem zc_54 : zc Try.prog 54 = some [.int .i64 0, .int .i64 0, .int .i64 0, .int .i64 0, .slice none 0 0, .slice none 0 0, .slice none 0 0, .int .i64 0] := by kernel_rfl
@[simp] theorem isStr_54 : isStr Try.prog 54 = some false := by kernel_rfl
@[simp] theorem isBool_54 : isBool Try.prog 54 = some false := by kernel_rfl
@[simp] theorem isIface_54 : isIface Try.prog 54 = some false := by kernel_rfl
@[simp] theorem uls_54 : (Try.prog.underlying 54).isSome = true := by kernel_rfl
@[simp] theorem foff0_54 : foff Try.prog 54 0 = some 0 := by kernel_rfl
@[simp] theorem foff1_54 : foff Try.prog 54 1 = some 1 := by kernel_rfl
@[simp] theorem foff2_54 : foff Try.prog 54 2 = some 2 := by kernel_rfl
@[simp] theorem foff3_54 : foff Try.prog 54 3 = some 3 := by kernel_rfl
@[simp] theorem foff4_54 : foff Try.prog 54 4 = some 4 := by kernel_rfl
@[simp] theorem foff5_54 : foff Try.prog 54 5 = some 5 := by kernel_rfl
@[simp] theorem foff6_54 : foff Try.prog 54 6 = some 6 := by kernel_rfl
@[simp] theorem foff7_54 : foff Try.prog 54 7 = some 7 := by kernel_rfl
@[simp] theorem flds_54 : flds Try.prog 54 = some [(0, 1), (1, 1), (2, 1), (3, 1), (4, 1), (5, 1), (6, 1), (7, 1)] := by kernel_rfl
@[simp] theorem tsz_55 : tsz Try.prog 55 = some 8 := by kernel_rfl
@[simp] theorem tby_55 : tby Try.prog 55 = some 112 := by kernel_rfl
@[simp] theorem tagg_55 : tagg Try.prog 55 = some true := by kernel_rfl
@[simp] theorem zc_55 : zc Try.prog 55 = some [.int .i64 0, .int .i64 0, .int .i64 0, .int .i64 0, .slice none 0 0, .slice none 0 0, .slice none 0 0, .int .i64 0] := by kernel_rfl
@[simp] theorem isStr_55 : isStr Try.prog 55 = some false := by kernel_rfl
@[simp] theorem isBool_55 : isBool Try.prog 55 = some false := by kernel_rfl
@[simp] theorem isIface_55 : isIface Try.prog 55 = some false := by kernel_rfl
@[simp] theorem uls_55 : (Try.prog.underlying 55).isSome = true := by kernel_rfl
@[simp] theorem foff0_55 : foff Try.prog 55 0 = some 0 := by kernel_rfl
@[simp] theorem foff1_55 : foff Try.prog 55 1 = some 1 := by kernel_rfl
@[simp] theorem foff2_55 : foff Try.prog 55 2 = some 2 := by kernel_rfl
@[simp] theorem foff3_55 : foff Try.prog 55 3 = some 3 := by kernel_rfl
@[simp] theorem foff4_55 : foff Try.prog 55 4 = some 4 := by kernel_rfl
@[simp] theorem foff5_55 : foff Try.prog 55 5 = some 5 := by kernel_rfl
@[simp] theorem foff6_55 : foff Try.prog 55 6 = some 6 := by kernel_rfl
@[simp] theorem foff7_55 : foff Try.prog 55 7 = some 7 := by kernel_rfl
@[simp] theorem flds_55 : flds Try.prog 55 = some [(0, 1), (1, 1), (2, 1), (3, 1), (4, 1), (5, 1), (6, 1), (7, 1)] := by kernel_rfl
@[simp] theorem tsz_61 : tsz Try.prog 61 = some 1 := by kernel_rfl
@[simp] theorem tby_61 : tby Try.prog 61 = some 24 := by kernel_rfl
@[simp] theorem tagg_61 : tagg Try.prog 61 = some false := by kernel_rfl
@[simp] theorem zc_61 : zc Try.prog 61 = some [.slice none 0 0] := by kernel_rfl
@[simp] theorem isStr_61 : isStr Try.prog 61 = some false := by kernel_rfl
@[simp] theorem lenT_61 : lenT Try.prog 61 = some false := by kernel_rfl
@[simp] theorem isBool_61 : isBool Try.prog 61 = some false := by kernel_rfl
@[simp] theorem isIface_61 : isIface Try.prog 61 = some false := by kernel_rfl
@[simp] theorem elm_61 : elm Try.prog 61 = some 66 := by kernel_rfl
@[simp] theorem uls_61 : (Try.prog.underlying 61).isSome = true := by kernel_rfl
@[simp] theorem ul_61 : Try.prog.underlying 61 = some (.slice 66) := by kernel_rfl
@[simp] theorem tsz_62 : tsz Try.prog 62 = some 5 := by kernel_rfl
@[simp] theorem tby_62 : tby Try.prog 62 = some 56 := by kernel_rfl
@[simp] theorem tagg_62 : tagg Try.prog 62 = some true := by kernel_rfl
@[simp] theorem zc_62 : zc Try.prog 62 = some [.slice none 0 0, .int .i64 0, .int .i64 0, .int .i64 0, .int .i64 0] := by kernel_rfl
@[simp] theorem isStr_62 : isStr Try.prog 62 = some false := by kernel_rfl
@[simp] theorem isBool_62 : isBool Try.prog 62 = some false := by kernel_rfl
@[simp] theorem isIface_62 : isIface Try.prog 62 = some false := by kernel_rfl
@[simp] theorem uls_62 : (Try.prog.underlying 62).isSome = true := by kernel_rfl
@[simp] theorem foff0_62 : foff Try.prog 62 0 = some 0 := by kernel_rfl
@[simp] theorem foff1_62 : foff Try.prog 62 1 = some 1 := by kernel_rfl
@[simp] theorem flds_62 : flds Try.prog 62 = some [(0, 1), (1, 4)] := by kernel_rfl
@[simp] theorem tsz_63 : tsz Try.prog 63 = some 5 := by kernel_rfl
@[simp] theorem tby_63 : tby Try.prog 63 = some 56 := by kernel_rfl
@[simp] theorem tagg_63 : tagg Try.prog 63 = some true := by kernel_rfl
@[simp] theorem zc_63 : zc Try.prog 63 = some [.slice none 0 0, .int .i64 0, .int .i64 0, .int .i64 0, .int .i64 0] := by kernel_rfl
@[simp] theorem isStr_63 : isStr Try.prog 63 = some false := by kernel_rfl
@[simp] theorem isBool_63 : isBool Try.prog 63 = some false := by kernel_rfl
@[simp] theorem isIface_63 : isIface Try.prog 63 = some false := by kernel_rfl
@[simp] theorem uls_63 : (Try.prog.underlying 63).isSome = true := by kernel_rfl
@[simp] theorem foff0_63 : foff Try.prog 63 0 = some 0 := by kernel_rfl
@[simp] theorem foff1_63 : foff Try.prog 63 1 = some 1 := by kernel_rfl
@[simp] theorem flds_63 : flds Try.prog 63 = some [(0, 1), (1, 4)] := by kernel_rfl
@[simp] theorem tsz_65 : tsz Try.prog 65 = some 7 := by kernel_rfl
@[simp] theorem tby_65 : tby Try.prog 65 = some 56 := by kernel_rfl
@[simp] theorem tagg_65 : tagg Try.prog 65 = some true := by kernel_rfl
@[simp] theorem zc_65 : zc Try.prog 65 = some [.int .i64 0, .int .i64 0, .int .i64 0, .int .i64 0, .int .i64 0, .int .i64 0, .int .i64 0] := by kernel_rfl
@[simp] theorem isStr_65 : isStr Try.prog 65 = some false := by kernel_rfl
@[simp] theorem isBool_65 : isBool Try.prog 65 = some false := by kernel_rfl
@[simp] theorem isIface_65 : isIface Try.prog 65 = some false := by kernel_rfl
@[simp] theorem uls_65 : (Try.prog.underlying 65).isSome = true := by kernel_rfl
@[simp] theorem eqAt_65 : eqAt Try.prog 65 = some [0, 1, 2, 3, 4, 5, 6] := by kernel_rfl
@[simp] theorem foff0_65 : foff Try.prog 65 0 = some 0 := by kernel_rfl
@[simp] theorem foff1_65 : foff Try.prog 65 1 = some 1 := by kernel_rfl
@[simp] theorem foff2_65 : foff Try.prog 65 2 = some 2 := by kernel_rfl
@[simp] theorem foff3_65 : foff Try.prog 65 3 = some 3 := by kernel_rfl
@[simp] theorem foff4_65 : foff Try.prog 65 4 = some 4 := by kernel_rfl
@[simp] theorem foff5_65 : foff Try.prog 65 5 = some 5 := by kernel_rfl
@[simp] theorem foff6_65 : foff Try.prog 65 6 = some 6 := by kernel_rfl
@[simp] theorem flds_65 : flds Try.prog 65 = some [(0, 1), (1, 1), (2, 1), (3, 1), (4, 1), (5, 1), (6, 1)] := by kernel_rfl
@[simp] theorem tsz_66 : tsz Try.prog 66 = some 7 := by kernel_rfl
@[simp] theorem tby_66 : tby Try.prog 66 = some 56 := by kernel_rfl
@[simp] theorem tagg_66 : tagg Try.prog 66 = some true := by kernel_rfl
@[simp] theorem zc_66 : zc Try.prog 66 = some [.int .i64 0, .int .i64 0, .int .i64 0, .int .i64 0, .int .i64 0, .int .i64 0, .int .i64 0] := by kernel_rfl
@[simp] theorem isStr_66 : isStr Try.prog 66 = some false := by kernel_rfl
@[simp] theorem isBool_66 : isBool Try.prog 66 = some false := by kernel_rfl
@[simp] theorem isIface_66 : isIface Try.prog 66 = some false := by kernel_rfl
@[simp] theorem uls_66 : (Try.prog.underlying 66).isSome = true := by kernel_rfl
@[simp] theorem eqAt_66 : eqAt Try.prog 66 = some [0, 1, 2, 3, 4, 5, 6] := by kernel_rfl
@[simp] theorem foff0_66 : foff Try.prog 66 0 = some 0 := by kernel_rfl
@[simp] theorem foff1_66 : foff Try.prog 66 1 = some 1 := by kernel_rfl
@[simp] theorem foff2_66 : foff Try.prog 66 2 = some 2 := by kernel_rfl
@[simp] theorem foff3_66 : foff Try.prog 66 3 = some 3 := by kernel_rfl
@[simp] theorem foff4_66 : foff Try.prog 66 4 = some 4 := by kernel_rfl
@[simp] theorem foff5_66 : foff Try.prog 66 5 = some 5 := by kernel_rfl
@[simp] theorem foff6_66 : foff Try.prog 66 6 = some 6 := by kernel_rfl
@[simp] theorem flds_66 : flds Try.prog 66 = some [(0, 1), (1, 1), (2, 1), (3, 1), (4, 1), (5, 1), (6, 1)] := by kernel_rfl
@[simp] theorem tsz_76 : tsz Try.prog 76 = some 1 := by kernel_rfl
@[simp] theorem tby_76 : tby Try.prog 76 = some 8 := by kernel_rfl
@[simp] theorem tagg_76 : tagg Try.prog 76 = some false := by kernel_rfl
@[simp] theorem zc_76 : zc Try.prog 76 = some [.pointer none] := by kernel_rfl
@[simp] theorem isStr_76 : isStr Try.prog 76 = some false := by kernel_rfl
@[simp] theorem isBool_76 : isBool Try.prog 76 = some false := by kernel_rfl
@[simp] theorem isIface_76 : isIface Try.prog 76 = some false := by kernel_rfl
@[simp] theorem uls_76 : (Try.prog.underlying 76).isSome = true := by kernel_rfl
@[simp] theorem tsz_78 : tsz Try.prog 78 = some 11 := by kernel_rfl
@[simp] theorem tby_78 : tby Try.prog 78 = some 152 := by kernel_rfl
@[simp] theorem tagg_78 : tagg Try.prog 78 = some true := by kernel_rfl
@[simp] theorem zc_78 : zc Try.prog 78 = some [.int .i64 0, .int .i64 0, .int .i64 0, .int .i64 0, .slice none 0 0, .slice none 0 0, .slice none 0 0, .int .i64 0, .int .i64 0, .int .i64 0, .slice none 0 0] := by kernel_rfl
@[simp] theorem isStr_78 : isStr Try.prog 78 = some false := by kernel_rfl
@[simp] theorem isBool_78 : isBool Try.prog 78 = some false := by kernel_rfl
@[simp] theorem isIface_78 : isIface Try.prog 78 = some false := by kernel_rfl
@[simp] theorem uls_78 : (Try.prog.underlying 78).isSome = true := by kernel_rfl
@[simp] theorem foff0_78 : foff Try.prog 78 0 = some 0 := by kernel_rfl
@[simp] theorem foff1_78 : foff Try.prog 78 1 = some 8 := by kernel_rfl
@[simp] theorem flds_78 : flds Try.prog 78 = some [(0, 8), (8, 3)] := by kernel_rfl
@[simp] theorem tsz_79 : tsz Try.prog 79 = some 11 := by kernel_rfl
@[simp] theorem tby_79 : tby Try.prog 79 = some 152 := by kernel_rfl
@[simp] theorem tagg_79 : tagg Try.prog 79 = some true := by kernel_rfl
@[simp] theorem zc_79 : zc Try.prog 79 = some [.int .i64 0, .int .i64 0, .int .i64 0, .int .i64 0, .slice none 0 0, .slice none 0 0, .slice none 0 0, .int .i64 0, .int .i64 0, .int .i64 0, .slice none 0 0] := by kernel_rfl
@[simp] theorem isStr_79 : isStr Try.prog 79 = some false := by kernel_rfl
@[simp] theorem isBool_79 : isBool Try.prog 79 = some false := by kernel_rfl
@[simp] theorem isIface_79 : isIface Try.prog 79 = some false := by kernel_rfl
@[simp] theorem uls_79 : (Try.prog.underlying 79).isSome = true := by kernel_rfl
@[simp] theorem foff0_79 : foff Try.prog 79 0 = some 0 := by kernel_rfl
@[simp] theorem foff1_79 : foff Try.prog 79 1 = some 8 := by kernel_rfl
@[simp] theorem flds_79 : flds Try.prog 79 = some [(0, 8), (8, 3)] := by kernel_rfl
@[simp] theorem tsz_80 : tsz Try.prog 80 = some 1 := by kernel_rfl
@[simp] theorem tby_80 : tby Try.prog 80 = some 8 := by kernel_rfl
@[simp] theorem tagg_80 : tagg Try.prog 80 = some false := by kernel_rfl
@[simp] theorem zc_80 : zc Try.prog 80 = some [.pointer none] := by kernel_rfl
@[simp] theorem isStr_80 : isStr Try.prog 80 = some false := by kernel_rfl
@[simp] theorem isBool_80 : isBool Try.prog 80 = some false := by kernel_rfl
@[simp] theorem isIface_80 : isIface Try.prog 80 = some false := by kernel_rfl
@[simp] theorem uls_80 : (Try.prog.underlying 80).isSome = true := by kernel_rfl
@[simp] theorem tsz_82 : tsz Try.prog 82 = some 12 := by kernel_rfl
@[simp] theorem tby_82 : tby Try.prog 82 = some 160 := by kernel_rfl
@[simp] theorem tagg_82 : tagg Try.prog 82 = some true := by kernel_rfl
@[simp] theorem zc_82 : zc Try.prog 82 = some [.int .i64 0, .int .i64 0, .int .i64 0, .int .i64 0, .slice none 0 0, .slice none 0 0, .slice none 0 0, .int .i64 0, .int .i64 0, .int .i64 0, .int .i64 0, .slice none 0 0] := by kernel_rfl
@[simp] theorem isStr_82 : isStr Try.prog 82 = some false := by kernel_rfl
@[simp] theorem isBool_82 : isBool Try.prog 82 = some false := by kernel_rfl
@[simp] theorem isIface_82 : isIface Try.prog 82 = some false := by kernel_rfl
@[simp] theorem uls_82 : (Try.prog.underlying 82).isSome = true := by kernel_rfl
@[simp] theorem foff0_82 : foff Try.prog 82 0 = some 0 := by kernel_rfl
@[simp] theorem foff1_82 : foff Try.prog 82 1 = some 8 := by kernel_rfl
@[simp] theorem flds_82 : flds Try.prog 82 = some [(0, 8), (8, 4)] := by kernel_rfl
@[simp] theorem tsz_83 : tsz Try.prog 83 = some 12 := by kernel_rfl
@[simp] theorem tby_83 : tby Try.prog 83 = some 160 := by kernel_rfl
@[simp] theorem tagg_83 : tagg Try.prog 83 = some true := by kernel_rfl
@[simp] theorem zc_83 : zc Try.prog 83 = some [.int .i64 0, .int .i64 0, .int .i64 0, .int .i64 0, .slice none 0 0, .slice none 0 0, .slice none 0 0, .int .i64 0, .int .i64 0, .int .i64 0, .int .i64 0, .slice none 0 0] := by kernel_rfl
@[simp] theorem isStr_83 : isStr Try.prog 83 = some false := by kernel_rfl
@[simp] theorem isBool_83 : isBool Try.prog 83 = some false := by kernel_rfl
@[simp] theorem isIface_83 : isIface Try.prog 83 = some false := by kernel_rfl
@[simp] theorem uls_83 : (Try.prog.underlying 83).isSome = true := by kernel_rfl
@[simp] theorem foff0_83 : foff Try.prog 83 0 = some 0 := by kernel_rfl
@[simp] theorem foff1_83 : foff Try.prog 83 1 = some 8 := by kernel_rfl
@[simp] theorem flds_83 : flds Try.prog 83 = some [(0, 8), (8, 4)] := by kernel_rfl
@[simp] theorem tsz_84 : tsz Try.prog 84 = some 1 := by kernel_rfl
@[simp] theorem tby_84 : tby Try.prog 84 = some 24 := by kernel_rfl
@[simp] theorem tagg_84 : tagg Try.prog 84 = some true := by kernel_rfl
@[simp] theorem zc_84 : zc Try.prog 84 = some [.slice none 0 0] := by kernel_rfl
@[simp] theorem isStr_84 : isStr Try.prog 84 = some false := by kernel_rfl
@[simp] theorem isBool_84 : isBool Try.prog 84 = some false := by kernel_rfl
@[simp] theorem isIface_84 : isIface Try.prog 84 = some false := by kernel_rfl
@[simp] theorem uls_84 : (Try.prog.underlying 84).isSome = true := by kernel_rfl
@[simp] theorem foff0_84 : foff Try.prog 84 0 = some 0 := by kernel_rfl
@[simp] theorem flds_84 : flds Try.prog 84 = some [(0, 1)] := by kernel_rfl
@[simp] theorem tsz_85 : tsz Try.prog 85 = some 1 := by kernel_rfl
@[simp] theorem tby_85 : tby Try.prog 85 = some 24 := by kernel_rfl
@[simp] theorem tagg_85 : tagg Try.prog 85 = some true := by kernel_rfl
@[simp] theorem zc_85 : zc Try.prog 85 = some [.slice none 0 0] := by kernel_rfl
@[simp] theorem isStr_85 : isStr Try.prog 85 = some false := by kernel_rfl
@[simp] theorem isBool_85 : isBool Try.prog 85 = some false := by kernel_rfl
@[simp] theorem isIface_85 : isIface Try.prog 85 = some false := by kernel_rfl
@[simp] theorem uls_85 : (Try.prog.underlying 85).isSome = true := by kernel_rfl
@[simp] theorem foff0_85 : foff Try.prog 85 0 = some 0 := by kernel_rfl
@[simp] theorem flds_85 : flds Try.prog 85 = some [(0, 1)] := by kernel_rfl
@[simp] theorem tsz_97 : tsz Try.prog 97 = some 1 := by kernel_rfl
@[simp] theorem tby_97 : tby Try.prog 97 = some 8 := by kernel_rfl
@[simp] theorem tagg_97 : tagg Try.prog 97 = some false := by kernel_rfl
@[simp] theorem zc_97 : zc Try.prog 97 = some [.pointer none] := by kernel_rfl
@[simp] theorem isStr_97 : isStr Try.prog 97 = some false := by kernel_rfl
@[simp] theorem isBool_97 : isBool Try.prog 97 = some false := by kernel_rfl
@[simp] theorem isIface_97 : isIface Try.prog 97 = some false := by kernel_rfl
@[simp] theorem uls_97 : (Try.prog.underlying 97).isSome = true := by kernel_rfl
@[simp] theorem tsz_98 : tsz Try.prog 98 = some 4 := by kernel_rfl
@[simp] theorem tby_98 : tby Try.prog 98 = some 4 := by kernel_rfl
@[simp] theorem tagg_98 : tagg Try.prog 98 = some true := by kernel_rfl
@[simp] theorem zc_98 : zc Try.prog 98 = some [.bool false, .bool false, .bool false, .bool false] := by kernel_rfl
@[simp] theorem isStr_98 : isStr Try.prog 98 = some false := by kernel_rfl
@[simp] theorem isBool_98 : isBool Try.prog 98 = some false := by kernel_rfl
@[simp] theorem isIface_98 : isIface Try.prog 98 = some false := by kernel_rfl
@[simp] theorem uls_98 : (Try.prog.underlying 98).isSome = true := by kernel_rfl
@[simp] theorem foff0_98 : foff Try.prog 98 0 = some 0 := by kernel_rfl
@[simp] theorem foff1_98 : foff Try.prog 98 1 = some 1 := by kernel_rfl
@[simp] theorem foff2_98 : foff Try.prog 98 2 = some 2 := by kernel_rfl
@[simp] theorem foff3_98 : foff Try.prog 98 3 = some 3 := by kernel_rfl
@[simp] theorem flds_98 : flds Try.prog 98 = some [(0, 1), (1, 1), (2, 1), (3, 1)] := by kernel_rfl
@[simp] theorem tsz_99 : tsz Try.prog 99 = some 4 := by kernel_rfl
@[simp] theorem tby_99 : tby Try.prog 99 = some 4 := by kernel_rfl
@[simp] theorem tagg_99 : tagg Try.prog 99 = some true := by kernel_rfl
@[simp] theorem zc_99 : zc Try.prog 99 = some [.bool false, .bool false, .bool false, .bool false] := by kernel_rfl
@[simp] theorem isStr_99 : isStr Try.prog 99 = some false := by kernel_rfl
@[simp] theorem isBool_99 : isBool Try.prog 99 = some false := by kernel_rfl
@[simp] theorem isIface_99 : isIface Try.prog 99 = some false := by kernel_rfl
@[simp] theorem uls_99 : (Try.prog.underlying 99).isSome = true := by kernel_rfl
@[simp] theorem foff0_99 : foff Try.prog 99 0 = some 0 := by kernel_rfl
@[simp] theorem foff1_99 : foff Try.prog 99 1 = some 1 := by kernel_rfl
@[simp] theorem foff2_99 : foff Try.prog 99 2 = some 2 := by kernel_rfl
@[simp] theorem foff3_99 : foff Try.prog 99 3 = some 3 := by kernel_rfl
@[simp] theorem flds_99 : flds Try.prog 99 = some [(0, 1), (1, 1), (2, 1), (3, 1)] := by kernel_rfl
@[simp] theorem tsz_109 : tsz Try.prog 109 = some 3 := by kernel_rfl
@[simp] theorem tby_109 : tby Try.prog 109 = some 24 := by kernel_rfl
@[simp] theorem tagg_109 : tagg Try.prog 109 = some true := by kernel_rfl
@[simp] theorem zc_109 : zc Try.prog 109 = some [.int .i64 0, .bool false, .int .i64 0] := by kernel_rfl
@[simp] theorem isStr_109 : isStr Try.prog 109 = some false := by kernel_rfl
@[simp] theorem isBool_109 : isBool Try.prog 109 = some false := by kernel_rfl
@[simp] theorem isIface_109 : isIface Try.prog 109 = some false := by kernel_rfl
@[simp] theorem uls_109 : (Try.prog.underlying 109).isSome = true := by kernel_rfl
@[simp] theorem foff0_109 : foff Try.prog 109 0 = some 0 := by kernel_rfl
@[simp] theorem foff1_109 : foff Try.prog 109 1 = some 1 := by kernel_rfl
@[simp] theorem foff2_109 : foff Try.prog 109 2 = some 2 := by kernel_rfl
@[simp] theorem flds_109 : flds Try.prog 109 = some [(0, 1), (1, 1), (2, 1)] := by kernel_rfl
@[simp] theorem tsz_110 : tsz Try.prog 110 = some 3 := by kernel_rfl
@[simp] theorem tby_110 : tby Try.prog 110 = some 24 := by kernel_rfl
@[simp] theorem tagg_110 : tagg Try.prog 110 = some true := by kernel_rfl
@[simp] theorem zc_110 : zc Try.prog 110 = some [.int .i64 0, .bool false, .int .i64 0] := by kernel_rfl
@[simp] theorem isStr_110 : isStr Try.prog 110 = some false := by kernel_rfl
@[simp] theorem isBool_110 : isBool Try.prog 110 = some false := by kernel_rfl
@[simp] theorem isIface_110 : isIface Try.prog 110 = some false := by kernel_rfl
@[simp] theorem uls_110 : (Try.prog.underlying 110).isSome = true := by kernel_rfl
@[simp] theorem foff0_110 : foff Try.prog 110 0 = some 0 := by kernel_rfl
@[simp] theorem foff1_110 : foff Try.prog 110 1 = some 1 := by kernel_rfl
@[simp] theorem foff2_110 : foff Try.prog 110 2 = some 2 := by kernel_rfl
@[simp] theorem flds_110 : flds Try.prog 110 = some [(0, 1), (1, 1), (2, 1)] := by kernel_rfl
@[simp] theorem tsz_111 : tsz Try.prog 111 = some 1 := by kernel_rfl
@[simp] theorem tby_111 : tby Try.prog 111 = some 24 := by kernel_rfl
@[simp] theorem tagg_111 : tagg Try.prog 111 = some false := by kernel_rfl
@[simp] theorem zc_111 : zc Try.prog 111 = some [.slice none 0 0] := by kernel_rfl
@[simp] theorem isStr_111 : isStr Try.prog 111 = some false := by kernel_rfl
@[simp] theorem lenT_111 : lenT Try.prog 111 = some false := by kernel_rfl
@[simp] theorem isBool_111 : isBool Try.prog 111 = some false := by kernel_rfl
@[simp] theorem isIface_111 : isIface Try.prog 111 = some false := by kernel_rfl
@[simp] theorem elm_111 : elm Try.prog 111 = some 110 := by kernel_rfl
@[simp] theorem uls_111 : (Try.prog.underlying 111).isSome = true := by kernel_rfl
@[simp] theorem ul_111 : Try.prog.underlying 111 = some (.slice 110) := by kernel_rfl
@[simp] theorem tsz_114 : tsz Try.prog 114 = some 2 := by kernel_rfl
@[simp] theorem tby_114 : tby Try.prog 114 = some 16 := by kernel_rfl
@[simp] theorem tagg_114 : tagg Try.prog 114 = some true := by kernel_rfl
@[simp] theorem zc_114 : zc Try.prog 114 = some [.nilFunc, .bool false] := by kernel_rfl
@[simp] theorem isStr_114 : isStr Try.prog 114 = some false := by kernel_rfl
@[simp] theorem isBool_114 : isBool Try.prog 114 = some false := by kernel_rfl
@[simp] theorem isIface_114 : isIface Try.prog 114 = some false := by kernel_rfl
@[simp] theorem uls_114 : (Try.prog.underlying 114).isSome = true := by kernel_rfl
@[simp] theorem foff0_114 : foff Try.prog 114 0 = some 0 := by kernel_rfl
@[simp] theorem foff1_114 : foff Try.prog 114 1 = some 1 := by kernel_rfl
@[simp] theorem flds_114 : flds Try.prog 114 = some [(0, 1), (1, 1)] := by kernel_rfl
@[simp] theorem tsz_115 : tsz Try.prog 115 = some 2 := by kernel_rfl
@[simp] theorem tby_115 : tby Try.prog 115 = some 16 := by kernel_rfl
@[simp] theorem tagg_115 : tagg Try.prog 115 = some true := by kernel_rfl
@[simp] theorem zc_115 : zc Try.prog 115 = some [.nilFunc, .bool false] := by kernel_rfl
@[simp] theorem isStr_115 : isStr Try.prog 115 = some false := by kernel_rfl
@[simp] theorem isBool_115 : isBool Try.prog 115 = some false := by kernel_rfl
@[simp] theorem isIface_115 : isIface Try.prog 115 = some false := by kernel_rfl
@[simp] theorem uls_115 : (Try.prog.underlying 115).isSome = true := by kernel_rfl
@[simp] theorem foff0_115 : foff Try.prog 115 0 = some 0 := by kernel_rfl
@[simp] theorem foff1_115 : foff Try.prog 115 1 = some 1 := by kernel_rfl
@[simp] theorem flds_115 : flds Try.prog 115 = some [(0, 1), (1, 1)] := by kernel_rfl
@[simp] theorem tsz_118 : tsz Try.prog 118 = some 1 := by kernel_rfl
@[simp] theorem tby_118 : tby Try.prog 118 = some 8 := by kernel_rfl
@[simp] theorem tagg_118 : tagg Try.prog 118 = some false := by kernel_rfl
@[simp] theorem zc_118 : zc Try.prog 118 = some [.pointer none] := by kernel_rfl
@[simp] theorem isStr_118 : isStr Try.prog 118 = some false := by kernel_rfl
@[simp] theorem isBool_118 : isBool Try.prog 118 = some false := by kernel_rfl
@[simp] theorem isIface_118 : isIface Try.prog 118 = some false := by kernel_rfl
@[simp] theorem uls_118 : (Try.prog.underlying 118).isSome = true := by kernel_rfl
@[simp] theorem tsz_120 : tsz Try.prog 120 = some 1 := by kernel_rfl
@[simp] theorem tby_120 : tby Try.prog 120 = some 8 := by kernel_rfl
@[simp] theorem tagg_120 : tagg Try.prog 120 = some false := by kernel_rfl
@[simp] theorem zc_120 : zc Try.prog 120 = some [.int .u64 0] := by kernel_rfl
@[simp] theorem isStr_120 : isStr Try.prog 120 = some false := by kernel_rfl
@[simp] theorem isBool_120 : isBool Try.prog 120 = some false := by kernel_rfl
@[simp] theorem isIface_120 : isIface Try.prog 120 = some false := by kernel_rfl
@[simp] theorem intk_120 : intk Try.prog 120 = some .u64 := by kernel_rfl
@[simp] theorem uls_120 : (Try.prog.underlying 120).isSome = true := by kernel_rfl
@[simp] theorem ul_120 : Try.prog.underlying 120 = some (.int .u64) := by kernel_rfl
@[simp] theorem tsz_122 : tsz Try.prog 122 = some 34 := by kernel_rfl
@[simp] theorem tby_122 : tby Try.prog 122 = some 272 := by kernel_rfl
@[simp] theorem tagg_122 : tagg Try.prog 122 = some true := by kernel_rfl
@[simp] theorem isStr_122 : isStr Try.prog 122 = some false := by kernel_rfl
@[simp] theorem isBool_122 : isBool Try.prog 122 = some false := by kernel_rfl
@[simp] theorem isIface_122 : isIface Try.prog 122 = some false := by kernel_rfl
@[simp] theorem uls_122 : (Try.prog.underlying 122).isSome = true := by kernel_rfl
@[simp] theorem tsz_126 : tsz Try.prog 126 = some 4 := by kernel_rfl
@[simp] theorem tby_126 : tby Try.prog 126 = some 40 := by kernel_rfl
@[simp] theorem tagg_126 : tagg Try.prog 126 = some true := by kernel_rfl
@[simp] theorem zc_126 : zc Try.prog 126 = some [.pointer none, .pointer none, .pointer none, .string ⟨#[]⟩] := by kernel_rfl
@[simp] theorem isStr_126 : isStr Try.prog 126 = some false := by kernel_rfl
@[simp] theorem isBool_126 : isBool Try.prog 126 = some false := by kernel_rfl
@[simp] theorem isIface_126 : isIface Try.prog 126 = some false := by kernel_rfl
@[simp] theorem uls_126 : (Try.prog.underlying 126).isSome = true := by kernel_rfl
@[simp] theorem foff0_126 : foff Try.prog 126 0 = some 0 := by kernel_rfl
@[simp] theorem foff1_126 : foff Try.prog 126 1 = some 1 := by kernel_rfl
@[simp] theorem foff2_126 : foff Try.prog 126 2 = some 2 := by kernel_rfl
@[simp] theorem foff3_126 : foff Try.prog 126 3 = some 3 := by kernel_rfl
@[simp] theorem flds_126 : flds Try.prog 126 = some [(0, 1), (1, 1), (2, 1), (3, 1)] := by kernel_rfl
@[simp] theorem tsz_127 : tsz Try.prog 127 = some 4 := by kernel_rfl
@[simp] theorem tby_127 : tby Try.prog 127 = some 40 := by kernel_rfl
@[simp] theorem tagg_127 : tagg Try.prog 127 = some true := by kernel_rfl
@[simp] theorem zc_127 : zc Try.prog 127 = some [.pointer none, .pointer none, .pointer none, .string ⟨#[]⟩] := by kernel_rfl
@[simp] theorem isStr_127 : isStr Try.prog 127 = some false := by kernel_rfl
@[simp] theorem isBool_127 : isBool Try.prog 127 = some false := by kernel_rfl
@[simp] theorem isIface_127 : isIface Try.prog 127 = some false := by kernel_rfl
@[simp] theorem uls_127 : (Try.prog.underlying 127).isSome = true := by kernel_rfl
@[simp] theorem foff0_127 : foff Try.prog 127 0 = some 0 := by kernel_rfl
@[simp] theorem foff1_127 : foff Try.prog 127 1 = some 1 := by kernel_rfl
@[simp] theorem foff2_127 : foff Try.prog 127 2 = some 2 := by kernel_rfl
@[simp] theorem foff3_127 : foff Try.prog 127 3 = some 3 := by kernel_rfl
@[simp] theorem flds_127 : flds Try.prog 127 = some [(0, 1), (1, 1), (2, 1), (3, 1)] := by kernel_rfl
@[simp] theorem tsz_128 : tsz Try.prog 128 = some 0 := by kernel_rfl
@[simp] theorem tby_128 : tby Try.prog 128 = some 0 := by kernel_rfl
@[simp] theorem tagg_128 : tagg Try.prog 128 = some true := by kernel_rfl
@[simp] theorem isStr_128 : isStr Try.prog 128 = some false := by kernel_rfl
@[simp] theorem isBool_128 : isBool Try.prog 128 = some false := by kernel_rfl
@[simp] theorem isIface_128 : isIface Try.prog 128 = some false := by kernel_rfl
@[simp] theorem uls_128 : (Try.prog.underlying 128).isSome = true := by kernel_rfl
@[simp] theorem tsz_129 : tsz Try.prog 129 = some 0 := by kernel_rfl
@[simp] theorem tby_129 : tby Try.prog 129 = some 0 := by kernel_rfl
@[simp] theorem tagg_129 : tagg Try.prog 129 = some true := by kernel_rfl
@[simp] theorem zc_129 : zc Try.prog 129 = some [] := by kernel_rfl
@[simp] theorem isStr_129 : isStr Try.prog 129 = some false := by kernel_rfl
@[simp] theorem isBool_129 : isBool Try.prog 129 = some false := by kernel_rfl
@[simp] theorem isIface_129 : isIface Try.prog 129 = some false := by kernel_rfl
@[simp] theorem uls_129 : (Try.prog.underlying 129).isSome = true := by kernel_rfl
@[simp] theorem flds_129 : flds Try.prog 129 = some [(0, 0)] := by kernel_rfl
@[simp] theorem tsz_130 : tsz Try.prog 130 = some 0 := by kernel_rfl
@[simp] theorem tby_130 : tby Try.prog 130 = some 0 := by kernel_rfl
@[simp] theorem tagg_130 : tagg Try.prog 130 = some true := by kernel_rfl
@[simp] theorem zc_130 : zc Try.prog 130 = some [] := by kernel_rfl
@[simp] theorem isStr_130 : isStr Try.prog 130 = some false := by kernel_rfl
@[simp] theorem isBool_130 : isBool Try.prog 130 = some false := by kernel_rfl
@[simp] theorem isIface_130 : isIface Try.prog 130 = some false := by kernel_rfl
@[simp] theorem uls_130 : (Try.prog.underlying 130).isSome = true := by kernel_rfl
@[simp] theorem flds_130 : flds Try.prog 130 = some [(0, 0)] := by kernel_rfl
@[simp] theorem tsz_132 : tsz Try.prog 132 = some 1 := by kernel_rfl
@[simp] theorem tby_132 : tby Try.prog 132 = some 4 := by kernel_rfl
@[simp] theorem tagg_132 : tagg Try.prog 132 = some false := by kernel_rfl
@[simp] theorem zc_132 : zc Try.prog 132 = some [.int .u32 0] := by kernel_rfl
@[simp] theorem isStr_132 : isStr Try.prog 132 = some false := by kernel_rfl
@[simp] theorem isBool_132 : isBool Try.prog 132 = some false := by kernel_rfl
@[simp] theorem isIface_132 : isIface Try.prog 132 = some false := by kernel_rfl
@[simp] theorem intk_132 : intk Try.prog 132 = some .u32 := by kernel_rfl
@[simp] theorem uls_132 : (Try.prog.underlying 132).isSome = true := by kernel_rfl
@[simp] theorem ul_132 : Try.prog.underlying 132 = some (.int .u32) := by kernel_rfl
@[simp] theorem tsz_133 : tsz Try.prog 133 = some 1 := by kernel_rfl
@[simp] theorem tby_133 : tby Try.prog 133 = some 1 := by kernel_rfl
@[simp] theorem tagg_133 : tagg Try.prog 133 = some false := by kernel_rfl
@[simp] theorem zc_133 : zc Try.prog 133 = some [.int .u8 0] := by kernel_rfl
@[simp] theorem isStr_133 : isStr Try.prog 133 = some false := by kernel_rfl
@[simp] theorem isBool_133 : isBool Try.prog 133 = some false := by kernel_rfl
@[simp] theorem isIface_133 : isIface Try.prog 133 = some false := by kernel_rfl
@[simp] theorem intk_133 : intk Try.prog 133 = some .u8 := by kernel_rfl
@[simp] theorem uls_133 : (Try.prog.underlying 133).isSome = true := by kernel_rfl
@[simp] theorem ul_133 : Try.prog.underlying 133 = some (.int .u8) := by kernel_rfl
@[simp] theorem tsz_134 : tsz Try.prog 134 = some 1 := by kernel_rfl
@[simp] theorem tby_134 : tby Try.prog 134 = some 1 := by kernel_rfl
@[simp] theorem tagg_134 : tagg Try.prog 134 = some false := by kernel_rfl
@[simp] theorem zc_134 : zc Try.prog 134 = some [.int .u8 0] := by kernel_rfl
@[simp] theorem isStr_134 : isStr Try.prog 134 = some false := by kernel_rfl
@[simp] theorem isBool_134 : isBool Try.prog 134 = some false := by kernel_rfl
@[simp] theorem isIface_134 : isIface Try.prog 134 = some false := by kernel_rfl
@[simp] theorem intk_134 : intk Try.prog 134 = some .u8 := by kernel_rfl
@[simp] theorem uls_134 : (Try.prog.underlying 134).isSome = true := by kernel_rfl
@[simp] theorem ul_134 : Try.prog.underlying 134 = some (.int .u8) := by kernel_rfl
@[simp] theorem tsz_136 : tsz Try.prog 136 = some 1 := by kernel_rfl
@[simp] theorem tby_136 : tby Try.prog 136 = some 8 := by kernel_rfl
@[simp] theorem tagg_136 : tagg Try.prog 136 = some false := by kernel_rfl
@[simp] theorem zc_136 : zc Try.prog 136 = some [.pointer none] := by kernel_rfl
@[simp] theorem isStr_136 : isStr Try.prog 136 = some false := by kernel_rfl
@[simp] theorem isBool_136 : isBool Try.prog 136 = some false := by kernel_rfl
@[simp] theorem isIface_136 : isIface Try.prog 136 = some false := by kernel_rfl
@[simp] theorem uls_136 : (Try.prog.underlying 136).isSome = true := by kernel_rfl
@[simp] theorem tsz_137 : tsz Try.prog 137 = some 1 := by kernel_rfl
@[simp] theorem tby_137 : tby Try.prog 137 = some 4 := by kernel_rfl
@[simp] theorem tagg_137 : tagg Try.prog 137 = some false := by kernel_rfl
@[simp] theorem zc_137 : zc Try.prog 137 = some [.int .i32 0] := by kernel_rfl
@[simp] theorem isStr_137 : isStr Try.prog 137 = some false := by kernel_rfl
@[simp] theorem isBool_137 : isBool Try.prog 137 = some false := by kernel_rfl
@[simp] theorem isIface_137 : isIface Try.prog 137 = some false := by kernel_rfl
@[simp] theorem intk_137 : intk Try.prog 137 = some .i32 := by kernel_rfl
@[simp] theorem uls_137 : (Try.prog.underlying 137).isSome = true := by kernel_rfl
@[simp] theorem ul_137 : Try.prog.underlying 137 = some (.int .i32) := by kernel_rfl
@[simp] theorem tsz_138 : tsz Try.prog 138 = some 1 := by kernel_rfl
@[simp] theorem tby_138 : tby Try.prog 138 = some 4 := by kernel_rfl
@[simp] theorem tagg_138 : tagg Try.prog 138 = some false := by kernel_rfl
@[simp] theorem zc_138 : zc Try.prog 138 = some [.int .i32 0] := by kernel_rfl
@[simp] theorem isStr_138 : isStr Try.prog 138 = some false := by kernel_rfl
@[simp] theorem isBool_138 : isBool Try.prog 138 = some false := by kernel_rfl
@[simp] theorem isIface_138 : isIface Try.prog 138 = some false := by kernel_rfl
@[simp] theorem intk_138 : intk Try.prog 138 = some .i32 := by kernel_rfl
@[simp] theorem uls_138 : (Try.prog.underlying 138).isSome = true := by kernel_rfl
@[simp] theorem ul_138 : Try.prog.underlying 138 = some (.int .i32) := by kernel_rfl
@[simp] theorem tsz_139 : tsz Try.prog 139 = some 11 := by kernel_rfl
@[simp] theorem tby_139 : tby Try.prog 139 = some 48 := by kernel_rfl
@[simp] theorem tagg_139 : tagg Try.prog 139 = some true := by kernel_rfl
@[simp] theorem zc_139 : zc Try.prog 139 = some [.int .u64 0, .int .u64 0, .int .u32 0, .int .u8 0, .int .u8 0, .int .u8 0, .int .u8 0, .nilFunc, .pointer none, .int .i32 0, .int .i32 0] := by kernel_rfl
@[simp] theorem isStr_139 : isStr Try.prog 139 = some false := by kernel_rfl
@[simp] theorem isBool_139 : isBool Try.prog 139 = some false := by kernel_rfl
@[simp] theorem isIface_139 : isIface Try.prog 139 = some false := by kernel_rfl
@[simp] theorem uls_139 : (Try.prog.underlying 139).isSome = true := by kernel_rfl
@[simp] theorem foff0_139 : foff Try.prog 139 0 = some 0 := by kernel_rfl
@[simp] theorem foff1_139 : foff Try.prog 139 1 = some 1 := by kernel_rfl
@[simp] theorem foff2_139 : foff Try.prog 139 2 = some 2 := by kernel_rfl
@[simp] theorem foff3_139 : foff Try.prog 139 3 = some 3 := by kernel_rfl
@[simp] theorem foff4_139 : foff Try.prog 139 4 = some 4 := by kernel_rfl
@[simp] theorem foff5_139 : foff Try.prog 139 5 = some 5 := by kernel_rfl
@[simp] theorem foff6_139 : foff Try.prog 139 6 = some 6 := by kernel_rfl
@[simp] theorem foff7_139 : foff Try.prog 139 7 = some 7 := by kernel_rfl
@[simp] theorem foff8_139 : foff Try.prog 139 8 = some 8 := by kernel_rfl
@[simp] theorem foff9_139 : foff Try.prog 139 9 = some 9 := by kernel_rfl
@[simp] theorem foff10_139 : foff Try.prog 139 10 = some 10 := by kernel_rfl
@[simp] theorem flds_139 : flds Try.prog 139 = some [(0, 1), (1, 1), (2, 1), (3, 1), (4, 1), (5, 1), (6, 1), (7, 1), (8, 1), (9, 1), (10, 1)] := by kernel_rfl
@[simp] theorem tsz_140 : tsz Try.prog 140 = some 11 := by kernel_rfl
@[simp] theorem tby_140 : tby Try.prog 140 = some 48 := by kernel_rfl
@[simp] theorem tagg_140 : tagg Try.prog 140 = some true := by kernel_rfl
@[simp] theorem zc_140 : zc Try.prog 140 = some [.int .u64 0, .int .u64 0, .int .u32 0, .int .u8 0, .int .u8 0, .int .u8 0, .int .u8 0, .nilFunc, .pointer none, .int .i32 0, .int .i32 0] := by kernel_rfl
@[simp] theorem isStr_140 : isStr Try.prog 140 = some false := by kernel_rfl
@[simp] theorem isBool_140 : isBool Try.prog 140 = some false := by kernel_rfl
@[simp] theorem isIface_140 : isIface Try.prog 140 = some false := by kernel_rfl
@[simp] theorem uls_140 : (Try.prog.underlying 140).isSome = true := by kernel_rfl
@[simp] theorem foff0_140 : foff Try.prog 140 0 = some 0 := by kernel_rfl
@[simp] theorem foff1_140 : foff Try.prog 140 1 = some 1 := by kernel_rfl
@[simp] theorem foff2_140 : foff Try.prog 140 2 = some 2 := by kernel_rfl
@[simp] theorem foff3_140 : foff Try.prog 140 3 = some 3 := by kernel_rfl
@[simp] theorem foff4_140 : foff Try.prog 140 4 = some 4 := by kernel_rfl
@[simp] theorem foff5_140 : foff Try.prog 140 5 = some 5 := by kernel_rfl
@[simp] theorem foff6_140 : foff Try.prog 140 6 = some 6 := by kernel_rfl
@[simp] theorem foff7_140 : foff Try.prog 140 7 = some 7 := by kernel_rfl
@[simp] theorem foff8_140 : foff Try.prog 140 8 = some 8 := by kernel_rfl
@[simp] theorem foff9_140 : foff Try.prog 140 9 = some 9 := by kernel_rfl
@[simp] theorem foff10_140 : foff Try.prog 140 10 = some 10 := by kernel_rfl
@[simp] theorem flds_140 : flds Try.prog 140 = some [(0, 1), (1, 1), (2, 1), (3, 1), (4, 1), (5, 1), (6, 1), (7, 1), (8, 1), (9, 1), (10, 1)] := by kernel_rfl
@[simp] theorem tsz_141 : tsz Try.prog 141 = some 1 := by kernel_rfl
@[simp] theorem tby_141 : tby Try.prog 141 = some 8 := by kernel_rfl
@[simp] theorem tagg_141 : tagg Try.prog 141 = some false := by kernel_rfl
@[simp] theorem zc_141 : zc Try.prog 141 = some [.pointer none] := by kernel_rfl
@[simp] theorem isStr_141 : isStr Try.prog 141 = some false := by kernel_rfl
@[simp] theorem isBool_141 : isBool Try.prog 141 = some false := by kernel_rfl
@[simp] theorem isIface_141 : isIface Try.prog 141 = some false := by kernel_rfl
@[simp] theorem uls_141 : (Try.prog.underlying 141).isSome = true := by kernel_rfl
theorem mixed : Try.prog.follows .mixedOrders = true := by kernel_rfl
end Go.Proofs.Yteklhgmoniaieaa.Ty
