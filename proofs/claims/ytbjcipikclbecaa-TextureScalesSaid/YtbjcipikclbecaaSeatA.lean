/- The functions by their names (written by tex.py). -/
import Derived.Test.YtbjcipikclbecaaFilmA
namespace Go.LI.Film
open Go.Proofs.Ytbjcipikclbecaa Go Go.Proofs Go.LI
set_option maxRecDepth 100000
set_option linter.unusedVariables false
set_option linter.unusedSimpArgs false
abbrev KE (R : Type) := Ex → List IV → List (List IV) → GH → Option R
abbrev KV (R : Type) := IV → GH → Option R
abbrev OG := Option GA
abbrev fn_law09_Awake : Nat := 8
abbrev fn_law09_long : Nat := 9
abbrev fn_texture_Check : Nat := 10
abbrev fn_law09_Copied : Nat := 11
abbrev fn_ref09_Check : Nat := 12
abbrev fn_ref02_Valid : Nat := 13
abbrev fn_texture_Eval : Nat := 14
abbrev fn_ref03_Numbers : Nat := 17
abbrev fn_ref03_Of : Nat := 18
abbrev fn_ref03_Same : Nat := 19
abbrev fn_ref03_Wide : Nat := 20
abbrev fn_ref02_Of : Nat := 21
abbrev fn_texture_check : Nat := 22
abbrev fn_law08_Copied : Nat := 23
abbrev fn_ref09_one : Nat := 24
abbrev fn_ref01_Inf : Nat := 25
abbrev fn_ref02_minus : Nat := 26
abbrev fn_texture_needed : Nat := 27
abbrev fn_texture_one : Nat := 28
abbrev fn_ref02_Same : Nat := 33
abbrev fn_ref02_Wide : Nat := 34
abbrev fn_ref01_Number : Nat := 35
abbrev fn_ref02_All : Nat := 36
abbrev fn_ref01_Zeroed : Nat := 37
abbrev fn_texture_check_1 : Nat := 38
abbrev fn_texture_numbers : Nat := 39
abbrev fn_round_Number : Nat := 40
abbrev fn_ref09_number : Nat := 41
abbrev fn_math_Float64frombits : Nat := 42
abbrev fn_math_Float64bits : Nat := 43
abbrev fn_span_Of : Nat := 44
abbrev fn_span_Floor : Nat := 45
abbrev fn_span_Mul : Nat := 46
abbrev fn_texture_both : Nat := 47
abbrev fn_span_Sub : Nat := 48
abbrev fn_vec_Add : Nat := 49
abbrev fn_vec_Scale : Nat := 50
abbrev fn_texture_sample : Nat := 51
abbrev fn_vec_Times : Nat := 52
abbrev fn_vec_Of : Nat := 53
abbrev fn_math_IsNaN : Nat := 54
abbrev fn_math_IsInf : Nat := 55
abbrev fn_span_All : Nat := 56
abbrev fn_round_Floor : Nat := 57
abbrev fn_span_Wide : Nat := 58
abbrev fn_math_Inf : Nat := 59
abbrev fn_round_Mul : Nat := 60
abbrev fn_span_Add : Nat := 61
abbrev fn_span_Neg : Nat := 62
abbrev fn_vec_each : Nat := 63
abbrev fn_image_Of_api_Triple : Nat := 64
abbrev fn_image_Image_api_Triple_Wrapped : Nat := 65
abbrev fn_math_Abs : Nat := 66
abbrev fn_round_plain : Nat := 67
abbrev fn_math_Floor : Nat := 68
abbrev fn_round_two : Nat := 69
abbrev fn_round_split : Nat := 70
abbrev fn_bits_Mul64 : Nat := 71
abbrev fn_round_exact_to : Nat := 72
abbrev fn_span_low : Nat := 73
abbrev fn_round_Add : Nat := 74
abbrev fn_span_high : Nat := 75
abbrev fn_image_New_api_Triple : Nat := 76
abbrev fn_image_wrap : Nat := 77
abbrev fn_math_archFloor : Nat := 78
abbrev fn_round_exact_length : Nat := 80
abbrev fn_round_exact_right : Nat := 81
abbrev fn_math_Ldexp : Nat := 82
abbrev fn_round_sum : Nat := 83
abbrev fn_bits_Len64 : Nat := 85
abbrev fn_round_exact_zero : Nat := 86
abbrev fn_math_ldexp : Nat := 88
abbrev fn_round_exact_left : Nat := 89
abbrev fn_bits_Add64 : Nat := 90
abbrev fn_bits_Sub64 : Nat := 91
abbrev fn_math_Copysign : Nat := 93
abbrev fn_math_normalize : Nat := 94
end Go.LI.Film
