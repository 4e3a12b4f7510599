/- The document's links: what is refused; Push. -/
import Derived.Test.YtohcjfnekgnlcaaLinkR3
namespace Go.Proofs.Ytohcjfnekgnlcaa
open Go Go.RowKit Go.Maps Go.MapKept

theorem fitB_not {a b : Int} (h : ¬ vld a b) : fitB a b = false := by
  cases e : fitB a b
  · rfl
  · exact absurd (fitB_vld.1 e) h

theorem openR_arg (w : World) (p : Nat) (a b : Int) (hv : ¬ vld a b) :
    Calls Try.prog 36 #[.pointer (some ⟨p, 0, none⟩), .int .i64 a, .int .i64 b] w fun e w' => e = .returned (.int .i64 2) ∧ Fr No w w' := by
  have hf := fitR_any w a b
  rw [fitB_not hv] at hf
  have HF := Lib.hid hf
  clear hf
  go_enter Try.func36, Try.ntmps36
  go_wp2_with fail
  refine HF.out.mono ?_
  rintro e w1 ⟨rfl, rfl⟩
  go_wp2
  go_ret
  exact ⟨rfl, Fr.refl _ _⟩
theorem openR_there (w : World) (g : RfG) (h : RfAt w g) (a b : Int) (hv : vld a b) (hn : (lo a b, hi a b) ∈ g.ps) :
    Calls Try.prog 36 #[.pointer (some ⟨g.bl, 0, none⟩), .int .i64 a, .int .i64 b] w fun e w' => e = .returned (.int .i64 10) ∧ Fr No w w' := by
  have hf := fitR_any w a b
  rw [fitB_vld.2 hv] at hf
  have hh := hasR_any w g h a b
  rw [show decide ((lo a b, hi a b) ∈ g.ps) = true by simp [hn]] at hh
  have HF := Lib.hid hf
  have HH := Lib.hid hh
  clear hf hh h hn
  go_enter Try.func36, Try.ntmps36
  go_wp2_with fail
  refine HF.out.mono ?_
  rintro e w1 ⟨rfl, rfl⟩
  go_wp2_with fail
  refine HH.out.mono ?_
  rintro e w2 ⟨rfl, f2⟩
  go_wp2
  go_ret
  exact ⟨rfl, f2⟩
end Go.Proofs.Ytohcjfnekgnlcaa
