/- A parameter that is a list of bytes. -/
import Derived.Test.YtjmgemmieedkiaaZHdraw3
namespace Go.Proofs.Ytjmgemmieedkiaa.Hand
open Go.RowKit Go.Proofs.YtjmgemmieedkiaaW.PrintWords Go.Proofs.YtjmgemmieedkiaaW.PrintLast Go.Proofs.YtjmgemmieedkiaaW.PrintMore
theorem bytes_of_good {l : List Int} (h : ∀ x ∈ l, (Lit.int .u8 x).wf = true) : Bytes l := fun x hx => by
  have := h x hx
  simp [Lit.wf, show IntKind.u8.min = 0 from rfl, show IntKind.u8.max = 255 from rfl] at this
  omega
set_option maxRecDepth 100000 in
theorem opens_bytes : Opens (Kd.slice 5 (Kd.int .u8)) 45 Bytes := opens_mono (opens_slice Try.underlying45 (by kernel_rfl) (opens_int Try.underlying5)) (fun y h => bytes_of_good h)
set_option maxRecDepth 100000 in
theorem arg_bytes {H : Type} {enc : TypeId × Value → H} {W : World} {r : Reach} {b0 : Nat} {v : Value} {d : DataW H} {p : List MemPlace} (hv : Value.okWide Try.prog W r b0 45 v) (h : DataW.Trod enc Try.prog W 0 (fun _ => true) true 45 v d p) :
    ∃ l A c, v = .slice A l.length c ∧ (Kd.int .u8).C W A l.length l ∧ Bytes l := by
  obtain ⟨a, len, cap, rfl⟩ := Go.WideShapes.okWide_slice Try.underlying45 hv
  obtain ⟨fuel, hf⟩ := h
  obtain ⟨l, ⟨A, c, e, hc, hC⟩, hl⟩ := opens_bytes enc W fuel _ _ hf
  simp only [Value.cells, List.cons.injEq, and_true] at e
  rw [e]
  exact ⟨l, A, c, rfl, hC, hl⟩
end Go.Proofs.Ytjmgemmieedkiaa.Hand
