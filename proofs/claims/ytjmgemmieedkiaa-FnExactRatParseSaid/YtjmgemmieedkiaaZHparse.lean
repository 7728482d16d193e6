/- RatParse of the program. Conditions: the text has at most 2^20 bytes; the library's variable holds some number. -/
import Derived.Test.YtjmgemmieedkiaaZMparse
import Derived.Test.YtjmgemmieedkiaaZHrdiv
set_option linter.unusedVariables false
set_option linter.unusedSimpArgs false
namespace Go.Proofs.Ytjmgemmieedkiaa.Hand
open Go.RowKit Go.Proofs.YtjmgemmieedkiaaW.PrintWords Go.Proofs.YtjmgemmieedkiaaW.PrintLast Go.Proofs.YtjmgemmieedkiaaW.PrintMore
/-- A rational of the call's own is handed back, beside a code. -/
def RatCPost (w : World) (q : Rat) (code : Int) (e : Ending) (w' : World) : Prop := ∃ A c B d, e = .returned (.tuple #[.agg #[.bool (repr q).neg, .slice A (repr q).num.length c, .slice B (repr q).den.length d], .int .i64 code]) ∧ ratK.M w' w.heap.size (fun _ => True) (repr q) [.bool (repr q).neg, .slice A (repr q).num.length c, .slice B (repr q).den.length d] ∧ Below w.heap.size w w'
theorem ratc_end {w wm wr : World} {q : Rat} {code : Int} {A : Option Addr} {c : Nat} {B : Option Addr} {d : Nat} {P : Nat → Prop} {b : Nat} (hB : Below w.heap.size w wr) (hM : ratK.M wr b P (repr q) [.bool (repr q).neg, .slice A (repr q).num.length c, .slice B (repr q).den.length d]) (hb : w.heap.size ≤ b) (hP : ∀ k, P k → k ≠ w.heap.size) :
    RatCPost w q code (.returned (.tuple #[.agg #[.bool (repr q).neg, .slice A (repr q).num.length c, .slice B (repr q).den.length d], .int .i64 code])) (((wr.setCell ⟨w.heap.size, 0, none⟩ (.bool (repr q).neg)).setCell ⟨w.heap.size, 1, none⟩ (.slice A (repr q).num.length c)).setCell ⟨w.heap.size, 2, none⟩ (.slice B (repr q).den.length d)) :=
  ⟨_, _, _, _, rfl, Kd.M_mono _ (fun _ _ => trivial) (far3 (ratK.M_lower hb hM) hP), below3 hB (Nat.le_refl _)⟩
set_option maxHeartbeats 4000000 in
set_option maxRecDepth 100000 in
theorem RatParse_K (s : ByteArray) (q : Rat) (code m : Int) (w : World) (hs : s.size ≤ 1048576) (hm : w.cell? ⟨0, 0, none⟩ = some (.int .i64 m)) (hp : ParseIs (sb s) q code) :
    Calls Try.prog 45 #[.string s] w (RatCPost w q code) := by
  have hu := Try.underlying34
  have HP := Aside0.mk hp
  have f0 := Blk.new w 34 #[.bool false, .slice none 0 0, .slice none 0 0]
  have fb := below_alloc (Below.refl w.heap.size w) (.cells #[.bool false, .slice none 0 0, .slice none 0 0] 34)
  have fm := pw_cell_below fb hm
  have HS := Aside0.mk hs
  clear hp hm hs
  go_enter Try.func45, Try.ntmps45
  go_wp2_with fail
  generalize w.alloc (.cells #[.bool false, .slice none 0 0, .slice none 0 0] 34) = W at f0 fb fm ⊢
  have HF0 := Aside0.mk f0
  have HFB := Aside0.mk fb
  have HFM := Aside0.mk fm
  clear f0 fb fm
  refine (cutPrefixX s W).mono ?_
  rintro e w1 ⟨t, rfl, ht, rfl⟩
  have hts : t.size ≤ 1048576 := by
    rw [← sb_length, ht]
    unfold tOf
    have h := HS.out
    rw [← sb_length] at h
    split
    · rw [List.length_drop]; omega
    · exact h
  have HTS := Aside0.mk hts
  have HT := Aside0.mk ht
  clear hts ht
  go_wp2_with fail
  refine (cutX t m W HTS.out HFM.out).mono ?_
  rintro e w2 ⟨sn, sd, rfl, hn, hd, hb⟩
  have HB2 := Aside0.mk (HFB.out.trans (hb.mono HFB.out.size))
  have HX2 := Aside0.mk (HF0.out.below hb HF0.out.lt)
  have hsn : sn.size ≤ 1048576 := by
    rw [← sb_length, hn]
    refine Nat.le_trans ?_ (show (sb t).length ≤ 1048576 by rw [sb_length]; exact HTS.out)
    exact (List.takeWhile_prefix _).length_le
  have hsd : sd.size ≤ 1048576 := by
    rw [← sb_length, hd]
    refine Nat.le_trans ?_ (show (sb t).length ≤ 1048576 by rw [sb_length]; exact HTS.out)
    unfold denOf
    split
    · rw [List.length_drop]; omega
    · simp
  have hpc : ParseC (negOf (sb s)) (sb sn) (sb sd) (hasBar (sb t)) q code := by
    have h := HP.out
    unfold ParseIs at h
    rw [← HT.out, ← hn, ← hd] at h
    exact h
  have hl0 := HX2.out.lt
  have hsz : Aside0 (hasBar (sb t) = false → sd.size = 0) := ⟨fun h => by rw [← sb_length, hd]; unfold denOf; rw [h]; rfl⟩
  generalize negOf (sb s) = ng at hpc ⊢
  generalize hasBar (sb t) = two at hpc hsz ⊢
  have HSN := Aside0.mk hsn
  have HSD := Aside0.mk hsd
  have hsn9 : sn.size ≤ 9223372036854775807 := by omega
  have hsd9 : sd.size ≤ 9223372036854775807 := by omega
  clear hn hd hb HF0 HFB HFM hsn hsd HP HT HTS HS
  cases hpc with
  | a _ h =>
    have H := Aside0.mk h
    clear h
    go_wp2_with fail
    refine (digits_calls sn false w2 hsn9 H.out).mono ?_
    rintro e w3 ⟨rfl, hw⟩
    subst hw
    go_wp2_with fail
    refine (zero_calls _).mono ?_
    rintro e w9 ⟨A3, c3, B3, d3, rfl, hM, hb⟩
    have HM := Aside0.mk (Kd.M_mono _ (ok' := fun k => w2.heap.size ≤ k) (fun k hk => hk.2.1) (ratK.M_bound hM))
    have HB9 := Aside0.mk (HB2.out.trans (hb.mono HB2.out.size))
    have HRC := Aside0.mk (HX2.out.below hb HX2.out.lt)
    obtain ⟨⟨z0, z1, z2⟩, q0, q1, q2⟩ := bfacts HRC.out
    have hlw := HX2.out.lt
    clear hb hM
    go_wp2
    refine bodyPost_ret (ret_ratb Try.results45 _ _ w.heap.size _ _ _ _ rfl rfl (store3 HRC.out)) rfl ?_
    exact ratc_end (wm := w) (q := 0) HB9.out HM.out HB2.out.size (fun k hk => by omega)
  | b h h2 =>
    have H := Aside0.mk h
    have H2 := Aside0.mk h2
    clear h h2
    go_wp2_with fail
    refine (digits_calls sn true w2 hsn9 H.out).mono ?_
    rintro e w3 ⟨rfl, hw⟩
    subst hw
    go_wp2_with fail
    refine (digits_calls sd false w2 hsd9 H2.out).mono ?_
    rintro e w3 ⟨rfl, hw⟩
    subst hw
    go_wp2_with fail
    refine (zero_calls _).mono ?_
    rintro e w9 ⟨A3, c3, B3, d3, rfl, hM, hb⟩
    have HM := Aside0.mk (Kd.M_mono _ (ok' := fun k => w2.heap.size ≤ k) (fun k hk => hk.2.1) (ratK.M_bound hM))
    have HB9 := Aside0.mk (HB2.out.trans (hb.mono HB2.out.size))
    have HRC := Aside0.mk (HX2.out.below hb HX2.out.lt)
    obtain ⟨⟨z0, z1, z2⟩, q0, q1, q2⟩ := bfacts HRC.out
    have hlw := HX2.out.lt
    clear hb hM
    go_wp2
    refine bodyPost_ret (ret_ratb Try.results45 _ _ w.heap.size _ _ _ _ rfl rfl (store3 HRC.out)) rfl ?_
    exact ratc_end (wm := w) (q := 0) HB9.out HM.out HB2.out.size (fun k hk => by omega)
  | c h h2 h3 =>
    have dlsn : decide ((400 : Int) < (sn.size : Int)) = true := by rw [← sb_length]; exact decide_eq_true (by omega)
    have dksn : decide (400 < sn.size) = true := by rw [← sb_length]; exact decide_eq_true (by omega)
    have H := Aside0.mk h
    have H2 := Aside0.mk h2
    clear h h2 h3
    go_wp2_with fail
    refine (digits_calls sn true w2 hsn9 H.out).mono ?_
    rintro e w3 ⟨rfl, hw⟩
    subst hw
    go_wp2_with fail
    refine (digits_calls sd true w2 hsd9 H2.out).mono ?_
    rintro e w3 ⟨rfl, hw⟩
    subst hw
    go_wp2_with fail
    refine (zero_calls _).mono ?_
    rintro e w9 ⟨A3, c3, B3, d3, rfl, hM, hb⟩
    have HM := Aside0.mk (Kd.M_mono _ (ok' := fun k => w2.heap.size ≤ k) (fun k hk => hk.2.1) (ratK.M_bound hM))
    have HB9 := Aside0.mk (HB2.out.trans (hb.mono HB2.out.size))
    have HRC := Aside0.mk (HX2.out.below hb HX2.out.lt)
    obtain ⟨⟨z0, z1, z2⟩, q0, q1, q2⟩ := bfacts HRC.out
    have hlw := HX2.out.lt
    clear hb hM
    go_wp2
    refine bodyPost_ret (ret_ratb Try.results45 _ _ w.heap.size _ _ _ _ rfl rfl (store3 HRC.out)) rfl ?_
    exact ratc_end (wm := w) (q := 0) HB9.out HM.out HB2.out.size (fun k hk => by omega)
  | c' h h3 =>
    have dlsn : decide ((400 : Int) < (sn.size : Int)) = true := by rw [← sb_length]; exact decide_eq_true (by omega)
    have dksn : decide (400 < sn.size) = true := by rw [← sb_length]; exact decide_eq_true (by omega)
    have H := Aside0.mk h
    clear h h3
    go_wp2_with fail
    refine (digits_calls sn true w2 hsn9 H.out).mono ?_
    rintro e w3 ⟨rfl, hw⟩
    subst hw
    go_wp2_with fail
    refine (zero_calls _).mono ?_
    rintro e w9 ⟨A3, c3, B3, d3, rfl, hM, hb⟩
    have HM := Aside0.mk (Kd.M_mono _ (ok' := fun k => w2.heap.size ≤ k) (fun k hk => hk.2.1) (ratK.M_bound hM))
    have HB9 := Aside0.mk (HB2.out.trans (hb.mono HB2.out.size))
    have HRC := Aside0.mk (HX2.out.below hb HX2.out.lt)
    obtain ⟨⟨z0, z1, z2⟩, q0, q1, q2⟩ := bfacts HRC.out
    have hlw := HX2.out.lt
    clear hb hM
    go_wp2
    refine bodyPost_ret (ret_ratb Try.results45 _ _ w.heap.size _ _ _ _ rfl rfl (store3 HRC.out)) rfl ?_
    exact ratc_end (wm := w) (q := 0) HB9.out HM.out HB2.out.size (fun k hk => by omega)
  | d h h2 h3 h4 =>
    have dlsn : decide ((400 : Int) < (sn.size : Int)) = false := by rw [← sb_length]; exact decide_eq_false (by omega)
    have dksn : decide (400 < sn.size) = false := by rw [← sb_length]; exact decide_eq_false (by omega)
    have dlsd : decide ((400 : Int) < (sd.size : Int)) = true := by rw [← sb_length]; exact decide_eq_true (by omega)
    have dksd : decide (400 < sd.size) = true := by rw [← sb_length]; exact decide_eq_true (by omega)
    have H := Aside0.mk h
    have H2 := Aside0.mk h2
    clear h h2 h3 h4
    go_wp2_with fail
    refine (digits_calls sn true w2 hsn9 H.out).mono ?_
    rintro e w3 ⟨rfl, hw⟩
    subst hw
    go_wp2_with fail
    refine (digits_calls sd true w2 hsd9 H2.out).mono ?_
    rintro e w3 ⟨rfl, hw⟩
    subst hw
    go_wp2_with fail
    refine (zero_calls _).mono ?_
    rintro e w9 ⟨A3, c3, B3, d3, rfl, hM, hb⟩
    have HM := Aside0.mk (Kd.M_mono _ (ok' := fun k => w2.heap.size ≤ k) (fun k hk => hk.2.1) (ratK.M_bound hM))
    have HB9 := Aside0.mk (HB2.out.trans (hb.mono HB2.out.size))
    have HRC := Aside0.mk (HX2.out.below hb HX2.out.lt)
    obtain ⟨⟨z0, z1, z2⟩, q0, q1, q2⟩ := bfacts HRC.out
    have hlw := HX2.out.lt
    clear hb hM
    go_wp2
    refine bodyPost_ret (ret_ratb Try.results45 _ _ w.heap.size _ _ _ _ rfl rfl (store3 HRC.out)) rfl ?_
    exact ratc_end (wm := w) (q := 0) HB9.out HM.out HB2.out.size (fun k hk => by omega)
  | e h h2 h3 h4 h5 =>
    have dlsn : decide ((400 : Int) < (sn.size : Int)) = false := by rw [← sb_length]; exact decide_eq_false (by omega)
    have dksn : decide (400 < sn.size) = false := by rw [← sb_length]; exact decide_eq_false (by omega)
    have dlsd : decide ((400 : Int) < (sd.size : Int)) = false := by rw [← sb_length]; exact decide_eq_false (by omega)
    have dksd : decide (400 < sd.size) = false := by rw [← sb_length]; exact decide_eq_false (by omega)
    have H := Aside0.mk h
    have H2 := Aside0.mk h2
    have H5 := Aside0.mk (show (lim (nval (sb sd))).length = 0 by rw [h5, lim_zero]; rfl)
    clear h h2 h3 h4 h5
    go_wp2_with fail
    refine (digits_calls sn true w2 hsn9 H.out).mono ?_
    rintro e w3 ⟨rfl, hw⟩
    subst hw
    go_wp2_with fail
    refine (digits_calls sd true w2 hsd9 H2.out).mono ?_
    rintro e w3 ⟨rfl, hw⟩
    subst hw
    go_wp2_with fail
    have fb3 := below_alloc (Below.refl w2.heap.size w2) (.cells #[.int .u32 1] 49)
    have fo3 : (Kd.int .u32).R 49 (w2.alloc (.cells #[.int .u32 1] 49)) w2.heap.size (fun k => k = w2.heap.size) (.slice (some ⟨w2.heap.size, 0, none⟩) 1 1) [1] := Kd.R_of_own (own_lit w2 w2.heap.size 49 .u32 [1] (Nat.le_refl _) (by simp)) (fun k hk => by simpa [Value.ownBlock] using hk.symm)
    generalize w2.alloc (.cells #[.int .u32 1] 49) = w3 at fb3 fo3 ⊢
    have HB3 := Aside0.mk (HB2.out.trans (fb3.mono HB2.out.size))
    have HX3 := Aside0.mk (HX2.out.below fb3 HX2.out.lt)
    have HO3 := Aside0.mk fo3
    have hz3 := fb3.size
    clear fb3 fo3
    refine (readNat_calls sd w3 HSD.out (isDig_all H2.out)).mono ?_
    rintro e w4 ⟨A4, c4, rfl, ho, hb⟩
    have HB4 := Aside0.mk (HB3.out.trans (hb.mono HB3.out.size))
    have HX4 := Aside0.mk (HX3.out.below hb HX3.out.lt)
    rw [H5.out]
    clear ho hb
    go_wp2_with fail
    refine (zero_calls _).mono ?_
    rintro e w9 ⟨A3, c3, B3, d3, rfl, hM, hb⟩
    have HM := Aside0.mk (Kd.M_mono _ (ok' := fun k => w4.heap.size ≤ k) (fun k hk => hk.2.1) (ratK.M_bound hM))
    have HB9 := Aside0.mk (HB4.out.trans (hb.mono HB4.out.size))
    have HRC := Aside0.mk (HX4.out.below hb HX4.out.lt)
    obtain ⟨⟨z0, z1, z2⟩, q0, q1, q2⟩ := bfacts HRC.out
    have hlw := HX4.out.lt
    clear hb hM
    go_wp2
    refine bodyPost_ret (ret_ratb Try.results45 _ _ w.heap.size _ _ _ _ rfl rfl (store3 HRC.out)) rfl ?_
    exact ratc_end (wm := w) (q := 0) HB9.out HM.out HB4.out.size (fun k hk => by omega)
  | f h h2 h3 h4 h5 =>
    have dlsn : decide ((400 : Int) < (sn.size : Int)) = false := by rw [← sb_length]; exact decide_eq_false (by omega)
    have dksn : decide (400 < sn.size) = false := by rw [← sb_length]; exact decide_eq_false (by omega)
    have dlsd : decide ((400 : Int) < (sd.size : Int)) = false := by rw [← sb_length]; exact decide_eq_false (by omega)
    have dksd : decide (400 < sd.size) = false := by rw [← sb_length]; exact decide_eq_false (by omega)
    have H := Aside0.mk h
    have H2 := Aside0.mk h2
    have HV := Aside0.mk h5
    have HLN := Aside0.mk (lim_dig h h3)
    have HLD := Aside0.mk (lim_dig h2 h4)
    have hdl : ((((lim (nval (sb sd))).length : Nat) : Int) == 0) = false := by
      rw [beq_eq_false_iff_ne]
      intro e
      exact h5 (lim_nil_iff.1 (List.length_eq_zero_iff.1 (by omega)))
    clear h h2 h3 h4 h5
    go_wp2_with fail
    refine (digits_calls sn true w2 hsn9 H.out).mono ?_
    rintro e w3 ⟨rfl, hw⟩
    subst hw
    go_wp2_with fail
    refine (digits_calls sd true w2 hsd9 H2.out).mono ?_
    rintro e w3 ⟨rfl, hw⟩
    subst hw
    go_wp2_with fail
    have fb3 := below_alloc (Below.refl w2.heap.size w2) (.cells #[.int .u32 1] 49)
    have fo3 : (Kd.int .u32).R 49 (w2.alloc (.cells #[.int .u32 1] 49)) w2.heap.size (fun k => k = w2.heap.size) (.slice (some ⟨w2.heap.size, 0, none⟩) 1 1) [1] := Kd.R_of_own (own_lit w2 w2.heap.size 49 .u32 [1] (Nat.le_refl _) (by simp)) (fun k hk => by simpa [Value.ownBlock] using hk.symm)
    generalize w2.alloc (.cells #[.int .u32 1] 49) = w3 at fb3 fo3 ⊢
    have HB3 := Aside0.mk (HB2.out.trans (fb3.mono HB2.out.size))
    have HX3 := Aside0.mk (HX2.out.below fb3 HX2.out.lt)
    have HO3 := Aside0.mk fo3
    have hz3 := fb3.size
    clear fb3 fo3
    refine (readNat_calls sd w3 HSD.out (isDig_all H2.out)).mono ?_
    rintro e w4 ⟨A4, c4, rfl, ho, hb⟩
    have HB4 := Aside0.mk (HB3.out.trans (hb.mono HB3.out.size))
    have HX4 := Aside0.mk (HX3.out.below hb HX3.out.lt)
    have HO4 := Aside0.mk ho
    have hz4 := hb.size
    clear ho hb
    go_wp2_with fail
    refine (readNat_calls sn w4 HSN.out (isDig_all H.out)).mono ?_
    rintro e w5 ⟨A5, c5, rfl, ho, hb⟩
    have HB5 := Aside0.mk (HB4.out.trans (hb.mono HB4.out.size))
    have HX5 := Aside0.mk (HX4.out.below hb HX4.out.lt)
    have HO5 := Aside0.mk ho
    have hz5 := hb.size
    obtain ⟨W0, hW0⟩ : ∃ v, v = w3 := ⟨_, rfl⟩
    obtain ⟨wd, hwd⟩ : ∃ v, v = w4 := ⟨_, rfl⟩
    have HOD := Aside0.mk (Kd.R_mono (Kd.R_bound (Kd.R_below (Kd.R_bound HO4.out) hb)) (ok' := fun k => W0.heap.size ≤ k ∧ k < wd.heap.size) (fun k hk => ⟨by rw [hW0]; exact hk.1.2.1, by rw [hwd]; exact hk.1.2.2.1⟩))
    rw [← hW0] at HOD
    rw [← hwd] at HO5
    have hzd : W0.heap.size ≤ wd.heap.size := by rw [hW0, hwd]; exact hz4
    have hz6 : wd.heap.size ≤ w5.heap.size := by rw [hwd]; exact hz5
    have hw0 : w.heap.size ≤ W0.heap.size := by rw [hW0]; exact HB3.out.size
    have hw1 : w.heap.size < W0.heap.size := by rw [hW0]; exact HX3.out.lt
    clear ho hb hW0 hwd HO4 HB4 HX4 hz4 hz5
    go_wp2_with fail
    have fk := Blk.new w5 34 #[.bool ng, .slice A5 (lim (nval (sb sn))).length c5, .slice A4 (lim (nval (sb sd))).length c4]
    have fa := below_alloc (Below.refl w5.heap.size w5) (.cells #[.bool ng, .slice A5 (lim (nval (sb sn))).length c5, .slice A4 (lim (nval (sb sd))).length c4] 34)
    have hrm := ratK_made2 (s := ng) (natK_made (Kd.R_lower (Kd.R_mono (Kd.R_bound HO5.out) (ok' := fun k => wd.heap.size ≤ k ∧ k < w5.heap.size) (fun k hk => ⟨hk.2.1, hk.2.2.1⟩)) hzd)) (natK_made HOD.out) (ok' := fun k => W0.heap.size ≤ k ∧ k < w5.heap.size) (fun k hk => ⟨by omega, hk.2⟩) (fun k hk => ⟨hk.1, by omega⟩) (fun k h1 h2 => by omega)
    have hrm2 := Kd.M_below hrm fa
    have fs : (w5.alloc (.cells #[.bool ng, .slice A5 (lim (nval (sb sn))).length c5, .slice A4 (lim (nval (sb sd))).length c4] 34)).heap.size = w5.heap.size + 1 := by simp
    generalize w5.alloc (.cells #[.bool ng, .slice A5 (lim (nval (sb sn))).length c5, .slice A4 (lim (nval (sb sd))).length c4] 34) = w7 at fk fa hrm2 fs ⊢
    have HB7 := Aside0.mk (HB5.out.trans (fa.mono HB5.out.size))
    have HX7 := Aside0.mk (HX5.out.below fa HX5.out.lt)
    have HK7 := Aside0.mk fk
    have HR7 := Aside0.mk hrm2
    clear fk fa hrm hrm2
    go_wp2_with fail
    refine (norm_calls w5.heap.size ng _ _ (lim (nval (sb sn))) (lim (nval (sb sd))) W0.heap.size (fun k => W0.heap.size ≤ k ∧ k < w5.heap.size) w7 HK7.out HR7.out (by omega) (limbs_lim _) (limbs_lim _) (plain_lim _) (by rw [val_lim]; exact HV.out) (by have := HLN.out; omega) (by have := HLD.out; omega)).mono ?_
    rintro e w8 ⟨A8, c8, B8, d8, rfl, hM, hb⟩
    rw [val_lim, val_lim] at hM ⊢
    have HM8 := Aside0.mk hM
    have HB8 := Aside0.mk (HB7.out.trans (hb.mono HB7.out.size))
    have HRC := Aside0.mk (HX7.out.below hb HX7.out.lt)
    obtain ⟨⟨z0, z1, z2⟩, q0, q1, q2⟩ := bfacts HRC.out
    clear hb hM
    go_wp2
    refine bodyPost_ret (ret_ratb Try.results45 _ _ w.heap.size _ _ _ _ rfl rfl (store3 HRC.out)) rfl ?_
    exact ratc_end (wm := w) HB8.out HM8.out hw0 (fun k hk => by omega)
  | g h h3 =>
    have dlsn : decide ((400 : Int) < (sn.size : Int)) = false := by rw [← sb_length]; exact decide_eq_false (by omega)
    have dksn : decide (400 < sn.size) = false := by rw [← sb_length]; exact decide_eq_false (by omega)
    have dlsd : decide ((400 : Int) < (sd.size : Int)) = false := by rw [hsz.out rfl]; rfl
    have dksd : decide (400 < sd.size) = false := by rw [hsz.out rfl]; rfl
    have H := Aside0.mk h
    have HLN := Aside0.mk (lim_dig h h3)
    clear h h3
    go_wp2_with fail
    refine (digits_calls sn true w2 hsn9 H.out).mono ?_
    rintro e w3 ⟨rfl, hw⟩
    subst hw
    go_wp2_with fail
    have fb3 := below_alloc (Below.refl w2.heap.size w2) (.cells #[.int .u32 1] 49)
    have fo3 : (Kd.int .u32).R 49 (w2.alloc (.cells #[.int .u32 1] 49)) w2.heap.size (fun k => k = w2.heap.size) (.slice (some ⟨w2.heap.size, 0, none⟩) 1 1) [1] := Kd.R_of_own (own_lit w2 w2.heap.size 49 .u32 [1] (Nat.le_refl _) (by simp)) (fun k hk => by simpa [Value.ownBlock] using hk.symm)
    generalize w2.alloc (.cells #[.int .u32 1] 49) = w3 at fb3 fo3 ⊢
    have HB3 := Aside0.mk (HB2.out.trans (fb3.mono HB2.out.size))
    have HX3 := Aside0.mk (HX2.out.below fb3 HX2.out.lt)
    have HO3 := Aside0.mk fo3
    have hz3 := fb3.size
    clear fb3 fo3
    refine (readNat_calls sn w3 HSN.out (isDig_all H.out)).mono ?_
    rintro e w5 ⟨A5, c5, rfl, ho, hb⟩
    have HB5 := Aside0.mk (HB3.out.trans (hb.mono HB3.out.size))
    have HX5 := Aside0.mk (HX3.out.below hb HX3.out.lt)
    have HO5 := Aside0.mk ho
    have hz5 := hb.size
    obtain ⟨W0, hW0⟩ : ∃ v, v = w2 := ⟨_, rfl⟩
    obtain ⟨wd, hwd⟩ : ∃ v, v = w3 := ⟨_, rfl⟩
    have HOD := Aside0.mk (Kd.R_mono (Kd.R_bound (Kd.R_lower (Kd.R_below (Kd.R_bound HO3.out) hb) (show W0.heap.size ≤ w2.heap.size by rw [hW0]; exact Nat.le_refl _))) (ok' := fun k => W0.heap.size ≤ k ∧ k < wd.heap.size) (fun k hk => ⟨by rw [hW0]; exact hk.1.2.1, by rw [hwd]; exact hk.1.2.2.1⟩))
    rw [← hwd] at HO5
    have hzd : W0.heap.size ≤ wd.heap.size := by rw [hW0, hwd]; exact hz3
    have hz6 : wd.heap.size ≤ w5.heap.size := by rw [hwd]; exact hz5
    have hw0 : w.heap.size ≤ W0.heap.size := by rw [hW0]; exact HB2.out.size
    have hw1 : w.heap.size < W0.heap.size := by rw [hW0]; exact HX2.out.lt
    clear ho hb hW0 hwd HB3 HX3 hz3 hz5
    go_wp2_with fail
    have fk := Blk.new w5 34 #[.bool ng, .slice A5 (lim (nval (sb sn))).length c5, .slice (some ⟨w2.heap.size, 0, none⟩) 1 1]
    have fa := below_alloc (Below.refl w5.heap.size w5) (.cells #[.bool ng, .slice A5 (lim (nval (sb sn))).length c5, .slice (some ⟨w2.heap.size, 0, none⟩) 1 1] 34)
    have hrm := ratK_made2 (s := ng) (natK_made (Kd.R_lower (Kd.R_mono (Kd.R_bound HO5.out) (ok' := fun k => wd.heap.size ≤ k ∧ k < w5.heap.size) (fun k hk => ⟨hk.2.1, hk.2.2.1⟩)) hzd)) (natK_made HOD.out) (ok' := fun k => W0.heap.size ≤ k ∧ k < w5.heap.size) (fun k hk => ⟨by omega, hk.2⟩) (fun k hk => ⟨hk.1, by omega⟩) (fun k h1 h2 => by omega)
    have hrm2 := Kd.M_below hrm fa
    have fs : (w5.alloc (.cells #[.bool ng, .slice A5 (lim (nval (sb sn))).length c5, .slice (some ⟨w2.heap.size, 0, none⟩) 1 1] 34)).heap.size = w5.heap.size + 1 := by simp
    generalize w5.alloc (.cells #[.bool ng, .slice A5 (lim (nval (sb sn))).length c5, .slice (some ⟨w2.heap.size, 0, none⟩) 1 1] 34) = w7 at fk fa hrm2 fs ⊢
    have HB7 := Aside0.mk (HB5.out.trans (fa.mono HB5.out.size))
    have HX7 := Aside0.mk (HX5.out.below fa HX5.out.lt)
    have HK7 := Aside0.mk fk
    have HR7 := Aside0.mk hrm2
    clear fk fa hrm hrm2
    go_wp2_with fail
    refine (norm_calls w5.heap.size ng _ _ (lim (nval (sb sn))) [1] W0.heap.size (fun k => W0.heap.size ≤ k ∧ k < w5.heap.size) w7 HK7.out HR7.out (by omega) (limbs_lim _) (fun x hx => by rw [List.mem_singleton.1 hx]; omega) (fun _ => by simp) (by simp [val]) (by have := HLN.out; omega) (by simp)).mono ?_
    rintro e w8 ⟨A8, c8, B8, d8, rfl, hM, hb⟩
    rw [val_lim, show val [1] = 1 from rfl] at hM ⊢
    have HM8 := Aside0.mk hM
    have HB8 := Aside0.mk (HB7.out.trans (hb.mono HB7.out.size))
    have HRC := Aside0.mk (HX7.out.below hb HX7.out.lt)
    obtain ⟨⟨z0, z1, z2⟩, q0, q1, q2⟩ := bfacts HRC.out
    clear hb hM
    go_wp2
    refine bodyPost_ret (ret_ratb Try.results45 _ _ w.heap.size _ _ _ _ rfl rfl (store3 HRC.out)) rfl ?_
    exact ratc_end (wm := w) HB8.out HM8.out hw0 (fun k hk => by omega)
end Go.Proofs.Ytjmgemmieedkiaa.Hand
