/- RatParse of the document. Conditions: the text has at most 2^20 bytes. -/
import Derived.Test.YtjmgemmieedkiaaZHparse
import Derived.Test.YtjmgemmieedkiaaZHscut
import Derived.Test.YtjmgemmieedkiaaZHlrat
set_option linter.unusedVariables false
set_option linter.unusedSimpArgs false
namespace Go.Proofs.Ytjmgemmieedkiaa.Hand
open Go.RowKit Go.Proofs.YtjmgemmieedkiaaW.PrintWords Go.Proofs.YtjmgemmieedkiaaW.PrintLast Go.Proofs.YtjmgemmieedkiaaW.PrintMore
theorem cutA_bar (acc l : List Int) : cutA 47 47 acc l = if hasBar l then (acc ++ preL l) :: cutA 47 47 [] (l.drop ((preL l).length + 1)) else [acc ++ l] := by
  induction l generalizing acc with
  | nil => simp [cutA, hasBar]
  | cons x xs ih =>
    rw [show cutA 47 47 acc (x :: xs) = if x = 47 ∨ x = 47 then acc :: cutA 47 47 [] xs else cutA 47 47 (acc ++ [x]) xs from rfl]
    by_cases hx : x = 47
    · subst hx
      simp [hasBar, preL]
    · rw [if_neg (by simpa using hx), ih]
      have h1 : hasBar (x :: xs) = hasBar xs := by simp [hasBar, hx]
      have h2 : preL (x :: xs) = x :: preL xs := by
        unfold preL
        rw [List.takeWhile_cons, if_pos (by simpa using hx)]
      rw [h1, h2]
      simp
/-- What the pieces of a text say of its value and code. -/
structure PiecesOk (ng : Bool) (o : List ByteArray) (q : Rat) (code : Int) : Prop where
  pos : 1 ≤ o.length
  many : 2 < o.length → q = 0 ∧ code = 1
  bad : o.length ≤ 2 → ∀ (j : Nat) (h : j < o.length), isDig (sb o[j]) = false → q = 0 ∧ code = 1
  long : o.length ≤ 2 → (∀ (j : Nat) (h : j < o.length), isDig (sb o[j]) = true) → ∀ (j : Nat) (h : j < o.length), 400 < (sb o[j]).length → q = 0 ∧ code = 2
  zero : (∀ (j : Nat) (h : j < o.length), isDig (sb o[j]) = true ∧ (sb o[j]).length ≤ 400) → ∀ h : o.length = 2, nval (sb o[1]) = 0 → q = 0 ∧ code = 3
  two : (∀ (j : Nat) (h : j < o.length), isDig (sb o[j]) = true ∧ (sb o[j]).length ≤ 400) → ∀ h : o.length = 2, nval (sb o[1]) ≠ 0 → q = mkRat (sgn ng (nval (sb o[0]))) (nval (sb o[1])) ∧ code = 0
  one : (∀ (j : Nat) (h : j < o.length), isDig (sb o[j]) = true ∧ (sb o[j]).length ≤ 400) → ∀ h : o.length = 1, q = mkRat (sgn ng (nval (sb o[0]))) 1 ∧ code = 0
theorem isDig_bar {l : List Int} (h : hasBar l = true) : isDig l = false := by
  cases e : isDig l with
  | false => rfl
  | true =>
    have h1 := isDig_all e
    unfold hasBar at h
    obtain ⟨x, hx, hx2⟩ := List.any_eq_true.1 h
    have h2 := h1 x hx
    have h3 : x = 47 := by simpa using hx2
    omega
theorem pieces_one {ng : Bool} {x : ByteArray} {d : List Int} {q : Rat} {code : Int} (h : ParseC ng (sb x) d false q code) : PiecesOk ng [x] q code := by
  refine ⟨?_, ?_, ?_, ?_, ?_, ?_, ?_⟩
  · simp
  · intro h2; simp at h2
  · intro _ j hj hd
    have : j = 0 := by simp at hj; omega
    subst this
    cases h with
    | a => exact ⟨rfl, rfl⟩
    | c' h => rw [show sb [x][0] = sb x from rfl, h] at hd; cases hd
    | g h => rw [show sb [x][0] = sb x from rfl, h] at hd; cases hd
  · intro _ ha j hj hl
    have : j = 0 := by simp at hj; omega
    subst this
    have ha := ha 0 (by simp)
    rw [show sb [x][0] = sb x from rfl] at ha hl
    cases h with
    | a _ h => rw [h] at ha; cases ha
    | c' => exact ⟨rfl, rfl⟩
    | g h h3 => omega
  · intro _ h2; simp at h2
  · intro _ h2; simp at h2
  · intro ha _
    have ha := ha 0 (by simp)
    rw [show sb [x][0] = sb x from rfl] at ha
    cases h with
    | a _ h => rw [h] at ha; cases ha.1
    | c' h h3 => omega
    | g => exact ⟨rfl, rfl⟩
theorem pieces_two {ng : Bool} {x y : ByteArray} {q : Rat} {code : Int} (h : ParseC ng (sb x) (sb y) true q code) : PiecesOk ng [x, y] q code := by
  refine ⟨?_, ?_, ?_, ?_, ?_, ?_, ?_⟩
  · simp
  · intro h2; simp at h2
  · intro _ j hj hd
    have hj2 : j = 0 ∨ j = 1 := by simp at hj; omega
    rcases hj2 with rfl | rfl
    · rw [show sb [x, y][0] = sb x from rfl] at hd
      cases h with
      | a => exact ⟨rfl, rfl⟩
      | b => exact ⟨rfl, rfl⟩
      | c h => rw [h] at hd; cases hd
      | d h => rw [h] at hd; cases hd
      | e h => rw [h] at hd; cases hd
      | f h => rw [h] at hd; cases hd
    · rw [show sb [x, y][1] = sb y from rfl] at hd
      cases h with
      | a => exact ⟨rfl, rfl⟩
      | b => exact ⟨rfl, rfl⟩
      | c h h2 => rw [h2] at hd; cases hd
      | d h h2 => rw [h2] at hd; cases hd
      | e h h2 => rw [h2] at hd; cases hd
      | f h h2 => rw [h2] at hd; cases hd
  · intro _ ha j hj hl
    have h0 := ha 0 (by simp)
    have h1 := ha 1 (by simp)
    rw [show sb [x, y][0] = sb x from rfl] at h0
    rw [show sb [x, y][1] = sb y from rfl] at h1
    have hj2 : (sb [x, y][j] = sb x ∨ sb [x, y][j] = sb y) := by
      have : j = 0 ∨ j = 1 := by simp at hj; omega
      rcases this with rfl | rfl
      · left; rfl
      · right; rfl
    cases h with
    | a _ h => rw [h] at h0; cases h0
    | b h h2 => rw [h2] at h1; cases h1
    | c => exact ⟨rfl, rfl⟩
    | d => exact ⟨rfl, rfl⟩
    | e h h2 h3 h4 => rcases hj2 with e | e <;> rw [e] at hl <;> omega
    | f h h2 h3 h4 => rcases hj2 with e | e <;> rw [e] at hl <;> omega
  · intro ha _ hz
    have h0 := ha 0 (by simp)
    have h1 := ha 1 (by simp)
    rw [show sb [x, y][0] = sb x from rfl] at h0
    rw [show sb [x, y][1] = sb y from rfl] at h1 hz
    cases h with
    | a _ h => rw [h] at h0; cases h0.1
    | b h h2 => rw [h2] at h1; cases h1.1
    | c h h2 h3 => omega
    | d h h2 h3 h4 => omega
    | e => exact ⟨rfl, rfl⟩
    | f h h2 h3 h4 h5 => exact absurd hz h5
  · intro ha _ hz
    have h0 := ha 0 (by simp)
    have h1 := ha 1 (by simp)
    rw [show sb [x, y][0] = sb x from rfl] at h0
    rw [show sb [x, y][1] = sb y from rfl] at h1 hz
    cases h with
    | a _ h => rw [h] at h0; cases h0.1
    | b h h2 => rw [h2] at h1; cases h1.1
    | c h h2 h3 => omega
    | d h h2 h3 h4 => omega
    | e h h2 h3 h4 h5 => exact absurd h5 hz
    | f => exact ⟨rfl, rfl⟩
  · intro _ h2; simp at h2
theorem pieces_many {ng : Bool} {n d : List Int} {o : List ByteArray} {q : Rat} {code : Int} (h : ParseC ng n d true q code) (hb : hasBar d = true) (ho : 2 < o.length) : PiecesOk ng o q code := by
  have hd := isDig_bar hb
  have hq : q = 0 ∧ code = 1 := by
    cases h with
    | a => exact ⟨rfl, rfl⟩
    | b => exact ⟨rfl, rfl⟩
    | c h h2 => rw [h2] at hd; cases hd
    | d h h2 => rw [h2] at hd; cases hd
    | e h h2 => rw [h2] at hd; cases hd
    | f h h2 => rw [h2] at hd; cases hd
  exact ⟨by omega, fun _ => hq, fun h => by omega, fun h => by omega, fun _ h => by omega, fun _ h => by omega, fun _ h => by omega⟩
theorem pieces_ok {l : List Int} {o : List ByteArray} {q : Rat} {code : Int} (h : ParseIs l q code) (ho : o.map sb = cutA 47 47 [] (tOf l)) : PiecesOk (negOf l) o q code := by
  unfold ParseIs at h
  rw [cutA_bar] at ho
  cases hb : hasBar (tOf l)
  · rw [hb, if_neg (by decide), List.nil_append] at ho
    have hl : o.length = 1 := by have := congrArg List.length ho; simpa using this
    obtain ⟨x, rfl⟩ : ∃ x, o = [x] := by
      match o, hl with
      | [x], _ => exact ⟨x, rfl⟩
    have hx : sb x = tOf l := by simpa using ho
    rw [hb, preL_all hb, ← hx] at h
    exact pieces_one h
  · rw [hb, if_pos rfl, List.nil_append] at ho
    have hd : (tOf l).drop ((preL (tOf l)).length + 1) = denOf (tOf l) := by unfold denOf; rw [hb]; rfl
    rw [hd, cutA_bar] at ho
    rw [hb] at h
    cases hb2 : hasBar (denOf (tOf l))
    · rw [hb2, if_neg (by decide), List.nil_append] at ho
      have hl : o.length = 2 := by have := congrArg List.length ho; simpa using this
      obtain ⟨x, y, rfl⟩ : ∃ x y, o = [x, y] := by
        match o, hl with
        | [x, y], _ => exact ⟨x, y, rfl⟩
      have hx : sb x = preL (tOf l) ∧ sb y = denOf (tOf l) := by simpa using ho
      rw [← hx.1, ← hx.2] at h
      exact pieces_two h
    · rw [hb2, if_pos rfl, cutA_bar] at ho
      refine pieces_many h hb2 ?_
      have hl := congrArg List.length ho
      rw [List.length_map, List.length_cons, List.length_cons] at hl
      split at hl
      · rw [List.length_cons] at hl; omega
      · rw [List.length_singleton] at hl; omega
theorem cutA_len (p q : Int) (acc l : List Int) : ∀ x ∈ cutA p q acc l, x.length ≤ acc.length + l.length := by
  induction l generalizing acc with
  | nil => intro x hx; rw [cutA, List.mem_singleton] at hx; rw [hx]; simp
  | cons y ys ih =>
    intro x hx
    unfold cutA at hx
    split at hx
    · rcases List.mem_cons.1 hx with rfl | hx
      · simp
      · have := ih [] x hx
        simp at this ⊢
        omega
    · have := ih _ x hx
      simp at this ⊢
      omega
theorem piece_size {p q : Int} {o : List ByteArray} {t : ByteArray} (h : o.map sb = cutA p q [] (sb t)) (ht : t.size ≤ 1048576) (j : Nat) (hj : j < o.length) : o[j].size ≤ 1048576 := by
  have h1 : sb o[j] ∈ cutA p q [] (sb t) := by rw [← h]; exact List.mem_map_of_mem (List.getElem_mem hj)
  have h2 := cutA_len _ _ _ _ _ h1
  rw [sb_length, sb_length] at h2
  simp at h2
  omega
theorem str_at {w : World} {A : Option Addr} {o : List ByteArray} (h : Kd.string.C w A o.length o) {i : Nat} (hi : i < o.length) : ∃ ad, A = some ad ∧ w.cell? (ad.add i) = some (.string o[i]) := by
  obtain ⟨ad, e, hc⟩ := Kd.at_string h (i : Int) (by omega) (by omega)
  rw [Int.toNat_natCast] at hc
  refine ⟨ad, e, ?_⟩
  rw [hc]
  unfold rdOf
  rw [Int.toNat_natCast, List.getD_eq_getElem?_getD, List.getElem?_eq_getElem hi]
  rfl
theorem negOf_zero {s : ByteArray} (h : s.size = 0) : negOf (sb s) = false := by
  have : (sb s).length = 0 := by rw [sb_length]; exact h
  rw [List.length_eq_zero_iff] at this
  rw [this]; rfl
theorem negOf_pos {s : ByteArray} (h : 0 < s.size) : negOf (sb s) = (((s[0].toNat : Nat) : Int) == 45) := by
  have h1 := sb_rd h
  match hs : sb s, h1 with
  | [], _ =>
    have h2 : (sb s).length = 0 := by rw [hs]; rfl
    rw [sb_length] at h2
    omega
  | x :: xs, h1 =>
    have : rd (x :: xs) ((0 : Nat) : Int) = x := rfl
    rw [this] at h1
    show (x == 45) = _
    rw [h1]
set_option maxHeartbeats 8000000 in
set_option maxRecDepth 100000 in
theorem spec_RatParse_K (s : ByteArray) (q : Rat) (code : Int) (w : World) (hs : s.size ≤ 1048576) (hp : ParseIs (sb s) q code) :
    Calls Try.prog 44 #[.string s] w (RatCPost w q code) := by
  have hu := Try.underlying34
  have HP := Aside0.mk hp
  have HS := Aside0.mk hs
  have hs9 : s.size ≤ 9223372036854775807 := by omega
  have hcase : (s.size = 0) ∨ (∃ h : 0 < s.size, (((s[0].toNat : Nat) : Int) == 45) = false) ∨ (∃ h : 0 < s.size, (((s[0].toNat : Nat) : Int) == 45) = true) := by
    rcases Nat.eq_zero_or_pos s.size with h | h
    · exact .inl h
    · cases e : (((s[0].toNat : Nat) : Int) == 45)
      · exact .inr (.inl ⟨h, e⟩)
      · exact .inr (.inr ⟨h, e⟩)
  clear hp hs
  have f0 := Blk.new w 34 #[.bool false, .slice none 0 0, .slice none 0 0]
  have fb := below_alloc (Below.refl w.heap.size w) (.cells #[.bool false, .slice none 0 0, .slice none 0 0] 34)
  have HF0 := Aside0.mk f0
  have HFB := Aside0.mk fb
  clear f0 fb
  rcases hcase with h0 | ⟨h0, hx⟩ | ⟨h0, hx⟩
  · have HN := Aside0.mk (negOf_zero h0)
    have HTS : Aside0 (s.size ≤ 1048576) := HS
    have HT : Aside0 (sb s = tOf (sb s)) := ⟨by unfold tOf; rw [HN.out]; rfl⟩
    have d0 : decide (0 < s.size) = false := decide_eq_false (by omega)
    have d1 : decide ((0 : Int) < (s.size : Int)) = false := decide_eq_false (by omega)
    clear h0
    go_enter Try.func44, Try.ntmps44
    go_wp2_with fail
    refine (l1Cut_calls _ 47 47 _ HTS.out).mono ?_
    rintro e w1 ⟨Ap, cp, o, rfl, ho, hmap, hlen, hb⟩
    have hpk := pieces_ok HP.out (hmap.trans (congrArg (cutA 47 47 []) HT.out))
    rw [HN.out] at hpk
    have HPK := Aside0.mk hpk
    have HB1 := Aside0.mk (HFB.out.trans (hb.mono HFB.out.size))
    have HX1 := Aside0.mk (HF0.out.below hb HF0.out.lt)
    have HO1 := Aside0.mk (Kd.R_reads' ho).2.2
    have hol : o.length ≤ 9223372036854775807 := (Kd.R_reads' ho).2.2.2.1
    have hsz : ∀ (j : Nat) (h : j < o.length), o[j].size ≤ 1048576 := fun j hj => piece_size hmap HTS.out j hj
    have HSZ := Aside0.mk hsz
    have hl0 := HX1.out.lt
    clear hpk hmap hlen hb ho hsz HFB HF0 d0 d1
    by_cases h2 : 2 < o.length
    · have e2 : decide ((2 : Int) < (o.length : Int)) = true := decide_eq_true (by omega)
      have e3 : decide (2 < o.length) = true := decide_eq_true h2
      obtain ⟨rfl, rfl⟩ := HPK.out.many h2
      go_wp2_with fail
      refine (l1Zero_calls _).mono ?_
      rintro e w9 ⟨A3, c3, B3, d3, rfl, hM, hb⟩
      have HM := Aside0.mk (Kd.M_mono _ (ok' := fun k => w1.heap.size ≤ k) (fun k hk => hk.2.1) (ratK.M_bound hM))
      have HB9 := Aside0.mk (HB1.out.trans (hb.mono HB1.out.size))
      have HRC := Aside0.mk (HX1.out.below hb HX1.out.lt)
      obtain ⟨⟨z0, z1, z2⟩, q0, q1, q2⟩ := bfacts HRC.out
      have hlw := HX1.out.lt
      clear hb hM
      go_wp2
      refine bodyPost_ret (ret_ratb Try.results44 _ _ w.heap.size _ _ _ _ rfl rfl (store3 HRC.out)) rfl ?_
      exact ratc_end (wm := w) (q := 0) HB9.out HM.out HB1.out.size (fun k hk => by omega)
    · have e2 : decide ((2 : Int) < (o.length : Int)) = false := decide_eq_false (by omega)
      have e3 : decide (2 < o.length) = false := decide_eq_false h2
      have H2 := Aside0.mk (Nat.le_of_not_lt h2)
      clear h2
      go_wp2
      go_loopg [7] o.length (fun g v7 w' => ∃ i : Nat, v7 = .int .i64 (i : Int) ∧ Aside0 (i + g = o.length) ∧ Aside0 (∀ (j : Nat) (h : j < o.length), j < i → isDig (sb o[j]) = true) ∧ Aside0 (w1 = w'))
      case atStart => exact ⟨0, rfl, ⟨by omega⟩, ⟨fun j _ h => by omega⟩, ⟨rfl⟩⟩
      case round =>
        obtain ⟨i, rfl, HI, HD, HW⟩ := hrel
        have hw := HW.out
        subst hw
        clear HW
        by_cases hlt : i < o.length
        · obtain ⟨ad, eA, hc⟩ := str_at HO1.out hlt
          subst eA
          have hlt2 : (i : Int) < (o.length : Int) := by omega
          have hz := HSZ.out i hlt
          obtain ⟨x, hx⟩ : ∃ x, x = o[i] := ⟨_, rfl⟩
          rw [← hx] at hc hz
          have hz9 : x.size ≤ 9223372036854775807 := by omega
          have HXE := Aside0.mk hx
          clear hx hz
          cases hdg : isDig (sb x)
          · have HDG := Aside0.mk hdg
            clear hdg
            go_wp2_with fail
            refine (l1Digits_calls x false _ hz9 HDG.out).mono ?_
            rintro e w2 ⟨rfl, hw⟩
            subst hw
            obtain ⟨rfl, rfl⟩ := HPK.out.bad H2.out i hlt (by rw [← HXE.out]; exact HDG.out)
            go_wp2_with fail
            refine (l1Zero_calls _).mono ?_
            rintro e w9 ⟨A3, c3, B3, d3, rfl, hM, hb⟩
            have HM := Aside0.mk (Kd.M_mono _ (ok' := fun k => w1.heap.size ≤ k) (fun k hk => hk.2.1) (ratK.M_bound hM))
            have HB9 := Aside0.mk (HB1.out.trans (hb.mono HB1.out.size))
            have HRC := Aside0.mk (HX1.out.below hb HX1.out.lt)
            obtain ⟨⟨z0, z1, z2⟩, q0, q1, q2⟩ := bfacts HRC.out
            have hlw := HX1.out.lt
            clear hb hM
            go_wp2
            refine bodyPost_ret (ret_ratb Try.results44 _ _ w.heap.size _ _ _ _ rfl rfl (store3 HRC.out)) rfl ?_
            exact ratc_end (wm := w) (q := 0) HB9.out HM.out HB1.out.size (fun k hk => by omega)
          · have HDG := Aside0.mk hdg
            clear hdg
            go_wp2_with fail
            refine (l1Digits_calls x true _ hz9 HDG.out).mono ?_
            rintro e w2 ⟨rfl, hw⟩
            subst hw
            go_wp2
            go_roundg (gk - 1)
            case measure => have := HI.out; omega
            case rel => exact ⟨i + 1, by go_num, ⟨by have := HI.out; omega⟩, ⟨fun j hj hji => by
              by_cases e : j = i
              · subst e; rw [← HXE.out]; exact HDG.out
              · exact HD.out j hj (by omega)⟩, ⟨rfl⟩⟩
        · have HAD : Aside0 (∀ (j : Nat) (h : j < o.length), isDig (sb o[j]) = true) := ⟨fun j hj => HD.out j hj (by have := HI.out; omega)⟩
          have hi : i = o.length := by have := HI.out; omega
          clear HD HI
          go_wp2
          go_loopg [8] o.length (fun g v8 w' => ∃ i : Nat, v8 = .int .i64 (i : Int) ∧ Aside0 (i + g = o.length) ∧ Aside0 (∀ (j : Nat) (h : j < o.length), j < i → (sb o[j]).length ≤ 400) ∧ Aside0 (w1 = w'))
          case atStart => exact ⟨0, rfl, ⟨by omega⟩, ⟨fun j _ h => by omega⟩, ⟨rfl⟩⟩
          case round =>
            obtain ⟨i, rfl, HI, HD, HW⟩ := hrel
            have hw := HW.out
            subst hw
            clear HW
            by_cases hlt : i < o.length
            · obtain ⟨ad, eA, hc⟩ := str_at HO1.out hlt
              subst eA
              have hlt2 : (i : Int) < (o.length : Int) := by omega
              have hz := HSZ.out i hlt
              obtain ⟨x, hx⟩ : ∃ x, x = o[i] := ⟨_, rfl⟩
              rw [← hx] at hc hz
              have hz9 : x.size ≤ 9223372036854775807 := by omega
              have HXE := Aside0.mk hx
              clear hx hz
              by_cases hlg : 400 < x.size
              · have g1 : decide ((400 : Int) < (x.size : Int)) = true := decide_eq_true (by omega)
                have g2 : decide (400 < x.size) = true := decide_eq_true hlg
                have HLG := Aside0.mk hlg
                clear hlg
                obtain ⟨rfl, rfl⟩ := HPK.out.long H2.out HAD.out i hlt (by rw [← HXE.out, sb_length]; exact HLG.out)
                go_wp2_with fail
                refine (l1Zero_calls _).mono ?_
                rintro e w9 ⟨A3, c3, B3, d3, rfl, hM, hb⟩
                have HM := Aside0.mk (Kd.M_mono _ (ok' := fun k => w1.heap.size ≤ k) (fun k hk => hk.2.1) (ratK.M_bound hM))
                have HB9 := Aside0.mk (HB1.out.trans (hb.mono HB1.out.size))
                have HRC := Aside0.mk (HX1.out.below hb HX1.out.lt)
                obtain ⟨⟨z0, z1, z2⟩, q0, q1, q2⟩ := bfacts HRC.out
                have hlw := HX1.out.lt
                clear hb hM
                go_wp2
                refine bodyPost_ret (ret_ratb Try.results44 _ _ w.heap.size _ _ _ _ rfl rfl (store3 HRC.out)) rfl ?_
                exact ratc_end (wm := w) (q := 0) HB9.out HM.out HB1.out.size (fun k hk => by omega)
              · have g1 : decide ((400 : Int) < (x.size : Int)) = false := decide_eq_false (by omega)
                have g2 : decide (400 < x.size) = false := decide_eq_false hlg
                have HLG := Aside0.mk hlg
                clear hlg
                go_wp2
                go_roundg (gk - 1)
                case measure => have := HI.out; omega
                case rel => exact ⟨i + 1, by go_num, ⟨by have := HI.out; omega⟩, ⟨fun j hj hji => by
                  by_cases e : j = i
                  · subst e; rw [← HXE.out, sb_length]; have := HLG.out; omega
                  · exact HD.out j hj (by omega)⟩, ⟨rfl⟩⟩
            · have HAL : Aside0 (∀ (j : Nat) (h : j < o.length), isDig (sb o[j]) = true ∧ (sb o[j]).length ≤ 400) := ⟨fun j hj => ⟨HAD.out j hj, HD.out j hj (by have := HI.out; omega)⟩⟩
              have hi : i = o.length := by have := HI.out; omega
              clear HD HI HAD
              obtain ⟨ad, eA, hc0⟩ := str_at HO1.out (show 0 < o.length from HPK.out.pos)
              subst eA
              have hp0 : (0 : Int) < (o.length : Int) := by have := HPK.out.pos; omega
              have hz0 := HSZ.out 0 HPK.out.pos
              have HD0 := Aside0.mk (HAL.out 0 HPK.out.pos)
              obtain ⟨x, hx⟩ : ∃ x, x = o[0]'HPK.out.pos := ⟨_, rfl⟩
              rw [← hx] at hc0 hz0 HD0
              rw [show ad.add 0 = ad from by simp [Addr.add]] at hc0
              have HXE := Aside0.mk hx
              have HZ0 := Aside0.mk hz0
              clear hx hz0 hi
              go_wp2_with fail
              refine (bitsX 1 w1 (by omega) (by omega)).mono ?_
              rintro e w2 ⟨A2, c2, rfl, ho, hb⟩
              rw [show ((1 : Int)).toNat = 1 from rfl] at ho ⊢
              have HO2 := Aside0.mk ho
              have HB2 := Aside0.mk (HB1.out.trans (hb.mono HB1.out.size))
              have HX2 := Aside0.mk (HX1.out.below hb HX1.out.lt)
              have HP2 := Aside0.mk (Kd.C_below HO1.out hb)
              have hc2 := pw_cell_below hb hc0
              have hz2 := hb.size
              clear ho hb hc0 HB1 HX1 hl0
              by_cases ho2 : o.length = 2
              · obtain ⟨ad', eA, hc1⟩ := str_at HP2.out (show 1 < o.length by omega)
                injection eA with eA
                subst eA
                have hz1 := HSZ.out 1 (by omega)
                have HD1 := Aside0.mk (HAL.out 1 (by omega))
                obtain ⟨y, hy⟩ : ∃ y, y = o[1]'(by omega) := ⟨_, rfl⟩
                rw [← hy] at hc1 hz1 HD1
                have HYE : Aside0 (∀ h : 1 < o.length, y = o[1]) := ⟨fun _ => hy⟩
                have hc1b : w2.cell? { block := ad.block, off := ad.off + 1 } = some (.string y) := hc1
                have e4 : ((o.length : Int) == 2) = true := by rw [beq_iff_eq]; omega
                have hp1 : (1 : Int) < (o.length : Int) := by omega
                have HO22 := Aside0.mk ho2
                have HZ1 := Aside0.mk hz1
                clear hy hz1 ho2
                go_wp2_with fail
                refine (l1ReadRun_calls y w2 HZ1.out (isDig_all HD1.out.1)).mono ?_
                rintro e w3 ⟨A3, c3, rfl, ho, hb⟩
                have HO3 := Aside0.mk ho
                have HB3 := Aside0.mk (HB2.out.trans (hb.mono HB2.out.size))
                have HX3 := Aside0.mk (HX2.out.below hb HX2.out.lt)
                have hc3 := pw_cell_below hb hc2
                have hz3 := hb.size
                clear ho hb hc2 hc1 hc1b HB2 HX2 HO2
                by_cases hv : nval (sb y) = 0
                · have h5 : (bin (nval (sb y))).length = 0 := by rw [hv, bin_zero]; rfl
                  have HV := Aside0.mk hv
                  rw [h5]
                  clear h5 hv
                  obtain ⟨rfl, rfl⟩ := HPK.out.zero HAL.out HO22.out (by rw [← HYE.out (by rw [HO22.out]; omega)]; exact HV.out)
                  go_wp2_with fail
                  refine (l1Zero_calls _).mono ?_
                  rintro e w9 ⟨A3, c3, B3, d3, rfl, hM, hb⟩
                  have HM := Aside0.mk (Kd.M_mono _ (ok' := fun k => w3.heap.size ≤ k) (fun k hk => hk.2.1) (ratK.M_bound hM))
                  have HB9 := Aside0.mk (HB3.out.trans (hb.mono HB3.out.size))
                  have HRC := Aside0.mk (HX3.out.below hb HX3.out.lt)
                  obtain ⟨⟨z0, z1, z2⟩, q0, q1, q2⟩ := bfacts HRC.out
                  have hlw := HX3.out.lt
                  clear hb hM
                  go_wp2
                  refine bodyPost_ret (ret_ratb Try.results44 _ _ w.heap.size _ _ _ _ rfl rfl (store3 HRC.out)) rfl ?_
                  exact ratc_end (wm := w) (q := 0) HB9.out HM.out HB3.out.size (fun k hk => by omega)
                · have h5 : (((bin (nval (sb y))).length : Int) == 0) = false := by
                    rw [beq_eq_false_iff_ne]
                    intro e
                    exact hv (bin_nil_iff.1 (List.length_eq_zero_iff.1 (by omega)))
                  have hq := HPK.out.two HAL.out HO22.out (by rw [← HYE.out (by rw [HO22.out]; omega)]; exact hv)
                  rw [← HXE.out, ← HYE.out (by rw [HO22.out]; omega)] at hq
                  have HQ := Aside0.mk hq
                  clear hq
                  have HV := Aside0.mk hv
                  clear hv
                  have HLB := Aside0.mk (bin_ten _ _ (nval_lt (isDig_all HD0.out.1)))
                  have HLD := Aside0.mk (bin_ten _ _ (nval_lt (isDig_all HD1.out.1)))
                  go_wp2_with fail
                  refine (l1ReadRun_calls x w3 HZ0.out (isDig_all HD0.out.1)).mono ?_
                  rintro e w8 ⟨A8, c8, rfl, ho, hb⟩
                  have HO8 := Aside0.mk ho
                  have HOD := Aside0.mk (Kd.R_below HO3.out hb)
                  have HB8 := Aside0.mk (HB3.out.trans (hb.mono HB3.out.size))
                  have HX8 := Aside0.mk (HX3.out.below hb HX3.out.lt)
                  clear ho hb
                  go_wp2_with fail
                  refine (l1Make_calls false (nval (sb x)) (nval (sb y)) A8 A3 c8 c3 w8 (Kd.R_reads' HO8.out).2.2 (Kd.R_reads' HOD.out).2.2 (Kd.R_reads' HO8.out).2.1 (Kd.R_reads' HOD.out).2.1 (by have := HLB.out; have := HD0.out.2; omega) (by have := HLD.out; have := HD1.out.2; omega) HV.out).mono ?_
                  rintro e w9 ⟨A9, c9, B9, d9, rfl, hM, hb⟩
                  have HM := Aside0.mk (Kd.M_mono _ (ok' := fun k => w8.heap.size ≤ k) (fun k hk => hk.2.1) (ratK.M_bound hM))
                  have HB9 := Aside0.mk (HB8.out.trans (hb.mono HB8.out.size))
                  have HRC := Aside0.mk (HX8.out.below hb HX8.out.lt)
                  obtain ⟨⟨z0, z1, z2⟩, q0, q1, q2⟩ := bfacts HRC.out
                  have hlw := HX8.out.lt
                  clear hb hM
                  go_wp2
                  refine bodyPost_ret (ret_ratb Try.results44 _ _ w.heap.size _ _ _ _ rfl rfl (store3 HRC.out)) rfl ?_
                  rw [HQ.out.1, HQ.out.2]
                  exact ratc_end (wm := w) HB9.out HM.out HB8.out.size (fun k hk => by omega)
              · have e4 : ((o.length : Int) == 2) = false := by rw [beq_eq_false_iff_ne]; omega
                have HO22 := Aside0.mk (show o.length = 1 by have := H2.out; have := HPK.out.pos; omega)
                clear ho2
                have h1l : (bin 1).length = 1 := by rw [bin_pos (by omega)]; simp [bin_zero]
                have h5 : (((bin 1).length : Int) == 0) = false := by rw [h1l]; rfl
                have HL1 := Aside0.mk h1l
                clear h1l
                have hq := HPK.out.one HAL.out HO22.out
                rw [← HXE.out] at hq
                have HQ := Aside0.mk hq
                clear hq
                have HLB := Aside0.mk (bin_ten _ _ (nval_lt (isDig_all HD0.out.1)))
                go_wp2_with fail
                refine (l1ReadRun_calls x w2 HZ0.out (isDig_all HD0.out.1)).mono ?_
                rintro e w8 ⟨A8, c8, rfl, ho, hb⟩
                have HO8 := Aside0.mk ho
                have HOD := Aside0.mk (Kd.R_below HO2.out hb)
                have HB8 := Aside0.mk (HB2.out.trans (hb.mono HB2.out.size))
                have HX8 := Aside0.mk (HX2.out.below hb HX2.out.lt)
                clear ho hb
                go_wp2_with fail
                refine (l1Make_calls false (nval (sb x)) (1) A8 A2 c8 c2 w8 (Kd.R_reads' HO8.out).2.2 (Kd.R_reads' HOD.out).2.2 (Kd.R_reads' HO8.out).2.1 (Kd.R_reads' HOD.out).2.1 (by have := HLB.out; have := HD0.out.2; omega) (by rw [HL1.out]; omega) (by omega)).mono ?_
                rintro e w9 ⟨A9, c9, B9, d9, rfl, hM, hb⟩
                have HM := Aside0.mk (Kd.M_mono _ (ok' := fun k => w8.heap.size ≤ k) (fun k hk => hk.2.1) (ratK.M_bound hM))
                have HB9 := Aside0.mk (HB8.out.trans (hb.mono HB8.out.size))
                have HRC := Aside0.mk (HX8.out.below hb HX8.out.lt)
                obtain ⟨⟨z0, z1, z2⟩, q0, q1, q2⟩ := bfacts HRC.out
                have hlw := HX8.out.lt
                clear hb hM
                go_wp2
                refine bodyPost_ret (ret_ratb Try.results44 _ _ w.heap.size _ _ _ _ rfl rfl (store3 HRC.out)) rfl ?_
                rw [HQ.out.1, HQ.out.2]
                exact ratc_end (wm := w) HB9.out HM.out HB8.out.size (fun k hk => by omega)
  · have HN := Aside0.mk ((negOf_pos h0).trans hx)
    have HTS : Aside0 (s.size ≤ 1048576) := HS
    have HT : Aside0 (sb s = tOf (sb s)) := ⟨by unfold tOf; rw [HN.out]; rfl⟩
    have d0 : decide (0 < s.size) = true := decide_eq_true h0
    have d1 : decide ((0 : Int) < (s.size : Int)) = true := decide_eq_true (by omega)
    go_enter Try.func44, Try.ntmps44
    go_wp2_with fail
    refine (l1Cut_calls _ 47 47 _ HTS.out).mono ?_
    rintro e w1 ⟨Ap, cp, o, rfl, ho, hmap, hlen, hb⟩
    have hpk := pieces_ok HP.out (hmap.trans (congrArg (cutA 47 47 []) HT.out))
    rw [HN.out] at hpk
    have HPK := Aside0.mk hpk
    have HB1 := Aside0.mk (HFB.out.trans (hb.mono HFB.out.size))
    have HX1 := Aside0.mk (HF0.out.below hb HF0.out.lt)
    have HO1 := Aside0.mk (Kd.R_reads' ho).2.2
    have hol : o.length ≤ 9223372036854775807 := (Kd.R_reads' ho).2.2.2.1
    have hsz : ∀ (j : Nat) (h : j < o.length), o[j].size ≤ 1048576 := fun j hj => piece_size hmap HTS.out j hj
    have HSZ := Aside0.mk hsz
    have hl0 := HX1.out.lt
    clear hpk hmap hlen hb ho hsz HFB HF0 d0 d1
    by_cases h2 : 2 < o.length
    · have e2 : decide ((2 : Int) < (o.length : Int)) = true := decide_eq_true (by omega)
      have e3 : decide (2 < o.length) = true := decide_eq_true h2
      obtain ⟨rfl, rfl⟩ := HPK.out.many h2
      go_wp2_with fail
      refine (l1Zero_calls _).mono ?_
      rintro e w9 ⟨A3, c3, B3, d3, rfl, hM, hb⟩
      have HM := Aside0.mk (Kd.M_mono _ (ok' := fun k => w1.heap.size ≤ k) (fun k hk => hk.2.1) (ratK.M_bound hM))
      have HB9 := Aside0.mk (HB1.out.trans (hb.mono HB1.out.size))
      have HRC := Aside0.mk (HX1.out.below hb HX1.out.lt)
      obtain ⟨⟨z0, z1, z2⟩, q0, q1, q2⟩ := bfacts HRC.out
      have hlw := HX1.out.lt
      clear hb hM
      go_wp2
      refine bodyPost_ret (ret_ratb Try.results44 _ _ w.heap.size _ _ _ _ rfl rfl (store3 HRC.out)) rfl ?_
      exact ratc_end (wm := w) (q := 0) HB9.out HM.out HB1.out.size (fun k hk => by omega)
    · have e2 : decide ((2 : Int) < (o.length : Int)) = false := decide_eq_false (by omega)
      have e3 : decide (2 < o.length) = false := decide_eq_false h2
      have H2 := Aside0.mk (Nat.le_of_not_lt h2)
      clear h2
      go_wp2
      go_loopg [7] o.length (fun g v7 w' => ∃ i : Nat, v7 = .int .i64 (i : Int) ∧ Aside0 (i + g = o.length) ∧ Aside0 (∀ (j : Nat) (h : j < o.length), j < i → isDig (sb o[j]) = true) ∧ Aside0 (w1 = w'))
      case atStart => exact ⟨0, rfl, ⟨by omega⟩, ⟨fun j _ h => by omega⟩, ⟨rfl⟩⟩
      case round =>
        obtain ⟨i, rfl, HI, HD, HW⟩ := hrel
        have hw := HW.out
        subst hw
        clear HW
        by_cases hlt : i < o.length
        · obtain ⟨ad, eA, hc⟩ := str_at HO1.out hlt
          subst eA
          have hlt2 : (i : Int) < (o.length : Int) := by omega
          have hz := HSZ.out i hlt
          obtain ⟨x, hx⟩ : ∃ x, x = o[i] := ⟨_, rfl⟩
          rw [← hx] at hc hz
          have hz9 : x.size ≤ 9223372036854775807 := by omega
          have HXE := Aside0.mk hx
          clear hx hz
          cases hdg : isDig (sb x)
          · have HDG := Aside0.mk hdg
            clear hdg
            go_wp2_with fail
            refine (l1Digits_calls x false _ hz9 HDG.out).mono ?_
            rintro e w2 ⟨rfl, hw⟩
            subst hw
            obtain ⟨rfl, rfl⟩ := HPK.out.bad H2.out i hlt (by rw [← HXE.out]; exact HDG.out)
            go_wp2_with fail
            refine (l1Zero_calls _).mono ?_
            rintro e w9 ⟨A3, c3, B3, d3, rfl, hM, hb⟩
            have HM := Aside0.mk (Kd.M_mono _ (ok' := fun k => w1.heap.size ≤ k) (fun k hk => hk.2.1) (ratK.M_bound hM))
            have HB9 := Aside0.mk (HB1.out.trans (hb.mono HB1.out.size))
            have HRC := Aside0.mk (HX1.out.below hb HX1.out.lt)
            obtain ⟨⟨z0, z1, z2⟩, q0, q1, q2⟩ := bfacts HRC.out
            have hlw := HX1.out.lt
            clear hb hM
            go_wp2
            refine bodyPost_ret (ret_ratb Try.results44 _ _ w.heap.size _ _ _ _ rfl rfl (store3 HRC.out)) rfl ?_
            exact ratc_end (wm := w) (q := 0) HB9.out HM.out HB1.out.size (fun k hk => by omega)
          · have HDG := Aside0.mk hdg
            clear hdg
            go_wp2_with fail
            refine (l1Digits_calls x true _ hz9 HDG.out).mono ?_
            rintro e w2 ⟨rfl, hw⟩
            subst hw
            go_wp2
            go_roundg (gk - 1)
            case measure => have := HI.out; omega
            case rel => exact ⟨i + 1, by go_num, ⟨by have := HI.out; omega⟩, ⟨fun j hj hji => by
              by_cases e : j = i
              · subst e; rw [← HXE.out]; exact HDG.out
              · exact HD.out j hj (by omega)⟩, ⟨rfl⟩⟩
        · have HAD : Aside0 (∀ (j : Nat) (h : j < o.length), isDig (sb o[j]) = true) := ⟨fun j hj => HD.out j hj (by have := HI.out; omega)⟩
          have hi : i = o.length := by have := HI.out; omega
          clear HD HI
          go_wp2
          go_loopg [8] o.length (fun g v8 w' => ∃ i : Nat, v8 = .int .i64 (i : Int) ∧ Aside0 (i + g = o.length) ∧ Aside0 (∀ (j : Nat) (h : j < o.length), j < i → (sb o[j]).length ≤ 400) ∧ Aside0 (w1 = w'))
          case atStart => exact ⟨0, rfl, ⟨by omega⟩, ⟨fun j _ h => by omega⟩, ⟨rfl⟩⟩
          case round =>
            obtain ⟨i, rfl, HI, HD, HW⟩ := hrel
            have hw := HW.out
            subst hw
            clear HW
            by_cases hlt : i < o.length
            · obtain ⟨ad, eA, hc⟩ := str_at HO1.out hlt
              subst eA
              have hlt2 : (i : Int) < (o.length : Int) := by omega
              have hz := HSZ.out i hlt
              obtain ⟨x, hx⟩ : ∃ x, x = o[i] := ⟨_, rfl⟩
              rw [← hx] at hc hz
              have hz9 : x.size ≤ 9223372036854775807 := by omega
              have HXE := Aside0.mk hx
              clear hx hz
              by_cases hlg : 400 < x.size
              · have g1 : decide ((400 : Int) < (x.size : Int)) = true := decide_eq_true (by omega)
                have g2 : decide (400 < x.size) = true := decide_eq_true hlg
                have HLG := Aside0.mk hlg
                clear hlg
                obtain ⟨rfl, rfl⟩ := HPK.out.long H2.out HAD.out i hlt (by rw [← HXE.out, sb_length]; exact HLG.out)
                go_wp2_with fail
                refine (l1Zero_calls _).mono ?_
                rintro e w9 ⟨A3, c3, B3, d3, rfl, hM, hb⟩
                have HM := Aside0.mk (Kd.M_mono _ (ok' := fun k => w1.heap.size ≤ k) (fun k hk => hk.2.1) (ratK.M_bound hM))
                have HB9 := Aside0.mk (HB1.out.trans (hb.mono HB1.out.size))
                have HRC := Aside0.mk (HX1.out.below hb HX1.out.lt)
                obtain ⟨⟨z0, z1, z2⟩, q0, q1, q2⟩ := bfacts HRC.out
                have hlw := HX1.out.lt
                clear hb hM
                go_wp2
                refine bodyPost_ret (ret_ratb Try.results44 _ _ w.heap.size _ _ _ _ rfl rfl (store3 HRC.out)) rfl ?_
                exact ratc_end (wm := w) (q := 0) HB9.out HM.out HB1.out.size (fun k hk => by omega)
              · have g1 : decide ((400 : Int) < (x.size : Int)) = false := decide_eq_false (by omega)
                have g2 : decide (400 < x.size) = false := decide_eq_false hlg
                have HLG := Aside0.mk hlg
                clear hlg
                go_wp2
                go_roundg (gk - 1)
                case measure => have := HI.out; omega
                case rel => exact ⟨i + 1, by go_num, ⟨by have := HI.out; omega⟩, ⟨fun j hj hji => by
                  by_cases e : j = i
                  · subst e; rw [← HXE.out, sb_length]; have := HLG.out; omega
                  · exact HD.out j hj (by omega)⟩, ⟨rfl⟩⟩
            · have HAL : Aside0 (∀ (j : Nat) (h : j < o.length), isDig (sb o[j]) = true ∧ (sb o[j]).length ≤ 400) := ⟨fun j hj => ⟨HAD.out j hj, HD.out j hj (by have := HI.out; omega)⟩⟩
              have hi : i = o.length := by have := HI.out; omega
              clear HD HI HAD
              obtain ⟨ad, eA, hc0⟩ := str_at HO1.out (show 0 < o.length from HPK.out.pos)
              subst eA
              have hp0 : (0 : Int) < (o.length : Int) := by have := HPK.out.pos; omega
              have hz0 := HSZ.out 0 HPK.out.pos
              have HD0 := Aside0.mk (HAL.out 0 HPK.out.pos)
              obtain ⟨x, hx⟩ : ∃ x, x = o[0]'HPK.out.pos := ⟨_, rfl⟩
              rw [← hx] at hc0 hz0 HD0
              rw [show ad.add 0 = ad from by simp [Addr.add]] at hc0
              have HXE := Aside0.mk hx
              have HZ0 := Aside0.mk hz0
              clear hx hz0 hi
              go_wp2_with fail
              refine (bitsX 1 w1 (by omega) (by omega)).mono ?_
              rintro e w2 ⟨A2, c2, rfl, ho, hb⟩
              rw [show ((1 : Int)).toNat = 1 from rfl] at ho ⊢
              have HO2 := Aside0.mk ho
              have HB2 := Aside0.mk (HB1.out.trans (hb.mono HB1.out.size))
              have HX2 := Aside0.mk (HX1.out.below hb HX1.out.lt)
              have HP2 := Aside0.mk (Kd.C_below HO1.out hb)
              have hc2 := pw_cell_below hb hc0
              have hz2 := hb.size
              clear ho hb hc0 HB1 HX1 hl0
              by_cases ho2 : o.length = 2
              · obtain ⟨ad', eA, hc1⟩ := str_at HP2.out (show 1 < o.length by omega)
                injection eA with eA
                subst eA
                have hz1 := HSZ.out 1 (by omega)
                have HD1 := Aside0.mk (HAL.out 1 (by omega))
                obtain ⟨y, hy⟩ : ∃ y, y = o[1]'(by omega) := ⟨_, rfl⟩
                rw [← hy] at hc1 hz1 HD1
                have HYE : Aside0 (∀ h : 1 < o.length, y = o[1]) := ⟨fun _ => hy⟩
                have hc1b : w2.cell? { block := ad.block, off := ad.off + 1 } = some (.string y) := hc1
                have e4 : ((o.length : Int) == 2) = true := by rw [beq_iff_eq]; omega
                have hp1 : (1 : Int) < (o.length : Int) := by omega
                have HO22 := Aside0.mk ho2
                have HZ1 := Aside0.mk hz1
                clear hy hz1 ho2
                go_wp2_with fail
                refine (l1ReadRun_calls y w2 HZ1.out (isDig_all HD1.out.1)).mono ?_
                rintro e w3 ⟨A3, c3, rfl, ho, hb⟩
                have HO3 := Aside0.mk ho
                have HB3 := Aside0.mk (HB2.out.trans (hb.mono HB2.out.size))
                have HX3 := Aside0.mk (HX2.out.below hb HX2.out.lt)
                have hc3 := pw_cell_below hb hc2
                have hz3 := hb.size
                clear ho hb hc2 hc1 hc1b HB2 HX2 HO2
                by_cases hv : nval (sb y) = 0
                · have h5 : (bin (nval (sb y))).length = 0 := by rw [hv, bin_zero]; rfl
                  have HV := Aside0.mk hv
                  rw [h5]
                  clear h5 hv
                  obtain ⟨rfl, rfl⟩ := HPK.out.zero HAL.out HO22.out (by rw [← HYE.out (by rw [HO22.out]; omega)]; exact HV.out)
                  go_wp2_with fail
                  refine (l1Zero_calls _).mono ?_
                  rintro e w9 ⟨A3, c3, B3, d3, rfl, hM, hb⟩
                  have HM := Aside0.mk (Kd.M_mono _ (ok' := fun k => w3.heap.size ≤ k) (fun k hk => hk.2.1) (ratK.M_bound hM))
                  have HB9 := Aside0.mk (HB3.out.trans (hb.mono HB3.out.size))
                  have HRC := Aside0.mk (HX3.out.below hb HX3.out.lt)
                  obtain ⟨⟨z0, z1, z2⟩, q0, q1, q2⟩ := bfacts HRC.out
                  have hlw := HX3.out.lt
                  clear hb hM
                  go_wp2
                  refine bodyPost_ret (ret_ratb Try.results44 _ _ w.heap.size _ _ _ _ rfl rfl (store3 HRC.out)) rfl ?_
                  exact ratc_end (wm := w) (q := 0) HB9.out HM.out HB3.out.size (fun k hk => by omega)
                · have h5 : (((bin (nval (sb y))).length : Int) == 0) = false := by
                    rw [beq_eq_false_iff_ne]
                    intro e
                    exact hv (bin_nil_iff.1 (List.length_eq_zero_iff.1 (by omega)))
                  have hq := HPK.out.two HAL.out HO22.out (by rw [← HYE.out (by rw [HO22.out]; omega)]; exact hv)
                  rw [← HXE.out, ← HYE.out (by rw [HO22.out]; omega)] at hq
                  have HQ := Aside0.mk hq
                  clear hq
                  have HV := Aside0.mk hv
                  clear hv
                  have HLB := Aside0.mk (bin_ten _ _ (nval_lt (isDig_all HD0.out.1)))
                  have HLD := Aside0.mk (bin_ten _ _ (nval_lt (isDig_all HD1.out.1)))
                  go_wp2_with fail
                  refine (l1ReadRun_calls x w3 HZ0.out (isDig_all HD0.out.1)).mono ?_
                  rintro e w8 ⟨A8, c8, rfl, ho, hb⟩
                  have HO8 := Aside0.mk ho
                  have HOD := Aside0.mk (Kd.R_below HO3.out hb)
                  have HB8 := Aside0.mk (HB3.out.trans (hb.mono HB3.out.size))
                  have HX8 := Aside0.mk (HX3.out.below hb HX3.out.lt)
                  clear ho hb
                  go_wp2_with fail
                  refine (l1Make_calls false (nval (sb x)) (nval (sb y)) A8 A3 c8 c3 w8 (Kd.R_reads' HO8.out).2.2 (Kd.R_reads' HOD.out).2.2 (Kd.R_reads' HO8.out).2.1 (Kd.R_reads' HOD.out).2.1 (by have := HLB.out; have := HD0.out.2; omega) (by have := HLD.out; have := HD1.out.2; omega) HV.out).mono ?_
                  rintro e w9 ⟨A9, c9, B9, d9, rfl, hM, hb⟩
                  have HM := Aside0.mk (Kd.M_mono _ (ok' := fun k => w8.heap.size ≤ k) (fun k hk => hk.2.1) (ratK.M_bound hM))
                  have HB9 := Aside0.mk (HB8.out.trans (hb.mono HB8.out.size))
                  have HRC := Aside0.mk (HX8.out.below hb HX8.out.lt)
                  obtain ⟨⟨z0, z1, z2⟩, q0, q1, q2⟩ := bfacts HRC.out
                  have hlw := HX8.out.lt
                  clear hb hM
                  go_wp2
                  refine bodyPost_ret (ret_ratb Try.results44 _ _ w.heap.size _ _ _ _ rfl rfl (store3 HRC.out)) rfl ?_
                  rw [HQ.out.1, HQ.out.2]
                  exact ratc_end (wm := w) HB9.out HM.out HB8.out.size (fun k hk => by omega)
              · have e4 : ((o.length : Int) == 2) = false := by rw [beq_eq_false_iff_ne]; omega
                have HO22 := Aside0.mk (show o.length = 1 by have := H2.out; have := HPK.out.pos; omega)
                clear ho2
                have h1l : (bin 1).length = 1 := by rw [bin_pos (by omega)]; simp [bin_zero]
                have h5 : (((bin 1).length : Int) == 0) = false := by rw [h1l]; rfl
                have HL1 := Aside0.mk h1l
                clear h1l
                have hq := HPK.out.one HAL.out HO22.out
                rw [← HXE.out] at hq
                have HQ := Aside0.mk hq
                clear hq
                have HLB := Aside0.mk (bin_ten _ _ (nval_lt (isDig_all HD0.out.1)))
                go_wp2_with fail
                refine (l1ReadRun_calls x w2 HZ0.out (isDig_all HD0.out.1)).mono ?_
                rintro e w8 ⟨A8, c8, rfl, ho, hb⟩
                have HO8 := Aside0.mk ho
                have HOD := Aside0.mk (Kd.R_below HO2.out hb)
                have HB8 := Aside0.mk (HB2.out.trans (hb.mono HB2.out.size))
                have HX8 := Aside0.mk (HX2.out.below hb HX2.out.lt)
                clear ho hb
                go_wp2_with fail
                refine (l1Make_calls false (nval (sb x)) (1) A8 A2 c8 c2 w8 (Kd.R_reads' HO8.out).2.2 (Kd.R_reads' HOD.out).2.2 (Kd.R_reads' HO8.out).2.1 (Kd.R_reads' HOD.out).2.1 (by have := HLB.out; have := HD0.out.2; omega) (by rw [HL1.out]; omega) (by omega)).mono ?_
                rintro e w9 ⟨A9, c9, B9, d9, rfl, hM, hb⟩
                have HM := Aside0.mk (Kd.M_mono _ (ok' := fun k => w8.heap.size ≤ k) (fun k hk => hk.2.1) (ratK.M_bound hM))
                have HB9 := Aside0.mk (HB8.out.trans (hb.mono HB8.out.size))
                have HRC := Aside0.mk (HX8.out.below hb HX8.out.lt)
                obtain ⟨⟨z0, z1, z2⟩, q0, q1, q2⟩ := bfacts HRC.out
                have hlw := HX8.out.lt
                clear hb hM
                go_wp2
                refine bodyPost_ret (ret_ratb Try.results44 _ _ w.heap.size _ _ _ _ rfl rfl (store3 HRC.out)) rfl ?_
                rw [HQ.out.1, HQ.out.2]
                exact ratc_end (wm := w) HB9.out HM.out HB8.out.size (fun k hk => by omega)
  · have HN := Aside0.mk ((negOf_pos h0).trans hx)
    have HTE : Aside0 (sb (s.extract 1 s.size) = tOf (sb s)) := ⟨by unfold tOf; rw [HN.out, sb_extract, ← sb_length, List.take_length]; rfl⟩
    have HTS : Aside0 ((s.extract 1 s.size).size ≤ 1048576) := ⟨by have := HS.out; rw [ByteArray.size_extract]; omega⟩
    have HT := HTE
    have d0 : decide (0 < s.size) = true := decide_eq_true h0
    have d1 : decide ((0 : Int) < (s.size : Int)) = true := decide_eq_true (by omega)
    have d2 : (1 : Int) ≤ (s.size : Int) := by omega
    go_enter Try.func44, Try.ntmps44
    go_wp2_with fail
    refine (l1Cut_calls _ 47 47 _ HTS.out).mono ?_
    rintro e w1 ⟨Ap, cp, o, rfl, ho, hmap, hlen, hb⟩
    have hpk := pieces_ok HP.out (hmap.trans (congrArg (cutA 47 47 []) HT.out))
    rw [HN.out] at hpk
    have HPK := Aside0.mk hpk
    have HB1 := Aside0.mk (HFB.out.trans (hb.mono HFB.out.size))
    have HX1 := Aside0.mk (HF0.out.below hb HF0.out.lt)
    have HO1 := Aside0.mk (Kd.R_reads' ho).2.2
    have hol : o.length ≤ 9223372036854775807 := (Kd.R_reads' ho).2.2.2.1
    have hsz : ∀ (j : Nat) (h : j < o.length), o[j].size ≤ 1048576 := fun j hj => piece_size hmap HTS.out j hj
    have HSZ := Aside0.mk hsz
    have hl0 := HX1.out.lt
    clear hpk hmap hlen hb ho hsz HFB HF0 d0 d1
    by_cases h2 : 2 < o.length
    · have e2 : decide ((2 : Int) < (o.length : Int)) = true := decide_eq_true (by omega)
      have e3 : decide (2 < o.length) = true := decide_eq_true h2
      obtain ⟨rfl, rfl⟩ := HPK.out.many h2
      go_wp2_with fail
      refine (l1Zero_calls _).mono ?_
      rintro e w9 ⟨A3, c3, B3, d3, rfl, hM, hb⟩
      have HM := Aside0.mk (Kd.M_mono _ (ok' := fun k => w1.heap.size ≤ k) (fun k hk => hk.2.1) (ratK.M_bound hM))
      have HB9 := Aside0.mk (HB1.out.trans (hb.mono HB1.out.size))
      have HRC := Aside0.mk (HX1.out.below hb HX1.out.lt)
      obtain ⟨⟨z0, z1, z2⟩, q0, q1, q2⟩ := bfacts HRC.out
      have hlw := HX1.out.lt
      clear hb hM
      go_wp2
      refine bodyPost_ret (ret_ratb Try.results44 _ _ w.heap.size _ _ _ _ rfl rfl (store3 HRC.out)) rfl ?_
      exact ratc_end (wm := w) (q := 0) HB9.out HM.out HB1.out.size (fun k hk => by omega)
    · have e2 : decide ((2 : Int) < (o.length : Int)) = false := decide_eq_false (by omega)
      have e3 : decide (2 < o.length) = false := decide_eq_false h2
      have H2 := Aside0.mk (Nat.le_of_not_lt h2)
      clear h2
      go_wp2
      go_loopg [7] o.length (fun g v7 w' => ∃ i : Nat, v7 = .int .i64 (i : Int) ∧ Aside0 (i + g = o.length) ∧ Aside0 (∀ (j : Nat) (h : j < o.length), j < i → isDig (sb o[j]) = true) ∧ Aside0 (w1 = w'))
      case atStart => exact ⟨0, rfl, ⟨by omega⟩, ⟨fun j _ h => by omega⟩, ⟨rfl⟩⟩
      case round =>
        obtain ⟨i, rfl, HI, HD, HW⟩ := hrel
        have hw := HW.out
        subst hw
        clear HW
        by_cases hlt : i < o.length
        · obtain ⟨ad, eA, hc⟩ := str_at HO1.out hlt
          subst eA
          have hlt2 : (i : Int) < (o.length : Int) := by omega
          have hz := HSZ.out i hlt
          obtain ⟨x, hx⟩ : ∃ x, x = o[i] := ⟨_, rfl⟩
          rw [← hx] at hc hz
          have hz9 : x.size ≤ 9223372036854775807 := by omega
          have HXE := Aside0.mk hx
          clear hx hz
          cases hdg : isDig (sb x)
          · have HDG := Aside0.mk hdg
            clear hdg
            go_wp2_with fail
            refine (l1Digits_calls x false _ hz9 HDG.out).mono ?_
            rintro e w2 ⟨rfl, hw⟩
            subst hw
            obtain ⟨rfl, rfl⟩ := HPK.out.bad H2.out i hlt (by rw [← HXE.out]; exact HDG.out)
            go_wp2_with fail
            refine (l1Zero_calls _).mono ?_
            rintro e w9 ⟨A3, c3, B3, d3, rfl, hM, hb⟩
            have HM := Aside0.mk (Kd.M_mono _ (ok' := fun k => w1.heap.size ≤ k) (fun k hk => hk.2.1) (ratK.M_bound hM))
            have HB9 := Aside0.mk (HB1.out.trans (hb.mono HB1.out.size))
            have HRC := Aside0.mk (HX1.out.below hb HX1.out.lt)
            obtain ⟨⟨z0, z1, z2⟩, q0, q1, q2⟩ := bfacts HRC.out
            have hlw := HX1.out.lt
            clear hb hM
            go_wp2
            refine bodyPost_ret (ret_ratb Try.results44 _ _ w.heap.size _ _ _ _ rfl rfl (store3 HRC.out)) rfl ?_
            exact ratc_end (wm := w) (q := 0) HB9.out HM.out HB1.out.size (fun k hk => by omega)
          · have HDG := Aside0.mk hdg
            clear hdg
            go_wp2_with fail
            refine (l1Digits_calls x true _ hz9 HDG.out).mono ?_
            rintro e w2 ⟨rfl, hw⟩
            subst hw
            go_wp2
            go_roundg (gk - 1)
            case measure => have := HI.out; omega
            case rel => exact ⟨i + 1, by go_num, ⟨by have := HI.out; omega⟩, ⟨fun j hj hji => by
              by_cases e : j = i
              · subst e; rw [← HXE.out]; exact HDG.out
              · exact HD.out j hj (by omega)⟩, ⟨rfl⟩⟩
        · have HAD : Aside0 (∀ (j : Nat) (h : j < o.length), isDig (sb o[j]) = true) := ⟨fun j hj => HD.out j hj (by have := HI.out; omega)⟩
          have hi : i = o.length := by have := HI.out; omega
          clear HD HI
          go_wp2
          go_loopg [8] o.length (fun g v8 w' => ∃ i : Nat, v8 = .int .i64 (i : Int) ∧ Aside0 (i + g = o.length) ∧ Aside0 (∀ (j : Nat) (h : j < o.length), j < i → (sb o[j]).length ≤ 400) ∧ Aside0 (w1 = w'))
          case atStart => exact ⟨0, rfl, ⟨by omega⟩, ⟨fun j _ h => by omega⟩, ⟨rfl⟩⟩
          case round =>
            obtain ⟨i, rfl, HI, HD, HW⟩ := hrel
            have hw := HW.out
            subst hw
            clear HW
            by_cases hlt : i < o.length
            · obtain ⟨ad, eA, hc⟩ := str_at HO1.out hlt
              subst eA
              have hlt2 : (i : Int) < (o.length : Int) := by omega
              have hz := HSZ.out i hlt
              obtain ⟨x, hx⟩ : ∃ x, x = o[i] := ⟨_, rfl⟩
              rw [← hx] at hc hz
              have hz9 : x.size ≤ 9223372036854775807 := by omega
              have HXE := Aside0.mk hx
              clear hx hz
              by_cases hlg : 400 < x.size
              · have g1 : decide ((400 : Int) < (x.size : Int)) = true := decide_eq_true (by omega)
                have g2 : decide (400 < x.size) = true := decide_eq_true hlg
                have HLG := Aside0.mk hlg
                clear hlg
                obtain ⟨rfl, rfl⟩ := HPK.out.long H2.out HAD.out i hlt (by rw [← HXE.out, sb_length]; exact HLG.out)
                go_wp2_with fail
                refine (l1Zero_calls _).mono ?_
                rintro e w9 ⟨A3, c3, B3, d3, rfl, hM, hb⟩
                have HM := Aside0.mk (Kd.M_mono _ (ok' := fun k => w1.heap.size ≤ k) (fun k hk => hk.2.1) (ratK.M_bound hM))
                have HB9 := Aside0.mk (HB1.out.trans (hb.mono HB1.out.size))
                have HRC := Aside0.mk (HX1.out.below hb HX1.out.lt)
                obtain ⟨⟨z0, z1, z2⟩, q0, q1, q2⟩ := bfacts HRC.out
                have hlw := HX1.out.lt
                clear hb hM
                go_wp2
                refine bodyPost_ret (ret_ratb Try.results44 _ _ w.heap.size _ _ _ _ rfl rfl (store3 HRC.out)) rfl ?_
                exact ratc_end (wm := w) (q := 0) HB9.out HM.out HB1.out.size (fun k hk => by omega)
              · have g1 : decide ((400 : Int) < (x.size : Int)) = false := decide_eq_false (by omega)
                have g2 : decide (400 < x.size) = false := decide_eq_false hlg
                have HLG := Aside0.mk hlg
                clear hlg
                go_wp2
                go_roundg (gk - 1)
                case measure => have := HI.out; omega
                case rel => exact ⟨i + 1, by go_num, ⟨by have := HI.out; omega⟩, ⟨fun j hj hji => by
                  by_cases e : j = i
                  · subst e; rw [← HXE.out, sb_length]; have := HLG.out; omega
                  · exact HD.out j hj (by omega)⟩, ⟨rfl⟩⟩
            · have HAL : Aside0 (∀ (j : Nat) (h : j < o.length), isDig (sb o[j]) = true ∧ (sb o[j]).length ≤ 400) := ⟨fun j hj => ⟨HAD.out j hj, HD.out j hj (by have := HI.out; omega)⟩⟩
              have hi : i = o.length := by have := HI.out; omega
              clear HD HI HAD
              obtain ⟨ad, eA, hc0⟩ := str_at HO1.out (show 0 < o.length from HPK.out.pos)
              subst eA
              have hp0 : (0 : Int) < (o.length : Int) := by have := HPK.out.pos; omega
              have hz0 := HSZ.out 0 HPK.out.pos
              have HD0 := Aside0.mk (HAL.out 0 HPK.out.pos)
              obtain ⟨x, hx⟩ : ∃ x, x = o[0]'HPK.out.pos := ⟨_, rfl⟩
              rw [← hx] at hc0 hz0 HD0
              rw [show ad.add 0 = ad from by simp [Addr.add]] at hc0
              have HXE := Aside0.mk hx
              have HZ0 := Aside0.mk hz0
              clear hx hz0 hi
              go_wp2_with fail
              refine (bitsX 1 w1 (by omega) (by omega)).mono ?_
              rintro e w2 ⟨A2, c2, rfl, ho, hb⟩
              rw [show ((1 : Int)).toNat = 1 from rfl] at ho ⊢
              have HO2 := Aside0.mk ho
              have HB2 := Aside0.mk (HB1.out.trans (hb.mono HB1.out.size))
              have HX2 := Aside0.mk (HX1.out.below hb HX1.out.lt)
              have HP2 := Aside0.mk (Kd.C_below HO1.out hb)
              have hc2 := pw_cell_below hb hc0
              have hz2 := hb.size
              clear ho hb hc0 HB1 HX1 hl0
              by_cases ho2 : o.length = 2
              · obtain ⟨ad', eA, hc1⟩ := str_at HP2.out (show 1 < o.length by omega)
                injection eA with eA
                subst eA
                have hz1 := HSZ.out 1 (by omega)
                have HD1 := Aside0.mk (HAL.out 1 (by omega))
                obtain ⟨y, hy⟩ : ∃ y, y = o[1]'(by omega) := ⟨_, rfl⟩
                rw [← hy] at hc1 hz1 HD1
                have HYE : Aside0 (∀ h : 1 < o.length, y = o[1]) := ⟨fun _ => hy⟩
                have hc1b : w2.cell? { block := ad.block, off := ad.off + 1 } = some (.string y) := hc1
                have e4 : ((o.length : Int) == 2) = true := by rw [beq_iff_eq]; omega
                have hp1 : (1 : Int) < (o.length : Int) := by omega
                have HO22 := Aside0.mk ho2
                have HZ1 := Aside0.mk hz1
                clear hy hz1 ho2
                go_wp2_with fail
                refine (l1ReadRun_calls y w2 HZ1.out (isDig_all HD1.out.1)).mono ?_
                rintro e w3 ⟨A3, c3, rfl, ho, hb⟩
                have HO3 := Aside0.mk ho
                have HB3 := Aside0.mk (HB2.out.trans (hb.mono HB2.out.size))
                have HX3 := Aside0.mk (HX2.out.below hb HX2.out.lt)
                have hc3 := pw_cell_below hb hc2
                have hz3 := hb.size
                clear ho hb hc2 hc1 hc1b HB2 HX2 HO2
                by_cases hv : nval (sb y) = 0
                · have h5 : (bin (nval (sb y))).length = 0 := by rw [hv, bin_zero]; rfl
                  have HV := Aside0.mk hv
                  rw [h5]
                  clear h5 hv
                  obtain ⟨rfl, rfl⟩ := HPK.out.zero HAL.out HO22.out (by rw [← HYE.out (by rw [HO22.out]; omega)]; exact HV.out)
                  go_wp2_with fail
                  refine (l1Zero_calls _).mono ?_
                  rintro e w9 ⟨A3, c3, B3, d3, rfl, hM, hb⟩
                  have HM := Aside0.mk (Kd.M_mono _ (ok' := fun k => w3.heap.size ≤ k) (fun k hk => hk.2.1) (ratK.M_bound hM))
                  have HB9 := Aside0.mk (HB3.out.trans (hb.mono HB3.out.size))
                  have HRC := Aside0.mk (HX3.out.below hb HX3.out.lt)
                  obtain ⟨⟨z0, z1, z2⟩, q0, q1, q2⟩ := bfacts HRC.out
                  have hlw := HX3.out.lt
                  clear hb hM
                  go_wp2
                  refine bodyPost_ret (ret_ratb Try.results44 _ _ w.heap.size _ _ _ _ rfl rfl (store3 HRC.out)) rfl ?_
                  exact ratc_end (wm := w) (q := 0) HB9.out HM.out HB3.out.size (fun k hk => by omega)
                · have h5 : (((bin (nval (sb y))).length : Int) == 0) = false := by
                    rw [beq_eq_false_iff_ne]
                    intro e
                    exact hv (bin_nil_iff.1 (List.length_eq_zero_iff.1 (by omega)))
                  have hq := HPK.out.two HAL.out HO22.out (by rw [← HYE.out (by rw [HO22.out]; omega)]; exact hv)
                  rw [← HXE.out, ← HYE.out (by rw [HO22.out]; omega)] at hq
                  have HQ := Aside0.mk hq
                  clear hq
                  have HV := Aside0.mk hv
                  clear hv
                  have HLB := Aside0.mk (bin_ten _ _ (nval_lt (isDig_all HD0.out.1)))
                  have HLD := Aside0.mk (bin_ten _ _ (nval_lt (isDig_all HD1.out.1)))
                  go_wp2_with fail
                  refine (l1ReadRun_calls x w3 HZ0.out (isDig_all HD0.out.1)).mono ?_
                  rintro e w8 ⟨A8, c8, rfl, ho, hb⟩
                  have HO8 := Aside0.mk ho
                  have HOD := Aside0.mk (Kd.R_below HO3.out hb)
                  have HB8 := Aside0.mk (HB3.out.trans (hb.mono HB3.out.size))
                  have HX8 := Aside0.mk (HX3.out.below hb HX3.out.lt)
                  clear ho hb
                  go_wp2_with fail
                  refine (l1Make_calls true (nval (sb x)) (nval (sb y)) A8 A3 c8 c3 w8 (Kd.R_reads' HO8.out).2.2 (Kd.R_reads' HOD.out).2.2 (Kd.R_reads' HO8.out).2.1 (Kd.R_reads' HOD.out).2.1 (by have := HLB.out; have := HD0.out.2; omega) (by have := HLD.out; have := HD1.out.2; omega) HV.out).mono ?_
                  rintro e w9 ⟨A9, c9, B9, d9, rfl, hM, hb⟩
                  have HM := Aside0.mk (Kd.M_mono _ (ok' := fun k => w8.heap.size ≤ k) (fun k hk => hk.2.1) (ratK.M_bound hM))
                  have HB9 := Aside0.mk (HB8.out.trans (hb.mono HB8.out.size))
                  have HRC := Aside0.mk (HX8.out.below hb HX8.out.lt)
                  obtain ⟨⟨z0, z1, z2⟩, q0, q1, q2⟩ := bfacts HRC.out
                  have hlw := HX8.out.lt
                  clear hb hM
                  go_wp2
                  refine bodyPost_ret (ret_ratb Try.results44 _ _ w.heap.size _ _ _ _ rfl rfl (store3 HRC.out)) rfl ?_
                  rw [HQ.out.1, HQ.out.2]
                  exact ratc_end (wm := w) HB9.out HM.out HB8.out.size (fun k hk => by omega)
              · have e4 : ((o.length : Int) == 2) = false := by rw [beq_eq_false_iff_ne]; omega
                have HO22 := Aside0.mk (show o.length = 1 by have := H2.out; have := HPK.out.pos; omega)
                clear ho2
                have h1l : (bin 1).length = 1 := by rw [bin_pos (by omega)]; simp [bin_zero]
                have h5 : (((bin 1).length : Int) == 0) = false := by rw [h1l]; rfl
                have HL1 := Aside0.mk h1l
                clear h1l
                have hq := HPK.out.one HAL.out HO22.out
                rw [← HXE.out] at hq
                have HQ := Aside0.mk hq
                clear hq
                have HLB := Aside0.mk (bin_ten _ _ (nval_lt (isDig_all HD0.out.1)))
                go_wp2_with fail
                refine (l1ReadRun_calls x w2 HZ0.out (isDig_all HD0.out.1)).mono ?_
                rintro e w8 ⟨A8, c8, rfl, ho, hb⟩
                have HO8 := Aside0.mk ho
                have HOD := Aside0.mk (Kd.R_below HO2.out hb)
                have HB8 := Aside0.mk (HB2.out.trans (hb.mono HB2.out.size))
                have HX8 := Aside0.mk (HX2.out.below hb HX2.out.lt)
                clear ho hb
                go_wp2_with fail
                refine (l1Make_calls true (nval (sb x)) (1) A8 A2 c8 c2 w8 (Kd.R_reads' HO8.out).2.2 (Kd.R_reads' HOD.out).2.2 (Kd.R_reads' HO8.out).2.1 (Kd.R_reads' HOD.out).2.1 (by have := HLB.out; have := HD0.out.2; omega) (by rw [HL1.out]; omega) (by omega)).mono ?_
                rintro e w9 ⟨A9, c9, B9, d9, rfl, hM, hb⟩
                have HM := Aside0.mk (Kd.M_mono _ (ok' := fun k => w8.heap.size ≤ k) (fun k hk => hk.2.1) (ratK.M_bound hM))
                have HB9 := Aside0.mk (HB8.out.trans (hb.mono HB8.out.size))
                have HRC := Aside0.mk (HX8.out.below hb HX8.out.lt)
                obtain ⟨⟨z0, z1, z2⟩, q0, q1, q2⟩ := bfacts HRC.out
                have hlw := HX8.out.lt
                clear hb hM
                go_wp2
                refine bodyPost_ret (ret_ratb Try.results44 _ _ w.heap.size _ _ _ _ rfl rfl (store3 HRC.out)) rfl ?_
                rw [HQ.out.1, HQ.out.2]
                exact ratc_end (wm := w) HB9.out HM.out HB8.out.size (fun k hk => by omega)
end Go.Proofs.Ytjmgemmieedkiaa.Hand
